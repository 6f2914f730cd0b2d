import Derived.Test.YtobejeiffgehfaaPureC
namespace Go.Proofs.Ytobejeiffgehfaa.Sx
open Go
set_option linter.unusedVariables false
set_option linter.unusedSimpArgs false
set_option maxRecDepth 100000
def sumS (c a b : Int) : Int := IntKind.wrap .u64 ((IntKind.wrap .u64 ((IntKind.wrap .u64 a) + (IntKind.wrap .u64 b))) + c)
def hiS (x : Int) : Int := Int.fdiv x (2 ^ 32)
def loS (x : Int) : Int := IntKind.wrap .u32 x
def sumSd (c a b : Int) : Int := IntKind.wrap .u64 (c + (IntKind.wrap .u64 ((IntKind.wrap .u64 a) + (IntKind.wrap .u64 b))))
theorem sumSdEq : sumSd = sumS := by funext c a b; unfold sumSd sumS; rw [Int.add_comm]
def sumL (F : Int → Int → Int → Int) (c : Int) : List Int → List Int → List Int × Int
  | a :: l, b :: m => (loS (F c a b) :: (sumL F (hiS (F c a b)) l m).1, (sumL F (hiS (F c a b)) l m).2)
  | _, _ => ([], c)
theorem sumL_length (F : Int → Int → Int → Int) : ∀ (l m : List Int) (c : Int), l.length = m.length → (sumL F c l m).1.length = l.length
  | [], [], c, _ => rfl
  | a :: l, b :: m, c, h => by simp [sumL, sumL_length F l m _ (by simpa using h)]
  | [], _ :: _, c, h => by simp at h
  | _ :: _, [], c, h => by simp at h
theorem g89Eq {α : Type} (n : Nat) {l m : List Int} (hl : l.length = 6) (hm : m.length = 6) (k : List Int → Bool → Option α) : g89 (n + 7) l m k = k (sumL sumS 0 l m).1 ((sumL sumS 0 l m).2 == 0) := by
  obtain ⟨a, b, c, d, e, f, rfl⟩ := six hl
  obtain ⟨a', b', c', d', e', f', rfl⟩ := six hm
  kernel_rfl
theorem g69Eq {α : Type} (n : Nat) {l m : List Int} (hl : l.length = 6) (hm : m.length = 6) (k : List Int → Bool → Option α) : g69 (n + 7) l m k = k (sumL sumS 0 l m).1 ((sumL sumS 0 l m).2 != 0) := by
  rw [← sumSdEq]
  obtain ⟨a, b, c, d, e, f, rfl⟩ := six hl
  obtain ⟨a', b', c', d', e', f', rfl⟩ := six hm
  kernel_rfl
def difX (c a b : Int) : Int := IntKind.wrap .i64 ((IntKind.wrap .i64 ((IntKind.wrap .i64 a) - (IntKind.wrap .i64 b))) - c)
def difD (x : Int) : Int := if x < 0 then IntKind.wrap .u32 (IntKind.wrap .i64 (x + 4294967296)) else IntKind.wrap .u32 x
def difB (x : Int) : Int := if x < 0 then 1 else 0
def difL (c : Int) : List Int → List Int → List Int
  | a :: l, b :: m => difD (difX c a b) :: difL (difB (difX c a b)) l m
  | _, _ => []
theorem condDif {α : Type} (x : Int) (F : Int → Int → Option α) : cond (decide (x < 0)) (F 1 (IntKind.wrap .u32 (IntKind.wrap .i64 (x + 4294967296)))) (F 0 (IntKind.wrap .u32 x)) = F (difB x) (difD x) := by
  unfold difB difD
  by_cases h : x < 0 <;> simp [h]
theorem g91Eq {α : Type} (n : Nat) {l m : List Int} (hl : l.length = 6) (hm : m.length = 6) (k : List Int → Option α) : g91 (n + 7) l m k = k (difL 0 l m) := by
  obtain ⟨a, b, c, d, e, f, rfl⟩ := six hl
  obtain ⟨a', b', c', d', e', f', rfl⟩ := six hm
  have s0 : ∀ (n : Nat) (z : List Int) (k : List Int → Option α) (x0 x1 x2 x3 x4 x5 q : Int), g91l0 [a, b, c, d, e, f] [a', b', c', d', e', f'] z k (n + 1) q 0 [x0, x1, x2, x3, x4, x5] = g91l0 [a, b, c, d, e, f] [a', b', c', d', e', f'] z k n (difB (difX q a a')) 1 [(difD (difX q a a')), x1, x2, x3, x4, x5] := by
    intros n z k x0 x1 x2 x3 x4 x5 q
    refine Eq.trans ?_ (condDif (difX q a a') (fun q w => g91l0 [a, b, c, d, e, f] [a', b', c', d', e', f'] z k n q 1 [w, x1, x2, x3, x4, x5]))
    kernel_rfl
  have s1 : ∀ (n : Nat) (z : List Int) (k : List Int → Option α) (x0 x1 x2 x3 x4 x5 q : Int), g91l0 [a, b, c, d, e, f] [a', b', c', d', e', f'] z k (n + 1) q 1 [x0, x1, x2, x3, x4, x5] = g91l0 [a, b, c, d, e, f] [a', b', c', d', e', f'] z k n (difB (difX q b b')) 2 [x0, (difD (difX q b b')), x2, x3, x4, x5] := by
    intros n z k x0 x1 x2 x3 x4 x5 q
    refine Eq.trans ?_ (condDif (difX q b b') (fun q w => g91l0 [a, b, c, d, e, f] [a', b', c', d', e', f'] z k n q 2 [x0, w, x2, x3, x4, x5]))
    kernel_rfl
  have s2 : ∀ (n : Nat) (z : List Int) (k : List Int → Option α) (x0 x1 x2 x3 x4 x5 q : Int), g91l0 [a, b, c, d, e, f] [a', b', c', d', e', f'] z k (n + 1) q 2 [x0, x1, x2, x3, x4, x5] = g91l0 [a, b, c, d, e, f] [a', b', c', d', e', f'] z k n (difB (difX q c c')) 3 [x0, x1, (difD (difX q c c')), x3, x4, x5] := by
    intros n z k x0 x1 x2 x3 x4 x5 q
    refine Eq.trans ?_ (condDif (difX q c c') (fun q w => g91l0 [a, b, c, d, e, f] [a', b', c', d', e', f'] z k n q 3 [x0, x1, w, x3, x4, x5]))
    kernel_rfl
  have s3 : ∀ (n : Nat) (z : List Int) (k : List Int → Option α) (x0 x1 x2 x3 x4 x5 q : Int), g91l0 [a, b, c, d, e, f] [a', b', c', d', e', f'] z k (n + 1) q 3 [x0, x1, x2, x3, x4, x5] = g91l0 [a, b, c, d, e, f] [a', b', c', d', e', f'] z k n (difB (difX q d d')) 4 [x0, x1, x2, (difD (difX q d d')), x4, x5] := by
    intros n z k x0 x1 x2 x3 x4 x5 q
    refine Eq.trans ?_ (condDif (difX q d d') (fun q w => g91l0 [a, b, c, d, e, f] [a', b', c', d', e', f'] z k n q 4 [x0, x1, x2, w, x4, x5]))
    kernel_rfl
  have s4 : ∀ (n : Nat) (z : List Int) (k : List Int → Option α) (x0 x1 x2 x3 x4 x5 q : Int), g91l0 [a, b, c, d, e, f] [a', b', c', d', e', f'] z k (n + 1) q 4 [x0, x1, x2, x3, x4, x5] = g91l0 [a, b, c, d, e, f] [a', b', c', d', e', f'] z k n (difB (difX q e e')) 5 [x0, x1, x2, x3, (difD (difX q e e')), x5] := by
    intros n z k x0 x1 x2 x3 x4 x5 q
    refine Eq.trans ?_ (condDif (difX q e e') (fun q w => g91l0 [a, b, c, d, e, f] [a', b', c', d', e', f'] z k n q 5 [x0, x1, x2, x3, w, x5]))
    kernel_rfl
  have s5 : ∀ (n : Nat) (z : List Int) (k : List Int → Option α) (x0 x1 x2 x3 x4 x5 q : Int), g91l0 [a, b, c, d, e, f] [a', b', c', d', e', f'] z k (n + 2) q 5 [x0, x1, x2, x3, x4, x5] = k [x0, x1, x2, x3, x4, (difD (difX q f f'))] := by
    intros n z k x0 x1 x2 x3 x4 x5 q
    refine Eq.trans ?_ (condDif (difX q f f') (fun q w => k [x0, x1, x2, x3, x4, w]))
    kernel_rfl
  show g91l0 [a, b, c, d, e, f] [a', b', c', d', e', f'] [0, 0, 0, 0, 0, 0] (fun l => k l) (n + 6 + 1) 0 0 [0, 0, 0, 0, 0, 0] = _
  rw [s0, s1 (n + 5), s2 (n + 4), s3 (n + 3), s4 (n + 2), s5 n]
  rfl
def difXi (c a b : Int) : Int := IntKind.wrap .u64 ((IntKind.wrap .u64 ((IntKind.wrap .u64 a) - (IntKind.wrap .u64 b))) - c)
def difLi (c : Int) : List Int → List Int → List Int
  | a :: l, b :: m => IntKind.wrap .u32 (difXi c a b) :: difLi (Int.fdiv (difXi c a b) (2 ^ 63)) l m
  | _, _ => []
theorem g85Eqi {α : Type} (n : Nat) {l m : List Int} (hl : l.length = 6) (hm : m.length = 6) (k : List Int → Option α) : g85 (n + 7) l m k = k (difLi 0 l m) := by
  obtain ⟨a, b, c, d, e, f, rfl⟩ := six hl
  obtain ⟨a', b', c', d', e', f', rfl⟩ := six hm
  kernel_rfl
theorem difStep {c a b : Int} (hc : c = 0 ∨ c = 1) (ha : 0 ≤ a ∧ a ≤ 4294967295) (hb : 0 ≤ b ∧ b ≤ 4294967295) :
    IntKind.wrap .u32 (difXi c a b) = difD (difX c a b) ∧ Int.fdiv (difXi c a b) (2 ^ 63) = difB (difX c a b) ∧ (difB (difX c a b) = 0 ∨ difB (difX c a b) = 1) := by
  have hx : difX c a b = a - b - c := by
    unfold difX IntKind.wrap
    simp only [IntKind.signed, IntKind.bits]
    simp
    try omega
  have hxi : difXi c a b = (a - b - c) % 18446744073709551616 := by
    unfold difXi IntKind.wrap
    simp only [IntKind.signed, IntKind.bits]
    simp
    try omega
  rw [hx, hxi]
  unfold difD difB IntKind.wrap
  simp only [IntKind.signed, IntKind.bits]
  rw [Int.fdiv_eq_ediv_of_nonneg _ (by decide)]
  by_cases h : a - b - c < 0
  · simp [h]; try omega
  · simp [h]; try omega
end Go.Proofs.Ytobejeiffgehfaa.Sx
