/- Plain laws: texts that are split at a byte. Our own work. -/
import Derived.Lib.SplitLaws
namespace Go.Proofs.YtlmmgjngihlpeaaDoor.Sx
open Go
set_option linter.unusedVariables false
set_option linter.unusedSimpArgs false
def splitL (c : UInt8) : List UInt8 → List (List UInt8)
  | [] => [[]]
  | b :: l => if b = c then [] :: splitL c l else (match splitL c l with | [] => [[b]] | x :: r => (b :: x) :: r)
theorem splitL_ne (c : UInt8) : ∀ l, splitL c l ≠ []
  | [] => by simp [splitL]
  | b :: l => by
    unfold splitL
    split
    · simp
    · split <;> simp
theorem splitL_none {c : UInt8} : ∀ {l : List UInt8}, c ∉ l → splitL c l = [l]
  | [], _ => rfl
  | b :: l, h => by
    simp only [List.mem_cons, not_or] at h
    unfold splitL
    rw [if_neg (fun e => h.1 e.symm), splitL_none h.2]
theorem splitL_cut {c : UInt8} {r : List UInt8} : ∀ {a : List UInt8}, c ∉ a → splitL c (a ++ c :: r) = a :: splitL c r
  | [], _ => by simp [splitL]
  | b :: a, h => by
    simp only [List.mem_cons, not_or] at h
    rw [List.cons_append, splitL, if_neg (fun e => h.1 e.symm), splitL_cut h.2]
theorem splitL_len (c : UInt8) : ∀ l, (splitL c l).length = l.count c + 1
  | [] => rfl
  | b :: l => by
    have ih := splitL_len c l
    unfold splitL
    by_cases h : b = c
    · subst h; rw [if_pos rfl, List.length_cons, ih, List.count_cons_self]
    · rw [if_neg h, List.count_cons_of_ne (by simpa using h)]
      split
      · rename_i e; exact absurd e (splitL_ne c l)
      · rename_i x r e; rw [e] at ih; exact ih
theorem splitL_end (c : UInt8) : ∀ l, splitL c (l ++ [c]) = splitL c l ++ [[]]
  | [] => by simp [splitL]
  | b :: l => by
    have ih := splitL_end c l
    rw [List.cons_append]
    unfold splitL
    by_cases h : b = c
    · rw [if_pos h, if_pos h, ih]; rfl
    · rw [if_neg h, if_neg h, ih]
      cases hs : splitL c l with
      | nil => exact absurd hs (splitL_ne c l)
      | cons x r => rfl
theorem splitL_last (c : UInt8) : ∀ (l : List UInt8) (b : UInt8), b ≠ c → ∃ r x, splitL c (l ++ [b]) = r ++ [x] ∧ x ≠ []
  | [], b, h => ⟨[], [b], by simp [splitL, h], by simp⟩
  | a :: l, b, h => by
    obtain ⟨r, x, h1, h2⟩ := splitL_last c l b h
    rw [List.cons_append]
    unfold splitL
    by_cases ha : a = c
    · rw [if_pos ha, h1]; exact ⟨[] :: r, x, rfl, h2⟩
    · rw [if_neg ha, h1]
      cases r with
      | nil => exact ⟨[], a :: x, rfl, by simp⟩
      | cons y r => exact ⟨(a :: y) :: r, x, rfl, h2⟩
theorem splitL_pieces {c : UInt8} : ∀ {l : List UInt8}, ∀ x ∈ splitL c l, x.length ≤ l.length
  | [], x, hx => by simp [splitL] at hx; subst hx; simp
  | b :: l, x, hx => by
    have ih := @splitL_pieces c l
    unfold splitL at hx
    split at hx
    · rcases List.mem_cons.1 hx with rfl | hx
      · simp
      · have := ih x hx; simp; omega
    · split at hx
      · simp only [List.mem_singleton] at hx; subst hx; simp
      · rename_i y r e
        rcases List.mem_cons.1 hx with rfl | hx
        · have := ih y (by rw [e]; simp); simp; omega
        · have := ih x (by rw [e]; simp [hx]); simp; omega
theorem index_cut {c : UInt8} : ∀ {l : List UInt8} {k : Nat}, l.count c = k + 1 → ∃ a r, l = a ++ c :: r ∧ c ∉ a ∧ r.count c = k ∧ Lib.indexByte l c = a.length
  | [], k, h => by simp at h
  | b :: l, k, h => by
    by_cases hb : b = c
    · subst hb
      refine ⟨[], l, rfl, by simp, by simpa using h, ?_⟩
      unfold Lib.indexByte
      rw [if_pos (by simp)]; simp
    · rw [List.count_cons_of_ne (by simpa using hb)] at h
      obtain ⟨a, r, e1, e2, e3, e4⟩ := index_cut h
      refine ⟨b :: a, r, by rw [e1]; rfl, by simp [e2]; exact fun e => hb e.symm, e3, ?_⟩
      unfold Lib.indexByte
      rw [if_neg (by simpa using hb), e4, if_neg (by simp)]
      simp
theorem splitK_eq (c : UInt8) : ∀ (k : Nat) (l : List UInt8), l.count c = k → Lib.splitK [c] 0 k l = splitL c l
  | 0, l, h => by
    rw [splitL_none (by rw [← List.count_pos_iff]; omega)]; rfl
  | k + 1, l, h => by
    obtain ⟨a, r, rfl, h2, h3, h4⟩ := index_cut h
    rw [splitL_cut h2]
    have hi : Lib.index (a ++ c :: r) [c] = a.length := by rw [Lib.index_one, h4]
    unfold Lib.splitK
    rw [hi, if_neg (by simp), ← splitK_eq c k r h3]
    simp
def toB (l : List UInt8) : ByteArray := ⟨l.toArray⟩
theorem toB_data (l : List UInt8) : (toB l).data.toList = l := by simp [toB]
theorem toB_of (s : ByteArray) : toB s.data.toList = s := by
  apply ByteArray.ext
  simp [toB]
theorem toB_inj {a b : List UInt8} (h : toB a = toB b) : a = b := by rw [← toB_data a, h, toB_data]
def splitQ (s : ByteArray) (c : UInt8) : List ByteArray := (splitL c s.data.toList).map toB
theorem splitB_Q (s : ByteArray) (c : UInt8) : Lib.splitB ⟨#[c]⟩ 0 (Lib.countB s ⟨#[c]⟩) s = splitQ s c := by
  have h := Lib.splitB_data ⟨#[c]⟩ 0 (Lib.countB s ⟨#[c]⟩) s
  have hc : Lib.countB s ⟨#[c]⟩ = s.data.toList.count c := Lib.count_one c _
  rw [show (⟨#[c]⟩ : ByteArray).data.toList = [c] from rfl, splitK_eq c _ _ hc.symm] at h
  unfold splitQ
  rw [← h, List.map_map]
  conv => lhs; rw [← List.map_id (Lib.splitB ⟨#[c]⟩ 0 (Lib.countB s ⟨#[c]⟩) s)]
  exact List.map_congr_left fun x _ => (toB_of x).symm
end Go.Proofs.YtlmmgjngihlpeaaDoor.Sx
