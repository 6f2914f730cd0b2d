/- A symbolic evaluator for the machine's code, part A: abstract values, states, what they say of a world. Our own work. -/
import Derived.WalkKit
import Derived.Orders
namespace Go.Proofs.Ytlmmgjngihlpeaa.Sx
open Go
set_option linter.unusedVariables false

/-! ### Abstract values -/
/-- A cell's value. Blocks have names. 'el b o s i f': the cell o + i*s + f of block b. -/
inductive SV where
  | unk
  | bool (b : Bool)
  | int (k : IntKind) (n : Int)
  | str (s : ByteArray)
  | ptr (b o : Nat)
  | el (b o s i f : Nat)
  | nilp
  | slc (b o s lo len cap : Nat)
  | nils
  | clo (f : Nat) (ps : List (Nat × Nat))
  | gsl (b s : Nat)
  | sla (b o s lo len cap : Nat)
  | opq

/-- Kinds of elements of a row. -/
inductive EK where
  | int (k : IntKind)
  | bool
  | str
  | rc (ks : List IntKind)
  deriving DecidableEq

@[reducible] def EK.T : EK → Type
  | .int _ => Int
  | .bool => Bool
  | .str => ByteArray
  | .rc _ => List Int
def EK.s : EK → Nat
  | .rc ks => ks.length
  | _ => 1
def EK.d : (E : EK) → E.T
  | .int _ => (0 : Int)
  | .bool => false
  | .str => (⟨#[]⟩ : ByteArray)
  | .rc _ => ([] : List Int)
def encR : List IntKind → List Int → List SV
  | [], _ => []
  | k :: ks, l => .int k (l.headD 0) :: encR ks l.tail
def EK.enc : (E : EK) → E.T → List SV
  | .int k, n => [.int k n]
  | .bool, b => [.bool b]
  | .str, s => [.str s]
  | .rc ks, l => encR ks l
def decR : List IntKind → List SV → Option (List Int)
  | [], [] => some []
  | k :: ks, .int k' n :: r => cond (decide (k = k')) ((decR ks r).map (n :: ·)) none
  | _, _ => none
def EK.dec : (E : EK) → List SV → Option E.T
  | .int k, [.int k' n] => cond (decide (k = k')) (some n) none
  | .bool, [.bool b] => some b
  | .str, [.str s] => some s
  | .rc ks, l => decR ks l
  | _, _ => none

theorem encR_length (ks : List IntKind) : ∀ l, (encR ks l).length = ks.length := by
  induction ks with
  | nil => intro l; rfl
  | cons k ks ih => intro l; simp [encR, ih]
theorem EK.enc_length (E : EK) (x : E.T) : (E.enc x).length = E.s := by
  cases E <;> first | rfl | exact encR_length _ _
theorem decR_enc : ∀ (ks : List IntKind) (c : List SV) (x : List Int), decR ks c = some x → encR ks x = c := by
  intro ks
  induction ks with
  | nil => intro c x h; cases c <;> simp_all [decR, encR]
  | cons k ks ih =>
    intro c x h
    cases c with
    | nil => simp [decR] at h
    | cons y r =>
      cases y <;> simp only [decR, reduceCtorEq] at h
      rename_i k' n
      by_cases hk : k = k'
      · subst hk
        simp only [decide_true, cond_true, Option.map_eq_some_iff] at h
        obtain ⟨z, hz, rfl⟩ := h
        simp [encR, ih r z hz]
      · simp [hk] at h
theorem EK.dec_enc (E : EK) (c : List SV) (x : E.T) (h : E.dec c = some x) : E.enc x = c := by
  cases E with
  | int k =>
    match c, h with
    | [.int k' n], h =>
      by_cases hk : k = k'
      · subst hk; simp [EK.dec] at h; simp [EK.enc, h]
      · simp [EK.dec, hk] at h
  | bool => match c, h with | [.bool b], h => simp [EK.dec] at h; simp [EK.enc, h]
  | str => match c, h with | [.str b], h => simp [EK.dec] at h; simp [EK.enc, h]
  | rc ks => exact decR_enc ks c x (by cases c <;> exact h)

/-- A run of cells. -/
inductive Seg where
  | one (x : SV)
  | seq (E : EK) (n : Nat) (l : List E.T)
  | gro (E : EK) (l : List E.T)
def Seg.cells : Seg → List SV
  | .one x => [x]
  | .seq E _ l => l.flatMap E.enc
  | .gro E l => l.flatMap E.enc
def Seg.size : Seg → Nat
  | .one _ => 1
  | .seq E n _ => n * E.s
  | .gro E l => l.length * E.s
def Seg.ok : Seg → Prop
  | .one _ => True
  | .seq _ n l => l.length = n
  | .gro _ _ => True
def cellsL (B : List Seg) : List SV := B.flatMap Seg.cells
def sizeL : List Seg → Nat
  | [] => 0
  | s :: r => s.size + sizeL r
def oksL (B : List Seg) : Prop := ∀ s ∈ B, s.ok
theorem flatMap_enc_length (E : EK) (l : List E.T) : (l.flatMap E.enc).length = l.length * E.s := by
  induction l with
  | nil => simp
  | cons a l ih => simp only [List.flatMap_cons, List.length_append, EK.enc_length, ih, List.length_cons, Nat.succ_mul]; omega
theorem Seg.cells_length {s : Seg} (h : s.ok) : s.cells.length = s.size := by
  cases s with
  | one x => rfl
  | seq E n l => simp only [Seg.ok] at h; subst h; exact flatMap_enc_length E l
  | gro E l => exact flatMap_enc_length E l
theorem cellsL_length {B : List Seg} (h : oksL B) : (cellsL B).length = sizeL B := by
  induction B with
  | nil => rfl
  | cons s r ih =>
    simp only [cellsL, List.flatMap_cons, List.length_append, sizeL] at *
    rw [Seg.cells_length (h s (by simp)), ih (fun x hx => h x (by simp [hx]))]
theorem cellsL_append (A B : List Seg) : cellsL (A ++ B) = cellsL A ++ cellsL B := by simp [cellsL]
theorem sizeL_append (A B : List Seg) : sizeL (A ++ B) = sizeL A + sizeL B := by
  induction A with
  | nil => simp [sizeL]
  | cons s r ih => simp [sizeL, ih]; omega

inductive Val where
  | sv (x : SV)
  | agg (l : List Seg)
inductive TV where
  | vl (x : Val)
  | tup (l : List Val)

/-! ### What they say -/
/-- A block's place: its object, where it begins there; of a row that grows: its length and its capacity. -/
abbrev Ids := Nat → Nat × Nat × Nat × Nat
def SV.R (ids : Ids) : SV → Value → Prop
  | .unk, _ => True
  | .bool b, v => v = .bool b
  | .int k n, v => v = .int k n
  | .str s, v => v = .string s
  | .ptr b o, v => v = .pointer (some ⟨(ids b).1, (ids b).2.1 + o, none⟩)
  | .el b o s i f, v => v = .pointer (some ⟨(ids b).1, (ids b).2.1 + (o + i * s + f), none⟩)
  | .nilp, v => v = .pointer none
  | .slc b o s lo len cap, v => v = .slice (some ⟨(ids b).1, (ids b).2.1 + (o + lo * s), none⟩) len cap
  | .sla b o s lo len cap, v => v = .slice (some ⟨(ids b).1, (ids b).2.1 + (o + lo * s), none⟩) len cap ∨ (len = 0 ∧ cap = 0 ∧ ∃ a c, v = .slice a 0 c)
  | .nils, v => v = .slice none 0 0
  | .clo f ps, v => v = .func (.func f) #[] (ps.map fun p => Value.pointer (some ⟨(ids p.1).1, (ids p.1).2.1 + p.2, none⟩)).toArray
  | .gsl b s, v => ((ids b).2.2.1 = 0 ∧ ∃ a, v = .slice a 0 0) ∨ (0 < (ids b).2.2.1 ∧ v = .slice (some ⟨(ids b).1, (ids b).2.1, none⟩) (ids b).2.2.1 (ids b).2.2.2)
  | .opq, v => v.oneCell' = true
def SV.known : SV → Bool
  | .unk => false
  | _ => true
theorem SV.R.one {ids : Ids} {x : SV} {v : Value} (h : x.R ids v) (hk : x.known = true) : v.oneCell' = true := by
  cases x with
  | sla b o s lo len cap =>
    rcases h with h | ⟨_, _, a, c, h⟩ <;> subst h <;> rfl
  | gsl b s =>
    rcases h with ⟨_, a, h⟩ | ⟨_, h⟩ <;> subst h <;> rfl
  | _ => simp_all [SV.R, SV.known, Value.oneCell']
def CR (ids : Ids) : List SV → List Value → Prop
  | [], [] => True
  | x :: xs, v :: vs => x.R ids v ∧ CR ids xs vs
  | _, _ => False
theorem CR.length {ids : Ids} : ∀ {xs : List SV} {vs : List Value}, CR ids xs vs → xs.length = vs.length
  | [], [], _ => rfl
  | _ :: _, _ :: _, h => by simp [CR.length h.2]
  | [], _ :: _, h => h.elim
  | _ :: _, [], h => h.elim
theorem CR.get {ids : Ids} : ∀ {xs : List SV} {vs : List Value} {i : Nat} {x : SV}, CR ids xs vs → xs[i]? = some x → ∃ v, vs[i]? = some v ∧ x.R ids v
  | x :: xs, v :: vs, 0, y, h, hx => by simp at hx; subst hx; exact ⟨v, rfl, h.1⟩
  | x :: xs, v :: vs, i + 1, y, h, hx => by simp at hx; simpa using CR.get h.2 hx
  | [], [], i, y, _, hx => by simp at hx
  | [], _ :: _, _, _, h, _ => h.elim
  | _ :: _, [], _, _, h, _ => h.elim
theorem CR.append {ids : Ids} : ∀ {xs ys : List SV} {vs us : List Value}, CR ids xs vs → CR ids ys us → CR ids (xs ++ ys) (vs ++ us)
  | [], ys, [], us, _, h => h
  | x :: xs, ys, v :: vs, us, h, h' => ⟨h.1, CR.append h.2 h'⟩
  | [], _, _ :: _, _, h, _ => h.elim
  | _ :: _, _, [], _, h, _ => h.elim
theorem CR.take {ids : Ids} : ∀ {xs : List SV} {vs : List Value} (n : Nat), CR ids xs vs → CR ids (xs.take n) (vs.take n)
  | [], [], n, _ => by simp [CR]
  | x :: xs, v :: vs, 0, _ => by simp [CR]
  | x :: xs, v :: vs, n + 1, h => ⟨h.1, CR.take n h.2⟩
  | [], _ :: _, _, h => h.elim
  | _ :: _, [], _, h => h.elim
theorem CR.drop {ids : Ids} : ∀ {xs : List SV} {vs : List Value} (n : Nat), CR ids xs vs → CR ids (xs.drop n) (vs.drop n)
  | [], [], n, _ => by simp [CR]
  | x :: xs, v :: vs, 0, h => h
  | x :: xs, v :: vs, n + 1, h => by simpa using CR.drop n h.2
  | [], _ :: _, _, h => h.elim
  | _ :: _, [], _, h => h.elim
theorem CR.of_get {ids : Ids} : ∀ {xs : List SV} {vs : List Value}, xs.length = vs.length → (∀ (i : Nat) (x : SV) (v : Value), xs[i]? = some x → vs[i]? = some v → SV.R ids x v) → CR ids xs vs
  | [], [], _, _ => trivial
  | x :: xs, v :: vs, hl, h => ⟨h 0 x v rfl rfl, CR.of_get (by simpa using hl) fun i a b ha hb => h (i + 1) a b (by simpa using ha) (by simpa using hb)⟩
  | [], _ :: _, hl, _ => by simp at hl
  | _ :: _, [], hl, _ => by simp at hl

def Val.R (ids : Ids) : Val → Value → Prop
  | .sv x, v => x.R ids v
  | .agg l, v => ∃ cs : Array Value, v = .agg cs ∧ oksL l ∧ CR ids (cellsL l) cs.toList
def VsR (ids : Ids) : List Val → List Value → Prop
  | [], [] => True
  | x :: xs, v :: vs => x.R ids v ∧ VsR ids xs vs
  | _, _ => False
theorem VsR.get {ids : Ids} : ∀ {xs : List Val} {vs : List Value} {i : Nat} {x : Val}, VsR ids xs vs → xs[i]? = some x → ∃ v, vs[i]? = some v ∧ x.R ids v
  | x :: xs, v :: vs, 0, y, h, hx => by simp at hx; subst hx; exact ⟨v, rfl, h.1⟩
  | x :: xs, v :: vs, i + 1, y, h, hx => by simp at hx; simpa using VsR.get h.2 hx
  | [], [], i, y, _, hx => by simp at hx
  | [], _ :: _, _, _, h, _ => h.elim
  | _ :: _, [], _, _, h, _ => h.elim
def TV.R (ids : Ids) : TV → Value → Prop
  | .vl x, v => x.R ids v
  | .tup l, v => ∃ vs : Array Value, v = .tuple vs ∧ VsR ids l vs.toList
def tunk : TV := .vl (.sv .unk)

/-! ### Names -/
def SV.nm : SV → List Nat
  | .ptr b _ => [b]
  | .el b _ _ _ _ => [b]
  | .slc b _ _ _ _ _ => [b]
  | .sla b _ _ _ _ _ => [b]
  | .clo _ ps => ps.map (·.1)
  | .gsl b _ => [b]
  | _ => []
def Seg.nm : Seg → List Nat
  | .one x => x.nm
  | .seq .. => []
  | .gro .. => []
def nmL (B : List Seg) : List Nat := B.flatMap Seg.nm
def Val.nm : Val → List Nat
  | .sv x => x.nm
  | .agg l => nmL l
def TV.nm : TV → List Nat
  | .vl x => x.nm
  | .tup l => l.flatMap Val.nm
theorem SV.R.congr {ids ids' : Ids} {x : SV} {v : Value} (h : x.R ids v) (e : ∀ b ∈ x.nm, ids' b = ids b) : x.R ids' v := by
  cases x with
  | ptr b o => simp only [SV.R, SV.nm, List.mem_singleton, forall_eq] at *; rw [e]; exact h
  | el b o s i f => simp only [SV.R, SV.nm, List.mem_singleton, forall_eq] at *; rw [e]; exact h
  | slc b o s i f => simp only [SV.R, SV.nm, List.mem_singleton, forall_eq] at *; rw [e]; exact h
  | sla b o s i f => simp only [SV.R, SV.nm, List.mem_singleton, forall_eq] at *; rw [e]; exact h
  | gsl b s => simp only [SV.R, SV.nm, List.mem_singleton, forall_eq] at *; rw [e]; exact h
  | clo f ps =>
    simp only [SV.R, SV.nm] at *
    rw [h]
    congr 2
    apply List.map_congr_left
    intro p hp
    rw [e p.1 (List.mem_map.2 ⟨p, hp, rfl⟩)]
  | _ => exact h
theorem encR_nm : ∀ (ks : List IntKind) (x : List Int), ∀ y ∈ encR ks x, y.nm = []
  | [], _, y, hy => by simp [encR] at hy
  | k :: ks, x, y, hy => by
    simp only [encR, List.mem_cons] at hy
    rcases hy with rfl | hy
    · rfl
    · exact encR_nm ks _ y hy
theorem enc_nm (E : EK) (x : E.T) : ∀ y ∈ E.enc x, y.nm = [] := by
  cases E with
  | rc ks => exact encR_nm ks x
  | _ => intro y hy; simp only [EK.enc, List.mem_singleton] at hy; subst hy; rfl
theorem Seg.cells_nm (s : Seg) : ∀ y ∈ s.cells, ∀ b ∈ y.nm, b ∈ s.nm := by
  cases s with
  | one x => intro y hy b hb; simp only [Seg.cells, List.mem_singleton] at hy; subst hy; exact hb
  | seq E n l =>
    intro y hy b hb
    simp only [Seg.cells, List.mem_flatMap] at hy
    obtain ⟨a, _, hy⟩ := hy
    rw [enc_nm E a y hy] at hb; cases hb
  | gro E l =>
    intro y hy b hb
    simp only [Seg.cells, List.mem_flatMap] at hy
    obtain ⟨a, _, hy⟩ := hy
    rw [enc_nm E a y hy] at hb; cases hb
theorem cellsL_nm (B : List Seg) : ∀ y ∈ cellsL B, ∀ b ∈ y.nm, b ∈ nmL B := by
  intro y hy b hb
  simp only [cellsL, List.mem_flatMap] at hy
  obtain ⟨s, hs, hy⟩ := hy
  exact List.mem_flatMap.2 ⟨s, hs, s.cells_nm y hy b hb⟩
theorem CR.congr {ids ids' : Ids} : ∀ {xs : List SV} {vs : List Value}, CR ids xs vs → (∀ y ∈ xs, ∀ b ∈ y.nm, ids' b = ids b) → CR ids' xs vs
  | [], [], _, _ => trivial
  | x :: xs, v :: vs, h, e => ⟨h.1.congr (e x (by simp)), CR.congr h.2 fun y hy => e y (by simp [hy])⟩
  | [], _ :: _, h, _ => h.elim
  | _ :: _, [], h, _ => h.elim
theorem Val.R.congr {ids ids' : Ids} {x : Val} {v : Value} (h : x.R ids v) (e : ∀ b ∈ x.nm, ids' b = ids b) : x.R ids' v := by
  cases x with
  | sv x => exact SV.R.congr h e
  | agg l =>
    obtain ⟨cs, h1, h2, h3⟩ := h
    exact ⟨cs, h1, h2, h3.congr fun y hy b hb => e b (cellsL_nm l y hy b hb)⟩
theorem VsR.congr {ids ids' : Ids} : ∀ {xs : List Val} {vs : List Value}, VsR ids xs vs → (∀ b ∈ xs.flatMap Val.nm, ids' b = ids b) → VsR ids' xs vs
  | [], [], _, _ => trivial
  | x :: xs, v :: vs, h, e => ⟨Val.R.congr h.1 fun b hb => e b (by simp [hb]), VsR.congr h.2 fun b hb => e b (by
      simp only [List.flatMap_cons, List.mem_append]; exact .inr hb)⟩
  | [], _ :: _, h, _ => h.elim
  | _ :: _, [], h, _ => h.elim
theorem TV.R.congr {ids ids' : Ids} {x : TV} {v : Value} (h : x.R ids v) (e : ∀ b ∈ x.nm, ids' b = ids b) : x.R ids' v := by
  cases x with
  | vl x => exact Val.R.congr h e
  | tup l => obtain ⟨vs, h1, h2⟩ := h; exact ⟨vs, h1, h2.congr e⟩

/-! ### States -/
abbrev Blk := Bool × List Seg      -- may it be written?
structure St where
  T : Nat → TV
  H : Nat → Option Blk
  n : Nat
structure Eff where
  val : TV
  rd : List Nat
  out : List (Nat × Blk)
def outAt : List (Nat × Blk) → Nat → Option Blk
  | [], _ => none
  | (c, B) :: r, b => cond (Nat.beq b c) (some B) (outAt r b)
def updH (H : Nat → Option Blk) : List (Nat × Blk) → Nat → Option Blk
  | [] => H
  | p :: out => fun b => match outAt (p :: out) b with
    | some x => some x
    | none => H b
def St.appH (st : St) (f : Eff) : St := { st with H := updH st.H f.out }
def putT (T : Nat → TV) (d : Option Nat) (x : TV) : Nat → TV :=
  match d with
  | none => T
  | some d => fun t => cond (Nat.beq t d) x (T t)
def St.app (st : St) (d : Option Nat) (f : Eff) : St := { st.appH f with T := putT st.T d f.val }

structure Keeps (w0 w : World) (S : List Nat) : Prop where
  os : w.os = w0.os
  tape : w.tape = w0.tape
  output : w.output = w0.output
  size : w0.heap.size ≤ w.heap.size
  block : ∀ k, k < w0.heap.size → k ∉ S → w.heap[k]? = w0.heap[k]?

/-- A block that has a place. -/
def Lv : List Seg → Prop
  | [] => False
  | [.gro _ l] => l ≠ []
  | _ => True
/-- A row that grows: its length; what is behind it, up to its capacity. -/
def GroR (g : Nat × Nat × Nat × Nat) (w : World) (wr : Bool) : List Seg → Prop
  | [.gro E l] => g.2.2.1 = l.length ∧ (wr = true → l ≠ [] → ∀ j, l.length * E.s ≤ j → j < g.2.2.2 * E.s → (∃ u, w.cell? ⟨g.1, g.2.1 + j, none⟩ = some u) ∧ w.frozen? ⟨g.1, g.2.1 + j, none⟩ = false)
  | _ => True
def BlkR (ids : Ids) (w : World) (b : Nat) (B : Blk) : Prop :=
  oksL B.2 ∧ GroR (ids b) w B.1 B.2 ∧ (Lv B.2 → (ids b).1 < w.heap.size) ∧
  ∀ j x, (cellsL B.2)[j]? = some x → ∃ v, w.cell? ⟨(ids b).1, (ids b).2.1 + j, none⟩ = some v ∧ x.R ids v ∧
    (B.1 = true → w.frozen? ⟨(ids b).1, (ids b).2.1 + j, none⟩ = false)

structure Rep (w0 : World) (S : List Nat) (nb : Nat) (idb : Ids) (ids : Ids) (st : St) (a : Act) (w : World) : Prop where
  keeps : Keeps w0 w S
  size : a.tmps.size = st.n
  defers : a.defers = []
  tmps : ∀ t, (st.T t).R ids (a.tmps.getD t undef)
  bor : ∀ i, i < nb → ids i = idb i
  blk : ∀ b B, st.H b = some B → BlkR ids w b B
  sep : ∀ b c B C, st.H b = some (true, B) → st.H c = some C → b ≠ c → Lv B → Lv C.2 → (ids b).1 ≠ (ids c).1
  own : ∀ b B, st.H b = some (true, B) → Lv B → (ids b).1 ∈ S ∨ (nb ≤ b ∧ w0.heap.size ≤ (ids b).1)
  clT : ∀ t, ∀ b ∈ (st.T t).nm, (st.H b).isSome = true
  clH : ∀ c B, st.H c = some B → ∀ b ∈ nmL B.2, (st.H b).isSome = true
  lim : nb ≤ 1000
def RepSt (w0 : World) (S : List Nat) (nb : Nat) (idb : Ids) (st : St) (a : Act) (w : World) : Prop := ∃ ids, Rep w0 S nb idb ids st a w

theorem updH_nil (H : Nat → Option Blk) : updH H [] = H := rfl
theorem updH_eq (H : Nat → Option Blk) (out : List (Nat × Blk)) (b : Nat) : updH H out b = (outAt out b).or (H b) := by
  cases out with
  | nil => simp [updH, outAt]
  | cons p r => simp only [updH]; cases outAt (p :: r) b <;> rfl
theorem outAt_none {out : List (Nat × Blk)} {b : Nat} (h : b ∉ out.map (·.1)) : outAt out b = none := by
  induction out with
  | nil => rfl
  | cons p r ih =>
    obtain ⟨c, B⟩ := p
    simp only [List.map_cons, List.mem_cons, not_or] at h
    simp only [outAt]
    have : Nat.beq b c = false := by
      cases hb : Nat.beq b c with
      | false => rfl
      | true => exact absurd (Nat.eq_of_beq_eq_true hb) h.1
    rw [this]; exact ih h.2
theorem outAt_mem {out : List (Nat × Blk)} {b : Nat} {B : Blk} (h : outAt out b = some B) : b ∈ out.map (·.1) := by
  by_cases hm : b ∈ out.map (·.1)
  · exact hm
  · rw [outAt_none hm] at h; cases h
theorem updH_other {H : Nat → Option Blk} {out : List (Nat × Blk)} {b : Nat} (h : b ∉ out.map (·.1)) : updH H out b = H b := by
  rw [updH_eq, outAt_none h]; rfl
theorem putT_other {T : Nat → TV} {d : Option Nat} {x : TV} {t : Nat} (h : d ≠ some t) : putT T d x t = T t := by
  cases d with
  | none => rfl
  | some d =>
    simp only [putT]
    have : Nat.beq t d = false := by
      cases hb : Nat.beq t d with
      | false => rfl
      | true => exact absurd (by rw [Nat.eq_of_beq_eq_true hb]) h
    rw [this]; rfl
theorem putT_same {T : Nat → TV} {d : Nat} {x : TV} : putT T (some d) x d = x := by
  simp [putT, Nat.beq_refl]

/-- The value goes into its slot. -/
theorem Rep.put {w0 : World} {S : List Nat} {nb : Nat} {idb ids : Ids} {st : St} {a : Act} {w : World} {f : Eff} {v : Value} {d : Option Nat}
    (h : Rep w0 S nb idb ids (st.appH f) a w) (hv : f.val.R ids v) (hn : ∀ b ∈ f.val.nm, ((st.appH f).H b).isSome = true) (hd : ∀ t, d = some t → t < st.n) :
    Rep w0 S nb idb ids (st.app d f) (a.put d v) w := by
  cases d with
  | none => exact ⟨h.keeps, h.size, h.defers, h.tmps, h.bor, h.blk, h.sep, h.own, h.clT, h.clH, h.lim⟩
  | some d =>
    have hd' : d < a.tmps.size := by have h1 := h.size; have h2 := hd d rfl; simp only [St.appH] at h1; omega
    refine ⟨h.keeps, ?_, h.defers, fun t => ?_, h.bor, h.blk, h.sep, h.own, fun t => ?_, h.clH, h.lim⟩
    · have h1 := h.size
      simp only [Act.put, Array.size_setIfInBounds]; exact h1
    · by_cases ht : t = d
      · subst ht
        show (putT st.T (some t) f.val t).R ids _
        rw [putT_same]
        have : (a.put (some t) v).tmps.getD t undef = v := by simp [Act.put, hd']
        rw [this]; exact hv
      · show (putT st.T (some d) f.val t).R ids _
        rw [putT_other (by simpa using fun e => ht e.symm)]
        have : (a.put (some d) v).tmps.getD t undef = a.tmps.getD t undef := by
          simp [Act.put, Array.getElem?_setIfInBounds_ne (fun e => ht e.symm : d ≠ t)]
        rw [this]; exact h.tmps t
    · by_cases ht : t = d
      · subst ht
        show ∀ b ∈ (putT st.T (some t) f.val t).nm, _
        rw [putT_same]; exact hn
      · show ∀ b ∈ (putT st.T (some d) f.val t).nm, _
        rw [putT_other (by simpa using fun e => ht e.symm)]
        exact h.clT t
end Go.Proofs.Ytlmmgjngihlpeaa.Sx
