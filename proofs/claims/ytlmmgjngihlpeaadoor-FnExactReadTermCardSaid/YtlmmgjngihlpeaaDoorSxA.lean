/- A symbolic evaluator for the machine's code, part A: abstract values, states, what they say of a world. Our own work. -/
import Derived.WalkKit
import Derived.Orders
namespace Go.Proofs.YtlmmgjngihlpeaaDoor.Sx
open Go
set_option linter.unusedVariables false
inductive SV where
  | unk
  | bool (b : Bool)
  | int (k : IntKind) (n : Int)
  | str (s : ByteArray)
  | ptr (b o : Nat)
  | el (b o s i f : Nat)
  | nilp
  | slc (b o s lo len cap : Nat)
  | nils
  | clo (f : Nat) (ps : List (Nat × Nat))
  | gsl (b s : Nat)
  | sla (b o s lo len cap : Nat)
  | opq
  | mpp (b : Nat)
  | clb (f b o : Nat)
  | gp (g i : Nat)
  | nili
  | ifo
inductive PK where
  | i (k : IntKind)
  | b
  | a (k : IntKind) (n : Nat)
  deriving DecidableEq
@[reducible] def PT : List PK → Type
  | [] => Unit
  | .i _ :: r => Int × PT r
  | .b :: r => Bool × PT r
  | .a _ _ :: r => List Int × PT r
def pD : (ps : List PK) → PT ps
  | [] => ()
  | .i _ :: r => ((0 : Int), pD r)
  | .b :: r => (false, pD r)
  | .a _ _ :: r => (([] : List Int), pD r)
def pS : List PK → Nat
  | [] => 0
  | .i _ :: r => pS r + 1
  | .b :: r => pS r + 1
  | .a _ n :: r => n + pS r
inductive EK where
  | int (k : IntKind)
  | bool
  | str
  | rc (ks : List IntKind)
  | mx (ps : List PK)
  deriving DecidableEq
@[reducible] def EK.T : EK → Type
  | .int _ => Int
  | .bool => Bool
  | .str => ByteArray
  | .rc _ => List Int
  | .mx ps => PT ps
def EK.s : EK → Nat
  | .rc ks => ks.length
  | .mx ps => pS ps
  | _ => 1
def EK.d : (E : EK) → E.T
  | .int _ => (0 : Int)
  | .bool => false
  | .str => (⟨#[]⟩ : ByteArray)
  | .rc _ => ([] : List Int)
  | .mx ps => pD ps
def encR : List IntKind → List Int → List SV
  | [], _ => []
  | k :: ks, l => .int k (l.headD 0) :: encR ks l.tail
def encA (k : IntKind) : Nat → List Int → List SV
  | 0, _ => []
  | n + 1, l => .int k (l.headD 0) :: encA k n l.tail
def encM : (ps : List PK) → PT ps → List SV
  | [], _ => []
  | .i k :: r, x => .int k x.1 :: encM r x.2
  | .b :: r, x => .bool x.1 :: encM r x.2
  | .a k n :: r, x => encA k n x.1 ++ encM r x.2
def EK.enc : (E : EK) → E.T → List SV
  | .int k, n => [.int k n]
  | .bool, b => [.bool b]
  | .str, s => [.str s]
  | .rc ks, l => encR ks l
  | .mx ps, x => encM ps x
def decR : List IntKind → List SV → Option (List Int)
  | [], [] => some []
  | k :: ks, .int k' n :: r => cond (decide (k = k')) ((decR ks r).map (n :: ·)) none
  | _, _ => none
def EK.dec : (E : EK) → List SV → Option E.T
  | .int k, [.int k' n] => cond (decide (k = k')) (some n) none
  | .bool, [.bool b] => some b
  | .str, [.str s] => some s
  | .rc ks, l => decR ks l
  | _, _ => none
theorem encA_length (k : IntKind) : ∀ n l, (encA k n l).length = n := by
  intro n
  induction n with
  | zero => intro l; rfl
  | succ n ih => intro l; simp [encA, ih]
theorem encM_length : ∀ (ps : List PK) (x : PT ps), (encM ps x).length = pS ps
  | [], _ => rfl
  | .i _ :: r, x => by simp [encM, pS, encM_length r x.2]
  | .b :: r, x => by simp [encM, pS, encM_length r x.2]
  | .a _ _ :: r, x => by simp [encM, pS, encM_length r x.2, encA_length]
theorem encR_length (ks : List IntKind) : ∀ l, (encR ks l).length = ks.length := by
  induction ks with
  | nil => intro l; rfl
  | cons k ks ih => intro l; simp [encR, ih]
theorem EK.enc_length (E : EK) (x : E.T) : (E.enc x).length = E.s := by
  cases E <;> first | rfl | exact encR_length _ _ | exact encM_length _ _
theorem decR_enc : ∀ (ks : List IntKind) (c : List SV) (x : List Int), decR ks c = some x → encR ks x = c := by
  intro ks
  induction ks with
  | nil => intro c x h; cases c <;> simp_all [decR, encR]
  | cons k ks ih =>
    intro c x h
    cases c with
    | nil => simp [decR] at h
    | cons y r =>
      cases y <;> simp only [decR, reduceCtorEq] at h
      rename_i k' n
      by_cases hk : k = k'
      · subst hk
        simp only [decide_true, cond_true, Option.map_eq_some_iff] at h
        obtain ⟨z, hz, rfl⟩ := h
        simp [encR, ih r z hz]
      · simp [hk] at h
theorem EK.dec_enc (E : EK) (c : List SV) (x : E.T) (h : E.dec c = some x) : E.enc x = c := by
  cases E with
  | int k =>
    match c, h with
    | [.int k' n], h =>
      by_cases hk : k = k'
      · subst hk; simp [EK.dec] at h; simp [EK.enc, h]
      · simp [EK.dec, hk] at h
  | bool => match c, h with | [.bool b], h => simp [EK.dec] at h; simp [EK.enc, h]
  | str => match c, h with | [.str b], h => simp [EK.dec] at h; simp [EK.enc, h]
  | rc ks => exact decR_enc ks c x (by cases c <;> exact h)
  | mx ps => simp [EK.dec] at h
inductive Seg where
  | one (x : SV)
  | seq (E : EK) (n : Nat) (l : List E.T)
  | gro (E : EK) (l : List E.T)
  | mp (K V : EK) (l : List (K.T × V.T))
  | rws (E : EK) (ll : List (List E.T)) (h : Option (Nat × Nat))
def Seg.cells : Seg → List SV
  | .one x => [x]
  | .seq E _ l => l.flatMap E.enc
  | .gro E l => l.flatMap E.enc
  | _ => []
def Seg.size : Seg → Nat
  | .one _ => 1
  | .seq E n _ => n * E.s
  | .gro E l => l.length * E.s
  | _ => 0
def Seg.ok : Seg → Prop
  | .seq _ n l => l.length = n
  | _ => True
def cellsL (B : List Seg) : List SV := B.flatMap Seg.cells
def sizeL : List Seg → Nat
  | [] => 0
  | s :: r => s.size + sizeL r
def oksL (B : List Seg) : Prop := ∀ s ∈ B, s.ok
theorem flatMap_enc_length (E : EK) (l : List E.T) : (l.flatMap E.enc).length = l.length * E.s := by
  induction l with
  | nil => simp
  | cons a l ih => simp only [List.flatMap_cons, List.length_append, EK.enc_length, ih, List.length_cons, Nat.succ_mul]; omega
theorem Seg.cells_length {s : Seg} (h : s.ok) : s.cells.length = s.size := by
  cases s with
  | one x => rfl
  | seq E n l => simp only [Seg.ok] at h; subst h; exact flatMap_enc_length E l
  | gro E l => exact flatMap_enc_length E l
  | mp => rfl
  | rws => rfl
theorem cellsL_length {B : List Seg} (h : oksL B) : (cellsL B).length = sizeL B := by
  induction B with
  | nil => rfl
  | cons s r ih =>
    simp only [cellsL, List.flatMap_cons, List.length_append, sizeL] at *
    rw [Seg.cells_length (h s (by simp)), ih (fun x hx => h x (by simp [hx]))]
theorem cellsL_append (A B : List Seg) : cellsL (A ++ B) = cellsL A ++ cellsL B := by simp [cellsL]
inductive Val where
  | sv (x : SV)
  | agg (l : List Seg)
inductive TV where
  | vl (x : Val)
  | tup (l : List Val)
abbrev Ids := Nat → Nat × Nat × Nat × Nat
def SV.R (ids : Ids) : SV → Value → Prop
  | .unk, _ => True
  | .bool b, v => v = .bool b
  | .int k n, v => v = .int k n
  | .str s, v => v = .string s
  | .ptr b o, v => v = .pointer (some ⟨(ids b).1, (ids b).2.1 + o, none⟩)
  | .el b o s i f, v => v = .pointer (some ⟨(ids b).1, (ids b).2.1 + (o + i * s + f), none⟩)
  | .nilp, v => v = .pointer none
  | .slc b o s lo len cap, v => v = .slice (some ⟨(ids b).1, (ids b).2.1 + (o + lo * s), none⟩) len cap
  | .sla b o s lo len cap, v => v = .slice (some ⟨(ids b).1, (ids b).2.1 + (o + lo * s), none⟩) len cap ∨ (len = 0 ∧ cap = 0 ∧ ∃ a c, v = .slice a 0 c)
  | .nils, v => v = .slice none 0 0
  | .clo f ps, v => v = .func (.func f) #[] (ps.map fun p => Value.pointer (some ⟨(ids p.1).1, (ids p.1).2.1 + p.2, none⟩)).toArray
  | .gsl b s, v => ((ids b).2.2.1 = 0 ∧ ∃ a, v = .slice a 0 0) ∨ (0 < (ids b).2.2.1 ∧ v = .slice (some ⟨(ids b).1, (ids b).2.1, none⟩) (ids b).2.2.1 (ids b).2.2.2)
  | .opq, v => v.oneCell' = true
  | .clb f b o, v => v = .func (.func f) #[Value.pointer (some ⟨(ids b).1, (ids b).2.1 + o, none⟩)] #[]
  | .gp g i, v => v = .pointer (some ⟨g, i, none⟩)
  | .mpp b, v => v = .map (some (ids b).1)
  | .nili, v => v = .nilIface
  | .ifo, v => ∃ t x, v = .iface t x
def SV.known : SV → Bool
  | .unk => false
  | _ => true
theorem SV.R.one {ids : Ids} {x : SV} {v : Value} (h : x.R ids v) (hk : x.known = true) : v.oneCell' = true := by
  cases x with
  | sla b o s lo len cap =>
    rcases h with h | ⟨_, _, a, c, h⟩ <;> subst h <;> rfl
  | gsl b s =>
    rcases h with ⟨_, a, h⟩ | ⟨_, h⟩ <;> subst h <;> rfl
  | ifo => obtain ⟨t, x, h⟩ := h; subst h; rfl
  | _ => simp_all [SV.R, SV.known, Value.oneCell']
def CR (ids : Ids) : List SV → List Value → Prop
  | [], [] => True
  | x :: xs, v :: vs => x.R ids v ∧ CR ids xs vs
  | _, _ => False
theorem CR.length {ids : Ids} : ∀ {xs : List SV} {vs : List Value}, CR ids xs vs → xs.length = vs.length
  | [], [], _ => rfl
  | _ :: _, _ :: _, h => by simp [CR.length h.2]
  | [], _ :: _, h => h.elim
  | _ :: _, [], h => h.elim
theorem CR.get {ids : Ids} : ∀ {xs : List SV} {vs : List Value} {i : Nat} {x : SV}, CR ids xs vs → xs[i]? = some x → ∃ v, vs[i]? = some v ∧ x.R ids v
  | x :: xs, v :: vs, 0, y, h, hx => by simp at hx; subst hx; exact ⟨v, rfl, h.1⟩
  | x :: xs, v :: vs, i + 1, y, h, hx => by simp at hx; simpa using CR.get h.2 hx
  | [], [], i, y, _, hx => by simp at hx
  | [], _ :: _, _, _, h, _ => h.elim
  | _ :: _, [], _, _, h, _ => h.elim
theorem CR.append {ids : Ids} : ∀ {xs ys : List SV} {vs us : List Value}, CR ids xs vs → CR ids ys us → CR ids (xs ++ ys) (vs ++ us)
  | [], ys, [], us, _, h => h
  | x :: xs, ys, v :: vs, us, h, h' => ⟨h.1, CR.append h.2 h'⟩
  | [], _, _ :: _, _, h, _ => h.elim
  | _ :: _, _, [], _, h, _ => h.elim
theorem CR.take {ids : Ids} : ∀ {xs : List SV} {vs : List Value} (n : Nat), CR ids xs vs → CR ids (xs.take n) (vs.take n)
  | [], [], n, _ => by simp [CR]
  | x :: xs, v :: vs, 0, _ => by simp [CR]
  | x :: xs, v :: vs, n + 1, h => ⟨h.1, CR.take n h.2⟩
  | [], _ :: _, _, h => h.elim
  | _ :: _, [], _, h => h.elim
theorem CR.drop {ids : Ids} : ∀ {xs : List SV} {vs : List Value} (n : Nat), CR ids xs vs → CR ids (xs.drop n) (vs.drop n)
  | [], [], n, _ => by simp [CR]
  | x :: xs, v :: vs, 0, h => h
  | x :: xs, v :: vs, n + 1, h => by simpa using CR.drop n h.2
  | [], _ :: _, _, h => h.elim
  | _ :: _, [], _, h => h.elim
theorem CR.of_get {ids : Ids} : ∀ {xs : List SV} {vs : List Value}, xs.length = vs.length → (∀ (i : Nat) (x : SV) (v : Value), xs[i]? = some x → vs[i]? = some v → SV.R ids x v) → CR ids xs vs
  | [], [], _, _ => trivial
  | x :: xs, v :: vs, hl, h => ⟨h 0 x v rfl rfl, CR.of_get (by simpa using hl) fun i a b ha hb => h (i + 1) a b (by simpa using ha) (by simpa using hb)⟩
  | [], _ :: _, hl, _ => by simp at hl
  | _ :: _, [], hl, _ => by simp at hl
def Val.R (ids : Ids) : Val → Value → Prop
  | .sv x, v => x.R ids v
  | .agg l, v => ∃ cs : Array Value, v = .agg cs ∧ oksL l ∧ CR ids (cellsL l) cs.toList
def VsR (ids : Ids) : List Val → List Value → Prop
  | [], [] => True
  | x :: xs, v :: vs => x.R ids v ∧ VsR ids xs vs
  | _, _ => False
theorem VsR.get {ids : Ids} : ∀ {xs : List Val} {vs : List Value} {i : Nat} {x : Val}, VsR ids xs vs → xs[i]? = some x → ∃ v, vs[i]? = some v ∧ x.R ids v
  | x :: xs, v :: vs, 0, y, h, hx => by simp at hx; subst hx; exact ⟨v, rfl, h.1⟩
  | x :: xs, v :: vs, i + 1, y, h, hx => by simp at hx; simpa using VsR.get h.2 hx
  | [], [], i, y, _, hx => by simp at hx
  | [], _ :: _, _, _, h, _ => h.elim
  | _ :: _, [], _, _, h, _ => h.elim
def TV.R (ids : Ids) : TV → Value → Prop
  | .vl x, v => x.R ids v
  | .tup l, v => ∃ vs : Array Value, v = .tuple vs ∧ VsR ids l vs.toList
def tunk : TV := .vl (.sv .unk)
def SV.nm : SV → List Nat
  | .ptr b _ => [b]
  | .el b _ _ _ _ => [b]
  | .slc b _ _ _ _ _ => [b]
  | .sla b _ _ _ _ _ => [b]
  | .clo _ ps => ps.map (·.1)
  | .gsl b _ => [b]
  | .mpp b => [b]
  | .clb _ b _ => [b]
  | _ => []
def Seg.nm : Seg → List Nat
  | .one x => x.nm
  | .rws _ _ (some p) => [p.2]
  | _ => []
def nmL (B : List Seg) : List Nat := B.flatMap Seg.nm
def Val.nm : Val → List Nat
  | .sv x => x.nm
  | .agg l => nmL l
def TV.nm : TV → List Nat
  | .vl x => x.nm
  | .tup l => l.flatMap Val.nm
theorem SV.R.congr {ids ids' : Ids} {x : SV} {v : Value} (h : x.R ids v) (e : ∀ b ∈ x.nm, ids' b = ids b) : x.R ids' v := by
  cases x with
  | ptr b o => simp only [SV.R, SV.nm, List.mem_singleton, forall_eq] at *; rw [e]; exact h
  | el b o s i f => simp only [SV.R, SV.nm, List.mem_singleton, forall_eq] at *; rw [e]; exact h
  | slc b o s i f => simp only [SV.R, SV.nm, List.mem_singleton, forall_eq] at *; rw [e]; exact h
  | sla b o s i f => simp only [SV.R, SV.nm, List.mem_singleton, forall_eq] at *; rw [e]; exact h
  | gsl b s => simp only [SV.R, SV.nm, List.mem_singleton, forall_eq] at *; rw [e]; exact h
  | mpp b => simp only [SV.R, SV.nm, List.mem_singleton, forall_eq] at *; rw [e]; exact h
  | clb f b o => simp only [SV.R, SV.nm, List.mem_singleton, forall_eq] at *; rw [e]; exact h
  | clo f ps =>
    simp only [SV.R, SV.nm] at *
    rw [h]
    congr 2
    apply List.map_congr_left
    intro p hp
    rw [e p.1 (List.mem_map.2 ⟨p, hp, rfl⟩)]
  | _ => exact h
theorem encR_nm : ∀ (ks : List IntKind) (x : List Int), ∀ y ∈ encR ks x, y.nm = []
  | [], _, y, hy => by simp [encR] at hy
  | k :: ks, x, y, hy => by
    simp only [encR, List.mem_cons] at hy
    rcases hy with rfl | hy
    · rfl
    · exact encR_nm ks _ y hy
theorem encA_nm (k : IntKind) : ∀ (n : Nat) (x : List Int), ∀ y ∈ encA k n x, y.nm = []
  | 0, _, y, hy => by simp [encA] at hy
  | n + 1, x, y, hy => by
    simp only [encA, List.mem_cons] at hy
    rcases hy with rfl | hy
    · rfl
    · exact encA_nm k n _ y hy
theorem encM_nm : ∀ (ps : List PK) (x : PT ps), ∀ y ∈ encM ps x, y.nm = []
  | [], _, y, hy => by simp [encM] at hy
  | .i k :: r, x, y, hy => by
    simp only [encM, List.mem_cons] at hy
    rcases hy with rfl | hy
    · rfl
    · exact encM_nm r _ y hy
  | .b :: r, x, y, hy => by
    simp only [encM, List.mem_cons] at hy
    rcases hy with rfl | hy
    · rfl
    · exact encM_nm r _ y hy
  | .a k n :: r, x, y, hy => by
    simp only [encM, List.mem_append] at hy
    rcases hy with hy | hy
    · exact encA_nm k n _ y hy
    · exact encM_nm r _ y hy
theorem enc_nm (E : EK) (x : E.T) : ∀ y ∈ E.enc x, y.nm = [] := by
  cases E with
  | rc ks => exact encR_nm ks x
  | mx ps => exact encM_nm ps x
  | _ => intro y hy; simp only [EK.enc, List.mem_singleton] at hy; subst hy; rfl
theorem Seg.cells_nm (s : Seg) : ∀ y ∈ s.cells, ∀ b ∈ y.nm, b ∈ s.nm := by
  cases s with
  | one x => intro y hy b hb; simp only [Seg.cells, List.mem_singleton] at hy; subst hy; exact hb
  | seq E n l =>
    intro y hy b hb
    simp only [Seg.cells, List.mem_flatMap] at hy
    obtain ⟨a, _, hy⟩ := hy
    rw [enc_nm E a y hy] at hb; cases hb
  | gro E l =>
    intro y hy b hb
    simp only [Seg.cells, List.mem_flatMap] at hy
    obtain ⟨a, _, hy⟩ := hy
    rw [enc_nm E a y hy] at hb; cases hb
  | mp => intro y hy; simp [Seg.cells] at hy
  | rws => intro y hy; simp [Seg.cells] at hy
theorem cellsL_nm (B : List Seg) : ∀ y ∈ cellsL B, ∀ b ∈ y.nm, b ∈ nmL B := by
  intro y hy b hb
  simp only [cellsL, List.mem_flatMap] at hy
  obtain ⟨s, hs, hy⟩ := hy
  exact List.mem_flatMap.2 ⟨s, hs, s.cells_nm y hy b hb⟩
theorem CR.congr {ids ids' : Ids} : ∀ {xs : List SV} {vs : List Value}, CR ids xs vs → (∀ y ∈ xs, ∀ b ∈ y.nm, ids' b = ids b) → CR ids' xs vs
  | [], [], _, _ => trivial
  | x :: xs, v :: vs, h, e => ⟨h.1.congr (e x (by simp)), CR.congr h.2 fun y hy => e y (by simp [hy])⟩
  | [], _ :: _, h, _ => h.elim
  | _ :: _, [], h, _ => h.elim
theorem Val.R.congr {ids ids' : Ids} {x : Val} {v : Value} (h : x.R ids v) (e : ∀ b ∈ x.nm, ids' b = ids b) : x.R ids' v := by
  cases x with
  | sv x => exact SV.R.congr h e
  | agg l =>
    obtain ⟨cs, h1, h2, h3⟩ := h
    exact ⟨cs, h1, h2, h3.congr fun y hy b hb => e b (cellsL_nm l y hy b hb)⟩
theorem VsR.congr {ids ids' : Ids} : ∀ {xs : List Val} {vs : List Value}, VsR ids xs vs → (∀ b ∈ xs.flatMap Val.nm, ids' b = ids b) → VsR ids' xs vs
  | [], [], _, _ => trivial
  | x :: xs, v :: vs, h, e => ⟨Val.R.congr h.1 fun b hb => e b (by simp [hb]), VsR.congr h.2 fun b hb => e b (by
      simp only [List.flatMap_cons, List.mem_append]; exact .inr hb)⟩
  | [], _ :: _, h, _ => h.elim
  | _ :: _, [], h, _ => h.elim
theorem TV.R.congr {ids ids' : Ids} {x : TV} {v : Value} (h : x.R ids v) (e : ∀ b ∈ x.nm, ids' b = ids b) : x.R ids' v := by
  cases x with
  | vl x => exact Val.R.congr h e
  | tup l => obtain ⟨vs, h1, h2⟩ := h; exact ⟨vs, h1, h2.congr e⟩
abbrev Blk := Bool × List Seg      -- may it be written?
structure St where
  T : Nat → TV
  H : Nat → Option Blk
  n : Nat
structure Eff where
  val : TV
  rd : List Nat
  out : List (Nat × Blk)
def outAt : List (Nat × Blk) → Nat → Option Blk
  | [], _ => none
  | (c, B) :: r, b => cond (Nat.beq b c) (some B) (outAt r b)
def updH (H : Nat → Option Blk) : List (Nat × Blk) → Nat → Option Blk
  | [] => H
  | p :: out => fun b => match outAt (p :: out) b with
    | some x => some x
    | none => H b
def St.appH (st : St) (f : Eff) : St := { st with H := updH st.H f.out }
def putT (T : Nat → TV) (d : Option Nat) (x : TV) : Nat → TV :=
  match d with
  | none => T
  | some d => fun t => cond (Nat.beq t d) x (T t)
def St.app (st : St) (d : Option Nat) (f : Eff) : St := { st.appH f with T := putT st.T d f.val }
structure Keeps (w0 w : World) (S : List Nat) : Prop where
  os : w.os = w0.os
  tape : w.tape = w0.tape
  output : w.output = w0.output
  size : w0.heap.size ≤ w.heap.size
  block : ∀ k, k < w0.heap.size → k ∉ S → w.heap[k]? = w0.heap[k]?
def Lv : List Seg → Prop
  | [] => False
  | [.gro _ l] => l ≠ []
  | [.rws ..] => False
  | _ => True
def aggR (E : EK) (x : E.T) (v : Value) : Prop := ∃ cs : Array Value, v = .agg cs ∧ CR (fun _ => (0, 0, 0, 0)) (E.enc x) cs.toList
def entsR (K V : EK) : List (K.T × V.T) → List MapEntry → Prop
  | [], [] => True
  | p :: l, e :: es => aggR K p.1 e.key ∧ aggR V p.2 e.val ∧ entsR K V l es
  | _, _ => False
def GroR (g : Nat × Nat × Nat × Nat) (w : World) (wr : Bool) : List Seg → Prop
  | [.mp K V l] => ∃ es clk, w.heap[g.1]? = some (.map es clk) ∧ entsR K V l es.toList
  | [.gro E l] => g.2.2.1 = l.length ∧ (wr = true → l ≠ [] → ∀ j, l.length * E.s ≤ j → j < g.2.2.2 * E.s → (∃ u, w.cell? ⟨g.1, g.2.1 + j, none⟩ = some u) ∧ w.frozen? ⟨g.1, g.2.1 + j, none⟩ = false)
  | _ => True
def BlkR (ids : Ids) (w : World) (b : Nat) (B : Blk) : Prop :=
  oksL B.2 ∧ GroR (ids b) w B.1 B.2 ∧ (Lv B.2 → (ids b).1 < w.heap.size) ∧
  ∀ j x, (cellsL B.2)[j]? = some x → ∃ v, w.cell? ⟨(ids b).1, (ids b).2.1 + j, none⟩ = some v ∧ x.R ids v ∧
    (B.1 = true → w.frozen? ⟨(ids b).1, (ids b).2.1 + j, none⟩ = false)
def rowObj : Option Value → List Nat
  | some (.slice (some a) (_ + 1) _) => [a.block]
  | _ => []
def isHole (h : Option (Nat × Nat)) (j : Nat) : Bool := match h with | some p => Nat.beq p.1 j | none => false
def footR (w : World) (p : Nat × Nat × Nat × Nat) (h : Option (Nat × Nat)) : Nat → List Nat
  | 0 => []
  | j + 1 => footR w p h j ++ cond (isHole h j) [] (rowObj (w.cell? ⟨p.1, p.2.1 + j, none⟩))
def foot (w : World) (p : Nat × Nat × Nat × Nat) : List Seg → List Nat
  | [.rws E ll h] => p.1 :: footR w p h ll.length
  | _ => []
def RowR (w : World) (E : EK) (l : List E.T) (v : Value) : Prop := ∃ p : Nat × Nat × Nat × Nat, BlkR (fun _ => p) w 0 (true, [.gro E l]) ∧ (SV.gsl 0 E.s).R (fun _ => p) v
def RwsR (ids : Ids) (w : World) (b : Nat) : List Seg → Prop
  | [.rws E ll h] => (ids b).1 < w.heap.size ∧ (foot w (ids b) [.rws E ll h]).Nodup ∧
    ∀ j l, ll[j]? = some l → ∃ v, w.cell? ⟨(ids b).1, (ids b).2.1 + j, none⟩ = some v ∧ w.frozen? ⟨(ids b).1, (ids b).2.1 + j, none⟩ = false ∧
      (match h with
       | some p => cond (Nat.beq p.1 j) ((SV.gsl p.2 E.s).R ids v) (RowR w E l v)
       | none => RowR w E l v)
  | _ => True
def noRws : List Seg → Bool
  | [.rws _ _ _] => false
  | _ => true
structure Hid (w0 : World) (S : List Nat) (ids : Ids) (H : Nat → Option Blk) (w : World) : Prop where
  fl : ∀ b B, H b = some B → noRws B.2 = false → B.1 = true
  rel : ∀ b B, H b = some B → RwsR ids w b B.2
  own : ∀ b B, H b = some B → ∀ g ∈ foot w (ids b) B.2, g ∈ S ∨ w0.heap.size ≤ g
  sepL : ∀ b c B C, H b = some B → H c = some C → Lv C.2 → (ids c).1 ∉ foot w (ids b) B.2
  sepH : ∀ b c B C, H b = some B → H c = some C → b ≠ c → ∀ g ∈ foot w (ids b) B.2, g ∉ foot w (ids c) C.2
def pow10L : List Int := [1, 10, 100, 1000, 10000, 100000, 1000000, 10000000, 100000000, 1000000000, 10000000000, 100000000000, 1000000000000, 10000000000000, 100000000000000, 1000000000000000, 10000000000000000, 100000000000000000, 1000000000000000000, 10000000000000000000]
def globs : List (Nat × IntKind × List Int) := [(1, .u64, pow10L)]
def globI : List Nat := [2, 3]
def GlobOk (w0 : World) (S : List Nat) : Prop := (∀ p ∈ globs, p.1 ∉ S ∧ p.1 < w0.heap.size ∧ ∀ j x, p.2.2[j]? = some x → w0.cell? ⟨p.1, j, none⟩ = some (.int p.2.1 x)) ∧
  ∀ g ∈ globI, g ∉ S ∧ g < w0.heap.size ∧ ∃ t v, w0.cell? ⟨g, 0, none⟩ = some (.iface t v)
structure Rep (w0 : World) (S : List Nat) (nb : Nat) (idb : Ids) (ids : Ids) (st : St) (a : Act) (w : World) : Prop where
  keeps : Keeps w0 w S
  size : a.tmps.size = st.n
  defers : a.defers = []
  tmps : ∀ t, (st.T t).R ids (a.tmps.getD t undef)
  bor : ∀ i, i < nb → ids i = idb i
  blk : ∀ b B, st.H b = some B → BlkR ids w b B
  sep : ∀ b c B C, st.H b = some (true, B) → st.H c = some C → b ≠ c → Lv B → Lv C.2 → (ids b).1 ≠ (ids c).1
  own : ∀ b B, st.H b = some (true, B) → Lv B → (ids b).1 ∈ S ∨ (nb ≤ b ∧ w0.heap.size ≤ (ids b).1)
  clT : ∀ t, ∀ b ∈ (st.T t).nm, (st.H b).isSome = true
  clH : ∀ c B, st.H c = some B → ∀ b ∈ nmL B.2, (st.H b).isSome = true
  limg : nb ≤ 1000 ∧ GlobOk w0 S
  hid : Hid w0 S ids st.H w
theorem Rep.lim {w0 : World} {S : List Nat} {nb : Nat} {idb ids : Ids} {st : St} {a : Act} {w : World} (h : Rep w0 S nb idb ids st a w) : nb ≤ 1000 := h.limg.1
def RepSt (w0 : World) (S : List Nat) (nb : Nat) (idb : Ids) (st : St) (a : Act) (w : World) : Prop := ∃ ids, Rep w0 S nb idb ids st a w
theorem foot_of {w : World} {p : Nat × Nat × Nat × Nat} {B : List Seg} {g : Nat} (h : g ∈ foot w p B) : ∃ E ll hh, B = [.rws E ll hh] := by
  unfold foot at h
  split at h
  · exact ⟨_, _, _, rfl⟩
  · cases h
theorem footR_congr {w w' : World} {p : Nat × Nat × Nat × Nat} {h : Option (Nat × Nat)} : ∀ {n : Nat}, (∀ j, j < n → isHole h j = false → w'.cell? ⟨p.1, p.2.1 + j, none⟩ = w.cell? ⟨p.1, p.2.1 + j, none⟩) → footR w' p h n = footR w p h n
  | 0, _ => rfl
  | n + 1, e => by
    simp only [footR]
    rw [footR_congr fun j hj => e j (by omega)]
    cases hh : isHole h n with
    | true => rfl
    | false => simp only [cond_false]; rw [e n (by omega) hh]
theorem foot_congr {w w' : World} {p : Nat × Nat × Nat × Nat} {B : List Seg} (h : p.1 ∈ foot w p B → w'.heap[p.1]? = w.heap[p.1]?) : foot w' p B = foot w p B := by
  unfold foot at *
  split
  · have h1 := h (by simp)
    rw [footR_congr fun j _ _ => World.cell?_of_block (w := w) h1]
  · rfl
theorem footR_mem {w : World} {p : Nat × Nat × Nat × Nat} {h : Option (Nat × Nat)} {g : Nat} : ∀ {n : Nat}, g ∈ footR w p h n ↔ ∃ j, j < n ∧ isHole h j = false ∧ g ∈ rowObj (w.cell? ⟨p.1, p.2.1 + j, none⟩)
  | 0 => by simp [footR]
  | n + 1 => by
    simp only [footR, List.mem_append, footR_mem (n := n)]
    constructor
    · rintro (⟨j, h1, h2⟩ | h1)
      · exact ⟨j, by omega, h2⟩
      · cases hh : isHole h n with
        | true => rw [hh] at h1; cases h1
        | false => rw [hh] at h1; exact ⟨n, by omega, hh, h1⟩
    · rintro ⟨j, h1, h2, h3⟩
      rcases Nat.lt_or_ge j n with h4 | h4
      · exact .inl ⟨j, h4, h2, h3⟩
      · right
        obtain rfl : j = n := by omega
        rw [h2]; exact h3
theorem BlkR.at {ids ids' : Ids} {w : World} {b c : Nat} {B : Blk} (h : BlkR ids w b B) (hn : nmL B.2 = []) (hp : ids' c = ids b) : BlkR ids' w c B := by
  obtain ⟨h1, h2, h3, h4⟩ := h
  refine ⟨h1, by rw [hp]; exact h2, by rw [hp]; exact h3, fun j x hx => ?_⟩
  obtain ⟨v, v1, v2, v3⟩ := h4 j x hx
  rw [hp]
  exact ⟨v, v1, v2.congr (fun c hc => by
    have := cellsL_nm B.2 x (List.mem_of_getElem? hx) c hc
    rw [hn] at this; cases this), v3⟩
theorem gsl_obj {ids : Ids} {b s : Nat} {v : Value} (h : (SV.gsl b s).R ids v) : rowObj (some v) = cond (Nat.beq (ids b).2.2.1 0) [] [(ids b).1] := by
  rcases h with ⟨h1, a, rfl⟩ | ⟨h1, rfl⟩
  · rw [h1]; cases a <;> rfl
  · obtain ⟨n, hn⟩ : ∃ n, (ids b).2.2.1 = n + 1 := ⟨(ids b).2.2.1 - 1, by omega⟩
    rw [hn]; rfl
theorem RowR.obj {w : World} {E : EK} {l : List E.T} {v : Value} (h : RowR w E l v) : ∀ g ∈ rowObj (some v), l ≠ [] ∧ g < w.heap.size := by
  obtain ⟨p, hb, hv⟩ := h
  intro g hg
  rw [gsl_obj hv] at hg
  obtain ⟨_, ⟨q1, _⟩, q2, _⟩ := hb
  dsimp only at q1 q2
  have hl : l ≠ [] := by
    rintro rfl
    rw [q1] at hg; cases hg
  refine ⟨hl, ?_⟩
  have := q2 hl
  rw [show Nat.beq p.2.2.1 0 = false by rw [q1]; cases l <;> first | exact absurd rfl hl | rfl] at hg
  simp only [cond_false, List.mem_singleton] at hg
  rw [hg]; exact this
theorem RwsR.lt {ids : Ids} {w : World} {b : Nat} {B : List Seg} (h : RwsR ids w b B) : ∀ g ∈ foot w (ids b) B, g < w.heap.size := by
  intro g hg
  obtain ⟨E, ll, hh, rfl⟩ := foot_of hg
  obtain ⟨h1, _, h3⟩ := h
  simp only [foot, List.mem_cons, footR_mem] at hg
  rcases hg with rfl | ⟨j, hj, hno, hg⟩
  · exact h1
  · obtain ⟨v, v1, v2, v3⟩ := h3 j _ (List.getElem?_eq_getElem hj)
    rw [v1] at hg
    have hrow : RowR w E ll[j] v := by
      cases hh with
      | none => exact v3
      | some p =>
        simp only [isHole] at hno
        simp only [hno, cond_false] at v3
        exact v3
    exact (hrow.obj g hg).2
theorem updH_eq (H : Nat → Option Blk) (out : List (Nat × Blk)) (b : Nat) : updH H out b = (outAt out b).or (H b) := by
  cases out with
  | nil => simp [updH, outAt]
  | cons p r => simp only [updH]; cases outAt (p :: r) b <;> rfl
theorem outAt_none {out : List (Nat × Blk)} {b : Nat} (h : b ∉ out.map (·.1)) : outAt out b = none := by
  induction out with
  | nil => rfl
  | cons p r ih =>
    obtain ⟨c, B⟩ := p
    simp only [List.map_cons, List.mem_cons, not_or] at h
    simp only [outAt]
    have : Nat.beq b c = false := by
      cases hb : Nat.beq b c with
      | false => rfl
      | true => exact absurd (Nat.eq_of_beq_eq_true hb) h.1
    rw [this]; exact ih h.2
theorem outAt_mem {out : List (Nat × Blk)} {b : Nat} {B : Blk} (h : outAt out b = some B) : b ∈ out.map (·.1) := by
  by_cases hm : b ∈ out.map (·.1)
  · exact hm
  · rw [outAt_none hm] at h; cases h
theorem updH_other {H : Nat → Option Blk} {out : List (Nat × Blk)} {b : Nat} (h : b ∉ out.map (·.1)) : updH H out b = H b := by
  rw [updH_eq, outAt_none h]; rfl
theorem putT_other {T : Nat → TV} {d : Option Nat} {x : TV} {t : Nat} (h : d ≠ some t) : putT T d x t = T t := by
  cases d with
  | none => rfl
  | some d =>
    simp only [putT]
    have : Nat.beq t d = false := by
      cases hb : Nat.beq t d with
      | false => rfl
      | true => exact absurd (by rw [Nat.eq_of_beq_eq_true hb]) h
    rw [this]; rfl
theorem putT_same {T : Nat → TV} {d : Nat} {x : TV} : putT T (some d) x d = x := by
  simp [putT, Nat.beq_refl]
theorem Rep.put {w0 : World} {S : List Nat} {nb : Nat} {idb ids : Ids} {st : St} {a : Act} {w : World} {f : Eff} {v : Value} {d : Option Nat}
    (h : Rep w0 S nb idb ids (st.appH f) a w) (hv : f.val.R ids v) (hn : ∀ b ∈ f.val.nm, ((st.appH f).H b).isSome = true) (hd : ∀ t, d = some t → t < st.n) :
    Rep w0 S nb idb ids (st.app d f) (a.put d v) w := by
  cases d with
  | none => exact ⟨h.keeps, h.size, h.defers, h.tmps, h.bor, h.blk, h.sep, h.own, h.clT, h.clH, h.limg, h.hid⟩
  | some d =>
    have hd' : d < a.tmps.size := by have h1 := h.size; have h2 := hd d rfl; simp only [St.appH] at h1; omega
    refine ⟨h.keeps, ?_, h.defers, fun t => ?_, h.bor, h.blk, h.sep, h.own, fun t => ?_, h.clH, h.limg, h.hid⟩
    · have h1 := h.size
      simp only [Act.put, Array.size_setIfInBounds]; exact h1
    · by_cases ht : t = d
      · subst ht
        show (putT st.T (some t) f.val t).R ids _
        rw [putT_same]
        have : (a.put (some t) v).tmps.getD t undef = v := by simp [Act.put, hd']
        rw [this]; exact hv
      · show (putT st.T (some d) f.val t).R ids _
        rw [putT_other (by simpa using fun e => ht e.symm)]
        have : (a.put (some d) v).tmps.getD t undef = a.tmps.getD t undef := by
          simp [Act.put, Array.getElem?_setIfInBounds_ne (fun e => ht e.symm : d ≠ t)]
        rw [this]; exact h.tmps t
    · by_cases ht : t = d
      · subst ht
        show ∀ b ∈ (putT st.T (some t) f.val t).nm, _
        rw [putT_same]; exact hn
      · show ∀ b ∈ (putT st.T (some d) f.val t).nm, _
        rw [putT_other (by simpa using fun e => ht e.symm)]
        exact h.clT t
theorem cells_gro (E : EK) (l : List E.T) : cellsL [.gro E l] = l.flatMap E.enc := by simp [cellsL, Seg.cells]
theorem lv_of_ne {B : List Seg} (h : cellsL B ≠ []) : Lv B := by
  unfold Lv
  split
  · exact h rfl
  · rintro rfl; exact h rfl
  · exact h rfl
  · trivial
theorem lv_of_get {B : List Seg} {j : Nat} {x : SV} (h : (cellsL B)[j]? = some x) : Lv B := lv_of_ne (by intro e; rw [e] at h; simp at h)
theorem GroR.congr {g : Nat × Nat × Nat × Nat} {w w' : World} {wr : Bool} {B : List Seg} (h : GroR g w wr B) (hblk : Lv B → w'.heap[g.1]? = w.heap[g.1]?) : GroR g w' wr B := by
  unfold GroR at *
  split at h
  · obtain ⟨es, clk, h1, h2⟩ := h
    exact ⟨es, clk, (hblk trivial).trans h1, h2⟩
  · rename_i E l
    refine ⟨h.1, fun hw hne j h1 h2 => ?_⟩
    have hq := hblk hne
    obtain ⟨⟨u, hu⟩, hf⟩ := h.2 hw hne j h1 h2
    exact ⟨⟨u, (World.cell?_of_block (w := w) hq).trans hu⟩, (World.frozen?_of_block (w := w) hq).trans hf⟩
  · trivial
theorem GroR.weak {g : Nat × Nat × Nat × Nat} {w : World} {wr wr' : Bool} {B : List Seg} (h : GroR g w wr B) (hw : wr' = true → wr = true) : GroR g w wr' B := by
  unfold GroR at *
  split at h
  · exact h
  · exact ⟨h.1, fun hx => h.2 (hw hx)⟩
  · trivial
def noGro : List Seg → Bool
  | [.gro _ _] => false
  | [.mp _ _ _] => false
  | [.rws _ _ _] => false
  | _ => true
theorem GroR.of_no {g : Nat × Nat × Nat × Nat} {w : World} {wr : Bool} {B : List Seg} (h : noGro B = true) : GroR g w wr B := by
  unfold GroR
  split
  · cases h
  · cases h
  · trivial
theorem foot_no {w : World} {p : Nat × Nat × Nat × Nat} {B : List Seg} (h : noRws B = true) : foot w p B = [] := by
  unfold foot
  split
  · cases h
  · rfl
theorem RwsR.of_no {ids : Ids} {w : World} {b : Nat} {B : List Seg} (h : noRws B = true) : RwsR ids w b B := by
  unfold RwsR
  split
  · cases h
  · trivial
theorem noRws_of {B : List Seg} (h : noGro B = true) : noRws B = true := by
  unfold noRws
  split
  · cases h
  · rfl
theorem BlkR.congr {ids ids' : Ids} {w w' : World} {b : Nat} {B : Blk} (h : BlkR ids w b B) (hb : ids' b = ids b) (hn : ∀ c ∈ nmL B.2, ids' c = ids c)
    (hsz : w.heap.size ≤ w'.heap.size) (hblk : Lv B.2 → w'.heap[(ids b).1]? = w.heap[(ids b).1]?) : BlkR ids' w' b B := by
  obtain ⟨h1, hg, h2, h3⟩ := h
  refine ⟨h1, by rw [hb]; exact hg.congr hblk, by rw [hb]; exact fun hne => Nat.lt_of_lt_of_le (h2 hne) hsz, fun j x hx => ?_⟩
  obtain ⟨v, h4, h5, h6⟩ := h3 j x hx
  replace hblk := hblk (lv_of_get hx)
  rw [hb]
  refine ⟨v, ?_, h5.congr fun c hc => hn c (cellsL_nm _ x (List.mem_of_getElem? hx) c hc), fun hB => ?_⟩
  · rw [← h4]; exact World.cell?_of_block (w := w) hblk
  · rw [← h6 hB]; exact World.frozen?_of_block (w := w) hblk
theorem RowR.congr {w w' : World} {E : EK} {l : List E.T} {v : Value} (h : RowR w E l v) (hsz : w.heap.size ≤ w'.heap.size) (hblk : ∀ g ∈ rowObj (some v), w'.heap[g]? = w.heap[g]?) : RowR w' E l v := by
  obtain ⟨p, hb, hv⟩ := h
  refine ⟨p, hb.congr rfl (fun _ _ => rfl) hsz fun hl => hblk _ ?_, hv⟩
  rw [gsl_obj hv]
  have q1 := hb.2.1.1
  dsimp only at q1
  rw [show Nat.beq p.2.2.1 0 = false by
    have hl' : l ≠ [] := hl
    rw [q1]; cases l <;> first | exact absurd rfl hl' | rfl]
  simp
theorem RwsR.congr {ids ids' : Ids} {w w' : World} {b : Nat} {B : List Seg} (h : RwsR ids w b B) (hb : ids' b = ids b) (hn : ∀ c ∈ nmL B, ids' c = ids c)
    (hsz : w.heap.size ≤ w'.heap.size) (hblk : ∀ g ∈ foot w (ids b) B, w'.heap[g]? = w.heap[g]?) : RwsR ids' w' b B := by
  unfold RwsR at *
  split at h
  · rename_i E ll hh
    obtain ⟨h1, h2, h3⟩ := h
    have hg : w'.heap[(ids b).1]? = w.heap[(ids b).1]? := hblk _ (by simp [foot])
    have hc : ∀ j, w'.cell? ⟨(ids b).1, j, none⟩ = w.cell? ⟨(ids b).1, j, none⟩ := fun j => World.cell?_of_block (w := w) hg
    refine ⟨by rw [hb]; omega, by rw [hb, foot_congr fun _ => hg]; exact h2, fun j l hl => ?_⟩
    obtain ⟨v, v1, v2, v3⟩ := h3 j l hl
    refine ⟨v, by rw [hb, hc]; exact v1, by rw [hb, World.frozen?_of_block (w := w) hg]; exact v2, ?_⟩
    have hrow : isHole hh j = false → RowR w E l v → RowR w' E l v := fun hno hr => hr.congr hsz fun g hg' => hblk g (by
      simp only [foot, List.mem_cons, footR_mem]
      exact .inr ⟨j, (List.getElem?_eq_some_iff.1 hl).1, hno, by rw [v1]; exact hg'⟩)
    cases hh with
    | none => exact hrow rfl v3
    | some q =>
      simp only at v3 ⊢
      cases hq : Nat.beq q.1 j with
      | true =>
        rw [hq] at v3
        simp only [cond_true] at v3 ⊢
        exact SV.R.congr v3 fun c hc => hn c (by
          simp only [SV.nm, List.mem_singleton] at hc; subst hc
          simp [nmL, Seg.nm])
      | false =>
        rw [hq] at v3
        simp only [cond_false] at v3 ⊢
        exact hrow hq v3
  · trivial
theorem Hid.upd {w0 : World} {S : List Nat} {ids ids' : Ids} {H H' : Nat → Option Blk} {w w' : World} (h : Hid w0 S ids H w) (hsz : w.heap.size ≤ w'.heap.size)
    (hcase : ∀ b B, H' b = some B → (H b = some B ∧ ids' b = ids b ∧ (∀ c ∈ nmL B.2, ids' c = ids c)) ∨
      (noRws B.2 = true ∧ (Lv B.2 → ∀ e E, e ≠ b → H e = some E → (ids' b).1 ∉ foot w (ids e) E.2)))
    (hw : ∀ e E, H e = some E → ∀ g ∈ foot w (ids e) E.2, w'.heap[g]? = w.heap[g]?) : Hid w0 S ids' H' w' := by
  have hfoot : ∀ b B, H b = some B → ids' b = ids b → foot w' (ids' b) B.2 = foot w (ids b) B.2 := fun b B hb hi => by
    rw [hi]; exact foot_congr fun hm => hw b B hb _ hm
  refine ⟨fun b B hb hr => ?_, fun b B hb => ?_, fun b B hb g hg => ?_, fun b c B C hb hc lc hg => ?_, fun b c B C hb hc hne g hg => ?_⟩
  · rcases hcase b B hb with ⟨h1, h2, h3⟩ | ⟨h1, _⟩
    · exact h.fl b B h1 hr
    · rw [h1] at hr; cases hr
  · rcases hcase b B hb with ⟨h1, h2, h3⟩ | ⟨h1, _⟩
    · exact (h.rel b B h1).congr h2 h3 hsz (hw b B h1)
    · exact .of_no h1
  · rcases hcase b _ hb with ⟨h1, h2, h3⟩ | ⟨h1, _⟩
    · rw [hfoot b _ h1 h2] at hg; exact h.own b B h1 g hg
    · rw [foot_no h1] at hg; cases hg
  · rcases hcase b B hb with ⟨h1, h2, h3⟩ | ⟨h1, _⟩
    · rw [hfoot b _ h1 h2] at hg
      rcases hcase c C hc with ⟨g1, g2, g3⟩ | ⟨g1, g2⟩
      · rw [g2] at hg; exact h.sepL b c B C h1 g1 lc hg
      · refine g2 lc b B ?_ h1 hg
        rintro rfl
        rw [hb] at hc; cases hc
        rw [foot_no g1] at hg; cases hg
    · rw [foot_no h1] at hg; cases hg
  · rcases hcase b B hb with ⟨h1, h2, h3⟩ | ⟨h1, _⟩
    · rcases hcase c C hc with ⟨g1, g2, g3⟩ | ⟨g1, g2⟩
      · rw [hfoot c _ g1 g2]; rw [hfoot b _ h1 h2] at hg
        exact h.sepH b c B C h1 g1 hne g hg
      · rw [foot_no g1]; simp
    · rw [foot_no h1] at hg; cases hg
end Go.Proofs.YtlmmgjngihlpeaaDoor.Sx
