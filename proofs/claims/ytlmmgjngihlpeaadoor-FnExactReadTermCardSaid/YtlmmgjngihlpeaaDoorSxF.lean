/- A symbolic evaluator for the machine's code, part F: tables; reading and writing runs of cells. Our own work. -/
import Derived.Test.YtlmmgjngihlpeaaDoorSxFe
namespace Go.Proofs.YtlmmgjngihlpeaaDoor.Sx
open Go
set_option linter.unusedVariables false
set_option linter.unusedSimpArgs false
variable {P : Program}
structure Tab where
  agg : List (Nat × Nat)                  -- structs and arrays: how many cells
  sca : List Nat                          -- types of one cell that are none of these
  zero : List (Nat × List Seg)            -- zero values
  fld : List (Nat × List (Nat × Nat))     -- structs: offsets and sizes of fields
  arr : List (Nat × Nat × Nat)            -- arrays: length, cells of an element
  sli : List (Nat × Nat × Nat)            -- slices: the element's type, its cells
  knd : List (Nat × IntKind)              -- whole numbers
  str : List Nat                          -- strings
  bol : List Nat                          -- bools
  eqt : List (Nat × List CK)              -- structs and arrays that are compared: the kinds of their cells
  aix : List (Nat × Nat × Nat)            -- arrays whose elements have one cell: length, the element's type
  mps : List (Nat × (Nat × Nat × List IntKind × EK)) := []   -- maps: the key's and the element's type, what they are
  rws : List (Nat × EK) := []                     -- slices of slices: what the elements' elements are
  ngs : List (Nat × (Nat × EK)) := []             -- structs one of whose fields is a slice that begins as nil and grows
  flt : List (Nat × List Nat) := []               -- structs: the types of fields
  ifc : List Nat := []                            -- interfaces
def alook {β : Type _} : List (Nat × β) → Nat → Option β
  | [], _ => none
  | (k, v) :: r, t => cond (Nat.beq t k) (some v) (alook r t)
def has (l : List Nat) (t : Nat) : Bool := l.any fun k => Nat.beq t k
theorem alook_mem {β : Type _} {l : List (Nat × β)} {t : Nat} {v : β} (h : alook l t = some v) : (t, v) ∈ l := by
  induction l with
  | nil => simp [alook] at h
  | cons p r ih =>
    obtain ⟨k, u⟩ := p
    simp only [alook] at h
    cases hb : Nat.beq t k with
    | true => rw [hb] at h; obtain rfl := Option.some.inj h; rw [Nat.eq_of_beq_eq_true hb]; simp
    | false => rw [hb] at h; simp [ih h]
theorem has_mem {l : List Nat} {t : Nat} (h : has l t = true) : t ∈ l := by
  simp only [has, List.any_eq_true] at h
  obtain ⟨k, hk, hb⟩ := h
  rwa [Nat.eq_of_beq_eq_true hb]
def isAggD : TypeDesc → Bool
  | .struct _ => true
  | .array _ _ => true
  | _ => false
def zeq : SV → Value → Bool
  | .bool b, .bool c => b == c
  | .int k n, .int j m => decide (k = j) && decide (n = m)
  | .str s, .string u => s.size == 0 && u.size == 0
  | .nilp, .pointer none => true
  | .nils, .slice none 0 0 => true
  | .unk, .map none => true
  | .unk, .nilFunc => true
  | .unk, .nilIface => true
  | _, _ => false
def zeqL : List SV → List Value → Bool
  | [], [] => true
  | x :: xs, v :: vs => zeq x v && zeqL xs vs
  | _, _ => false
def segOkB : Seg → Bool
  | .one _ => true
  | .seq _ n l => Nat.beq l.length n
  | _ => false
theorem zeq_R {ids : Ids} {x : SV} {v : Value} (h : zeq x v = true) : x.R ids v := by
  unfold zeq at h
  split at h <;> first | (simp_all [SV.R]; done) | skip
theorem zeqL_R {ids : Ids} : ∀ {xs : List SV} {vs : List Value}, zeqL xs vs = true → CR ids xs vs
  | [], [], _ => trivial
  | x :: xs, v :: vs, h => by simp only [zeqL, Bool.and_eq_true] at h; exact ⟨zeq_R h.1, zeqL_R h.2⟩
  | [], _ :: _, h => by simp [zeqL] at h
  | _ :: _, [], h => by simp [zeqL] at h
theorem zeq_nm {x : SV} {v : Value} (h : zeq x v = true) : x.nm = [] := by
  unfold zeq at h
  split at h <;> first | rfl | simp_all
theorem zeqL_nm : ∀ {xs : List SV} {vs : List Value}, zeqL xs vs = true → ∀ x ∈ xs, x.nm = []
  | [], _, _, x, hx => by cases hx
  | y :: xs, v :: vs, h, x, hx => by
    simp only [zeqL, Bool.and_eq_true] at h
    rcases List.mem_cons.1 hx with rfl | hx
    · exact zeq_nm h.1
    · exact zeqL_nm h.2 x hx
  | _ :: _, [], h, x, hx => by simp [zeqL] at h
theorem segOk_of {s : Seg} (h : segOkB s = true) : s.ok := by
  cases s with
  | one x => trivial
  | seq E n l => exact Nat.eq_of_beq_eq_true h
  | _ => trivial
def aggB (P : Program) (p : Nat × Nat) : Bool :=
  (match P.underlying p.1 with | some d => isAggD d | none => false) && (match P.info? p.1 with | some i => Nat.beq i.size p.2 | none => false)
def scaB (P : Program) (t : Nat) : Bool :=
  (match P.underlying t with | some d => !(isAggD d) | none => false) && (match P.info? t with | some i => Nat.beq i.size 1 | none => false)
def zeroB (P : Program) (p : Nat × List Seg) : Bool :=
  (match P.info? p.1 with | some i => (match i.zero with | some v => zeqL (cellsL p.2) v.cells.toList | none => false) | none => false) && p.2.all segOkB
def fldOne (P : Program) (f : Field) (q : Nat × Nat) : Bool :=
  Nat.beq f.offset q.1 && (match P.info? f.type with | some i => Nat.beq i.size q.2 | none => false) && !(Nat.beq q.2 0)
def fldAll (P : Program) : List Field → List (Nat × Nat) → Bool
  | [], [] => true
  | f :: fs, q :: qs => fldOne P f q && fldAll P fs qs
  | _, _ => false
def fldB (P : Program) (p : Nat × List (Nat × Nat)) : Bool :=
  match P.underlying p.1 with
  | some (.struct fs) => fldAll P fs.toList p.2
  | _ => false
def arrB (P : Program) (p : Nat × Nat × Nat) : Bool :=
  match P.underlying p.1 with
  | some (.array n e) => Nat.beq n p.2.1 && (match P.info? e with | some i => Nat.beq i.size p.2.2 | none => false) && Nat.blt 1 n && !(Nat.beq p.2.2 0)
  | _ => false
def sliB (P : Program) (p : Nat × Nat × Nat) : Bool :=
  match P.underlying p.1 with
  | some (.slice e) => Nat.beq e p.2.1 && (match P.info? e with | some i => Nat.beq i.size p.2.2 && (Nat.ble i.bytes 1048576 && (Nat.blt 0 p.2.2 && (match i.zero with | some z => Nat.beq z.cells.size p.2.2 | none => false))) | none => false)
  | _ => false
def kndB (P : Program) (p : Nat × IntKind) : Bool :=
  match P.underlying p.1 with
  | some (.int k) => decide (k = p.2)
  | _ => false
def strB (P : Program) (t : Nat) : Bool :=
  match P.underlying t with
  | some .string => true
  | _ => false
def bolB (P : Program) (t : Nat) : Bool :=
  match P.underlying t with
  | some .bool => true
  | _ => false
def eqtB (P : Program) (p : Nat × List CK) : Bool := flatB P 8 p.1 p.2 && (isAggT P p.1 && !(P.eqGuardType P.depth p.1))
def aixB (P : Program) (p : Nat × Nat × Nat) : Bool :=
  match P.underlying p.1 with
  | some (.array n e) => Nat.beq n p.2.1 && (Nat.beq e p.2.2 && scaB P e)
  | _ => false
def keyFlds (P : Program) (n : Nat) (fs : List Field) : Bool := fs.all fun f => (match P.underlying f.type with | some (.int _) => true | _ => false) && Nat.blt f.offset n
def mpsB (P : Program) (p : Nat × (Nat × Nat × List IntKind × EK)) : Bool :=
  (match P.underlying p.1 with | some (.map kt vt) => Nat.beq kt p.2.1 && Nat.beq vt p.2.2.1 | _ => false) &&
  (flatB P 8 p.2.1 (p.2.2.2.1.map CK.int) && (isAggT P p.2.1 &&
  ((match P.underlying p.2.1 with | some (.struct fs) => keyFlds P p.2.2.2.1.length fs.toList | _ => false) &&
   (match P.info? p.2.2.1 with | some i => (match i.zero with | some (.agg cs) => zeqL (p.2.2.2.2.enc p.2.2.2.2.d) cs.toList | _ => false) | none => false))))
def fltB (P : Program) (p : Nat × List Nat) : Bool :=
  match P.underlying p.1 with
  | some (.struct fs) => decide (fs.toList.map (fun (f : Field) => f.type) = p.2)
  | _ => false
def ifcB (P : Program) (t : Nat) : Bool :=
  match P.underlying t with
  | some (.interface _) => true
  | _ => false
def tabB (P : Program) (tab : Tab) : Bool :=
  tab.agg.all (aggB P) && (tab.sca.all (scaB P) && (tab.zero.all (zeroB P) && (tab.fld.all (fldB P) && (tab.arr.all (arrB P) && (tab.sli.all (sliB P) && (tab.knd.all (kndB P) && (tab.str.all (strB P) && (tab.bol.all (bolB P) && (tab.eqt.all (eqtB P) && (tab.aix.all (aixB P) && (tab.mps.all (mpsB P) && (tab.flt.all (fltB P) && tab.ifc.all (ifcB P)))))))))))))
structure TabOk (P : Program) (tab : Tab) : Prop where
  agg : ∀ t n, alook tab.agg t = some n → (∃ d, P.underlying t = some d ∧ isAggD d = true) ∧ ∃ i, P.info? t = some i ∧ i.size = n
  sca : ∀ t, has tab.sca t = true → (∃ d, P.underlying t = some d ∧ isAggD d = false) ∧ ∃ i, P.info? t = some i ∧ i.size = 1
  zero : ∀ t B, alook tab.zero t = some B → ∃ i v, P.info? t = some i ∧ i.zero = some v ∧ zeqL (cellsL B) v.cells.toList = true ∧ oksL B
  zeron : ∀ t B, alook tab.zero t = some B → ∀ s ∈ B, segOkB s = true
  fld : ∀ s l, alook tab.fld s = some l → ∃ fs, P.underlying s = some (.struct fs) ∧ ∀ (i : Nat) (q : Nat × Nat), l[i]? = some q → ∃ (f : Field) (j : TypeInfo), fs[i]? = some f ∧ f.offset = q.1 ∧ P.info? f.type = some j ∧ j.size = q.2 ∧ q.2 ≠ 0
  fldn : ∀ s l, alook tab.fld s = some l → ∃ fs, P.underlying s = some (.struct fs) ∧ fs.toList.map (fun (f : Field) => (f.offset, P.cellsOf f.type)) = l
  arr : ∀ t n s, alook tab.arr t = some (n, s) → ∃ e i, P.underlying t = some (.array n e) ∧ P.info? e = some i ∧ i.size = s ∧ 1 < n ∧ s ≠ 0
  sli : ∀ t e s, alook tab.sli t = some (e, s) → ∃ i, P.underlying t = some (.slice e) ∧ P.info? e = some i ∧ i.size = s ∧ i.bytes ≤ 1048576
  sliz : ∀ t e s, alook tab.sli t = some (e, s) → ∃ i z, P.underlying t = some (.slice e) ∧ P.info? e = some i ∧ i.size = s ∧ i.bytes ≤ 1048576 ∧ i.zero = some z ∧ z.cells.size = s ∧ 0 < s
  knd : ∀ t k, alook tab.knd t = some k → P.underlying t = some (.int k)
  str : ∀ t, has tab.str t = true → P.underlying t = some .string
  bol : ∀ t, has tab.bol t = true → P.underlying t = some .bool
  eqt : ∀ t ks, alook tab.eqt t = some ks → flatB P 8 t ks = true ∧ isAggT P t = true ∧ P.eqGuardType P.depth t = false
  mps : ∀ t kt vt ks V, alook tab.mps t = some (kt, vt, ks, V) → P.underlying t = some (.map kt vt) ∧ flatB P 8 kt (ks.map CK.int) = true ∧ isAggT P kt = true ∧
    (∃ fs, P.underlying kt = some (.struct fs) ∧ keyFlds P ks.length fs.toList = true) ∧ ∃ i cs, P.info? vt = some i ∧ i.zero = some (.agg cs) ∧ zeqL (V.enc V.d) cs.toList = true
  flt : ∀ t l, alook tab.flt t = some l → ∃ fs, P.underlying t = some (.struct fs) ∧ fs.toList.map (fun (f : Field) => f.type) = l
  ifc : ∀ t, has tab.ifc t = true → ∃ ms, P.underlying t = some (.interface ms)
  aix : ∀ t n e, alook tab.aix t = some (n, e) → P.underlying t = some (.array n e) ∧ (∃ d, P.underlying e = some d ∧ isAggD d = false) ∧ ∃ i, P.info? e = some i ∧ i.size = 1
theorem fldAll_spec : ∀ {fs : List Field} {l : List (Nat × Nat)}, fldAll P fs l = true → (∀ (i : Nat) (q : Nat × Nat), l[i]? = some q → ∃ (f : Field) (j : TypeInfo), fs[i]? = some f ∧ f.offset = q.1 ∧ P.info? f.type = some j ∧ j.size = q.2 ∧ q.2 ≠ 0) ∧
    fs.map (fun (f : Field) => (f.offset, P.cellsOf f.type)) = l
  | [], [], _ => ⟨fun i q h => by simp at h, rfl⟩
  | f :: fs, q :: qs, h => by
    simp only [fldAll, fldOne, Bool.and_eq_true] at h
    obtain ⟨⟨⟨h1, h2⟩, h3⟩, h4⟩ := h
    cases hi : P.info? f.type with
    | none => simp [hi] at h2
    | some i =>
      simp only [hi] at h2
      have e1 := Nat.eq_of_beq_eq_true h1
      have e2 := Nat.eq_of_beq_eq_true h2
      have e3 : q.2 ≠ 0 := by rintro e; simp [e] at h3
      obtain ⟨g1, g2⟩ := fldAll_spec h4
      refine ⟨fun k p hp => ?_, ?_⟩
      · cases k with
        | zero => simp only [List.getElem?_cons_zero, Option.some.injEq] at hp; subst hp; exact ⟨f, i, rfl, e1, hi, e2, e3⟩
        | succ k => simpa using g1 k p (by simpa using hp)
      · rw [List.map_cons, g2, e1]
        congr 2
        simp [Program.cellsOf, hi, e2]
  | [], _ :: _, h => by simp [fldAll] at h
  | _ :: _, [], h => by simp [fldAll] at h
theorem scaB_spec {t : TypeId} (this : scaB P t = true) : (∃ d, P.underlying t = some d ∧ isAggD d = false) ∧ ∃ i, P.info? t = some i ∧ i.size = 1 := by
  simp only [scaB, Bool.and_eq_true] at this
  obtain ⟨a, b⟩ := this
  cases hu : P.underlying t with
  | none => simp [hu] at a
  | some d =>
    cases hi : P.info? t with
    | none => simp [hi] at b
    | some i => simp only [hu] at a; simp only [hi] at b; exact ⟨⟨d, rfl, by simpa using a⟩, i, rfl, Nat.eq_of_beq_eq_true b⟩
theorem tabOk_of {tab : Tab} (h : tabB P tab = true) : TabOk P tab := by
  simp only [tabB, Bool.and_eq_true, List.all_eq_true] at h
  obtain ⟨h1, h2, h3, h4, h5, h6, h7, h8, h9, h10, h11, h12, h13, h14⟩ := h
  refine ⟨fun t n hl => ?_, fun t hl => ?_, fun t B hl => ?_, fun t B hl s hs => ?_, fun s l hl => ?_, fun s l hl => ?_, fun t n s hl => ?_, fun t e s hl => ?_, fun t e s hl => ?_, fun t k hl => ?_, fun t hl => ?_, fun t hl => ?_, fun t ks hl => ?_, fun t kt vt ks V hl => ?_, fun t l hl => ?_, fun t hl => ?_, fun t n e hl => ?_⟩
  · have := h1 _ (alook_mem hl)
    simp only [aggB, Bool.and_eq_true] at this
    obtain ⟨a, b⟩ := this
    cases hu : P.underlying t with
    | none => simp [hu] at a
    | some d =>
      cases hi : P.info? t with
      | none => simp [hi] at b
      | some i => simp only [hu] at a; simp only [hi] at b; exact ⟨⟨d, rfl, a⟩, i, rfl, Nat.eq_of_beq_eq_true b⟩
  · have := h2 _ (has_mem hl)
    simp only [scaB, Bool.and_eq_true] at this
    obtain ⟨a, b⟩ := this
    cases hu : P.underlying t with
    | none => simp [hu] at a
    | some d =>
      cases hi : P.info? t with
      | none => simp [hi] at b
      | some i => simp only [hu] at a; simp only [hi] at b; exact ⟨⟨d, rfl, by simpa using a⟩, i, rfl, Nat.eq_of_beq_eq_true b⟩
  · have := h3 _ (alook_mem hl)
    simp only [zeroB, Bool.and_eq_true, List.all_eq_true] at this
    obtain ⟨a, b⟩ := this
    cases hi : P.info? t with
    | none => simp [hi] at a
    | some i =>
      simp only [hi] at a
      cases hz : i.zero with
      | none => simp [hz] at a
      | some v => simp only [hz] at a; exact ⟨i, v, rfl, hz, a, fun s hs => segOk_of (b s hs)⟩
  · have := h3 _ (alook_mem hl)
    simp only [zeroB, Bool.and_eq_true, List.all_eq_true] at this
    exact this.2 s hs
  · have := h4 _ (alook_mem hl)
    simp only [fldB] at this
    split at this
    · rename_i fs hu
      exact ⟨fs, hu, fun i q hq => by
        obtain ⟨f, j, g1, g2⟩ := (fldAll_spec this).1 i q hq
        exact ⟨f, j, by simpa using g1, g2⟩⟩
    · cases this
  · have := h4 _ (alook_mem hl)
    simp only [fldB] at this
    split at this
    · rename_i fs hu
      exact ⟨fs, hu, (fldAll_spec this).2⟩
    · cases this
  · have := h5 _ (alook_mem hl)
    simp only [arrB] at this
    split at this
    · rename_i n' e hu
      simp only [Bool.and_eq_true] at this
      obtain ⟨⟨⟨a, b⟩, c⟩, d⟩ := this
      obtain rfl := Nat.eq_of_beq_eq_true a
      cases hi : P.info? e with
      | none => simp [hi] at b
      | some i => simp only [hi] at b; exact ⟨e, i, hu, hi, Nat.eq_of_beq_eq_true b, by simpa using c, by rintro rfl; simp at d⟩
    · cases this
  · have := h6 _ (alook_mem hl)
    simp only [sliB] at this
    split at this
    · rename_i e' hu
      simp only [Bool.and_eq_true] at this
      obtain ⟨a, b⟩ := this
      obtain rfl := Nat.eq_of_beq_eq_true a
      cases hi : P.info? e' with
      | none => simp [hi] at b
      | some i =>
        simp only [hi, Bool.and_eq_true] at b
        exact ⟨i, hu, rfl, Nat.eq_of_beq_eq_true b.1, Nat.le_of_ble_eq_true b.2.1⟩
    · cases this
  · have := h6 _ (alook_mem hl)
    simp only [sliB] at this
    split at this
    · rename_i e' hu
      simp only [Bool.and_eq_true] at this
      obtain ⟨a, b⟩ := this
      obtain rfl := Nat.eq_of_beq_eq_true a
      cases hi : P.info? e' with
      | none => simp [hi] at b
      | some i =>
        simp only [hi, Bool.and_eq_true] at b
        cases hz : i.zero with
        | none => simp [hz] at b
        | some z =>
          simp only [hz] at b
          exact ⟨i, z, hu, rfl, Nat.eq_of_beq_eq_true b.1, Nat.le_of_ble_eq_true b.2.1, hz, Nat.eq_of_beq_eq_true b.2.2.2, by simpa using b.2.2.1⟩
    · cases this
  · have := h7 _ (alook_mem hl)
    simp only [kndB] at this
    split at this
    · rename_i k' hu
      rw [hu, of_decide_eq_true this]
    · cases this
  · have := h8 _ (has_mem hl)
    simp only [strB] at this
    split at this
    · rename_i hu; exact hu
    · cases this
  · have := h9 _ (has_mem hl)
    simp only [bolB] at this
    split at this
    · rename_i hu; exact hu
    · cases this
  · have := h10 _ (alook_mem hl)
    simp only [eqtB, Bool.and_eq_true, Bool.not_eq_true'] at this
    exact this
  · have := h12 _ (alook_mem hl)
    simp only [mpsB, Bool.and_eq_true] at this
    obtain ⟨a, b, c, d, e⟩ := this
    refine ⟨?_, b, c, ?_, ?_⟩
    · split at a
      · rename_i k' v' hu
        simp only [Bool.and_eq_true] at a
        rw [hu, Nat.eq_of_beq_eq_true a.1, Nat.eq_of_beq_eq_true a.2]
      · cases a
    · split at d
      · rename_i fs hu; exact ⟨fs, hu, d⟩
      · cases d
    · split at e
      · rename_i i hi
        split at e
        · rename_i cs hz; exact ⟨i, cs, hi, hz, e⟩
        · cases e
      · cases e
  · have := h13 _ (alook_mem hl)
    simp only [fltB] at this
    split at this
    · rename_i fs hu; exact ⟨fs, hu, of_decide_eq_true this⟩
    · cases this
  · have := h14 _ (has_mem hl)
    simp only [ifcB] at this
    split at this
    · rename_i ms hu; exact ⟨ms, hu⟩
    · cases this
  · have := h11 _ (alook_mem hl)
    simp only [aixB] at this
    split at this
    · rename_i n' e' hu
      simp only [Bool.and_eq_true] at this
      obtain ⟨a, b, c⟩ := this
      obtain rfl := Nat.eq_of_beq_eq_true a
      obtain rfl := Nat.eq_of_beq_eq_true b
      exact ⟨hu, scaB_spec c⟩
    · cases this
def viewL : List Seg → List Seg
  | [.gro E l] => [.seq E l.length l]
  | B => B
theorem viewL_spec {B : List Seg} (hok : oksL B) : cellsL (viewL B) = cellsL B ∧ oksL (viewL B) ∧ nmL (viewL B) = nmL B := by
  unfold viewL
  split
  · refine ⟨by simp [cellsL, Seg.cells], fun s hs => ?_, rfl⟩
    simp only [List.mem_singleton] at hs
    subst hs; rfl
  · exact ⟨rfl, hok, rfl⟩
def segAt : List Seg → Nat → Option (List Seg)
  | B, 0 => some (viewL B)
  | [], _ + 1 => none
  | s :: r, o + 1 => cond (Nat.ble s.size (o + 1)) (segAt r (o + 1 - s.size)) none
def segTake : List Seg → Nat → Option (List Seg)
  | _, 0 => some []
  | [], _ + 1 => none
  | s :: r, n + 1 => cond (Nat.ble s.size (n + 1)) ((segTake r (n + 1 - s.size)).map (s :: ·)) none
def segPut (B : List Seg) (vs : List Seg) : Option (List Seg) := (segAt B (sizeL vs)).map (vs ++ ·)
def segPutAt : List Seg → Nat → List Seg → Option (List Seg)
  | B, 0, vs => segPut B vs
  | [], _ + 1, _ => none
  | s :: r, o + 1, vs => cond (Nat.ble s.size (o + 1)) ((segPutAt r (o + 1 - s.size) vs).map (s :: ·)) none
theorem segAt_spec : ∀ {B : List Seg} {o : Nat} {R : List Seg}, oksL B → segAt B o = some R → o ≤ (cellsL B).length ∧ cellsL R = (cellsL B).drop o ∧ oksL R ∧ (∀ b ∈ nmL R, b ∈ nmL B)
  | B, 0, R, hok, h => by
    simp only [segAt, Option.some.injEq] at h; subst h
    obtain ⟨h1, h2, h3⟩ := viewL_spec hok
    exact ⟨Nat.zero_le _, by simpa using h1, h2, fun _ hb => by rw [← h3]; exact hb⟩
  | [], o + 1, R, _, h => by simp [segAt] at h
  | s :: r, o + 1, R, hok, h => by
    simp only [segAt] at h
    cases hb : Nat.ble s.size (o + 1) with
    | false => rw [hb] at h; cases h
    | true =>
      rw [hb] at h
      have hle := Nat.le_of_ble_eq_true hb
      obtain ⟨g1, g2, g3, g4⟩ := segAt_spec (fun x hx => hok x (by simp [hx])) h
      have hl := Seg.cells_length (hok s (by simp))
      have hc : cellsL (s :: r) = s.cells ++ cellsL r := by simp [cellsL]
      refine ⟨?_, ?_, g3, fun b hb => by simp only [nmL, List.flatMap_cons, List.mem_append]; exact .inr (g4 b hb)⟩
      · rw [hc, List.length_append, hl]; omega
      · rw [g2, hc, List.drop_append, List.drop_eq_nil_of_le (show s.cells.length ≤ o + 1 from by omega), hl, List.nil_append]
theorem segTake_spec : ∀ {B : List Seg} {n : Nat} {R : List Seg}, oksL B → segTake B n = some R → n ≤ (cellsL B).length ∧ cellsL R = (cellsL B).take n ∧ oksL R ∧ (∀ b ∈ nmL R, b ∈ nmL B)
  | B, 0, R, hok, h => by
    have : R = [] := by cases B <;> (simp only [segTake, Option.some.injEq] at h; exact h.symm)
    subst this; exact ⟨Nat.zero_le _, by simp [cellsL], (fun x hx => nomatch hx), fun b hb => by simp [nmL] at hb⟩
  | [], n + 1, R, _, h => by simp [segTake] at h
  | s :: r, n + 1, R, hok, h => by
    simp only [segTake] at h
    cases hb : Nat.ble s.size (n + 1) with
    | false => rw [hb] at h; cases h
    | true =>
      rw [hb] at h
      have hle := Nat.le_of_ble_eq_true hb
      simp only [cond_true, Option.map_eq_some_iff] at h
      obtain ⟨R', hR, rfl⟩ := h
      obtain ⟨g1, g2, g3, g4⟩ := segTake_spec (fun x hx => hok x (by simp [hx])) hR
      have hl := Seg.cells_length (hok s (by simp))
      have hc : ∀ r, cellsL (s :: r) = s.cells ++ cellsL r := fun r => by simp [cellsL]
      refine ⟨?_, ?_, fun x hx => ?_, fun b hb => ?_⟩
      · rw [hc, List.length_append, hl]; omega
      · rw [hc, hc, g2, List.take_append, List.take_of_length_le (show s.cells.length ≤ n + 1 from by omega), hl]
      · rcases List.mem_cons.1 hx with rfl | hx
        · exact hok _ (by simp)
        · exact g3 x hx
      · simp only [nmL, List.flatMap_cons, List.mem_append] at hb ⊢
        rcases hb with hb | hb
        · exact .inl hb
        · exact .inr (g4 b hb)
theorem segPutAt_spec : ∀ {B : List Seg} {o : Nat} {vs R : List Seg}, oksL B → oksL vs → segPutAt B o vs = some R →
    o + (cellsL vs).length ≤ (cellsL B).length ∧ cellsL R = (cellsL B).take o ++ cellsL vs ++ (cellsL B).drop (o + (cellsL vs).length) ∧ oksL R ∧ (∀ b ∈ nmL R, b ∈ nmL B ∨ b ∈ nmL vs)
  | B, 0, vs, R, hok, hv, h => by
    have h' : segPut B vs = some R := by cases B <;> exact h
    simp only [segPut, Option.map_eq_some_iff] at h'
    obtain ⟨R', hR, rfl⟩ := h'
    obtain ⟨g1, g2, g3, g4⟩ := segAt_spec hok hR
    rw [← cellsL_length hv] at g1 g2
    refine ⟨by simpa using g1, by rw [cellsL_append, g2]; simp, fun x hx => ?_, fun b hb => ?_⟩
    · rcases List.mem_append.1 hx with hx | hx
      · exact hv x hx
      · exact g3 x hx
    · simp only [nmL, List.flatMap_append, List.mem_append] at hb ⊢
      rcases hb with hb | hb
      · exact .inr hb
      · exact .inl (g4 b hb)
  | [], o + 1, vs, R, _, _, h => by simp [segPutAt] at h
  | s :: r, o + 1, vs, R, hok, hv, h => by
    simp only [segPutAt] at h
    cases hb : Nat.ble s.size (o + 1) with
    | false => rw [hb] at h; cases h
    | true =>
      rw [hb] at h
      have hle := Nat.le_of_ble_eq_true hb
      simp only [cond_true, Option.map_eq_some_iff] at h
      obtain ⟨R', hR, rfl⟩ := h
      obtain ⟨g1, g2, g3, g4⟩ := segPutAt_spec (fun x hx => hok x (by simp [hx])) hv hR
      have hl := Seg.cells_length (hok s (by simp))
      have hc : ∀ r, cellsL (s :: r) = s.cells ++ cellsL r := fun r => by simp [cellsL]
      refine ⟨?_, ?_, fun x hx => ?_, fun b hb => ?_⟩
      · rw [hc, List.length_append, hl]; omega
      · rw [hc, hc, g2, List.take_append, List.take_of_length_le (show s.cells.length ≤ o + 1 from by omega), List.drop_append, List.drop_eq_nil_of_le (show s.cells.length ≤ o + 1 + (cellsL vs).length from by omega), hl]
        have e : o + 1 - s.size + (cellsL vs).length = o + 1 + (cellsL vs).length - s.size := by omega
        simp [e]
      · rcases List.mem_cons.1 hx with rfl | hx
        · exact hok _ (by simp)
        · exact g3 x hx
      · simp only [nmL, List.flatMap_cons, List.mem_append] at hb ⊢
        rcases hb with hb | hb
        · exact .inl (.inl hb)
        · rcases g4 b hb with hb | hb
          · exact .inl (.inr hb)
          · exact .inr hb
def backS : Seg → Seg → Seg
  | .gro _ _, .seq E _ l => .gro E l
  | _, x => x
theorem backS_spec {s x : Seg} (hx : x.ok) : (backS s x).cells = x.cells ∧ (backS s x).ok ∧ (backS s x).nm = x.nm := by
  unfold backS
  split
  · exact ⟨rfl, trivial, rfl⟩
  · exact ⟨rfl, hx, rfl⟩
def groOk : List Seg → List Seg → Bool
  | [.gro E _], [.gro E' _] => decide (E = E') && Nat.blt 0 E.s
  | _, [.gro _ _] => false
  | _, [.mp _ _ _] => false
  | _, [.rws _ _ _] => false
  | _, _ => true
theorem groOk_mp {B B' : List Seg} (h : groOk B B' = true) : (∀ K V l, B' ≠ [.mp K V l]) ∧ noRws B' = true := by
  refine ⟨fun K V l e => ?_, ?_⟩
  · subst e; unfold groOk at h
    split at h
    · rename_i e; cases e
    · rename_i e; cases e
    · cases h
    · cases h
    · rename_i h2 _ _; exact h2 _ _ _ rfl
  · unfold noRws
    split
    · unfold groOk at h
      split at h
      · rename_i e; cases e
      · rename_i e; cases e
      · cases h
      · cases h
      · rename_i h2 _; exact (h2 _ _ _ rfl).elim
    · rfl
theorem groOk_spec {B B' : List Seg} (h : groOk B B' = true) : ∀ E l, B' = [.gro E l] → ∃ l0, B = [.gro E l0] ∧ 0 < E.s := by
  rintro E l rfl
  unfold groOk at h
  split at h
  · rename_i E' l' E2 l2 he
    simp only [Bool.and_eq_true] at h
    obtain rfl := of_decide_eq_true h.1
    simp only [List.cons.injEq, Seg.gro.injEq, and_true] at he
    obtain ⟨rfl, _⟩ := he
    exact ⟨l', rfl, by simpa using h.2⟩
  · cases h
  · cases h
  · cases h
  · rename_i h1 _ _ _
    exact (h1 E l rfl).elim
def segSetAt : List Seg → Nat → Seg → Option (List Seg)
  | s :: r, 0, x => some (backS s x :: r)
  | s :: r, o + 1, x => cond (Nat.ble s.size (o + 1)) ((segSetAt r (o + 1 - s.size) x).map (s :: ·)) none
  | [], _, _ => none
theorem segSetAt_spec : ∀ {B : List Seg} {o : Nat} {s x : Seg} {R B' : List Seg}, oksL B → oksL [x] → segAt B o = some (s :: R) → x.size = s.size → segSetAt B o x = some B' →
    o + (cellsL [x]).length ≤ (cellsL B).length ∧ cellsL B' = (cellsL B).take o ++ cellsL [x] ++ (cellsL B).drop (o + (cellsL [x]).length) ∧ oksL B' ∧ (∀ b ∈ nmL B', b ∈ nmL B ∨ b ∈ nmL [x])
  | [], o, s, x, R, B', _, _, _, _, h => by cases o <;> simp [segSetAt] at h
  | s0 :: r, 0, s, x, R, B', hok, hx, hs, hsz, h => by
    simp only [segSetAt, Option.some.injEq] at h
    simp only [segAt, Option.some.injEq] at hs
    subst h
    have hxo := hx x (by simp)
    obtain ⟨x1, x2, x3⟩ := backS_spec (s := s0) hxo
    have hv := viewL_spec hok
    rw [hs] at hv
    obtain ⟨v1, v2, v3⟩ := hv
    have hR : cellsL R = cellsL r := by
      unfold viewL at hs
      split at hs
      · rename_i E l he
        simp only [List.cons.injEq] at hs he
        rw [← hs.2, he.2]
      · simp only [List.cons.injEq] at hs
        rw [hs.2]
    have hc : ∀ (s : Seg) r, cellsL (s :: r) = s.cells ++ cellsL r := fun s r => by simp [cellsL]
    have hc1 : cellsL [x] = x.cells := by simp [cellsL]
    have l1 := Seg.cells_length (v2 s (by simp))
    have l2 := Seg.cells_length hxo
    rw [← v1, hc s R]
    refine ⟨?_, ?_, fun y hy => ?_, fun b hb => ?_⟩
    · rw [hc1, List.length_append]; omega
    · rw [hc1, Nat.zero_add, l2, hsz, ← l1, hc, x1, hR]; simp
    · rcases List.mem_cons.1 hy with rfl | hy
      · exact x2
      · exact hok _ (by simp [hy])
    · simp only [nmL, List.flatMap_cons, List.flatMap_nil, List.append_nil, List.mem_append] at hb ⊢
      rcases hb with hb | hb
      · rw [x3] at hb; exact .inr hb
      · exact .inl (.inr hb)
  | s0 :: r, o + 1, s, x, R, B', hok, hx, hs, hsz, h => by
    simp only [segSetAt] at h
    simp only [segAt] at hs
    cases hb : Nat.ble s0.size (o + 1) with
    | false => rw [hb] at h; cases h
    | true =>
      rw [hb] at h hs
      have hle := Nat.le_of_ble_eq_true hb
      simp only [cond_true, Option.map_eq_some_iff] at h hs
      obtain ⟨R', hR, rfl⟩ := h
      obtain ⟨g1, g2, g3, g4⟩ := segSetAt_spec (fun x hx => hok x (by simp [hx])) hx hs hsz hR
      have hl := Seg.cells_length (hok s0 (by simp))
      have hc : ∀ r, cellsL (s0 :: r) = s0.cells ++ cellsL r := fun r => by simp [cellsL]
      refine ⟨?_, ?_, fun y hy => ?_, fun b hb => ?_⟩
      · rw [hc, List.length_append, hl]; omega
      · rw [hc, hc, g2, List.take_append, List.take_of_length_le (show s0.cells.length ≤ o + 1 from by omega), List.drop_append, List.drop_eq_nil_of_le (show s0.cells.length ≤ o + 1 + (cellsL [x]).length from by omega), hl]
        have e : o + 1 - s0.size + (cellsL [x]).length = o + 1 + (cellsL [x]).length - s0.size := by omega
        rw [e, List.append_assoc, List.append_assoc, List.append_assoc, List.nil_append]
      · rcases List.mem_cons.1 hy with rfl | hy
        · exact hok _ (by simp)
        · exact g3 y hy
      · simp only [nmL, List.flatMap_cons, List.mem_append] at hb g4 ⊢
        rcases hb with hb | hb
        · exact .inl (.inl hb)
        · rcases g4 b hb with hb | hb
          · exact .inl (.inr hb)
          · exact .inr hb
end Go.Proofs.YtlmmgjngihlpeaaDoor.Sx
