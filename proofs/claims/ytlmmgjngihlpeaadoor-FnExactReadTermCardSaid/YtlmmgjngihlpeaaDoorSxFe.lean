/- A symbolic evaluator for the machine's code, part Fe: == on structs and arrays. Our own work. -/
import Derived.Test.YtlmmgjngihlpeaaDoorSxE
import Derived.ChangeKeysEq
import Derived.Laws.StructEq
namespace Go.Proofs.YtlmmgjngihlpeaaDoor.Sx
open Go
set_option linter.unusedVariables false
set_option linter.unusedSimpArgs false
variable {P : Program}
inductive CK where
  | int (k : IntKind)
  | bool
  | str
  deriving DecidableEq
def CK.R : CK → Value → Prop
  | .int k, v => ∃ n, v = .int k n
  | .bool, v => ∃ b, v = .bool b
  | .str, v => ∃ s, v = .string s
def KR : List CK → List Value → Prop
  | [], [] => True
  | k :: ks, v :: vs => k.R v ∧ KR ks vs
  | _, _ => False
theorem KR.length : ∀ {ks : List CK} {vs : List Value}, KR ks vs → ks.length = vs.length
  | [], [], _ => rfl
  | _ :: _, _ :: _, h => by simp [KR.length h.2]
  | [], _ :: _, h => h.elim
  | _ :: _, [], h => h.elim
theorem KR.take : ∀ {ks : List CK} {vs : List Value} (n : Nat), KR ks vs → KR (ks.take n) (vs.take n)
  | [], [], n, _ => by simp [KR]
  | k :: ks, v :: vs, 0, _ => by simp [KR]
  | k :: ks, v :: vs, n + 1, h => ⟨h.1, KR.take n h.2⟩
theorem KR.drop : ∀ {ks : List CK} {vs : List Value} (n : Nat), KR ks vs → KR (ks.drop n) (vs.drop n)
  | [], [], n, _ => by simp [KR]
  | k :: ks, v :: vs, 0, h => h
  | k :: ks, v :: vs, n + 1, h => by simpa using KR.drop n h.2
theorem KR.append : ∀ {ks js : List CK} {vs us : List Value}, KR ks vs → KR js us → KR (ks ++ js) (vs ++ us)
  | [], js, [], us, _, h => h
  | k :: ks, js, v :: vs, us, h, h' => ⟨h.1, KR.append h.2 h'⟩
  | [], _, _ :: _, _, h, _ => h.elim
  | _ :: _, _, [], _, h, _ => h.elim
def eqC : Value → Value → Bool
  | .int _ a, .int _ b => a == b
  | .bool a, .bool b => a == b
  | .string a, .string b => a.toList == b.toList
  | _, _ => false
def eqCs : List Value → List Value → Bool
  | [], [] => true
  | x :: xs, y :: ys => eqC x y && eqCs xs ys
  | _, _ => false
theorem eqCs_append : ∀ {xs ys xs' ys' : List Value}, xs.length = ys.length → eqCs (xs ++ xs') (ys ++ ys') = (eqCs xs ys && eqCs xs' ys')
  | [], [], xs', ys', _ => by simp [eqCs]
  | x :: xs, y :: ys, xs', ys', h => by simp only [List.cons_append, eqCs]; rw [eqCs_append (by simpa using h), Bool.and_assoc]
  | [], _ :: _, _, _, h => by simp at h
  | _ :: _, [], _, _, h => by simp at h
def flatF (F : TypeId → List CK → Bool) (P : Program) : List Field → Nat → List CK → Bool
  | [], _, ks => ks.isEmpty
  | f :: fs, off, ks => (f.name != "_") && (Nat.beq f.offset off && (match P.info? f.type with
    | some i => F f.type (ks.take i.size) && (Nat.ble i.size ks.length && flatF F P fs (off + i.size) (ks.drop i.size))
    | none => false))
def flatA (F : List CK → Bool) (s : Nat) : Nat → List CK → Bool
  | 0, ks => ks.isEmpty
  | n + 1, ks => F (ks.take s) && (Nat.ble s ks.length && flatA F s n (ks.drop s))
def sizeB (P : Program) (t : TypeId) (ks : List CK) : Bool := match P.info? t with
  | some j => Nat.beq j.size ks.length
  | none => false
def flatB (P : Program) : Nat → TypeId → List CK → Bool
  | 0, _, _ => false
  | m + 1, t, ks => match P.underlying t with
    | some .bool => decide (ks = [.bool])
    | some (.int k) => decide (ks = [.int k])
    | some .string => decide (ks = [.str])
    | some (.array n e) => sizeB P t ks && (match P.info? e with
      | some i => flatA (flatB P m e) i.size n ks
      | none => false)
    | some (.struct fs) => !(P.stoodInHeld t) && (sizeB P t ks && flatF (flatB P m) P fs.toList 0 ks)
    | _ => false
def isAggT (P : Program) (t : TypeId) : Bool := match P.underlying t with
  | some (.struct _) => true
  | some (.array _ _) => true
  | _ => false
def valOf (P : Program) (t : TypeId) (c : List Value) : Value := cond (isAggT P t) (.agg c.toArray) (c.headD undef)
def EqAt' (P : Program) (d : Nat) (t : TypeId) (ks : List CK) : Prop :=
  ∀ (w : World) (a b : List Value), KR ks a → KR ks b → (Op.equalIn d t (valOf P t a) (valOf P t b)).run P w = .ok (eqCs a b) w
theorem KR.one {k : CK} {c : List Value} (h : KR [k] c) : ∃ v, c = [v] ∧ k.R v := by
  match c, h with
  | [v], h => exact ⟨v, rfl, h.1⟩
theorem part_run {m : Nat} {e : TypeId} {ks : List CK} (hf : flatB P m e ks = true) {i : TypeInfo} (hi : P.info? e = some i) {xs : Array Value} {off : Nat}
    (hk : KR ks ((xs.toList.drop off).take i.size)) (w : World) : (part e xs off).run P w = .ok (valOf P e ((xs.toList.drop off).take i.size)) w := by
  have hsz : P.cellsOf e = i.size := by simp [Program.cellsOf, hi]
  cases m with
  | zero => simp [flatB] at hf
  | succ m =>
    simp only [flatB] at hf
    have plain : P.plainKey e = true → ∀ k, ks = [k] → (part e xs off).run P w = .ok (valOf P e ((xs.toList.drop off).take i.size)) w := by
      intro hp k hks
      subst hks
      obtain ⟨v, hv, _⟩ := hk.one
      rw [run_part_plain w hp (getElem?_of_chunk hv), hv]
      have : isAggT P e = false := by
        unfold Program.plainKey at hp
        unfold isAggT
        split at hp <;> simp_all
      simp [valOf, this]
    have agg : (∃ n e', P.underlying e = some (.array n e')) ∨ (∃ fs, P.underlying e = some (.struct fs)) → (part e xs off).run P w = .ok (valOf P e ((xs.toList.drop off).take i.size)) w := by
      intro h
      have hl : xs.extract off (off + i.size) = ((xs.toList.drop off).take i.size).toArray := by
        apply Array.toList_inj.1
        rw [Array.toList_extract]
        simp [List.extract]
      rcases h with ⟨n, e', hu⟩ | ⟨fs, hu⟩
      · simp [part, isAgg, run_underlying hu, Go.run_sizeOf w hi, hsz, hl, valOf, isAggT, hu]
      · simp [part, isAgg, run_underlying hu, Go.run_sizeOf w hi, hsz, hl, valOf, isAggT, hu]
    split at hf
    · rename_i hu; exact plain (by simp [Program.plainKey, hu]) _ (of_decide_eq_true hf)
    · rename_i hu; exact plain (by simp [Program.plainKey, hu]) _ (of_decide_eq_true hf)
    · rename_i hu; exact plain (by simp [Program.plainKey, hu]) _ (of_decide_eq_true hf)
    · rename_i n e' hu; exact agg (.inl ⟨_, _, hu⟩)
    · rename_i fs hu; exact agg (.inr ⟨_, hu⟩)
    · cases hf
theorem chunk_split {α : Type _} (l : List α) (n : Nat) : l = l.take n ++ l.drop n := (List.take_append_drop n l).symm
theorem items_run {d m : Nat} {e : TypeId} {i : TypeInfo} (hi : P.info? e = some i) (IH : ∀ ks, flatB P m e ks = true → EqAt' P d e ks) (xs ys : Array Value) (w : World) : ∀ (n j : Nat) (ks : List CK),
    flatA (flatB P m e) i.size n ks = true → KR ks (xs.toList.drop (j * i.size)) → KR ks (ys.toList.drop (j * i.size)) →
    (Op.eqItems d e (P.cellsOf e) xs ys (List.range' j n)).run P w = .ok (eqCs (xs.toList.drop (j * i.size)) (ys.toList.drop (j * i.size))) w
  | 0, j, ks, hf, hx, hy => by
    simp only [flatA, List.isEmpty_iff] at hf
    subst hf
    have e1 : xs.toList.drop (j * i.size) = [] := List.length_eq_zero_iff.1 hx.length.symm
    have e2 : ys.toList.drop (j * i.size) = [] := List.length_eq_zero_iff.1 hy.length.symm
    simp [Op.eqItems, e1, e2, eqCs]
  | n + 1, j, ks, hf, hx, hy => by
    simp only [flatA, Bool.and_eq_true] at hf
    obtain ⟨h1, h2, h3⟩ := hf
    have hsz : P.cellsOf e = i.size := by simp [Program.cellsOf, hi]
    have hx1 := hx.take i.size
    have hy1 := hy.take i.size
    have hx2 := hx.drop i.size
    have hy2 := hy.drop i.size
    rw [List.drop_drop] at hx2 hy2
    rw [show j * i.size + i.size = (j + 1) * i.size by rw [Nat.succ_mul]] at hx2 hy2
    have hrec := items_run hi IH xs ys w n (j + 1) (ks.drop i.size) h3 hx2 hy2
    rw [List.range'_succ]
    simp only [Op.eqItems, Sem.run_bind, hsz, part_run h1 hi hx1 w, part_run h1 hi hy1 w, Result.andThen_ok, IH _ h1 w _ _ hx1 hy1]
    rw [hsz] at hrec
    conv => rhs; rw [chunk_split (xs.toList.drop (j * i.size)) i.size, chunk_split (ys.toList.drop (j * i.size)) i.size, eqCs_append (by rw [← hx1.length, ← hy1.length])]
    rw [List.drop_drop, List.drop_drop, show j * i.size + i.size = (j + 1) * i.size by rw [Nat.succ_mul]]
    cases hq : eqCs ((xs.toList.drop (j * i.size)).take i.size) ((ys.toList.drop (j * i.size)).take i.size) with
    | false => simp
    | true => simp only [Bool.not_true, Bool.false_eq_true, if_false, Bool.true_and]; exact hrec
theorem fields_run {d m : Nat} (IH : ∀ t ks, flatB P m t ks = true → EqAt' P d t ks) (xs ys : Array Value) (w : World) : ∀ (fs : List Field) (off : Nat) (ks : List CK),
    flatF (flatB P m) P fs off ks = true → KR ks (xs.toList.drop off) → KR ks (ys.toList.drop off) →
    (Op.eqFields d xs ys fs).run P w = .ok (eqCs (xs.toList.drop off) (ys.toList.drop off)) w
  | [], off, ks, hf, hx, hy => by
    simp only [flatF, List.isEmpty_iff] at hf
    subst hf
    have e1 : xs.toList.drop off = [] := List.length_eq_zero_iff.1 hx.length.symm
    have e2 : ys.toList.drop off = [] := List.length_eq_zero_iff.1 hy.length.symm
    simp [Op.eqFields, e1, e2, eqCs]
  | f :: fs, off, ks, hf, hx, hy => by
    simp only [flatF, Bool.and_eq_true] at hf
    obtain ⟨h1, h2, h3⟩ := hf
    split at h3
    · rename_i i hi
      simp only [Bool.and_eq_true] at h3
      obtain ⟨g1, g2, g3⟩ := h3
      have hoff := Nat.eq_of_beq_eq_true h2
      have hname : f.name ≠ "_" := by simpa using h1
      have hx1 := hx.take i.size
      have hy1 := hy.take i.size
      have hx2 := hx.drop i.size
      have hy2 := hy.drop i.size
      rw [List.drop_drop] at hx2 hy2
      have hrec := fields_run IH xs ys w fs (off + i.size) (ks.drop i.size) g3 hx2 hy2
      have p1 := part_run g1 hi (xs := xs) (off := f.offset) (by rw [hoff]; exact hx1) w
      have p2 := part_run g1 hi (xs := ys) (off := f.offset) (by rw [hoff]; exact hy1) w
      have p3 := IH _ _ g1 w _ _ hx1 hy1
      rw [hoff] at p1 p2
      simp only [Op.eqFields, hname, ne_eq, not_false_eq_true, if_true, Sem.run_bind, hoff, p1, p2, p3, Result.andThen_ok]
      conv => rhs; rw [chunk_split (xs.toList.drop off) i.size, chunk_split (ys.toList.drop off) i.size, eqCs_append (by rw [← hx1.length, ← hy1.length])]
      rw [List.drop_drop, List.drop_drop]
      cases hq : eqCs ((xs.toList.drop off).take i.size) ((ys.toList.drop off).take i.size) with
      | false => simp
      | true => simp only [Bool.not_true, Bool.false_eq_true, if_false, Bool.true_and]; exact hrec
    · cases h3
theorem eqAt (d : Nat) : ∀ (m : Nat) (t : TypeId) (ks : List CK), flatB P m t ks = true → EqAt' P (d + m) t ks
  | 0, t, ks, h => by simp [flatB] at h
  | m + 1, t, ks, hf => by
    intro w a b ha hb
    have IH : ∀ t ks, flatB P m t ks = true → EqAt' P (d + m) t ks := fun t ks h => eqAt d m t ks h
    simp only [flatB] at hf
    split at hf
    · rename_i hu
      obtain rfl := of_decide_eq_true hf
      obtain ⟨_, rfl, x, rfl⟩ := ha.one
      obtain ⟨_, rfl, y, rfl⟩ := hb.one
      simp only [valOf, isAggT, hu, cond_false, List.headD_cons, eqCs, eqC, Bool.and_true]
      exact run_equalIn_bool' w (d + m) t x y hu
    · rename_i k hu
      obtain rfl := of_decide_eq_true hf
      obtain ⟨_, rfl, x, rfl⟩ := ha.one
      obtain ⟨_, rfl, y, rfl⟩ := hb.one
      simp only [valOf, isAggT, hu, cond_false, List.headD_cons, eqCs, eqC, Bool.and_true]
      exact run_equalIn_int w (d + m) t k k x y hu
    · rename_i hu
      obtain rfl := of_decide_eq_true hf
      obtain ⟨_, rfl, x, rfl⟩ := ha.one
      obtain ⟨_, rfl, y, rfl⟩ := hb.one
      simp only [valOf, isAggT, hu, cond_false, List.headD_cons, eqCs, eqC, Bool.and_true]
      exact run_equalIn_string w (d + m) t x y hu
    · rename_i n e hu
      simp only [Bool.and_eq_true] at hf
      replace hf := hf.2
      split at hf
      · rename_i i hi
        simp only [valOf, isAggT, hu, cond_true]
        rw [show d + (m + 1) = (d + m) + 1 from rfl, run_equalIn_array w (d + m) _ _ hu hi, List.range_eq_range']
        have := items_run hi (fun ks h => IH e ks h) a.toArray b.toArray w n 0 ks hf (by simpa using ha) (by simpa using hb)
        simpa using this
      · cases hf
    · rename_i fs hu
      simp only [Bool.and_eq_true, Bool.not_eq_true'] at hf
      have hfs : P.fieldsOf t = fs := by simp [Program.fieldsOf, hu]
      simp only [valOf, isAggT, hu, cond_true]
      rw [show d + (m + 1) = (d + m) + 1 from rfl, run_equalIn_struct w (d + m) t _ _ (by rw [hfs]; exact hu) hf.1, hfs]
      have := fields_run IH a.toArray b.toArray w fs.toList 0 ks hf.2.2 (by simpa using ha) (by simpa using hb)
      simpa using this
    · cases hf
def eqLI (l m : List Int) : Bool := decide (l = m)
def eqLB (l m : List Bool) : Bool := decide (l = m)
def eqSeg : Seg → Seg → Option Bool
  | .one (.int _ a), .one (.int _ b) => some (a == b)
  | .one (.bool a), .one (.bool b) => some (a == b)
  | .one (.str a), .one (.str b) => some (bytesEq a b)
  | .seq (.int _) n l, .seq (.int _) n' l' => cond (Nat.beq n n') (some (eqLI l l')) none
  | .seq .bool n l, .seq .bool n' l' => cond (Nat.beq n n') (some (eqLB l l')) none
  | _, _ => none
def eqO : List Seg → List Seg → Option Bool
  | [], [] => some true
  | [x], [y] => eqSeg x y
  | x :: r, y :: s => match eqSeg x y with
    | some e => match eqO r s with
      | some f => some (e && f)
      | none => none
    | none => none
  | _, _ => none
def ksSeg : Seg → Option (List CK)
  | .one (.int k _) => some [.int k]
  | .one (.bool _) => some [.bool]
  | .one (.str _) => some [.str]
  | .seq (.int k) n _ => some (List.replicate n (.int k))
  | .seq .bool n _ => some (List.replicate n .bool)
  | _ => none
def ksOf : List Seg → Option (List CK)
  | [] => some []
  | s :: r => match ksSeg s with
    | some k => match ksOf r with
      | some ks => some (k ++ ks)
      | none => none
    | none => none
def ksIs (l : List Seg) (ks : List CK) : Bool := match ksOf l with
  | some js => decide (js = ks)
  | none => false
theorem KR_rep {k : CK} : ∀ {n : Nat} {vs : List Value}, vs.length = n → (∀ v ∈ vs, k.R v) → KR (List.replicate n k) vs
  | 0, [], _, _ => trivial
  | n + 1, v :: vs, hl, h => ⟨h v (by simp), KR_rep (by simpa using hl) fun u hu => h u (by simp [hu])⟩
  | 0, _ :: _, hl, _ => by simp at hl
  | n + 1, [], hl, _ => by simp at hl
theorem CR_ints {ids : Ids} {k : IntKind} : ∀ {l : List Int} {vs : List Value}, CR ids (l.flatMap (EK.enc (.int k))) vs → vs = l.map (Value.int k)
  | [], [], _ => rfl
  | n :: l, v :: vs, h => by
    obtain ⟨h1, h2⟩ := h
    have : v = .int k n := h1
    rw [List.map_cons, ← CR_ints (l := l) h2, this]
  | [], _ :: _, h => h.elim
  | _ :: _, [], h => h.elim
theorem CR_bools {ids : Ids} : ∀ {l : List Bool} {vs : List Value}, CR ids (l.flatMap (EK.enc .bool)) vs → vs = l.map Value.bool
  | [], [], _ => rfl
  | n :: l, v :: vs, h => by
    obtain ⟨h1, h2⟩ := h
    have : v = .bool n := h1
    rw [List.map_cons, ← CR_bools (l := l) h2, this]
  | [], _ :: _, h => h.elim
  | _ :: _, [], h => h.elim
theorem eqCs_ints {k k' : IntKind} : ∀ {l m : List Int}, l.length = m.length → eqCs (l.map (Value.int k)) (m.map (Value.int k')) = eqLI l m
  | [], [], _ => by simp [eqCs, eqLI]
  | a :: l, b :: m, h => by
    simp only [List.map_cons, eqCs, eqC, eqCs_ints (l := l) (m := m) (by simpa using h), eqLI, List.cons.injEq]
    by_cases hab : a = b <;> by_cases hlm : l = m <;> simp [hab, hlm]
  | [], _ :: _, h => by simp at h
  | _ :: _, [], h => by simp at h
theorem eqCs_bools : ∀ {l m : List Bool}, l.length = m.length → eqCs (l.map Value.bool) (m.map Value.bool) = eqLB l m
  | [], [], _ => by simp [eqCs, eqLB]
  | a :: l, b :: m, h => by
    simp only [List.map_cons, eqCs, eqC, eqCs_bools (l := l) (m := m) (by simpa using h), eqLB, List.cons.injEq]
    by_cases hab : a = b <;> by_cases hlm : l = m <;> simp [hab, hlm]
  | [], _ :: _, h => by simp at h
  | _ :: _, [], h => by simp at h
theorem CR.split {ids : Ids} : ∀ {xs ys : List SV} {vs : List Value}, CR ids (xs ++ ys) vs → ∃ us ws, vs = us ++ ws ∧ CR ids xs us ∧ CR ids ys ws
  | [], ys, vs, h => ⟨[], vs, rfl, trivial, h⟩
  | x :: xs, ys, v :: vs, h => by
    obtain ⟨us, ws, e, h1, h2⟩ := CR.split (xs := xs) (ys := ys) h.2
    exact ⟨v :: us, ws, by rw [e]; rfl, ⟨h.1, h1⟩, h2⟩
theorem ksSeg_spec {ids : Ids} {s : Seg} {k : List CK} {vs : List Value} (h : ksSeg s = some k) (hok : s.ok) (hv : CR ids s.cells vs) : KR k vs := by
  unfold ksSeg at h
  split at h
  · cases h; match vs, hv with | [v], hv => exact ⟨⟨_, hv.1⟩, trivial⟩
  · cases h; match vs, hv with | [v], hv => exact ⟨⟨_, hv.1⟩, trivial⟩
  · cases h; match vs, hv with | [v], hv => exact ⟨⟨_, hv.1⟩, trivial⟩
  · rename_i q n l
    cases h
    have e := CR_ints (k := q) (l := l) hv
    have hl : List.length l = n := hok
    rw [e]
    refine KR_rep (by simpa using hl) fun v hv' => ?_
    obtain ⟨z, _, rfl⟩ := List.mem_map.1 hv'
    exact ⟨z, rfl⟩
  · rename_i n l
    cases h
    have e := CR_bools (l := l) hv
    have hl : List.length l = n := hok
    rw [e]
    refine KR_rep (by simpa using hl) fun v hv' => ?_
    obtain ⟨z, _, rfl⟩ := List.mem_map.1 hv'
    exact ⟨z, rfl⟩
  · cases h
theorem ksOf_spec {ids : Ids} : ∀ {l : List Seg} {k : List CK} {vs : List Value}, ksOf l = some k → oksL l → CR ids (cellsL l) vs → KR k vs
  | [], k, vs, h, _, hv => by
    cases h
    match vs, hv with
    | [], _ => trivial
  | s :: r, k, vs, h, hok, hv => by
    simp only [ksOf] at h
    split at h
    · rename_i k1 h1
      split at h
      · rename_i k2 h2
        cases h
        simp only [cellsL, List.flatMap_cons] at hv
        obtain ⟨us, ws, rfl, g1, g2⟩ := CR.split hv
        exact (ksSeg_spec h1 (hok s (by simp)) g1).append (ksOf_spec h2 (fun x hx => hok x (by simp [hx])) g2)
      · cases h
    · cases h
theorem ksIs_spec {ids : Ids} {l : List Seg} {ks : List CK} {vs : List Value} (h : ksIs l ks = true) (hok : oksL l) (hv : CR ids (cellsL l) vs) : KR ks vs := by
  unfold ksIs at h
  split at h
  · rename_i js hj
    obtain rfl := of_decide_eq_true h
    exact ksOf_spec hj hok hv
  · cases h
theorem eqSeg_spec {ids : Ids} {s t : Seg} {e : Bool} {xs ys : List Value} (h : eqSeg s t = some e) (h1 : s.ok) (h2 : t.ok) (hx : CR ids s.cells xs) (hy : CR ids t.cells ys) : xs.length = ys.length ∧ eqCs xs ys = e := by
  unfold eqSeg at h
  split at h
  · cases h
    match xs, ys, hx, hy with
    | [x], [y], hx, hy =>
      have e1 := hx.1; have e2 := hy.1
      simp only [SV.R] at e1 e2
      subst e1; subst e2
      simp [eqCs, eqC]
  · cases h
    match xs, ys, hx, hy with
    | [x], [y], hx, hy =>
      have e1 := hx.1; have e2 := hy.1
      simp only [SV.R] at e1 e2
      subst e1; subst e2
      simp [eqCs, eqC]
  · cases h
    match xs, ys, hx, hy with
    | [x], [y], hx, hy =>
      have e1 := hx.1; have e2 := hy.1
      simp only [SV.R] at e1 e2
      subst e1; subst e2
      simp [eqCs, eqC, bytesEq]
  · rename_i q n l q' n' l'
    cases hb : Nat.beq n n' with
    | false => rw [hb] at h; cases h
    | true =>
      rw [hb] at h
      cases h
      have hn := Nat.eq_of_beq_eq_true hb
      have hl1 : List.length l = n := h1
      have hl2 : List.length l' = n' := h2
      have hll : List.length l = List.length l' := by rw [hl1, hl2, hn]
      rw [CR_ints (k := q) (l := l) hx, CR_ints (k := q') (l := l') hy]
      exact ⟨by simpa using hll, eqCs_ints hll⟩
  · rename_i n l n' l'
    cases hb : Nat.beq n n' with
    | false => rw [hb] at h; cases h
    | true =>
      rw [hb] at h
      cases h
      have hn := Nat.eq_of_beq_eq_true hb
      have hl1 : List.length l = n := h1
      have hl2 : List.length l' = n' := h2
      have hll : List.length l = List.length l' := by rw [hl1, hl2, hn]
      rw [CR_bools (l := l) hx, CR_bools (l := l') hy]
      exact ⟨by simpa using hll, eqCs_bools hll⟩
  · cases h
theorem eqO_spec {ids : Ids} : ∀ {a b : List Seg} {e : Bool} {xs ys : List Value}, eqO a b = some e → oksL a → oksL b → CR ids (cellsL a) xs → CR ids (cellsL b) ys → eqCs xs ys = e
  | [], [], e, xs, ys, h, _, _, hx, hy => by
    cases h
    match xs, ys, hx, hy with
    | [], [], _, _ => rfl
  | [x], [y], e, xs, ys, h, h1, h2, hx, hy => by
    simp only [eqO] at h
    simp only [cellsL, List.flatMap_cons, List.flatMap_nil, List.append_nil] at hx hy
    exact (eqSeg_spec h (h1 x (by simp)) (h2 y (by simp)) hx hy).2
  | [x], y :: z :: s, e, xs, ys, h, h1, h2, hx, hy => by
    simp only [eqO] at h
    split at h <;> cases h
  | x :: z :: r, y :: s, e, xs, ys, h, h1, h2, hx, hy => by
    simp only [eqO] at h
    split at h
    · rename_i e1 he1
      split at h
      · rename_i e2 he2
        cases h
        rw [show cellsL (x :: z :: r) = x.cells ++ cellsL (z :: r) by simp [cellsL]] at hx
        rw [show cellsL (y :: s) = y.cells ++ cellsL s by simp [cellsL]] at hy
        obtain ⟨us, ws, rfl, g1, g2⟩ := CR.split hx
        obtain ⟨us', ws', rfl, g3, g4⟩ := CR.split hy
        obtain ⟨q1, q2⟩ := eqSeg_spec he1 (h1 x (by simp)) (h2 y (by simp)) g1 g3
        rw [eqCs_append q1, q2, eqO_spec he2 (fun u hu => h1 u (List.mem_cons_of_mem _ hu)) (fun u hu => h2 u (List.mem_cons_of_mem _ hu)) g2 g4]
      · cases h
    · cases h
  | [], _ :: _, e, _, _, h, _, _, _, _ => by cases h
  | _ :: _, [], e, _, _, h, _, _, _, _ => by
    simp only [eqO, reduceCtorEq] at h
end Go.Proofs.YtlmmgjngihlpeaaDoor.Sx
