/- A symbolic evaluator for the machine's code, part Yb: that part Y tells the truth, to the end. Our own work. -/
import Derived.Test.YtlmmgjngihlpeaaDoorSxYa
namespace Go.Proofs.YtlmmgjngihlpeaaDoor.Sx
open Go
set_option linter.unusedVariables false
set_option linter.unusedSimpArgs false
variable {P : Program} {α : Type} {k : Eff → Option α} {r : α} {tab : Tab} {st : St} {o : Oper}
theorem sound_slice3 (ht : TabOk P tab) {t : TypeId} {x mx : Operand} {lo hi : Option Operand} (ho : o.op = .slice t x lo hi (some mx)) (h : evSlice3 tab t st (getO st x) lo hi mx k = some r) : ∃ e, k e = some r ∧ OpS P o st e := by
  have hx : x ∈ o.op.operands := by simp [ho, Op.operands]
  have hlo : ∀ y, lo = some y → y ∈ o.op.operands := by rintro y rfl; simp [ho, Op.operands]
  have hhi : ∀ y, hi = some y → y ∈ o.op.operands := by rintro y rfl; simp [ho, Op.operands]
  have hmx : ∀ y, some mx = some y → y ∈ o.op.operands := by rintro y hy; obtain rfl := Option.some.inj hy; simp [ho, Op.operands]
  unfold evSlice3 at h
  split at h
  · rename_i b1 o1 s1 j1 len cap h1
    split at h
    · rename_i e s' hl
      have hh := condSome h
      clear h
      obtain ⟨hs, h⟩ := hh
      simp only [Bool.and_eq_true] at hs
      obtain rfl := Nat.eq_of_beq_eq_true hs.1
      obtain ⟨m, bm, h⟩ := bound_spec h
      obtain ⟨hh, bh, h⟩ := bound_spec h
      obtain ⟨l, bl, h⟩ := bound_spec h
      split at h
      · rename_i hc
        obtain ⟨c1, c2, c3, c4⟩ := hc
        obtain ⟨l', rfl⟩ : ∃ l' : Nat, l = l' := ⟨l.toNat, by omega⟩
        obtain ⟨h', rfl⟩ : ∃ h' : Nat, hh = h' := ⟨hh.toNat, by omega⟩
        obtain ⟨m', rfl⟩ : ∃ m' : Nat, m = m' := ⟨m.toNat, by omega⟩
        simp only [Int.toNat_natCast] at h
        refine ⟨_, h, opS_pure fun st2 hag w0 S nb idb ids a w hr => ?_⟩
        have e1 := getO_R hr x; have e2 := getO_nm hr x
        rw [getO_agr hag hx, h1] at e1 e2
        have e1' : a.eval x = _ := e1
        obtain ⟨j, g1, g2, g3, _⟩ := ht.sli t e s1 hl
        have q1 := fun c => run_bound (P := P) bm (bound_eval hr fun y hy => getO_agr hag (hmx y hy)) (show m' ≤ cap by omega) c w (a.eval mx) rfl
        obtain ⟨hiy, rfl⟩ := Option.isSome_iff_exists.1 hs.2
        have q2 := fun c => run_bound (P := P) bh (bound_eval hr fun y hy => getO_agr hag (hhi y hy)) (show h' ≤ m' by omega) c w (a.eval hiy) rfl
        have hcut : (Instr.sliceBounds true len cap (lo.map a.eval) ((some hiy).map a.eval) ((some mx).map a.eval)).run P w = .ok (l', h', m') w := by
          unfold Instr.sliceBounds
          cases lo with
          | none =>
            have e2 : l' = 0 := by have : (l' : Int) = 0 := bl; omega
            subst e2; simp [q1, q2]
          | some z =>
            have q3 := fun c => run_bound (P := P) bl (bound_eval hr fun y hy => getO_agr hag (hlo y hy)) (show l' ≤ h' by omega) c w (a.eval z) rfl
            simp [q1, q2, q3]
        simp only [Option.map_some] at hcut
        refine ⟨_, by simp [execOp, ho, Instr.sliceAt, Instr.slice, run_underlying g1, e1', hcut, sizeOf, typeInfo, g2]; rfl, ?_, e2⟩
        show _ = _
        by_cases hn : m' = l'
        · subst hn; simp [Nat.beq_refl]
        · have : Nat.beq m' l' = false := by cases hb : Nat.beq m' l' with | false => rfl | true => exact absurd (Nat.eq_of_beq_eq_true hb) hn
          simp [hn, this, addr_add, g3, Nat.add_assoc, Nat.add_mul]
      · cases h
    · cases h
  · cases h
theorem caps_spec : ∀ {l : List Operand} {ps : List (Nat × Nat)}, capsOf st l = some ps → ∀ {st2 : St} {w0 : World} {S : List Nat} {nb : Nat} {idb ids : Ids} {a : Act} {w : World}, (∀ x ∈ l, getO st2 x = getO st x) → Rep w0 S nb idb ids st2 a w →
    l.map a.eval = ps.map (fun p => Value.pointer (some ⟨(ids p.1).1, (ids p.1).2.1 + p.2, none⟩)) ∧ ∀ p ∈ ps, (st2.H p.1).isSome = true
  | [], ps, h, st2, w0, S, nb, idb, ids, a, w, hg, hr => by simp only [capsOf, Option.some.injEq] at h; subst h; exact ⟨rfl, fun p hp => nomatch hp⟩
  | x :: r, ps, h, st2, w0, S, nb, idb, ids, a, w, hg, hr => by
    simp only [capsOf] at h
    split at h
    · rename_i b o h1
      simp only [Option.map_eq_some_iff] at h
      obtain ⟨ps', h2, rfl⟩ := h
      obtain ⟨q1, q2⟩ := caps_spec h2 (fun y hy => hg y (by simp [hy])) hr
      have e1 := getO_R hr x; have e2 := getO_nm hr x
      rw [hg x (by simp), h1] at e1 e2
      have e1' : a.eval x = _ := e1
      refine ⟨by rw [List.map_cons, List.map_cons, q1, e1'], fun p hp => ?_⟩
      rcases List.mem_cons.1 hp with rfl | hp
      · exact e2 _ (by simp [TV.nm, Val.nm, SV.nm])
      · exact q2 p hp
    · cases h
theorem sound_makeFunc {f : FuncId} {first captured : Array Operand} (ho : o.op = .makeFunc (.func f) first captured) {ps : List (Nat × Nat)} (h0 : first.toList.isEmpty = true) (hc : capsOf st captured.toList = some ps) :
    OpS P o st (svE (.clo f ps)) := by
  have hm : ∀ x ∈ captured.toList, x ∈ o.op.operands := by intro x hx; simp only [ho, Op.operands, Array.mem_append]; exact .inr (by simpa using hx)
  have hf : first = #[] := by cases first with | mk l => cases l with | nil => rfl | cons a r => simp at h0
  refine opS_pure fun st2 hag w0 S nb idb ids a w hr => ?_
  obtain ⟨q1, q2⟩ := caps_spec hc (fun x hx => getO_agr hag (hm x hx)) hr
  refine ⟨.func (.func f) #[] (captured.map a.eval), by simp [execOp, ho, hf, Instr.makeFunc], ?_, fun b hb => ?_⟩
  · show _ = _
    congr 1
    apply Array.ext'
    rw [Array.toList_map, q1]
  · simp only [TV.nm, Val.nm, SV.nm, List.mem_map] at hb
    obtain ⟨p, hp, rfl⟩ := hb
    exact q2 p hp
theorem sound_bound {f : FuncId} {first captured : Array Operand} (ho : o.op = .makeFunc (.func f) first captured) {x : Operand} {b q : Nat} (h0 : first.toList = [x]) (hc : captured.toList.isEmpty = true) (hx : getO st x = .vl (.sv (.ptr b q))) :
    OpS P o st (svE (.clb f b q)) := by
  have hf : first = #[x] := Array.ext' h0
  have hcp : captured = #[] := by cases captured with | mk l => cases l with | nil => rfl | cons a r => simp at hc
  have hm : x ∈ o.op.operands := by simp only [ho, Op.operands, Array.mem_append, hf]; exact .inl (by simp)
  refine opS_pure fun st2 hag w0 S nb idb ids a w hr => ?_
  have e1 := getO_R hr x; have e2 := getO_nm hr x
  rw [getO_agr hag hm, hx] at e1 e2
  have e1' : a.eval x = _ := e1
  refine ⟨.func (.func f) #[a.eval x] #[], by simp [execOp, ho, hf, hcp, Instr.makeFunc], ?_, fun c hc => ?_⟩
  · show Value.func _ _ _ = _
    rw [e1']
  · simp only [TV.nm, Val.nm, SV.nm, List.mem_singleton] at hc
    subst hc
    exact e2 _ (by simp [TV.nm, Val.nm, SV.nm])
theorem sound_makeMap {t : TypeId} (ho : o.op = .makeMap t none) : OpS P o st (svE .opq) := by
  refine opS_val fun st2 hag w0 S nb idb ids a w hr => ?_
  refine ⟨.map (some w.heap.size), w.alloc (.map #[] 0), ?_, ids, hr.allocObj _, rfl, fun b hb => by cases hb⟩
  simp [execOp, ho, Instr.makeMap, newObj]
  rfl
theorem u8_cells (l : List Int) : l.flatMap (EK.enc (.int .u8)) = l.map (SV.int .u8) := by
  induction l with
  | nil => rfl
  | cons a r ih => rw [List.flatMap_cons, ih]; rfl
theorem u8_vals {ids : Ids} : ∀ {l : List Int} {vs : List Value}, CR ids (l.map (SV.int .u8)) vs → vs = l.map (Value.int .u8)
  | [], [], _ => rfl
  | a :: r, v :: vs, h => by
    have h1 : v = .int .u8 a := h.1
    rw [h1, u8_vals h.2]; rfl
  | [], _ :: _, h => h.elim
  | _ :: _, [], h => h.elim
theorem sound_convY (ht : TabOk P tab) {s d : TypeId} {x : Operand} (ho : o.op = .convert s d x) {e : Option α} (he : e = some r → ∃ f, k f = some r ∧ OpS P o st f)
    (h : evConvY tab s d st (getO st x) e k = some r) : ∃ f, k f = some r ∧ OpS P o st f := by
  have hx : x ∈ o.op.operands := by simp [ho, Op.operands]
  unfold evConvY at h
  split at h
  · rename_i b o' s' lo len cap h1
    split at h
    · rename_i t s2 hl
      split at h
      · rename_i hk
        split at h
        · rename_i C hC
          split at h
          · rename_i n l R hR
            have hh := condSome h
            clear h
            obtain ⟨hs, h⟩ := hh
            simp only [Bool.and_eq_true] at hs
            obtain rfl := Nat.eq_of_beq_eq_true hs.2.1
            split at h
            · rename_i hle
              refine ⟨_, h, opS_pure fun st2 hag w0 S nb idb ids a w hr => ?_⟩
              have hC2 : st2.H b = some C := by rw [hag.rd b (by simp)]; exact hC
              have e1 := getO_R hr x
              rw [getO_agr hag hx, h1] at e1
              have e1' : a.eval x = _ := e1
              obtain ⟨j, g1, g2, g3, _⟩ := ht.sli s t s2 hl
              obtain ⟨p1, p2⟩ := cells_part (hr.blk b C hC2).1 hR hle
              obtain ⟨cs, c1, c2, c3⟩ := rep_list (P := P) hr hC2 p2
              rw [p1, u8_cells] at c3
              have hcs := u8_vals c3
              have hld := c2 w rfl
              rw [hcs] at hld
              refine ⟨.string (bytesS ((l.drop lo).take len)), ?_, rfl, fun b hb => by cases hb⟩
              have hrun := run_bytesToString (P := P) w ⟨(ids b).1, (ids b).2.1 + (o' + lo * 1), none⟩ len cap ((l.drop lo).take len) (by
                have h2 : len * (EK.int .u8).s = len := Nat.mul_one _
                rw [h2] at hld; exact hld)
              have hcv := run_convert_bytes_string (P := P) w s d t (some ⟨(ids b).1, (ids b).2.1 + (o' + lo * 1), none⟩) len cap g1 (ht.knd t .u8 hk) (ht.str d hs.1)
              rw [hrun] at hcv
              exact run_v (s := convert s d (a.eval x)) (by unfold execOp; rw [ho]) (by rw [e1']; exact hcv)
            · cases h
          · cases h
        · cases h
      · cases h
    · cases h
  · rename_i b s' h1
    split at h
    · rename_i t s2 hl
      split at h
      · rename_i hk
        split at h
        · rename_i fl l hC
          have hh := condSome h
          clear h
          obtain ⟨hs, h⟩ := hh
          simp only [Bool.and_eq_true] at hs
          obtain rfl := Nat.eq_of_beq_eq_true hs.2.1
          refine ⟨_, h, opS_pure fun st2 hag w0 S nb idb ids a w hr => ?_⟩
          have hC2 : st2.H b = some (fl, [.gro (.int .u8) l]) := by rw [hag.rd b (by simp)]; exact hC
          have e1 := getO_R hr x
          rw [getO_agr hag hx, h1] at e1
          obtain ⟨j, g1, g2, g3, _⟩ := ht.sli s t s2 hl
          have hlen : (ids b).2.2.1 = l.length := (hr.blk b _ hC2).2.1.1
          refine ⟨.string (bytesS l), ?_, rfl, fun b hb => by cases hb⟩
          rcases e1 with ⟨h0, a0, e1'⟩ | ⟨h0, e1'⟩
          · have hl0 : l = [] := List.eq_nil_of_length_eq_zero (by rw [← hlen]; exact h0)
            subst hl0
            have hcv := run_convert_bytes_string (P := P) w s d t a0 0 0 g1 (ht.knd t .u8 hk) (ht.str d hs.1)
            refine run_v (s := convert s d (a.eval x)) (by unfold execOp; rw [ho]) ?_
            rw [e1', hcv]
            cases a0 with
            | none => rfl
            | some a0 => exact run_bytesToString (P := P) w a0 0 0 [] (by simp [loadCells, loadCellsFrom])
          · obtain ⟨cs, c1, c2, c3⟩ := rep_list (P := P) hr hC2 (o := 0) (n := l.length) (by dsimp only; rw [cells_gro, flatMap_enc_length]; simp [EK.s])
            dsimp only at c3
            rw [List.drop_zero, cells_gro, List.take_of_length_le (by rw [flatMap_enc_length]; simp [EK.s]), u8_cells] at c3
            have hcs := u8_vals c3
            have hld := c2 w rfl
            rw [hcs] at hld
            rw [hlen] at e1'
            have hrun := run_bytesToString (P := P) w ⟨(ids b).1, (ids b).2.1, none⟩ l.length (ids b).2.2.2 l (by simpa using hld)
            have hcv := run_convert_bytes_string (P := P) w s d t (some ⟨(ids b).1, (ids b).2.1, none⟩) l.length (ids b).2.2.2 g1 (ht.knd t .u8 hk) (ht.str d hs.1)
            rw [hrun] at hcv
            exact run_v (s := convert s d (a.eval x)) (by unfold execOp; rw [ho]) (by rw [e1']; exact hcv)
        · cases h
      · cases h
    · cases h
  · exact he h
theorem sound_eqY (ht : TabOk P tab) {op : BinOp} {t t' : TypeId} {x y : Operand} (ho : o.op = .binOp op t x y t') {e : Option α} (he : e = some r → ∃ f, k f = some r ∧ OpS P o st f)
    (h : evEqY tab op t st (getO st x) (getO st y) e k = some r) : ∃ f, k f = some r ∧ OpS P o st f := by
  have hx : x ∈ o.op.operands := by simp [ho, Op.operands]
  have hy : y ∈ o.op.operands := by simp [ho, Op.operands]
  have hmain : ∀ (v : Bool), (∀ (ids : Ids) (w : World) (vx vy : Value), (getO st x).R ids vx → (getO st y).R ids vy → ∃ a l c, vx = .slice a l c ∧ vy = .slice none 0 0 ∧ (binOp op t vx vy).run P w = .ok (.bool v) w) →
      OpS P o st (svE (.bool v)) := by
    intro v hrun
    refine opS_pure fun st2 hag w0 S nb idb ids a w hr => ?_
    have e1 := getO_R hr x; have e2 := getO_R hr y
    rw [getO_agr hag hx] at e1; rw [getO_agr hag hy] at e2
    obtain ⟨a0, l, c, q1, q2, q3⟩ := hrun ids w _ _ e1 e2
    refine ⟨.bool v, ?_, rfl, fun b hb => by cases hb⟩
    have hg : (eqGuard op t x y (a.eval x) (a.eval y)).run P w = .ok () w := by rw [q1, q2]; unfold eqGuard; split <;> rfl
    rw [q1, q2] at hg q3
    simp [execOp, ho, q1, q2, hg, q3]
  unfold evEqY at h
  split at h
  · rename_i b o' s' lo len cap h1 h2
    split at h
    · rename_i p hl
      obtain ⟨e', s2⟩ := p
      obtain ⟨j, g1, g2, g3, _⟩ := ht.sli t e' s2 hl
      cases op <;> simp only [reduceCtorEq] at h
      case eql => exact ⟨_, h, hmain false fun ids w vx vy hv1 hv2 => by
        rw [h1] at hv1; rw [h2] at hv2
        refine ⟨_, _, _, hv1, hv2, ?_⟩
        rw [show vx = _ from hv1, show vy = _ from hv2]
        have := run_equal_slice_nil (P := P) w t e' (some ⟨(ids b).1, (ids b).2.1 + (o' + lo * s'), none⟩) len cap g1
        simp [binOp, this]⟩
      case neq => exact ⟨_, h, hmain true fun ids w vx vy hv1 hv2 => by
        rw [h1] at hv1; rw [h2] at hv2
        refine ⟨_, _, _, hv1, hv2, ?_⟩
        rw [show vx = _ from hv1, show vy = _ from hv2]
        have := run_equal_slice_nil (P := P) w t e' (some ⟨(ids b).1, (ids b).2.1 + (o' + lo * s'), none⟩) len cap g1
        simp [binOp, this]⟩
    · cases h
  · rename_i h1 h2
    split at h
    · rename_i p hl
      obtain ⟨e', s2⟩ := p
      obtain ⟨j, g1, g2, g3, _⟩ := ht.sli t e' s2 hl
      cases op <;> simp only [reduceCtorEq] at h
      case eql => exact ⟨_, h, hmain true fun ids w vx vy hv1 hv2 => by
        rw [h1] at hv1; rw [h2] at hv2
        refine ⟨_, _, _, hv1, hv2, ?_⟩
        rw [show vx = _ from hv1, show vy = _ from hv2]
        have := run_equal_slice_nil (P := P) w t e' none 0 0 g1
        simp [binOp, this]⟩
      case neq => exact ⟨_, h, hmain false fun ids w vx vy hv1 hv2 => by
        rw [h1] at hv1; rw [h2] at hv2
        refine ⟨_, _, _, hv1, hv2, ?_⟩
        rw [show vx = _ from hv1, show vy = _ from hv2]
        have := run_equal_slice_nil (P := P) w t e' none 0 0 g1
        simp [binOp, this]⟩
    · cases h
  · exact he h
theorem decS_enc {E : EK} {vs : List Seg} {u : E.T} (h : decS E vs = some u) (hok : oksL vs) : E.enc u = cellsL vs := by
  unfold decS at h
  split at h
  · exact decP_enc h hok
  · obtain ⟨h1, h2⟩ := condSome h
    rw [← cellsS_eq (Nat.eq_of_beq_eq_true h1) hok]
    exact EK.dec_enc _ _ u h2
theorem fillR_run {w0 : World} {S : List Nat} {nb : Nat} {idb ids : Ids} {st2 : St} {a : Act} {w : World} (hr : Rep w0 S nb idb ids st2 a w) {E : EK} :
    ∀ (parts : List (Nat × Operand)) (z z' : List E.T) (cells : Array Value), (∀ p ∈ parts, getO st2 p.2 = getO st p.2) → CR ids (z.flatMap E.enc) cells.toList →
      fillR E st parts z = some z' → ∃ cells', Instr.fill (fun i => some (i * E.s, E.s)) cells (parts.map fun p => (p.1, a.eval p.2)) = some cells' ∧ z'.length = z.length ∧ CR ids (z'.flatMap E.enc) cells'.toList
  | [], z, z', cells, _, hc, h => by
    simp only [fillR, Option.some.injEq] at h; subst h
    exact ⟨cells, rfl, rfl, hc⟩
  | (i, x) :: rest, z, z', cells, hg, hc, h => by
    simp only [fillR] at h
    split at h
    · rename_i vs hvs
      obtain ⟨hi, h⟩ := condSome h
      have hi' : i < z.length := by simpa using hi
      simp only [Option.bind_eq_some_iff] at h
      obtain ⟨u, hu, h⟩ := h
      have e1 := getO_R hr x
      rw [hg (i, x) (by simp)] at e1
      obtain ⟨g1, g2, g3⟩ := segsOf_R e1 hvs
      have hu' := decS_enc hu g1
      have hvc : (a.eval x).cells.size = E.s := by
        have := g2.length
        rw [← hu', EK.enc_length] at this
        simpa using this.symm
      have hcl := hc.length
      rw [flatMap_enc_length] at hcl
      simp only [Array.length_toList] at hcl
      have hle : (i + 1) * E.s ≤ z.length * E.s := Nat.mul_le_mul_right _ hi'
      rw [Nat.succ_mul] at hle
      obtain ⟨cells1, c1, c2⟩ := fill_one (place := fun i => some (i * E.s, E.s)) (cells := cells) (i := i) (off := i * E.s) (size := E.s) (v := a.eval x) (rest := rest.map fun p => (p.1, a.eval p.2))
        rfl hvc (by omega)
      have hlen1 : ((z.take i).flatMap E.enc).length = i * E.s := by rw [flatMap_enc_length, List.length_take, Nat.min_eq_left (by omega)]
      have hsplit := elem_split E z i hi'
      have hget : (E.enc (z.getD i E.d)).length = E.s := EK.enc_length _ _
      obtain ⟨cells', d1, d2, d3⟩ := fillR_run hr rest (lset z i u) z' cells1 (fun p hp => hg p (by simp [hp])) (by
        rw [lset_eq, elem_set E z i u hi', hu', c2]
        have t1 := hc.take (i * E.s)
        have t2 := hc.drop (i * E.s + E.s)
        have q1 : (z.flatMap E.enc).take (i * E.s) = (z.take i).flatMap E.enc := by
          rw [hsplit]; exact List.take_left' hlen1
        have q2 : (z.flatMap E.enc).drop (i * E.s + E.s) = (z.drop (i + 1)).flatMap E.enc := by
          rw [hsplit, ← List.append_assoc]
          exact List.drop_left' (by rw [List.length_append, hlen1, hget])
        rw [q1] at t1; rw [q2] at t2
        have := (t1.append g2).append t2
        simpa [List.append_assoc] using this) h
      refine ⟨cells', by rw [List.map_cons, c1]; exact d1, by rw [d2, lset_eq]; simp, d3⟩
    · cases h
theorem sound_buildSliceY (ht : TabOk P tab) {t : TypeId} {len : Nat} {parts : Array (Nat × Operand)} (ho : o.op = .buildSlice t len parts) (h : evBuildSliceY tab o t len parts st k = some r) : ∃ e, k e = some r ∧ OpS P o st e := by
  have hx : ∀ p ∈ parts.toList, p.2 ∈ o.op.operands := by
    intro p hp
    simp only [ho, Op.operands]
    simp only [List.mem_toArray, List.mem_map]
    exact ⟨p, hp, rfl⟩
  unfold evBuildSliceY at h
  split at h
  · rename_i d hd
    split at h
    · rename_i e s hl
      split at h
      · rename_i B hB
        split at h
        · rename_i E hE
          have hh := condSome h
          clear h
          obtain ⟨hc, h⟩ := hh
          simp only [Bool.and_eq_true] at hc
          obtain rfl := Nat.eq_of_beq_eq_true hc.1
          have hle := Nat.le_of_ble_eq_true hc.2
          obtain ⟨j, zv', g1, g2, g3, g4, g5, g6, g7⟩ := ht.sliz t e E.s hl
          obtain ⟨i, zv, z1, z2, z3, z4⟩ := ht.zero e B hB
          obtain rfl : i = j := Option.some.inj (z1.symm.trans g2)
          obtain rfl : zv = zv' := Option.some.inj (z2.symm.trans g5)
          obtain ⟨q0, q1, q2⟩ := ekOf_spec hE z3
          have hag' : ∀ st2 : St, (∀ t ∈ tmpsOf o, st2.T t = st.T t) → ∀ x : Operand, x ∈ o.op.operands → getO st2 x = getO st x := by
            intro st2 hag x hx
            cases x with
            | tmp t => exact hag t (List.mem_filterMap.2 ⟨.tmp t, by simpa using hx, rfl⟩)
            | _ => rfl
          cases h0 : Nat.beq len 0 with
          | true =>
            rw [h0] at h
            simp only [cond_true] at h
            obtain rfl := Nat.eq_of_beq_eq_true h0
            split at h
            · rename_i hn
              have hh := condSome h
              clear h
              obtain ⟨hp, h⟩ := hh
              have hp0 : parts = #[] := by cases parts with | mk l => cases l with | nil => rfl | cons a r => simp at hp
              refine ⟨_, h, opS_val fun st2 hag w0 S nb idb ids a w hr => ?_⟩
              have hnn : st2.H (nameOf d 0) = none := by rw [hag.out _ (by simp)]; exact hn
              refine ⟨.slice (some ⟨w.heap.size, 0, none⟩) 0 0, w.alloc (.cells #[] e), ?_, _, (hr.allocObj _).empty (E := E) hnn (by have := hr.lim; simp only [nameOf]; omega), .inl ⟨by rw [freshIds_eq], _, rfl⟩, fun b hb => ?_⟩
              · have he : ∀ f : Nat → Value, Array.map f (Array.range 0) = #[] := fun f => by apply Array.ext <;> simp
                simp [execOp, ho, Instr.buildSlice, run_underlying g1, sizeOf, typeInfo, g2, hp0, Instr.fill, newRow, he]
              · simp only [TV.nm, Val.nm, SV.nm, List.mem_singleton] at hb
                subst hb
                simp [St.appH, updH_eq, outAt, Nat.beq_refl]
            · cases h
          | false =>
            rw [h0] at h
            simp only [cond_false] at h
            have hlen0 : len ≠ 0 := by rintro rfl; cases h0
            split at h
            · rename_i l hfl
              refine sound_newSlc hd h fun st2 hag w0 S nb idb ids a w hr => ?_
              have hmade := made_list zv.cells (by omega) len
              obtain ⟨cells', c1, c2, c3⟩ := fillR_run (st := st) hr parts.toList (List.replicate len E.d) l (madeCells zv.cells (len * zv.cells.size)) (fun p hp => hag' st2 hag _ (hx p hp)) (by
                rw [hmade]; exact cr_reps (q2 ids) len) hfl
              refine ⟨cells', e, ?_, c3, by rw [c2]; simp⟩
              have hmul : ¬ (16777216 < len * E.s) := by omega
              have hne : ¬ (len * E.s = 0) := by
                intro he
                rcases Nat.mul_eq_zero.1 he with h | h <;> omega
              rw [g6] at c1
              simp only [madeCells] at c1
              simp [execOp, ho, Instr.buildSlice, run_underlying g1, sizeOf, typeInfo, g2, g3, hmul, hne, hlen0, zeroValue, g5, c1, newRow]
            · cases h
        · cases h
      · cases h
    · cases h
  · cases h
theorem evOpY_sound (ht : TabOk P tab) (h : evOpY tab o st k = some r) : ∃ e, k e = some r ∧ OpS P o st e := by
  unfold evOpY at h
  split at h
  · rename_i c ho
    split at h
    · rename_i hcal
      split at h
      · rename_i t ts x hts hxs
        exact sound_lenY ht ho hcal hts hxs h
      · cases h
    · rename_i hcal
      split at h
      · rename_i t t2 x y hts hxs
        exact sound_append ht ho hcal hts hxs h
      · cases h
    · exact evOpX_sound ht h
  · rename_i t x i ho; exact sound_indexAddrY ht ho (evOpX_sound ht) h
  · rename_i t x lo hi mx ho; exact sound_slice3 ht ho h
  · rename_i t len parts ho; exact sound_buildSliceY ht ho h
  · rename_i f first captured ho
    split at h
    · rename_i h1
      split at h
      · rename_i ps hps
        exact ⟨_, h, sound_makeFunc ho (by rw [h1]; rfl) hps⟩
      · cases h
    · rename_i x h1
      obtain ⟨h2, h3⟩ := condSome h
      split at h3
      · rename_i b q hx
        exact ⟨_, h3, sound_bound ho h1 h2 hx⟩
      · cases h3
    · cases h
  · rename_i t ho; exact ⟨_, h, sound_makeMap ho⟩
  · rename_i s d x ho; exact sound_convY ht ho (evOpX_sound ht) h
  · rename_i op t x y t' ho; exact sound_eqY ht ho (evOpX_sound ht) h
  · exact evOpX_sound ht h
end Go.Proofs.YtlmmgjngihlpeaaDoor.Sx
