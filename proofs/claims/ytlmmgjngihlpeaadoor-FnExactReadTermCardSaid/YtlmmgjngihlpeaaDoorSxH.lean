/- A symbolic evaluator for the machine's code, part H: that it tells the truth of single operations. Our own work. -/
import Derived.Test.YtlmmgjngihlpeaaDoorSxG
namespace Go.Proofs.YtlmmgjngihlpeaaDoor.Sx
open Go
set_option linter.unusedVariables false
set_option linter.unusedSimpArgs false
variable {P : Program}
theorem opS_pure {o : Oper} {st : St} {x : TV} {rd : List Nat} (hrun : ∀ st2, Agr (tmpsOf o) ⟨x, rd, []⟩ st st2 → ∀ w0 S nb idb ids a w, Rep w0 S nb idb ids st2 a w →
    ∃ v, (execOp a.eval o).run P w = .ok (.value v) w ∧ x.R ids v ∧ ∀ b ∈ x.nm, (st2.H b).isSome = true) : OpS P o st ⟨x, rd, []⟩ :=
  opS_val fun st2 hag w0 S nb idb ids a w hr =>
    let ⟨v, h1, h2, h3⟩ := hrun st2 hag w0 S nb idb ids a w hr
    ⟨v, w, h1, post_pure hr h2 h3⟩
theorem run_v {o : Oper} {ρ : Operand → Value} {w : World} {s : Sem Value} {v : Value} (ho : execOp ρ o = (do pure (.value (← s)))) (h : s.run P w = .ok v w) :
    (execOp ρ o).run P w = .ok (.value v) w := by
  rw [ho]; simp [h]
theorem sound_get {o : Oper} {st : St} {x : Operand} (hx : x ∈ o.op.operands) (hop : ∀ ρ, execOp ρ o = pure (.value (ρ x))) : OpS P o st (pureE (getO st x)) :=
  opS_pure fun st2 hag w0 S nb idb ids a w hr => ⟨a.eval x, by rw [hop]; rfl, by rw [← getO_agr hag hx]; exact getO_R hr x, by rw [← getO_agr hag hx]; exact getO_nm hr x⟩
variable {α : Type} {k : Eff → Option α} {r : α} {tab : Tab} {st : St} {o : Oper}
theorem sound_pick {c x y : Operand} (ho : o.op = .pick c x y) (h : evOp tab o st k = some r) : ∃ f, k f = some r ∧ OpS P o st f := by
  simp only [evOp, ho] at h
  split at h
  · rename_i t hc
    cases t with
    | true =>
      refine ⟨_, h, opS_pure fun st2 hag w0 S nb idb ids a w hr => ⟨a.eval x, ?_, ?_, ?_⟩⟩
      · have hcv := getO_R hr c
        rw [getO_agr hag (x := c) (by simp [ho, Op.operands]), hc] at hcv
        have hcv' : a.eval c = .bool true := hcv
        simp [execOp, ho, hcv', asBool]
      · rw [← getO_agr hag (x := x) (by simp [ho, Op.operands])]; exact getO_R hr x
      · rw [← getO_agr hag (x := x) (by simp [ho, Op.operands])]; exact getO_nm hr x
    | false =>
      refine ⟨_, h, opS_pure fun st2 hag w0 S nb idb ids a w hr => ⟨a.eval y, ?_, ?_, ?_⟩⟩
      · have hcv := getO_R hr c
        rw [getO_agr hag (x := c) (by simp [ho, Op.operands]), hc] at hcv
        have hcv' : a.eval c = .bool false := hcv
        simp [execOp, ho, hcv', asBool]
      · rw [← getO_agr hag (x := y) (by simp [ho, Op.operands])]; exact getO_R hr y
      · rw [← getO_agr hag (x := y) (by simp [ho, Op.operands])]; exact getO_nm hr y
  · cases h
theorem sound_bin (ht : TabOk P tab) {op : BinOp} {t t' : TypeId} {x y : Operand} (ho : o.op = .binOp op t x y t') (h : evOp tab o st k = some r) : ∃ f, k f = some r ∧ OpS P o st f := by
  simp only [evOp, ho, evBin] at h
  have hx : x ∈ o.op.operands := by simp [ho, Op.operands]
  have hy : y ∈ o.op.operands := by simp [ho, Op.operands]
  split at h
  · rename_i k1 a1 k2 b1 h1 h2
    obtain ⟨s, hs, hnm, hrun⟩ := int_run (P := P) h t
    refine ⟨svE s, hs, opS_pure fun st2 hag w0 S nb idb ids a w hr => ?_⟩
    have e1 := getO_R hr x; have e2 := getO_R hr y
    rw [getO_agr hag hx, h1] at e1; rw [getO_agr hag hy, h2] at e2
    have e1' : a.eval x = .int k1 a1 := e1
    have e2' : a.eval y = .int k2 b1 := e2
    obtain ⟨v, hv, hR⟩ := hrun w
    refine ⟨v, ?_, hR ids, by intro b hb; simp only [TV.nm, Val.nm, hnm] at hb; cases hb⟩
    have hg : (eqGuard op t x y (.int k1 a1) (.int k2 b1)).run P w = .ok () w := by unfold eqGuard; split <;> rfl
    simp [execOp, ho, e1', e2', hg, hv]
  · rename_i a1 b1 h1 h2
    cases hb : has tab.bol t with
    | false => rw [hb] at h; cases h
    | true =>
      rw [hb] at h
      have hu := ht.bol t hb
      have hmain : ∀ (s : SV) (v : Value), s.nm = [] → (∀ ids, s.R ids v) → (∀ w, (binOp op t (.bool a1) (.bool b1)).run P w = .ok v w) → OpS P o st (svE s) := by
        intro s v hnm hR hrun
        refine opS_pure fun st2 hag w0 S nb idb ids a w hr => ?_
        have e1 := getO_R hr x; have e2 := getO_R hr y
        rw [getO_agr hag hx, h1] at e1; rw [getO_agr hag hy, h2] at e2
        have e1' : a.eval x = .bool a1 := e1
        have e2' : a.eval y = .bool b1 := e2
        refine ⟨v, ?_, hR ids, by intro b hb; simp only [TV.nm, Val.nm, hnm] at hb; cases hb⟩
        have hg : (eqGuard op t x y (.bool a1) (.bool b1)).run P w = .ok () w := by unfold eqGuard; split <;> rfl
        simp [execOp, ho, e1', e2', hg, hrun w]
      simp only [cond_true] at h
      cases op <;> simp only [reduceCtorEq] at h
      case eql => exact ⟨_, h, hmain _ (.bool (a1 == b1)) rfl (fun _ => rfl) fun w => run_eql_bool w t a1 b1 hu⟩
      case neq => exact ⟨_, h, hmain _ (.bool (!(a1 == b1))) rfl (fun _ => rfl) fun w => run_neq_bool w t a1 b1 hu⟩
  · rename_i a1 b1 h1 h2
    obtain ⟨s, hs, hnm, hrun⟩ := str_run (P := P) h t
    refine ⟨svE s, hs, opS_pure fun st2 hag w0 S nb idb ids a w hr => ?_⟩
    have e1 := getO_R hr x; have e2 := getO_R hr y
    rw [getO_agr hag hx, h1] at e1; rw [getO_agr hag hy, h2] at e2
    have e1' : a.eval x = .string a1 := e1
    have e2' : a.eval y = .string b1 := e2
    obtain ⟨v, hv, hR⟩ := hrun w
    refine ⟨v, ?_, hR ids, by intro b hb; simp only [TV.nm, Val.nm, hnm] at hb; cases hb⟩
    have hg : (eqGuard op t x y (.string a1) (.string b1)).run P w = .ok () w := by unfold eqGuard; split <;> rfl
    simp [execOp, ho, e1', e2', hg, hv]
  · rename_i a1 b1 h1 h2
    split at h
    · rename_i ks hks
      obtain ⟨hf, hag1, hgu⟩ := ht.eqt t ks hks
      cases hc : (ksIs a1 ks && ksIs b1 ks) with
      | false => rw [hc] at h; cases h
      | true =>
        rw [hc] at h
        simp only [Bool.and_eq_true] at hc
        simp only [cond_true] at h
        split at h
        · rename_i e he
          have hmain : ∀ (v : Bool), (∀ (w : World) (xs ys : Array Value), eqCs xs.toList ys.toList = e → (Op.equalIn 10000 t (.agg xs) (.agg ys)).run P w = .ok e w → (binOp op t (.agg xs) (.agg ys)).run P w = .ok (.bool v) w) → OpS P o st (svE (.bool v)) := by
            intro v hrun
            refine opS_pure fun st2 hag w0 S nb idb ids a w hr => ?_
            have e1 := getO_R hr x; have e2 := getO_R hr y
            rw [getO_agr hag hx, h1] at e1; rw [getO_agr hag hy, h2] at e2
            obtain ⟨xs, ex, q1, q2⟩ := e1
            obtain ⟨ys, ey, q3, q4⟩ := e2
            have hxy := eqO_spec he q1 q3 q2 q4
            have k1 := ksIs_spec hc.1 q1 q2
            have k2 := ksIs_spec hc.2 q3 q4
            have hq := eqAt (P := P) 9992 8 t ks hf w _ _ k1 k2
            have hv : ∀ zs : Array Value, valOf P t zs.toList = .agg zs := fun zs => by simp [valOf, hag1]
            rw [hv, hv, hxy] at hq
            refine ⟨.bool v, ?_, rfl, by intro b hb; cases hb⟩
            simp [execOp, ho, ex, ey, run_eqGuard_agg w op t x y xs ys hgu, hrun w xs ys hxy hq]
          cases op <;> simp only [reduceCtorEq] at h
          case eql => exact ⟨_, h, hmain _ fun w xs ys _ hq => by rw [run_eql_struct, hq]; rfl⟩
          case neq => exact ⟨_, h, hmain _ fun w xs ys _ hq => by rw [run_neq_struct, hq]; rfl⟩
        · cases h
    · cases h
  · cases h
theorem sound_un {op : UnOp} {t : TypeId} {x : Operand} (ho : o.op = .unOp op t x) (h : evOp tab o st k = some r) : ∃ f, k f = some r ∧ OpS P o st f := by
  simp only [evOp, ho, evUn] at h
  have hx : x ∈ o.op.operands := by simp [ho, Op.operands]
  split at h
  · rename_i k1 a1 h1
    refine ⟨_, h, opS_pure fun st2 hag w0 S nb idb ids a w hr => ?_⟩
    have e1 := getO_R hr x
    rw [getO_agr hag hx, h1] at e1
    have e1' : a.eval x = .int k1 a1 := e1
    exact ⟨_, by simp [execOp, ho, e1', Op.unary, Op.intArith], rfl, fun b hb => by cases hb⟩
  · rename_i b1 h1
    refine ⟨_, h, opS_pure fun st2 hag w0 S nb idb ids a w hr => ?_⟩
    have e1 := getO_R hr x
    rw [getO_agr hag hx, h1] at e1
    have e1' : a.eval x = .bool b1 := e1
    exact ⟨.bool (!b1), by simp [execOp, ho, e1', Op.unary], rfl, fun b hb => by cases hb⟩
  · rename_i k1 a1 h1
    refine ⟨_, h, opS_pure fun st2 hag w0 S nb idb ids a w hr => ?_⟩
    have e1 := getO_R hr x
    rw [getO_agr hag hx, h1] at e1
    have e1' : a.eval x = .int k1 a1 := e1
    exact ⟨.int k1 (ibits .xor k1 (if k1.signed then -1 else k1.max) a1), by simp [execOp, ho, e1', Op.unary, Op.intBits, ibits], rfl, fun b hb => by cases hb⟩
  · cases h
theorem sound_conv (ht : TabOk P tab) {s d : TypeId} {x : Operand} (ho : o.op = .convert s d x) (h : evOp tab o st k = some r) : ∃ f, k f = some r ∧ OpS P o st f := by
  simp only [evOp, ho, evConv] at h
  have hx : x ∈ o.op.operands := by simp [ho, Op.operands]
  split at h
  · rename_i k1 a1 h1
    split at h
    · rename_i k0 h0
      split at h
      · rename_i k2 h2
        refine ⟨_, h, opS_pure fun st2 hag w0 S nb idb ids a w hr => ?_⟩
        have e1 := getO_R hr x
        rw [getO_agr hag hx, h1] at e1
        have e1' : a.eval x = .int k1 a1 := e1
        have hu := ht.knd d k2 h2
        have hs := ht.knd s k0 h0
        refine ⟨.int k2 (k2.wrap a1), ?_, rfl, fun b hb => by cases hb⟩
        simp [execOp, ho, e1', convert, run_underlying hs, run_underlying hu, Conv.intToInt]
      · cases h
    · cases h
  · cases h
def lcOf : List Seg → Nat × Nat
  | [.gro _ l] => (l.length, l.length)
  | _ => (0, 0)
theorem sound_new {d : Nat} (hd : o.dst = some d) {B : List Seg} {k : Eff → Option α} (h : newB st d B k = some r)
    (hrun : ∀ st2, (∀ t ∈ tmpsOf o, st2.T t = st.T t) → ∀ w0 S nb idb ids a w, Rep w0 S nb idb ids st2 a w → ∃ cs t, (execOp a.eval o).run P w = .ok (.value (.pointer (some ⟨w.heap.size, 0, none⟩))) (w.alloc (.cells cs t)) ∧
      CR ids (cellsL B) cs.toList ∧ oksL B ∧ ∀ c ∈ nmL B, (st2.H c).isSome = true) : ∃ f, k f = some r ∧ OpS P o st f := by
  simp only [newB] at h
  split at h
  · rename_i hn
    cases hpl : plainB B with
    | false => rw [hpl] at h; cases h
    | true =>
    rw [hpl] at h
    simp only [cond_true] at h
    refine ⟨_, h, opS_val fun st2 hag w0 S nb idb ids a w hr => ?_⟩
    obtain ⟨cs, t, h1, h2, h3, h4⟩ := hrun st2 hag.T w0 S nb idb ids a w hr
    have hnn : st2.H (nameOf d 0) = none := by rw [hag.out _ (by simp)]; exact hn
    refine ⟨_, _, h1, freshIds ids (nameOf d 0) (w.heap.size, 0, lcOf B), ?_, ?_, ?_⟩
    · refine hr.alloc hnn (by have := hr.lim; simp only [nameOf]; omega) h3 (xs := []) (by rw [List.append_nil]; exact h2) h4 (fun E l hB => ?_) (plainB_spec hpl).1 (plainB_spec hpl).2
      subst hB
      refine ⟨rfl, ?_⟩
      have hl := h2.length
      rw [cells_gro, flatMap_enc_length] at hl
      replace hl : l.length * E.s = cs.size := by simpa using hl
      show l.length * E.s ≤ cs.size
      omega
    · show _ = _
      simp [freshIds_eq]
    · intro b hb
      simp only [TV.nm, Val.nm, SV.nm, List.mem_singleton] at hb
      subst hb
      simp [St.appH, updH_eq, outAt, Nat.beq_refl]
  · cases h
theorem zeq_nmL {B : List Seg} {vs : List Value} (hz : ∀ s ∈ B, segOkB s = true) (h : zeqL (cellsL B) vs = true) : ∀ c ∈ nmL B, False := by
  intro c hc
  simp only [nmL, List.mem_flatMap] at hc
  obtain ⟨s, hs, hc⟩ := hc
  cases s with
  | one x =>
    have : x ∈ cellsL B := List.mem_flatMap.2 ⟨.one x, hs, by simp [Seg.cells]⟩
    have := zeqL_nm h x this
    simp only [Seg.nm, this] at hc; cases hc
  | seq E n l => cases hc
  | mp => have := hz _ hs; cases this
  | rws => have := hz _ hs; cases this
  | gro E l => cases hc
theorem sound_alloc (ht : TabOk P tab) {e : TypeId} (ho : o.op = .alloc e) (h : evOp tab o st k = some r) : ∃ f, k f = some r ∧ OpS P o st f := by
  simp only [evOp, ho] at h
  split at h
  · rename_i d hd
    split at h
    · rename_i B hB
      refine sound_new hd h fun st2 hag w0 S nb idb ids a w hr => ?_
      obtain ⟨i, v, h1, h2, h3, h4⟩ := ht.zero e B hB
      refine ⟨v.cells, e, ?_, zeqL_R h3, h4, fun c hc => (zeq_nmL (ht.zeron e B hB) h3 c hc).elim⟩
      simp [execOp, ho, Instr.alloc, zeroValue, typeInfo, h1, h2, newVar, newRow]
    · cases h
  · cases h
theorem one_cells {v : Value} (h : v.oneCell' = true) : v.cells = #[v] := by cases v <;> simp_all [Value.oneCell', Value.cells]
theorem segsOf_R {ids : Ids} {x : TV} {v : Value} {B : List Seg} (h : x.R ids v) (hs : segsOf x = some B) : oksL B ∧ CR ids (cellsL B) v.cells.toList ∧ (∀ b ∈ nmL B, b ∈ x.nm) := by
  cases x with
  | tup l => simp [segsOf] at hs
  | vl y =>
    cases y with
    | sv s =>
      simp only [segsOf] at hs
      cases hk : s.known with
      | false => rw [hk] at hs; cases hs
      | true =>
        rw [hk] at hs
        obtain rfl := Option.some.inj hs
        have h' : s.R ids v := h
        rw [one_cells (h'.one hk)]
        refine ⟨fun x hx => ?_, ?_, fun b hb => ?_⟩
        · simp only [List.mem_singleton] at hx; subst hx; trivial
        · simp [cellsL, Seg.cells, CR]; exact h'
        · simpa [nmL, Seg.nm, TV.nm, Val.nm] using hb
    | agg l =>
      simp only [segsOf, Option.some.injEq] at hs
      subst hs
      obtain ⟨cs, h1, h2, h3⟩ := h
      subst h1
      exact ⟨h2, h3, fun b hb => hb⟩
theorem sound_box {e : TypeId} {x : Operand} (ho : o.op = .box e x) (h : evOp tab o st k = some r) : ∃ f, k f = some r ∧ OpS P o st f := by
  simp only [evOp, ho] at h
  have hx : x ∈ o.op.operands := by simp [ho, Op.operands]
  split at h
  · rename_i d hd
    split at h
    · rename_i B hB
      refine sound_new hd h fun st2 hag w0 S nb idb ids a w hr => ?_
      have hgo : getO st2 x = getO st x := by
        cases x with
        | tmp t => exact hag t (List.mem_filterMap.2 ⟨.tmp t, by simpa using hx, rfl⟩)
        | _ => rfl
      have e1 := getO_R hr x
      rw [hgo] at e1
      obtain ⟨g1, g2, g3⟩ := segsOf_R e1 hB
      refine ⟨(a.eval x).cells, e, ?_, g2, g1, fun c hc => ?_⟩
      · simp [execOp, ho, Instr.box, newVar, newRow]
      · exact getO_nm hr x c (by rw [hgo]; exact g3 c hc)
    · cases h
  · cases h
theorem sound_nil {x : Operand} (ho : o.op = .nilCheck x) (h : evOp tab o st k = some r) : ∃ f, k f = some r ∧ OpS P o st f := by
  simp only [evOp, ho, evNil] at h
  have hx : x ∈ o.op.operands := by simp [ho, Op.operands]
  split at h
  · rename_i b1 o1 h1
    refine ⟨_, h, opS_pure fun st2 hag w0 S nb idb ids a w hr => ?_⟩
    have e1 := getO_R hr x; have e2 := getO_nm hr x
    rw [getO_agr hag hx, h1] at e1 e2
    have e1' : a.eval x = _ := e1
    exact ⟨_, by simp [execOp, ho, e1'], rfl, e2⟩
  · rename_i b1 o1 s1 i1 f1 h1
    refine ⟨_, h, opS_pure fun st2 hag w0 S nb idb ids a w hr => ?_⟩
    have e1 := getO_R hr x; have e2 := getO_nm hr x
    rw [getO_agr hag hx, h1] at e1 e2
    have e1' : a.eval x = _ := e1
    exact ⟨_, by simp [execOp, ho, e1'], rfl, e2⟩
  · cases h
theorem VsR.nth {ids : Ids} {xs : List Val} {vs : List Value} {i : Nat} {x : Val} (h : VsR ids xs vs) (hx : nth xs i = some x) : ∃ v, vs[i]? = some v ∧ x.R ids v := h.get (by rw [← nth_eq]; exact hx)
theorem sound_extract {x : Operand} {i : Nat} (ho : o.op = .extract x i) (h : evOp tab o st k = some r) : ∃ f, k f = some r ∧ OpS P o st f := by
  simp only [evOp, ho, evExtract] at h
  have hx : x ∈ o.op.operands := by simp [ho, Op.operands]
  split at h
  · rename_i l h1
    split at h
    · rename_i y hy
      refine ⟨_, h, opS_pure fun st2 hag w0 S nb idb ids a w hr => ?_⟩
      have e1 := getO_R hr x; have e2 := getO_nm hr x
      rw [getO_agr hag hx, h1] at e1 e2
      obtain ⟨vs, hv, hR⟩ := e1
      obtain ⟨v, hv2, hR2⟩ := hR.nth hy
      have hv3 : vs[i]? = some v := by simpa using hv2
      refine ⟨v, by simp [execOp, ho, hv, Instr.extract, hv3], hR2, fun b hb => e2 b ?_⟩
      simp only [TV.nm, List.mem_flatMap]
      exact ⟨y, List.mem_of_getElem? (by rw [← nth_eq]; exact hy), hb⟩
    · cases h
  · cases h
theorem run_fieldAt (ht : TabOk P tab) {s : TypeId} {l : List (Nat × Nat)} {f off sz : Nat} (hl : alook tab.fld s = some l) (hf : nth l f = some (off, sz)) (w : World) (g q : Nat) :
    (Instr.fieldAt s (.pointer (some ⟨g, q, none⟩)) f).run P w = .ok (.pointer (some ⟨g, q + off, none⟩)) w := by
  obtain ⟨fs, hu, hfs⟩ := ht.fld s l hl
  obtain ⟨fd, j, h1, h2, h3, h4, h5⟩ := hfs f (off, sz) (by rw [← nth_eq]; exact hf)
  simp only at h2 h4 h5
  have : j.size ≠ 0 := by omega
  simp [Instr.fieldAt, run_underlying hu, h1, Instr.sureAddr, fieldPlace, sizeOf, typeInfo, h3, this, addr_add, h2]
theorem sound_field (ht : TabOk P tab) {s : TypeId} {x : Operand} {f : Nat} (ho : o.op = .fieldAddr s x f) (h : evOp tab o st k = some r) : ∃ e, k e = some r ∧ OpS P o st e := by
  simp only [evOp, ho, evFieldAddr] at h
  have hx : x ∈ o.op.operands := by simp [ho, Op.operands]
  split at h
  · rename_i l hl
    split at h
    · rename_i off sz hf
      split at h
      · rename_i b1 o1 h1
        refine ⟨_, h, opS_pure fun st2 hag w0 S nb idb ids a w hr => ?_⟩
        have e1 := getO_R hr x; have e2 := getO_nm hr x
        rw [getO_agr hag hx, h1] at e1 e2
        have e1' : a.eval x = _ := e1
        refine ⟨_, by simp [execOp, ho, e1', run_fieldAt ht hl hf]; rfl, ?_, e2⟩
        show _ = _
        simp [Nat.add_assoc]
      · rename_i b1 o1 s1 i1 f1 h1
        refine ⟨_, h, opS_pure fun st2 hag w0 S nb idb ids a w hr => ?_⟩
        have e1 := getO_R hr x; have e2 := getO_nm hr x
        rw [getO_agr hag hx, h1] at e1 e2
        have e1' : a.eval x = _ := e1
        refine ⟨_, by simp [execOp, ho, e1', run_fieldAt ht hl hf]; rfl, ?_, e2⟩
        show _ = _
        simp [Nat.add_assoc]
      · cases h
    · cases h
  · cases h
theorem sound_indexAddr (ht : TabOk P tab) {t : TypeId} {x i : Operand} (ho : o.op = .indexAddr t x i) (h : evOp tab o st k = some r) : ∃ e, k e = some r ∧ OpS P o st e := by
  simp only [evOp, ho, evIndexAddr] at h
  have hx : x ∈ o.op.operands := by simp [ho, Op.operands]
  have hi : i ∈ o.op.operands := by simp [ho, Op.operands]
  split at h
  · rename_i k1 n h1
    split at h
    · rename_i b1 o1 h2
      split at h
      · rename_i len s hl
        split at h
        · rename_i hn
          refine ⟨_, h, opS_pure fun st2 hag w0 S nb idb ids a w hr => ?_⟩
          have e1 := getO_R hr x; have e2 := getO_nm hr x; have e3 := getO_R hr i
          rw [getO_agr hag hx, h2] at e1 e2
          rw [getO_agr hag hi, h1] at e3
          have e1' : a.eval x = _ := e1
          have e3' : a.eval i = _ := e3
          obtain ⟨e, j, g1, g2, g3, g4, g5⟩ := ht.arr t len s hl
          refine ⟨_, by simp [execOp, ho, e1', e3', Instr.indexAt, asIntOf, run_underlying g1, Instr.sureAddr, hn, sizeOf, typeInfo, g2, addr_add]; rfl, ?_, e2⟩
          show _ = _
          simp [g3, Nat.add_assoc]
        · cases h
      · cases h
    · rename_i b1 o1 s1 lo len cap h2
      split at h
      · rename_i e s' hl
        cases hs : Nat.beq s1 s' with
        | false => rw [hs] at h; cases h
        | true =>
          rw [hs] at h
          obtain rfl := Nat.eq_of_beq_eq_true hs
          simp only [cond_true] at h
          split at h
          · rename_i hn
            refine ⟨_, h, opS_pure fun st2 hag w0 S nb idb ids a w hr => ?_⟩
            have e1 := getO_R hr x; have e2 := getO_nm hr x; have e3 := getO_R hr i
            rw [getO_agr hag hx, h2] at e1 e2
            rw [getO_agr hag hi, h1] at e3
            have e1' : a.eval x = _ := e1
            have e3' : a.eval i = _ := e3
            obtain ⟨j, g1, g2, g3, _⟩ := ht.sli t e s1 hl
            refine ⟨_, by simp [execOp, ho, e1', e3', Instr.indexAt, asIntOf, run_underlying g1, hn, sizeOf, typeInfo, g2, addr_add]; rfl, ?_, e2⟩
            show _ = _
            simp [g3, Nat.add_assoc, Nat.add_mul]
          · cases h
      · cases h
    · cases h
  · cases h
theorem sound_index (ht : TabOk P tab) {t : TypeId} {x i : Operand} (ho : o.op = .index t x i) (h : evOp tab o st k = some r) : ∃ e, k e = some r ∧ OpS P o st e := by
  simp only [evOp, ho, evIndex] at h
  have hx : x ∈ o.op.operands := by simp [ho, Op.operands]
  have hi : i ∈ o.op.operands := by simp [ho, Op.operands]
  split at h
  · rename_i k1 n h1
    split at h
    · rename_i s h2
      cases hs : has tab.str t with
      | false => rw [hs] at h; cases h
      | true =>
        rw [hs] at h
        simp only [cond_true] at h
        split at h
        · rename_i hn
          refine ⟨_, h, opS_pure fun st2 hag w0 S nb idb ids a w hr => ?_⟩
          have e1 := getO_R hr x; have e3 := getO_R hr i
          rw [getO_agr hag hx, h2] at e1
          rw [getO_agr hag hi, h1] at e3
          have e1' : a.eval x = .string s := e1
          have e3' : a.eval i = .int k1 n := e3
          have hu := ht.str t hs
          have hlt : n.toNat < s.size := by omega
          have hb : s[n.toNat]? = some s[n.toNat] := by simp [hlt]
          refine ⟨.int .u8 (byteAt s n.toNat), ?_, rfl, fun b hb => by cases hb⟩
          have hbyte : (s[n.toNat].toNat : Int) = byteAt s n.toNat := by
            unfold byteAt
            have : s.data.toList.getD n.toNat 0 = s[n.toNat] := by
              simp [List.getD, ByteArray.getElem_eq_getElem_data, Array.getElem?_eq_getElem (show n.toNat < s.data.size from hlt)]
            rw [this]
          simp [execOp, ho, e1', e3', Instr.index, asIntOf, run_underlying hu, hn.1, hb, hbyte]
        · cases h
    · cases h
  · cases h
theorem isAgg_run {d : TypeDesc} {t : TypeId} (hu : P.underlying t = some d) (w : World) : (isAgg t).run P w = .ok (isAggD d) w := by
  cases d <;> simp [isAgg, run_underlying hu, isAggD]
theorem flatMap_enc_get (E : EK) : ∀ (l : List E.T) (i f : Nat), i < l.length → f < E.s → (l.flatMap E.enc)[i * E.s + f]? = (E.enc (l.getD i E.d))[f]?
  | [], i, f, h, _ => by simp at h
  | x :: l, 0, f, _, hf => by
    simp only [List.flatMap_cons, Nat.zero_mul, Nat.zero_add, List.getD_cons_zero]
    rw [List.getElem?_append_left (by rw [EK.enc_length]; exact hf)]
  | x :: l, i + 1, f, h, hf => by
    simp only [List.flatMap_cons, List.getD_cons_succ]
    rw [List.getElem?_append_right (by rw [EK.enc_length, Nat.succ_mul]; omega), EK.enc_length, ← flatMap_enc_get E l i f (by simpa using h) hf]
    congr 1; rw [Nat.succ_mul]; omega
theorem seg_elem {B : List Seg} {o n i f : Nat} {E : EK} {l : List E.T} {R : List Seg} (hok : oksL B) (h : segAt B o = some (.seq E n l :: R)) (hi : i < n) (hf : f < E.s) :
    (cellsL B)[o + i * E.s + f]? = (E.enc (l.getD i E.d))[f]? ∧ l.length = n := by
  obtain ⟨h1, h2, h3, h4⟩ := segAt_spec hok h
  have hn : l.length = n := h3 (.seq E n l) (by simp)
  refine ⟨?_, hn⟩
  have hlt : i * E.s + f < (l.flatMap E.enc).length := by
    rw [flatMap_enc_length, hn]
    have : (i + 1) * E.s ≤ n * E.s := Nat.mul_le_mul_right _ hi
    rw [Nat.succ_mul] at this; omega
  rw [← flatMap_enc_get E l i f (by omega) hf, Nat.add_assoc, ← List.getElem?_drop, ← h2]
  simp only [cellsL, List.flatMap_cons, Seg.cells]
  rw [List.getElem?_append_left hlt]
theorem sound_load (ht : TabOk P tab) {t : TypeId} {x : Operand} (ho : o.op = .load t x) (h : evOp tab o st k = some r) : ∃ e, k e = some r ∧ OpS P o st e := by
  simp only [evOp, ho, evLoad] at h
  have hx : x ∈ o.op.operands := by simp [ho, Op.operands]
  -- one cell
  have hone : ∀ (b o' : Nat) (B : Blk) (y : SV) (a : Act) (w : World) (w0 : World) (S : List Nat) (nb : Nat) (idb ids : Ids) (st2 : St), has tab.sca t = true →
      a.eval x = .pointer (some ⟨(ids b).1, (ids b).2.1 + o', none⟩) → Rep w0 S nb idb ids st2 a w → st2.H b = some B → (cellsL B.2)[o']? = some y →
      ∃ v, (execOp a.eval o).run P w = .ok (.value v) w ∧ TV.R ids (.vl (.sv y)) v ∧ ∀ c ∈ y.nm, (st2.H c).isSome = true := by
    intro b o' B y a w w0 S nb idb ids st2 hs ha hr hB hy
    obtain ⟨⟨d, hu, hd⟩, i, hi, hsz⟩ := ht.sca t hs
    obtain ⟨_, _, _, hc⟩ := hr.blk b B hB
    obtain ⟨v, g1, g2, _⟩ := hc o' y hy
    refine ⟨v, ?_, g2, fun c hc' => hr.clH b B hB c (cellsL_nm _ y (List.mem_of_getElem? hy) c hc')⟩
    simp [execOp, ho, ha, Instr.loadAt, Instr.sureAddr, loadVar, isAgg_run hu, hd, g1]
  -- a run
  have hrun : ∀ (b o' n : Nat) (B : Blk) (l : List Seg) (a : Act) (w : World) (w0 : World) (S : List Nat) (nb : Nat) (idb ids : Ids) (st2 : St), alook tab.agg t = some n →
      a.eval x = .pointer (some ⟨(ids b).1, (ids b).2.1 + o', none⟩) → Rep w0 S nb idb ids st2 a w → st2.H b = some B → o' + n ≤ (cellsL B.2).length → cellsL l = ((cellsL B.2).drop o').take n → oksL l →
      ∃ v, (execOp a.eval o).run P w = .ok (.value v) w ∧ TV.R ids (.vl (.agg l)) v := by
    intro b o' n B l a w w0 S nb idb ids st2 hs ha hr hB hlen hl hok
    obtain ⟨⟨d, hu, hd⟩, i, hi, hsz⟩ := ht.agg t n hs
    obtain ⟨cs, g1, g2⟩ := run_loadCells_rep (P := P) hr hB hlen
    refine ⟨.agg cs, ?_, cs, rfl, hok, by rw [hl]; exact g2⟩
    simp [execOp, ho, ha, Instr.loadAt, Instr.sureAddr, loadVar, isAgg_run hu, hd, sizeOf, typeInfo, hi, hsz, g1]
  split at h
  · rename_i b1 o1 h1
    split at h
    · rename_i B hB
      split at h
      · rename_i R hR
        cases hs : has tab.sca t with
        | true =>
          rw [hs] at h
          simp only [cond_true] at h
          split at h
          · rename_i y R'
            refine ⟨_, h, opS_pure fun st2 hag w0 S nb idb ids a w hr => ?_⟩
            have hB2 : st2.H b1 = some B := by rw [hag.rd b1 (by simp)]; exact hB
            have e1 := getO_R hr x
            rw [getO_agr hag hx, h1] at e1
            obtain ⟨q1, q2, q3, q4⟩ := segAt_spec (hr.blk b1 B hB2).1 hR
            refine hone b1 o1 B y a w w0 S nb idb ids st2 hs e1 hr hB2 ?_
            have hz : (cellsL (Seg.one y :: R'))[0]? = some y := by simp [cellsL, Seg.cells]
            rw [q2, List.getElem?_drop] at hz
            simpa using hz
          · cases h
        | false =>
          rw [hs] at h
          simp only [cond_false] at h
          split at h
          · rename_i n hn
            split at h
            · rename_i l hl
              refine ⟨_, h, opS_pure fun st2 hag w0 S nb idb ids a w hr => ?_⟩
              have hB2 : st2.H b1 = some B := by rw [hag.rd b1 (by simp)]; exact hB
              have e1 := getO_R hr x
              rw [getO_agr hag hx, h1] at e1
              obtain ⟨q1, q2, q3, q4⟩ := segAt_spec (hr.blk b1 B hB2).1 hR
              obtain ⟨p1, p2, p3, p4⟩ := segTake_spec q3 hl
              obtain ⟨v, g1, g2⟩ := hrun b1 o1 n B l a w w0 S nb idb ids st2 hn e1 hr hB2 (by rw [q2] at p1; simp at p1; omega) (by rw [p2, q2]) p3
              exact ⟨v, g1, g2, fun c hc => hr.clH b1 B hB2 c (q4 c (p4 c hc))⟩
            · cases h
          · cases h
      · cases h
    · cases h
  · rename_i b1 o1 s1 i1 f1 h1
    split at h
    · rename_i B hB
      split at h
      · rename_i E n l R hR
        cases hs1 : Nat.beq E.s s1 with
        | false => rw [hs1] at h; cases h
        | true =>
          obtain rfl := Nat.eq_of_beq_eq_true hs1
          rw [hs1] at h
          simp only [cond_true] at h
          split at h
          · rename_i hi
            cases hs : has tab.sca t with
            | true =>
              rw [hs] at h
              simp only [cond_true] at h
              split at h
              · rename_i y hy
                refine ⟨_, h, opS_pure fun st2 hag w0 S nb idb ids a w hr => ?_⟩
                have hB2 : st2.H b1 = some B := by rw [hag.rd b1 (by simp)]; exact hB
                have e1 := getO_R hr x
                rw [getO_agr hag hx, h1] at e1
                rw [nth_eq] at hy
                have hf : f1 < E.s := by
                  have := (List.getElem?_eq_some_iff.1 hy).1
                  rwa [EK.enc_length] at this
                have hse := seg_elem (hr.blk b1 B hB2).1 hR hi hf
                exact hone b1 (o1 + i1 * E.s + f1) B y a w w0 S nb idb ids st2 hs e1 hr hB2 (hse.1.trans hy)
              · cases h
            | false =>
              rw [hs] at h
              simp only [cond_false] at h
              split at h
              · rename_i m hm
                cases hmf : (Nat.beq m E.s && Nat.beq f1 0) with
                | false => rw [hmf] at h; cases h
                | true =>
                  rw [hmf] at h
                  simp only [Bool.and_eq_true] at hmf
                  obtain rfl := Nat.eq_of_beq_eq_true hmf.1
                  obtain rfl := Nat.eq_of_beq_eq_true hmf.2
                  refine ⟨_, h, opS_pure fun st2 hag w0 S nb idb ids a w hr => ?_⟩
                  have hB2 : st2.H b1 = some B := by rw [hag.rd b1 (by simp)]; exact hB
                  have e1 := getO_R hr x
                  rw [getO_agr hag hx, h1] at e1
                  obtain ⟨q1, q2, q3, q4⟩ := segAt_spec (hr.blk b1 B hB2).1 hR
                  have hn : l.length = n := q3 (.seq E n l) (by simp)
                  have hle : o1 + i1 * E.s + E.s ≤ (cellsL B.2).length := by
                    have hq := congrArg List.length q2
                    simp only [cellsL, List.flatMap_cons, List.length_append, Seg.cells, List.length_drop] at hq
                    rw [flatMap_enc_length, hn] at hq
                    have : (i1 + 1) * E.s ≤ n * E.s := Nat.mul_le_mul_right _ hi
                    rw [Nat.succ_mul] at this
                    have hq1 : o1 ≤ (cellsL B.2).length := q1
                    simp only [cellsL] at hq1 ⊢
                    omega
                  have hcells : cellsL ((E.enc (l.getD i1 E.d)).map Seg.one) = E.enc (l.getD i1 E.d) := by
                    simp [cellsL, List.flatMap_map, Seg.cells]
                  have hone' : oksL ((E.enc (l.getD i1 E.d)).map Seg.one) := by
                    intro s hs
                    obtain ⟨y, _, rfl⟩ := List.mem_map.1 hs
                    trivial
                  obtain ⟨v, g1, g2⟩ := hrun b1 (o1 + i1 * E.s) E.s B _ a w w0 S nb idb ids st2 hm (by rw [e1]; simp) hr hB2 (by omega) (by
                    rw [hcells]
                    apply List.ext_getElem?
                    intro j
                    by_cases hj : j < E.s
                    · rw [List.getElem?_take, if_pos hj, List.getElem?_drop, (seg_elem (hr.blk b1 B hB2).1 hR hi hj).1]
                    · rw [List.getElem?_eq_none (by rw [EK.enc_length]; omega), List.getElem?_take, if_neg hj]) hone'
                  refine ⟨v, g1, g2, fun c hc => ?_⟩
                  exfalso
                  simp only [TV.nm, Val.nm, nmL, List.mem_flatMap, List.mem_map] at hc
                  obtain ⟨s, ⟨y, hy, rfl⟩, hc⟩ := hc
                  simp only [Seg.nm, enc_nm E _ y hy] at hc; cases hc
              · cases h
          · cases h
      · cases h
    · cases h
  · cases h
end Go.Proofs.YtlmmgjngihlpeaaDoor.Sx
