/- A symbolic evaluator for the machine's code, part M: code and functions. Our own work. -/
import Derived.Test.YtlmmgjngihlpeaaDoorSxL
namespace Go.Proofs.YtlmmgjngihlpeaaDoor.Sx
open Go
set_option linter.unusedVariables false
set_option linter.unusedSimpArgs false
variable {P : Program}
theorem callFunc_run {f : FuncId} {fn : Func} (hf : P.funcs[f]? = some fn) (hb : fn.body.isSome = true) (hn : (fn.name == "runtime.NumGoroutine") = false) (args : Array Value) (w : World) :
    (callFunc f args).run P w = .ok (.enter f args) w := by
  have h1 : ¬ fn.name = "runtime.NumGoroutine" := by simpa using hn
  have h2 : ¬ fn.body = none := by cases h : fn.body <;> simp_all
  simp [callFunc, hf, h1, h2]
section
variable {α : Type} {k : Eff → Option α} {r : α} {st : St} {o : Oper}
def capT (ps : List (Nat × Nat)) : List TV := ps.map fun p => .vl (.sv (.ptr p.1 p.2))
def capV (ids : Ids) (ps : List (Nat × Nat)) : List Value := ps.map fun p => Value.pointer (some ⟨(ids p.1).1, (ids p.1).2.1 + p.2, none⟩)
theorem capT_R (ids : Ids) : ∀ ps : List (Nat × Nat), TsR ids (capT ps) (capV ids ps)
  | [] => trivial
  | p :: r => ⟨rfl, capT_R ids r⟩
theorem TsR.append {ids : Ids} : ∀ {xs ys : List TV} {vs us : List Value}, TsR ids xs vs → TsR ids ys us → TsR ids (xs ++ ys) (vs ++ us)
  | [], _, [], _, _, h => h
  | x :: xs, _, v :: vs, _, h, h' => ⟨h.1, TsR.append h.2 h'⟩
  | [], _, _ :: _, _, h, _ => h.elim
  | _ :: _, _, [], _, h, _ => h.elim
theorem sound_call {h : Hd} (hc : h.CallsOk P) {c : Call} {f : FuncId} {pre ps : List (Nat × Nat)} {cx : Operand} {x0 : SV} (ho : o.op = .call c) (hcal : c.callee = .value cx) (hcx : getO st cx = .vl (.sv x0))
    (hx0 : ∀ ids v, x0.R ids v → v = .func (.func f) (capV ids pre).toArray (capV ids ps).toArray)
    (hev : evCall h f (capT pre ++ (c.args.toList.map (getO st) ++ capT ps)) o.dst st k = some r) : ∃ e, k e = some r ∧ OpS P o st e := by
  unfold evCall at hev
  split at hev
  · cases hev
  · rename_i d hd
    cases hcond : (nodupB (gather st.H 80 ((capT pre ++ (c.args.toList.map (getO st) ++ capT ps)).flatMap TV.nm) []) && (closedB st.H (gather st.H 80 ((capT pre ++ (c.args.toList.map (getO st) ++ capT ps)).flatMap TV.nm) []) &&
        (((capT pre ++ (c.args.toList.map (getO st) ++ capT ps)).flatMap TV.nm).all (has (gather st.H 80 ((capT pre ++ (c.args.toList.map (getO st) ++ capT ps)).flatMap TV.nm) [])) && (roOk st.H (pickIdx (gather st.H 80 ((capT pre ++ (c.args.toList.map (getO st) ++ capT ps)).flatMap TV.nm) []) (h.ro f)) && Nat.ble (gather st.H 80 ((capT pre ++ (c.args.toList.map (getO st) ++ capT ps)).flatMap TV.nm) []).length 1000)))) with
    | false => simp only [hcond, cond_false] at hev; cases hev
    | true =>
      simp only [hcond, cond_true] at hev
      generalize hnames : gather st.H 80 ((capT pre ++ (c.args.toList.map (getO st) ++ capT ps)).flatMap TV.nm) [] = names at *
      generalize hL : pickIdx names (h.ro f) = L at *
      simp only [Bool.and_eq_true] at hcond
      obtain ⟨hc1, hc2, hc3, hc5, hc4⟩ := hcond
      have hLst : ∀ b B, has L b = true → st.H b = some B → noRws B.2 = true := by
        intro b B hb hB
        simp only [roOk, List.all_eq_true] at hc5
        have := hc5 b (has_mem hb)
        rw [hB] at this; exact this
      obtain ⟨v, Bs', Ns, hk, hlen, ⟨fn, hfn, hbody, hname⟩, hF⟩ := hc _ _ _ _ _ _ hev
      cases hfr : freshB st.H d Ns 0 with
      | false => rw [hfr] at hk; cases hk
      | true =>
        rw [hfr] at hk
        simp only [cond_true] at hk
        refine ⟨_, hk, ?_⟩
        have hnd := nodup_spec hc1
        have hcl : ∀ b ∈ names, ∃ B, st.H b = some B ∧ ∀ c ∈ nmL B.2, c ∈ names := by
          intro b hb
          simp only [closedB, List.all_eq_true] at hc2
          have := hc2 b hb
          split at this
          · rename_i B hB
            simp only [List.all_eq_true] at this
            exact ⟨B, hB, fun c hc => has_mem (this c hc)⟩
          · cases this
        have hargs : ∀ x ∈ c.args.toList, ∀ b ∈ (getO st x).nm, b ∈ names := by
          intro x hx b hb
          simp only [List.all_eq_true] at hc3
          exact has_mem (hc3 b (List.mem_flatMap.2 ⟨getO st x, List.mem_append_right _ (List.mem_append_left _ (List.mem_map.2 ⟨x, hx, rfl⟩)), hb⟩))
        have hcaps : ∀ x ∈ capT ps, ∀ b ∈ x.nm, b ∈ names := by
          intro x hx b hb
          simp only [List.all_eq_true] at hc3
          exact has_mem (hc3 b (List.mem_flatMap.2 ⟨x, List.mem_append_right _ (List.mem_append_right _ hx), hb⟩))
        have hpres : ∀ x ∈ capT pre, ∀ b ∈ x.nm, b ∈ names := by
          intro x hx b hb
          simp only [List.all_eq_true] at hc3
          exact has_mem (hc3 b (List.mem_flatMap.2 ⟨x, List.mem_append_left _ hx, hb⟩))
        have hle := Nat.le_of_ble_eq_true hc4
        have hfresh := freshB_spec hfr
        simp only [Nat.zero_add] at hfresh
        intro st2 hag w0 S nb idb a w ⟨ids, hr⟩ K Q hK
        have hops : ∀ x ∈ c.args.toList, getO st2 x = getO st x := fun x hx => getO_agr hag (by
          simp only [ho, Op.operands, Call.operands, Array.mem_append]; exact .inr (by simpa using hx))
        have hrun : (execOp a.eval o).run P w = .ok (.enter f ((capV ids pre).toArray ++ c.args.map a.eval ++ (capV ids ps).toArray)) w := by
          have hh := callFunc_run hfn hbody hname ((capV ids pre).toArray ++ c.args.map a.eval ++ (capV ids ps).toArray) w
          have hcm : cx ∈ o.op.operands := by
            simp only [ho, Op.operands, Call.operands, Array.mem_append, hcal]; exact .inl (by simp)
          have hc1 := getO_R hr cx
          rw [getO_agr hag hcm, hcx] at hc1
          have hc2 : a.eval cx = .func (.func f) (capV ids pre).toArray (capV ids ps).toArray := hx0 _ _ hc1
          simp [execOp, ho, resolve, hcal, hc2, Deferred.ofValue, invoke]
          simpa using hh
        unfold Oper.wp
        rw [hrun, Oper.upon_enter, show (capV ids pre).toArray ++ c.args.map a.eval ++ (capV ids ps).toArray = (capV ids pre ++ (c.args.toList.map a.eval ++ capV ids ps)).toArray by rw [← Array.toList_map, ← List.append_toArray, ← List.append_toArray, Array.toArray_toList, Array.append_assoc]]
        have hH : ∀ b ∈ names, st2.H b = st.H b := fun b hb => hag.rd b hb
        have hcl2 : ∀ b ∈ names, ∃ B, st2.H b = some B ∧ ∀ c ∈ nmL B.2, c ∈ names := fun b hb => by
          obtain ⟨B, h1, h2⟩ := hcl b hb
          exact ⟨B, by rw [hH b hb]; exact h1, h2⟩
        have hL2 : ∀ b B, has L b = true → st2.H b = some B → noRws B.2 = true := by
          intro b B hb hB
          have hbn : b ∈ names := by rw [← hL] at hb; exact pickIdx_mem b (has_mem hb)
          rw [hH b hbn] at hB; exact hLst b B hb hB
        have hdH : ∀ b ∈ names, demote L st2.H b = demote L st.H b := fun b hb => by simp only [demote, hH b hb]
        have hBs : names.map (blkOf (demote L st.H) (idx names)) = names.map (blkOf (demote L st2.H) (idx names)) := List.map_congr_left fun b hb => by simp only [blkOf, hdH b hb]
        have hget : ∀ i, i < names.length → names[i]? = some (names.getD i 0) := fun i hi => by simp [List.getElem?_eq_getElem hi]
        have hidx : ∀ b ∈ names, (fun i => ids (names.getD i 0)) (idx names b) = ids b := fun b hb => by
          show ids (names.getD (idx names b) 0) = ids b
          rw [(idx_lt hb).2]
        have hfr2 : ∀ j, j < Ns.length → st2.H (nameOf d (j + 1)) = none := by
          intro j hj
          rw [hag.out _ ?_]
          · exact hfresh j hj
          · simp only [List.map_append, List.mem_append]
            right
            have hN : Ns[j]? = some Ns[j] := by simp [hj]
            have := outN_at d (backTo names d) Ns 0 j _ hN
            rw [Nat.zero_add] at this
            exact outAt_mem this
        have houteq : outB (demote L st.H) (backTo names d) names Bs' = outB (demote L st2.H) (backTo names d) names Bs' := by
          have : ∀ (l : List Nat) (Cs : List (List Seg)), (∀ b ∈ l, demote L st2.H b = demote L st.H b) → outB (demote L st.H) (backTo names d) l Cs = outB (demote L st2.H) (backTo names d) l Cs := by
            intro l
            induction l with
            | nil => intro Cs _; rfl
            | cons b l ih =>
              intro Cs hl
              cases Cs with
              | nil => rfl
              | cons C s => simp only [outB, hl b (by simp), ih s (fun c hc => hl c (by simp [hc]))]
          exact this names Bs' hdH
        have hgc : GlobOk w (wrAll w (fun i => ids (names.getD i 0)) (names.map (blkOf (demote L st.H) (idx names)))) := by
          rw [hBs]
          refine (hr.demote L hL2).globCall (fun b hb => ?_) rfl
          obtain ⟨B, h1, h2⟩ := hcl2 b hb
          exact ⟨_, demote_of h1, h2⟩
        have hblen : (names.map (blkOf (demote L st.H) (idx names))).length = names.length := by simp
        refine (hF (fun i => ids (names.getD i 0)) w (capV ids pre ++ (c.args.toList.map a.eval ++ capV ids ps)) ⟨fun i B hB => ?_, fun i j B C hB hC hne => ?_, fun i B hB b hb => ?_, ?_⟩ ?_ ?_ (by simpa using hle) hgc).mono ?_
        · rw [List.getElem?_map] at hB
          simp only [Option.map_eq_some_iff] at hB
          obtain ⟨b, hb, rfl⟩ := hB
          have hbn := List.mem_of_getElem? hb
          obtain ⟨B0, h1, h2⟩ := hcl2 b hbn
          have hbi : names.getD i 0 = b := by simp [List.getD, hb]
          have hblk := hr.blk b B0 h1
          simp only [blkOf, ← hdH b hbn, demote_of h1]
          obtain ⟨q1, qg, q2, q3⟩ := hblk
          refine ⟨renL_ok.2 q1, by simp only [hbi]; exact (qg.weak fun hw => by simp only [Bool.and_eq_true] at hw; exact hw.1).ren, by simp only [hbi]; exact fun hl => q2 (renL_Lv.1 hl), fun j x hx => ?_⟩
          simp only [renL_cells, List.getElem?_map, Option.map_eq_some_iff] at hx
          obtain ⟨y, hy, rfl⟩ := hx
          obtain ⟨u, u1, u2, u3⟩ := q3 j y hy
          simp only [hbi]
          exact ⟨u, u1, SV.ren_R.2 (u2.congr fun c hc => hidx c (h2 c (cellsL_nm _ y (List.mem_of_getElem? hy) c hc))), fun hf => u3 (by simp only [Bool.and_eq_true] at hf; exact hf.1)⟩
        · rw [List.getElem?_map] at hB hC
          simp only [Option.map_eq_some_iff] at hB hC
          obtain ⟨b, hb, hB⟩ := hB
          obtain ⟨e, he, hC⟩ := hC
          obtain ⟨B0, h1, h2⟩ := hcl2 b (List.mem_of_getElem? hb)
          obtain ⟨C0, g1, g2⟩ := hcl2 e (List.mem_of_getElem? he)
          simp only [blkOf, ← hdH b (List.mem_of_getElem? hb), demote_of h1, Prod.mk.injEq] at hB
          obtain ⟨wr, B0⟩ := B0
          simp only [Bool.and_eq_true] at hB
          obtain ⟨⟨rfl, _⟩, rfl⟩ := hB
          simp only [blkOf, ← hdH e (List.mem_of_getElem? he), demote_of g1] at hC
          obtain rfl := hC
          intro lb lc
          simp only [List.getD, hb, he, Option.getD_some]
          refine hr.sep b e B0 C0 h1 g1 (fun hbe => ?_) (renL_Lv.1 lb) (renL_Lv.1 lc)
          subst hbe
          exact hne (nodup_get hnd hb he)
        · rw [List.getElem?_map] at hB
          simp only [Option.map_eq_some_iff] at hB
          obtain ⟨e, he, rfl⟩ := hB
          obtain ⟨B0, h1, h2⟩ := hcl2 e (List.mem_of_getElem? he)
          simp only [blkOf, ← hdH e (List.mem_of_getElem? he), demote_of h1, renL_nm, List.mem_map] at hb
          obtain ⟨c', hc', rfl⟩ := hb
          rw [hblen]; exact (idx_lt (h2 c' hc')).1
        · have hbl : ∀ (i : Nat) (B : Blk), (names.map (blkOf (demote L st.H) (idx names)))[i]? = some B → ∃ b B0, names[i]? = some b ∧ b ∈ names ∧ demote L st2.H b = some B0 ∧ B = (B0.1, renL (idx names) B0.2) ∧ ids (names.getD i 0) = ids b ∧
              ∀ c ∈ nmL B0.2, c ∈ names := by
            intro i B hB
            rw [List.getElem?_map] at hB
            simp only [Option.map_eq_some_iff] at hB
            obtain ⟨b, hb, rfl⟩ := hB
            obtain ⟨B0, h1, h2⟩ := hcl2 b (List.mem_of_getElem? hb)
            refine ⟨b, _, hb, List.mem_of_getElem? hb, demote_of h1, ?_, by simp [List.getD, hb], h2⟩
            simp only [blkOf, ← hdH b (List.mem_of_getElem? hb), demote_of h1]
          have hrd := (hr.demote L hL2).hid
          refine ⟨fun i B hB hno => ?_, fun i B hB => ?_, fun i B hB g hg => ?_, fun i j B C hB hC lc hg => ?_, fun i j B C hB hC hne g hg hg2 => ?_⟩
          · obtain ⟨b, B0, h1, h2, h3, rfl, h4, h5⟩ := hbl i B hB
            dsimp only at hno ⊢
            rw [noRws_ren] at hno
            exact hrd.fl b B0 h3 hno
          · obtain ⟨b, B0, h1, h2, h3, rfl, h4, h5⟩ := hbl i B hB
            refine (hrd.rel b B0 h3).ren (by simp only [h4]) fun d hd => hidx d (h5 d hd)
          · left
            exact hwOf_of (i := 0) hB (by rw [Nat.zero_add]; exact hg)
          · obtain ⟨b, B0, h1, h2, h3, rfl, h4, h5⟩ := hbl i B hB
            obtain ⟨c', C0, g1, g2, g3, rfl, g4, g5⟩ := hbl j C hC
            dsimp only at hg lc
            rw [foot_ren, h4, g4] at hg
            exact hrd.sepL b c' B0 C0 h3 g3 (renL_Lv.1 lc) hg
          · obtain ⟨b, B0, h1, h2, h3, rfl, h4, h5⟩ := hbl i B hB
            obtain ⟨c', C0, g1, g2, g3, rfl, g4, g5⟩ := hbl j C hC
            dsimp only at hg hg2
            rw [foot_ren, h4] at hg
            rw [foot_ren, g4] at hg2
            refine hrd.sepH b c' B0 C0 h3 g3 (fun hbe => ?_) g hg hg2
            subst hbe
            exact hne (nodup_get hnd h1 g1)
        · refine TsR.ren.2 ?_
          have hts := TsR_of (ids := ids) (st := st2) (a := a) c.args.toList fun x hx => getO_R hr x
          have heq : c.args.toList.map (getO st2) = c.args.toList.map (getO st) := List.map_congr_left hops
          rw [heq] at hts
          refine ((capT_R ids pre).append (hts.append (capT_R ids ps))).congr fun x hx b hb => ?_
          rcases List.mem_append.1 hx with hx | hx
          · exact hidx b (hpres x hx b hb)
          rcases List.mem_append.1 hx with hx | hx
          · obtain ⟨y, hy, rfl⟩ := List.mem_map.1 hx
            exact hidx b (hargs y hy b hb)
          · exact hidx b (hcaps x hx b hb)
        · intro x hx b hb
          simp only [List.mem_map] at hx
          obtain ⟨z, hz, rfl⟩ := hx
          simp only [TV.ren_nm, List.mem_map] at hb
          obtain ⟨c', hc', rfl⟩ := hb
          rw [hblen]
          rcases List.mem_append.1 hz with hz | hz
          · exact (idx_lt (hpres z hz c' hc')).1
          rcases List.mem_append.1 hz with hz | hz
          · obtain ⟨y, hy, rfl⟩ := List.mem_map.1 hz
            exact (idx_lt (hargs y hy c' hc')).1
          · exact (idx_lt (hcaps z hz c' hc')).1
        · rintro e w' ⟨ids', cv, rfl, hret⟩
          refine hK cv w' ?_
          rw [houteq]
          exact hr.calledRo hL2 hnd hcl2 hBs (hlen) hfr2 hr.lim hret
end
section
variable {α : Type}
def evOne (tab : Tab) (h : Hd) (o : Oper) (st : St) (k : Eff → Option α) : Option α :=
  cond (dstOk o.dst st.n)
    (match o.op with
     | .call c => match c.callee with
       | .value x => match getO st x with
         | .vl (.sv (.clo f ps)) => evCall h f (c.args.toList.map (getO st) ++ capT ps) o.dst st k
         | .vl (.sv (.clb f b q)) => evCall h f (capT [(b, q)] ++ (c.args.toList.map (getO st) ++ capT [])) o.dst st k
         | _ => none
       | _ => evOpW tab o st k
     | _ => evOpW tab o st k) none
def tundef : TV := .tup []
def setB (st : St) (d : Nat) (b : Bool) : St := { st with T := putT st.T (some d) (.vl (.sv (.bool b))) }
def evOps (tab : Tab) (h : Hd) (ops : Array Oper) : List (Nat × Oper) → St → List (Nat × Eff) → (St → List (Nat × Eff) → Option α) → Option α
  | [], st, tr, k => k st tr
  | (i, o) :: r, st, tr, k =>
    match o.guard with
    | none => evOne tab h o st fun f => evOps tab h ops r (st.app o.dst f) ((i, f) :: tr) k
    | some (j, want) => match dstAt ops j with
      | some d => match st.T d with
        | .vl (.sv (.bool b)) => cond b
            (cond want (evOne tab h o (setB st d true) fun f => evOps tab h ops r ((setB st d true).app o.dst f) ((i, f) :: tr) k)
              (cond (dstOk o.dst st.n) (evOps tab h ops r ((setB st d true).app o.dst (pureE tundef)) ((i, pureE tundef) :: tr) k) none))
            (cond want (cond (dstOk o.dst st.n) (evOps tab h ops r ((setB st d false).app o.dst (pureE tundef)) ((i, pureE tundef) :: tr) k) none)
              (evOne tab h o (setB st d false) fun f => evOps tab h ops r ((setB st d false).app o.dst f) ((i, f) :: tr) k))
        | .tup [] => cond (dstOk o.dst st.n) (evOps tab h ops r (st.app o.dst (pureE tundef)) ((i, pureE tundef) :: tr) k) none
        | _ => none
      | none => none
def number : List Oper → Nat → List (Nat × Oper)
  | [], _ => []
  | o :: r, i => (i, o) :: number r (i + 1)
def ev (tab : Tab) (h : Hd) : Code → St → (Ex → St → Option α) → Option α
  | .skip, st, k => k .normal st
  | .ret, st, k => k .ret st
  | .exit id, st, k => k (.exit id) st
  | .region _ ops draw, st, k => evOps tab h ops (number ops.toList 0) st [] fun st' tr => cond (!draw || (backward ops && okAll ops tr)) (k .normal st') none
  | .seq a b, st, k => ev tab h a st fun e st' => match e with
    | .normal => ev tab h b st' k
    | e => k e st'
  | .cond (.tmp t) a b, st, k => match st.T t with
    | .vl (.sv (.bool c)) => cond c (ev tab h a (setB st t true) k) (ev tab h b (setB st t false) k)
    | _ => none
  | .cond (.const (.bool c)) a b, st, k => cond c (ev tab h a st k) (ev tab h b st k)
  | .block id (.loop _), st, k => h.loop id st k
  | .block id c, st, k => ev tab h c st fun e st' => k (e.inBlock id) st'
  | _, _, _ => none
end
def LoopsOk (P : Program) (h : Hd) : Code → Prop
  | .seq a b => LoopsOk P h a ∧ LoopsOk P h b
  | .cond _ a b => LoopsOk P h a ∧ LoopsOk P h b
  | .block id (.loop b) => ∀ (α : Type) (st : St) (k : Ex → St → Option α) (r : α), h.loop id st k = some r → ∃ e st', k e st' = some r ∧ CodeS P (.block id (.loop b)) st e st'
  | .block _ c => LoopsOk P h c
  | _ => True
section
variable {α : Type} {tab : Tab} {h : Hd} {st : St}
theorem setB_self {st : St} {d : Nat} {b : Bool} (hd : st.T d = .vl (.sv (.bool b))) : setB st d b = st := by
  have : putT st.T (some d) (.vl (.sv (.bool b))) = st.T := by
    funext t
    by_cases ht : t = d
    · subst ht; rw [putT_same, hd]
    · rw [putT_other (by simpa using fun e => ht e.symm)]
  unfold setB; rw [this]
theorem evOne_sound (ht : TabOk P tab) (hc : h.CallsOk P) {o : Oper} {k : Eff → Option α} {r : α} (hev : evOne tab h o st k = some r) :
    dstOk o.dst st.n = true ∧ ∃ f, k f = some r ∧ OpS P o st f := by
  unfold evOne at hev
  cases hd : dstOk o.dst st.n with
  | false => rw [hd] at hev; cases hev
  | true =>
    rw [hd] at hev
    simp only [cond_true] at hev
    refine ⟨rfl, ?_⟩
    split at hev
    · rename_i c ho
      split at hev
      · rename_i cx hcal
        split at hev
        · rename_i f ps hf
          exact sound_call (pre := []) (ps := ps) hc ho hcal hf (fun ids v h => h) hev
        · rename_i f b q hf
          exact sound_call (pre := [(b, q)]) (ps := []) hc ho hcal hf (fun ids v h => h) hev
        · cases hev
      · exact evOpW_sound ht hev
    · exact evOpW_sound ht hev
theorem dst_lt {o : Oper} {st : St} (hd : dstOk o.dst st.n = true) : ∀ t, o.dst = some t → t < st.n := dstOk_spec hd
theorem step_run {ops : Array Oper} {i : Nat} {o : Oper} (ho : ops[i]? = some o) {st : St} {f : Eff} (hd : dstOk o.dst st.n = true) (hs : OpS P o st f)
    (hw : ∀ (st2 : St) (w0 : World) (S : List Nat) (nb : Nat) (idb ids : Ids) (a : Act) (w : World), (∀ t ∈ o.looksAt ops, st2.T t = st.T t) → Rep w0 S nb idb ids st2 a w → Region.wanted o (yielded ops a.tmps) = true) :
    StepS P ops i st f := by
  refine ⟨o, ho, fun st2 hag w0 S nb idb a w ⟨ids, hr⟩ K Q hK => ?_⟩
  unfold wpOp
  rw [ho]
  simp only []
  rw [if_pos (hw st2 w0 S nb idb ids a w hag.T hr)]
  left
  have hag' : Agr (tmpsOf o) f st st2 := ⟨hag.n, fun t ht => hag.T t (List.mem_append_left _ ht), hag.rd, hag.out⟩
  refine hs st2 hag' w0 S nb idb a w ⟨ids, hr⟩ K Q fun v w' ⟨ids', h1, h2, h3⟩ => hK v w' ⟨ids', h1.put h2 h3 fun t ht => ?_⟩
  rw [hag.n]; exact dst_lt hd t ht
theorem step_skip' {ops : Array Oper} {i : Nat} {o : Oper} (ho : ops[i]? = some o) {st : St} (hd : dstOk o.dst st.n = true)
    (hw : ∀ (st2 : St) (w0 : World) (S : List Nat) (nb : Nat) (idb ids : Ids) (a : Act) (w : World), (∀ t ∈ o.looksAt ops, st2.T t = st.T t) → Rep w0 S nb idb ids st2 a w → Region.wanted o (yielded ops a.tmps) = false) :
    StepS P ops i st (pureE tundef) := by
  refine ⟨o, ho, fun st2 hag w0 S nb idb a w ⟨ids, hr⟩ K Q hK => ?_⟩
  unfold wpOp
  rw [ho]
  simp only []
  rw [if_neg (by rw [hw st2 w0 S nb idb ids a w hag.T hr]; simp)]
  refine hK undef w ⟨ids, Rep.put (f := pureE tundef) hr ⟨#[], rfl, trivial⟩ (fun b hb => by cases hb) fun t ht => ?_⟩
  rw [hag.n]; exact dst_lt hd t ht
theorem guard_looks {ops : Array Oper} {o : Oper} {j d : Nat} {want : Bool} (hg : o.guard = some (j, want)) (hd : dstAt ops j = some d) : d ∈ o.looksAt ops := by
  unfold Oper.looksAt
  rw [hg]
  simp only [List.mem_append]
  right
  unfold dstAt at hd
  simp [hd]
theorem yield_of {ops : Array Oper} {o : Oper} {j d : Nat} {want b : Bool} (hg : o.guard = some (j, want)) (hd : dstAt ops j = some d) {st2 : St} {w0 : World} {S : List Nat} {nb : Nat} {idb ids : Ids} {a : Act} {w : World}
    (hT : st2.T d = .vl (.sv (.bool b))) (hr : Rep w0 S nb idb ids st2 a w) : Region.wanted o (yielded ops a.tmps) = (b == want) := by
  have h1 := hr.tmps d
  rw [hT] at h1
  have h2 : a.tmps.getD d undef = .bool b := h1
  have h3 : a.tmps[d]? = some (.bool b) := by
    have : a.tmps[d]?.getD undef = .bool b := by simpa using h2
    cases hx : a.tmps[d]? with
    | none => rw [hx] at this; simp [undef] at this
    | some v => rw [hx] at this; simp at this; rw [this]
  unfold Region.wanted yielded
  rw [hg]
  simp only []
  unfold dstAt at hd
  rw [hd]
  simp [h3]
theorem yield_none {ops : Array Oper} {o : Oper} {j d : Nat} {want : Bool} (hg : o.guard = some (j, want)) (hd : dstAt ops j = some d) {st2 : St} {w0 : World} {S : List Nat} {nb : Nat} {idb ids : Ids} {a : Act} {w : World}
    (hT : st2.T d = .tup []) (hr : Rep w0 S nb idb ids st2 a w) : Region.wanted o (yielded ops a.tmps) = false := by
  have h1 := hr.tmps d
  rw [hT] at h1
  obtain ⟨vs, h2, h3⟩ := h1
  have h3' : vs = #[] := by
    cases vs with | mk l => cases l with
      | nil => rfl
      | cons v r => exact h3.elim
  subst h3'
  have h3 : a.tmps[d]? = none ∨ a.tmps[d]? = some (.tuple #[]) := by
    have : a.tmps[d]?.getD undef = .tuple #[] := by simpa using h2
    cases hx : a.tmps[d]? with
    | none => exact .inl rfl
    | some v => rw [hx] at this; right; simp at this; rw [this]
  unfold Region.wanted yielded
  rw [hg]
  simp only []
  unfold dstAt at hd
  rw [hd]
  rcases h3 with h3 | h3 <;> simp [h3]
theorem evOps_sound (ht : TabOk P tab) (hc : h.CallsOk P) {ops : Array Oper} : ∀ (l : List (Nat × Oper)) (st : St) (tr : List (Nat × Eff)) (k : St → List (Nat × Eff) → Option α) (r : α),
    (∀ p ∈ l, ops[p.1]? = some p.2) → evOps tab h ops l st tr k = some r →
      ∃ st' ch, k st' (ch.reverse ++ tr) = some r ∧ Chain P ops ch st st' ∧ ch.map (·.1) = l.map (·.1)
  | [], st, tr, k, r, _, hev => ⟨st, [], by simpa [evOps] using hev, rfl, rfl⟩
  | (i, o) :: rest, st, tr, k, r, hl, hev => by
    have ho := hl (i, o) (by simp)
    have hl' : ∀ p ∈ rest, ops[p.1]? = some p.2 := fun p hp => hl p (by simp [hp])
    have hgo : ∀ (st : St) (f : Eff), st.go ops (i, f) = st.app o.dst f := fun st f => by
      have : ops[i]? = some o := ho
      simp [St.go, dstAt, this]
    -- one step, then the rest
    have hnext : ∀ (st : St) (f : Eff), StepS P ops i st f → evOps tab h ops rest (st.app o.dst f) ((i, f) :: tr) k = some r →
        ∃ st' ch, k st' (ch.reverse ++ tr) = some r ∧ Chain P ops ch st st' ∧ ch.map (·.1) = ((i, o) :: rest).map (·.1) := by
      intro st f hs hr
      obtain ⟨st', ch, h1, h2, h3⟩ := evOps_sound ht hc rest _ _ k r hl' hr
      refine ⟨st', (i, f) :: ch, ?_, ⟨hs, by rw [hgo]; exact h2⟩, by simp [h3]⟩
      simpa using h1
    simp only [evOps] at hev
    cases hg : o.guard with
    | none =>
      rw [hg] at hev
      simp only at hev
      obtain ⟨hd, f, hf, hs⟩ := evOne_sound ht hc hev
      exact hnext st f (step_run ho hd hs fun st2 w0 S nb idb ids a w _ _ => by simp [Region.wanted, hg]) hf
    | some g =>
      obtain ⟨j, want⟩ := g
      rw [hg] at hev
      simp only at hev
      split at hev
      · rename_i d hd
        split at hev
        · rename_i b hb
          have hyes : ∀ (b' : Bool), b' = b → b' = want → (evOne tab h o (setB st d b') fun f => evOps tab h ops rest ((setB st d b').app o.dst f) ((i, f) :: tr) k) = some r →
              ∃ st' ch, k st' (ch.reverse ++ tr) = some r ∧ Chain P ops ch st st' ∧ ch.map (·.1) = ((i, o) :: rest).map (·.1) := by
            intro b' hb' hw hev2
            subst hb'
            rw [setB_self hb] at hev2
            obtain ⟨hdst, f, hf, hs⟩ := evOne_sound ht hc hev2
            refine hnext st f (step_run ho hdst hs fun st2 w0 S nb idb ids a w hT hr => ?_) hf
            rw [yield_of hg hd (by rw [hT d (guard_looks hg hd)]; exact hb) hr, hw]; simp
          have hno : ∀ (b' : Bool), b' = b → b' ≠ want → dstOk o.dst st.n = true → evOps tab h ops rest ((setB st d b').app o.dst (pureE tundef)) ((i, pureE tundef) :: tr) k = some r →
              ∃ st' ch, k st' (ch.reverse ++ tr) = some r ∧ Chain P ops ch st st' ∧ ch.map (·.1) = ((i, o) :: rest).map (·.1) := by
            intro b' hb' hw hdst hev2
            subst hb'
            rw [setB_self hb] at hev2
            refine hnext st (pureE tundef) (step_skip' ho hdst fun st2 w0 S nb idb ids a w hT hr => ?_) hev2
            rw [yield_of hg hd (by rw [hT d (guard_looks hg hd)]; exact hb) hr]
            simpa using hw
          cases hbv : b with
          | true =>
            rw [hbv] at hev hyes hno
            simp only [cond_true] at hev
            cases want with
            | true => exact hyes true rfl rfl hev
            | false =>
              simp only [cond_false] at hev
              cases hdst : dstOk o.dst st.n with
              | true => rw [hdst] at hev; exact hno true rfl (by simp) hdst hev
              | false => rw [hdst] at hev; cases hev
          | false =>
            rw [hbv] at hev hyes hno
            simp only [cond_false] at hev
            cases want with
            | true =>
              simp only [cond_true] at hev
              cases hdst : dstOk o.dst st.n with
              | true => rw [hdst] at hev; exact hno false rfl (by simp) hdst hev
              | false => rw [hdst] at hev; cases hev
            | false => exact hyes false rfl rfl hev
        · rename_i hb
          cases hdst : dstOk o.dst st.n with
          | true =>
            rw [hdst] at hev
            simp only [cond_true] at hev
            exact hnext st (pureE tundef) (step_skip' ho hdst fun st2 w0 S nb idb ids a w hT hr => yield_none hg hd (by rw [hT d (guard_looks hg hd)]; exact hb) hr) hev
          | false => rw [hdst] at hev; cases hev
        · cases hev
      · cases hev
theorem number_get : ∀ (l : List Oper) (i0 : Nat) (p : Nat × Oper), p ∈ number l i0 → i0 ≤ p.1 ∧ l[p.1 - i0]? = some p.2
  | [], _, p, h => by cases h
  | o :: r, i0, p, h => by
    simp only [number, List.mem_cons] at h
    rcases h with rfl | h
    · simp
    · obtain ⟨h1, h2⟩ := number_get r (i0 + 1) p h
      refine ⟨by omega, ?_⟩
      rw [show p.1 - i0 = (p.1 - (i0 + 1)) + 1 by omega]; simpa using h2
theorem number_map : ∀ (l : List Oper) (i0 : Nat), (number l i0).map (·.1) = List.range' i0 l.length
  | [], _ => rfl
  | o :: r, i0 => by simp [number, number_map r (i0 + 1), List.range'_succ]
theorem ev_sound (ht : TabOk P tab) (hc : h.CallsOk P) (hm : P.follows .mixedOrders = true) : ∀ (c : Code) (st : St) (k : Ex → St → Option α) (r : α), LoopsOk P h c → ev tab h c st k = some r →
    ∃ e st', k e st' = some r ∧ CodeS P c st e st'
  | .skip, st, k, r, _, hev => ⟨_, _, hev, code_skip⟩
  | .ret, st, k, r, _, hev => ⟨_, _, hev, code_ret⟩
  | .exit id, st, k, r, _, hev => ⟨_, _, hev, code_exit⟩
  | .region id ops draw, st, k, r, _, hev => by
    simp only [ev] at hev
    obtain ⟨st', ch, h1, h2, h3⟩ := evOps_sound ht hc (ops := ops) _ st [] _ r (fun p hp => by
      obtain ⟨_, hp2⟩ := number_get _ _ p hp
      simpa using hp2) hev
    rw [List.append_nil] at h1
    cases hcond : (!draw || (backward ops && okAll ops ch.reverse)) with
    | false => rw [hcond] at h1; cases h1
    | true =>
      rw [hcond] at h1
      refine ⟨_, _, h1, region_of_chain (tr := ch.reverse) hm (fun hd => ?_) ?_ (fun hd => ?_) (by simpa using h2)⟩
      · subst hd; simp only [Bool.not_true, Bool.false_or, Bool.and_eq_true] at hcond; exact hcond.1
      · rw [List.reverse_reverse, h3, number_map, List.range_eq_range']; simp
      · subst hd; simp only [Bool.not_true, Bool.false_or, Bool.and_eq_true] at hcond; exact hcond.2
  | .seq a b, st, k, r, hl, hev => by
    simp only [ev] at hev
    obtain ⟨e, st1, h1, h2⟩ := ev_sound ht hc hm a st _ r hl.1 hev
    cases e with
    | normal =>
      obtain ⟨e', st', h3, h4⟩ := ev_sound ht hc hm b st1 _ r hl.2 h1
      exact ⟨e', st', h3, code_seq h2 h4⟩
    | exit id => exact ⟨_, _, h1, code_seq_out (by simp) h2⟩
    | ret => exact ⟨_, _, h1, code_seq_out (by simp) h2⟩
  | .cond c a b, st, k, r, hl, hev => by
    cases c with
    | tmp t =>
      simp only [ev] at hev
      split at hev
      · rename_i c hT
        have hb : ∀ (ids : Ids) (a : Act), (∀ t, (st.T t).R ids (a.tmps.getD t undef)) → a.eval (.tmp t) = .bool c := fun ids a ha => by
          have := ha t
          rw [hT] at this
          exact this
        cases c with
        | true =>
          rw [setB_self hT] at hev
          simp only [cond_true] at hev
          obtain ⟨e, st', h1, h2⟩ := ev_sound ht hc hm a st k r hl.1 hev
          exact ⟨e, st', h1, code_cond hb h2⟩
        | false =>
          rw [setB_self hT] at hev
          simp only [cond_false] at hev
          obtain ⟨e, st', h1, h2⟩ := ev_sound ht hc hm b st k r hl.2 hev
          exact ⟨e, st', h1, code_cond hb h2⟩
      · cases hev
    | const v =>
      cases v with
      | bool c =>
        simp only [ev] at hev
        have hb : ∀ (ids : Ids) (a : Act), (∀ t, (st.T t).R ids (a.tmps.getD t undef)) → a.eval (.const (.bool c)) = .bool c := fun _ _ _ => rfl
        cases c with
        | true => obtain ⟨e, st', h1, h2⟩ := ev_sound ht hc hm a st k r hl.1 hev; exact ⟨e, st', h1, code_cond hb h2⟩
        | false => obtain ⟨e, st', h1, h2⟩ := ev_sound ht hc hm b st k r hl.2 hev; exact ⟨e, st', h1, code_cond hb h2⟩
      | _ => simp only [ev, reduceCtorEq] at hev
    | _ => simp only [ev, reduceCtorEq] at hev
  | .block id c, st, k, r, hl, hev => by
    by_cases hloop : ∃ b, c = .loop b
    · obtain ⟨b, rfl⟩ := hloop
      exact hl α st k r hev
    · have hev' : (ev tab h c st fun e st' => k (e.inBlock id) st') = some r := by
        cases c <;> first | exact hev | exact absurd ⟨_, rfl⟩ hloop
      have hl' : LoopsOk P h c := by
        cases c <;> first | exact hl | exact absurd ⟨_, rfl⟩ hloop
      obtain ⟨e, st', h1, h2⟩ := ev_sound ht hc hm c st _ r hl' hev'
      exact ⟨_, _, h1, code_block h2⟩
  | .loop _, st, k, r, _, hev => by simp [ev] at hev
  | .rangeFunc .., st, k, r, _, hev => by simp [ev] at hev
  | .scope _, st, k, r, _, hev => by simp [ev] at hev
  | .label _, st, k, r, _, hev => by simp [ev] at hev
  | .goto _, st, k, r, _, hev => by simp [ev] at hev
  | .refuse _, st, k, r, _, hev => by simp [ev] at hev
end
end Go.Proofs.YtlmmgjngihlpeaaDoor.Sx
