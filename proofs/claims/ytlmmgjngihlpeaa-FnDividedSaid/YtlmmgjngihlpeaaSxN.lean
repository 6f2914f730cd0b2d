/- A symbolic evaluator for the machine's code, part N: whole functions, loops. Our own work. -/
import Derived.Test.YtlmmgjngihlpeaaSxM
namespace Go.Proofs.Ytlmmgjngihlpeaa.Sx
open Go
set_option linter.unusedVariables false
set_option linter.unusedSimpArgs false

variable {P : Program}

/-! ### What a function hands back -/
def evResV (tab : Tab) (t : TypeId) (R : List Seg) : Option Val :=
  cond (has tab.sca t) (match R with | .one y :: _ => some (.sv y) | _ => none) (match alook tab.agg t with | some n => (segTake R n).map Val.agg | none => none)
def evRes (tab : Tab) (st : St) : ResultVar → Option Val
  | .tmp t => match st.T t with
    | .vl x => some x
    | _ => none
  | .cell t ty => match st.T t with
    | .vl (.sv (.ptr b o)) => match st.H b with
      | some B => match segAt B.2 o with
        | some R => evResV tab ty R
        | none => none
      | none => none
    | _ => none
def evResL (tab : Tab) (st : St) : List ResultVar → Option (List Val)
  | [] => some []
  | r :: rs => match evRes tab st r with
    | some x => match evResL tab st rs with
      | some xs => some (x :: xs)
      | none => none
    | none => none
def oneOf : List Val → TV
  | [x] => .vl x
  | xs => .tup xs
def bNames (H : Nat → Option Blk) : List Nat → List Nat
  | [] => []
  | b :: r => (match H b with | some B => nmL B.2 | none => []) ++ bNames H r
def cont (H : Nat → Option Blk) (b : Nat) : List Seg := match H b with | some B => B.2 | none => []
/-- the names of the call's own blocks that are handed back -/
def newsOf (H : Nat → Option Blk) (nb : Nat) (ws : List Nat) : List Nat := (gather H 80 ws []).filter fun b => !(Nat.blt b nb)
def toIdx (nb : Nat) (news : List Nat) (b : Nat) : Nat := cond (Nat.blt b nb) b (nb + idx news b)
def closedR (H : Nat → Option Blk) (nb : Nat) (news : List Nat) (bs : List Nat) : Bool := bs.all fun b => Nat.blt b nb || has news b
/-- what a block of one kind may become -/
def kindOk : List Seg → List Seg → Bool
  | _, [] => true
  | [.gro _ _], [.gro _ _] => true
  | [.gro _ _], _ => false
  | [], _ => false
  | _, _ => true
def kindsOk (H : Nat → Option Blk) : List Blk → Nat → Bool
  | [], _ => true
  | B :: r, i => cond B.1 (match H i with | some C => kindOk B.2 C.2 | none => false) true && kindsOk H r (i + 1)
theorem kindOk_spec {B C : List Seg} (h : kindOk B C = true) (hC : Lv C) (hl : ∀ E l E' l', B = [.gro E l] → C = [.gro E' l'] → l.length = l'.length) : Lv B := by
  unfold kindOk at h
  split at h
  · exact hC.elim
  · rename_i E l E' l'
    have := hl E l E' l' rfl rfl
    intro h0
    subst h0
    exact hC (List.eq_nil_of_length_eq_zero this.symm)
  · cases h
  · cases h
  · unfold Lv
    split
    · simp_all
    · rename_i E l h3 _ _
      exact (h3 E l rfl).elim
    · trivial
theorem kinds_spec {H : Nat → Option Blk} : ∀ {Bs : List Blk} {i0 : Nat}, kindsOk H Bs i0 = true → ∀ j B C, Bs[j]? = some (true, B) → H (i0 + j) = some C → kindOk B C.2 = true
  | [], i0, _, j, B, C, h, _ => by simp at h
  | (b, D) :: r, i0, hf, j, B, C, h, hC => by
    simp only [kindsOk, Bool.and_eq_true] at hf
    cases j with
    | zero =>
      simp only [List.getElem?_cons_zero, Option.some.injEq, Prod.mk.injEq] at h
      obtain ⟨rfl, rfl⟩ := h
      rw [Nat.add_zero] at hC
      have := hf.1
      rw [hC] at this
      exact this
    | succ j => exact kinds_spec hf.2 j B C (by simpa using h) (by rw [show i0 + 1 + j = i0 + (j + 1) by omega]; exact hC)
section
variable {α : Type}
/-- what came in to be written is there still -/
def flagsOk (H : Nat → Option Blk) : List Blk → Nat → Bool
  | [], _ => true
  | B :: r, i => cond B.1 (match H i with | some (true, _) => flagsOk H r (i + 1) | _ => false) (flagsOk H r (i + 1))
def evEnd (tab : Tab) (rs : List ResultVar) (Bs : List Blk) (nb : Nat) (bor : List Nat) (st : St) (k : TV → List (List Seg) → List (List Seg) → Option α) : Option α :=
  match evResL tab st rs with
  | none => none
  | some vals =>
    let v := oneOf vals
    let news := newsOf st.H nb (v.nm ++ bNames st.H bor)
    cond (nodupB news && (closedR st.H nb news v.nm && (closedR st.H nb news (bNames st.H bor) && (closedR st.H nb news (bNames st.H news) && (flagsOk st.H Bs 0 && (kindsOk st.H Bs 0 && news.all fun b => match st.H b with | some (true, _) => true | _ => false))))))
      (k (v.ren (toIdx nb news)) (bor.map fun b => renL (toIdx nb news) (cont st.H b)) (news.map fun b => renL (toIdx nb news) (cont st.H b))) none
def st0 (args : List TV) (Bs : List Blk) (n : Nat) : St := { T := fun t => match nth args t with | some x => x | none => tunk, H := fun b => nth Bs b, n := n }
def evFun (tab : Tab) (h : Hd) (fn : Func) (args : List TV) (Bs : List Blk) (k : TV → List (List Seg) → List (List Seg) → Option α) : Option α :=
  match fn.body with
  | none => none
  | some c => cond (Nat.ble args.length fn.ntmps && Nat.ble Bs.length 1000)
      (ev tab h c (st0 args Bs fn.ntmps) fun e st => match e with
        | .exit _ => none
        | _ => evEnd tab fn.results.toList Bs Bs.length (List.range Bs.length) st k) none
end

theorem load_val {tab : Tab} (ht : TabOk P tab) {w0 : World} {S : List Nat} {nb : Nat} {idb ids : Ids} {st : St} {a : Act} {w : World} (hr : Rep w0 S nb idb ids st a w) {b o : Nat} {B : Blk} {R : List Seg} {t : TypeId} {x : Val}
    (hB : st.H b = some B) (hR : segAt B.2 o = some R) (h : evResV tab t R = some x) :
    ∃ v, (loadVar t ⟨(ids b).1, (ids b).2.1 + o, none⟩).run P w = .ok v w ∧ x.R ids v ∧ ∀ c ∈ x.nm, (st.H c).isSome = true := by
  obtain ⟨q1, q2, q3, q4⟩ := segAt_spec (hr.blk b B hB).1 hR
  unfold evResV at h
  cases hs : has tab.sca t with
  | true =>
    rw [hs] at h
    simp only [cond_true] at h
    split at h
    · rename_i y R'
      obtain rfl := Option.some.inj h
      obtain ⟨⟨d, hu, hd⟩, i, hi, hsz⟩ := ht.sca t hs
      obtain ⟨_, _, _, hc⟩ := hr.blk b B hB
      have hy : (cellsL B.2)[o]? = some y := by
        have hz : (cellsL (Seg.one y :: R'))[0]? = some y := by simp [cellsL, Seg.cells]
        rw [q2, List.getElem?_drop] at hz
        simpa using hz
      obtain ⟨v, g1, g2, _⟩ := hc o y hy
      refine ⟨v, ?_, g2, fun c hc' => hr.clH b B hB c (cellsL_nm _ y (List.mem_of_getElem? hy) c hc')⟩
      simp [loadVar, isAgg_run hu, hd, g1]
    · cases h
  | false =>
    rw [hs] at h
    simp only [cond_false] at h
    split at h
    · rename_i n hn
      simp only [Option.map_eq_some_iff] at h
      obtain ⟨l, hl, rfl⟩ := h
      obtain ⟨p1, p2, p3, p4⟩ := segTake_spec q3 hl
      obtain ⟨⟨d, hu, hd⟩, i, hi, hsz⟩ := ht.agg t n hn
      have hlen : o + n ≤ (cellsL B.2).length := by rw [q2] at p1; simp at p1; omega
      obtain ⟨cs, g1, g2⟩ := run_loadCells_rep (P := P) hr hB hlen
      refine ⟨.agg cs, ?_, ⟨cs, rfl, p3, by rw [p2, q2]; exact g2⟩, fun c hc => hr.clH b B hB c (q4 c (p4 c hc))⟩
      simp [loadVar, isAgg_run hu, hd, sizeOf, typeInfo, hi, hsz, g1]
    · cases h

def resSem (tmps : Array Value) : ResultVar → Sem Value
  | .tmp t => pure (tmps.getD t undef)
  | .cell a t => do loadVar t (← asAddr (tmps.getD a undef))
theorem evResL_run {tab : Tab} (ht : TabOk P tab) {w0 : World} {S : List Nat} {nb : Nat} {idb ids : Ids} {st : St} {a : Act} {w : World} (hr : Rep w0 S nb idb ids st a w) :
    ∀ (rs : List ResultVar) (xs : List Val), evResL tab st rs = some xs → ∃ vs, (rs.mapM (resSem a.tmps)).run P w = .ok vs w ∧ VsR ids xs vs ∧ (∀ c ∈ xs.flatMap Val.nm, (st.H c).isSome = true) ∧ vs.length = xs.length
  | [], xs, h => by
    simp only [evResL, Option.some.injEq] at h; subst h
    exact ⟨[], by simp, trivial, by simp, rfl⟩
  | r :: rs, xs, h => by
    simp only [evResL] at h
    split at h
    · rename_i x hx
      split at h
      · rename_i xs' hxs
        obtain rfl := Option.some.inj h
        obtain ⟨vs, h1, h2, h3, h4⟩ := evResL_run ht hr rs xs' hxs
        have hone : ∃ v, (resSem a.tmps r).run P w = .ok v w ∧ x.R ids v ∧ ∀ c ∈ x.nm, (st.H c).isSome = true := by
          cases r with
          | tmp t =>
            simp only [evRes] at hx
            split at hx
            · rename_i y hy
              obtain rfl := Option.some.inj hx
              have e1 := hr.tmps t; have e2 := hr.clT t
              rw [hy] at e1 e2
              exact ⟨_, rfl, e1, e2⟩
            · cases hx
          | cell t ty =>
            simp only [evRes] at hx
            split at hx
            · rename_i b o hp
              split at hx
              · rename_i B hB
                split at hx
                · rename_i R hR
                  obtain ⟨v, g1, g2, g3⟩ := load_val ht hr hB hR hx
                  have e1 := hr.tmps t
                  rw [hp] at e1
                  have e1' : a.tmps.getD t undef = .pointer (some ⟨(ids b).1, (ids b).2.1 + o, none⟩) := e1
                  refine ⟨v, ?_, g2, g3⟩
                  simp only [resSem, Sem.run_bind, e1', asAddr, Sem.run_pure, Result.andThen_ok]
                  exact g1
                · cases hx
              · cases hx
            · cases hx
        obtain ⟨v, g1, g2, g3⟩ := hone
        refine ⟨v :: vs, ?_, ⟨g2, h2⟩, fun c hc => ?_, by simp [h4]⟩
        · rw [List.mapM_cons]; simp [g1, h1]
        · simp only [List.flatMap_cons, List.mem_append] at hc
          rcases hc with hc | hc
          · exact g3 c hc
          · exact h3 c hc
      · cases h
    · cases h
theorem results_run {fn : Func} {tmps : Array Value} {w : World} {vs : List Value} (h : (fn.results.toList.mapM (resSem tmps)).run P w = .ok vs w) :
    (results fn tmps).run P w = .ok (if hh : vs.length = 1 then vs[0] else .tuple vs.toArray) w := by
  have hm : (fn.results.mapM (resSem tmps)).run P w = .ok vs.toArray w := by
    rw [Array.mapM_eq_mapM_toList]
    simp [h]
  have hres : results fn tmps = (do let vs ← fn.results.mapM (resSem tmps); pure (if h : vs.size = 1 then vs[0] else .tuple vs)) := by
    unfold results resSem
    congr 1
  rw [hres, Sem.run_bind, hm]
  simp
theorem oneOf_R {ids : Ids} : ∀ {xs : List Val} {vs : List Value}, VsR ids xs vs → xs ≠ [] → (oneOf xs).R ids (if hh : vs.length = 1 then vs[0] else .tuple vs.toArray)
  | [x], [v], h, _ => h.1
  | x :: y :: xs, v :: u :: vs, h, _ => by
    simp only [oneOf, TV.R]
    exact ⟨(v :: u :: vs).toArray, by simp, by simpa using h⟩
  | [x], v :: u :: vs, h, _ => h.2.elim
  | x :: y :: xs, [v], h, _ => h.2.elim
  | [], _, _, hne => absurd rfl hne
  | _ :: _, [], h, _ => h.elim
theorem oneOf_R0 {ids : Ids} {vs : List Value} (h : VsR ids [] vs) : (oneOf []).R ids (if hh : vs.length = 1 then vs[0] else .tuple vs.toArray) := by
  cases vs with
  | nil => exact ⟨#[], rfl, trivial⟩
  | cons v vs => exact h.elim
theorem oneOf_nm (xs : List Val) : (oneOf xs).nm = xs.flatMap Val.nm := by
  match xs with
  | [] => rfl
  | [x] => simp [oneOf, TV.nm]
  | x :: y :: r => rfl

theorem wrOf_of {ids : Ids} : ∀ {Bs : List Blk} {i j : Nat} {B : List Seg}, Bs[j]? = some (true, B) → Lv B → (ids (i + j)).1 ∈ wrOf ids Bs i
  | [], i, j, B, h, _ => by simp at h
  | (b, C) :: r, i, 0, B, h, hl => by simp at h; obtain ⟨rfl, rfl⟩ := h; simp [wrOf, lvB_iff.2 hl]
  | (b, C) :: r, i, j + 1, B, h, hl => by
    have := wrOf_of (ids := ids) (Bs := r) (i := i + 1) (j := j) (by simpa using h) hl
    rw [show i + 1 + j = i + (j + 1) by omega] at this
    cases hb : (b && lvB C) <;> simp [wrOf, this, hb]
theorem rep_start {ids : Ids} {Bs : List Blk} {w : World} {args : List TV} {cargs : List Value} {n : Nat} (hH : HRep ids Bs w) (hA : TsR ids args cargs) (hnm : ∀ x ∈ args, ∀ b ∈ x.nm, b < Bs.length) (hl : Bs.length ≤ 1000) (hn : args.length ≤ n) :
    Rep w (wrOf ids Bs 0) Bs.length ids ids (st0 args Bs n) { tmps := cargs.toArray ++ Array.replicate (n - cargs.toArray.size) undef, defers := [] } w := by
  have hlen : ∀ {xs : List TV} {vs : List Value}, TsR ids xs vs → xs.length = vs.length := by
    intro xs
    induction xs with
    | nil => intro vs h; cases vs <;> first | rfl | exact h.elim
    | cons x xs ih => intro vs h; cases vs <;> first | exact h.elim | (simp [ih h.2])
  have hcl := hlen hA
  have hget : ∀ {xs : List TV} {vs : List Value} (t : Nat), TsR ids xs vs → (match nth xs t with | some x => x | none => tunk).R ids (vs.getD t undef) := by
    intro xs
    induction xs with
    | nil => intro vs t h; trivial
    | cons x xs ih =>
      intro vs t h
      cases vs with
      | nil => exact h.elim
      | cons v vs =>
        cases t with
        | zero => simpa [nth] using h.1
        | succ t => simpa [nth] using ih t h.2
  refine ⟨⟨rfl, rfl, rfl, Nat.le_refl _, fun _ _ _ => rfl⟩, (by simp [st0]; omega), rfl, fun t => ?_, fun _ _ => rfl, fun b B hb => hH.blk b B (by rw [← nth_eq]; exact hb), fun b c B C hb hc hne => hH.sep b c B C (by rw [← nth_eq]; exact hb) (by rw [← nth_eq]; exact hc) hne,
    fun b B hb hlv => ?_, fun t b hb => ?_, fun c B hc b hb => ?_, hl⟩
  · have h1 := hget (vs := cargs) t hA
    by_cases ht : t < cargs.length
    · have : (cargs.toArray ++ Array.replicate (n - cargs.toArray.size) undef).getD t undef = cargs.getD t undef := by
        simp [Array.getElem?_append, ht]
      show TV.R ids _ ((cargs.toArray ++ Array.replicate (n - cargs.toArray.size) undef).getD t undef)
      rw [this]; exact h1
    · have : nth args t = none := by rw [nth_eq, List.getElem?_eq_none]; omega
      simp only [st0, this]
      trivial
  · left
    have := wrOf_of (ids := ids) (Bs := Bs) (i := 0) (j := b) (B := B) (by rw [← nth_eq]; exact hb) hlv
    simpa using this
  · show ((fun b => nth Bs b) b).isSome = true
    have hb' : b < Bs.length := by
      simp only [st0] at hb
      split at hb
      · rename_i x hx
        rw [nth_eq] at hx
        exact hnm x (List.mem_of_getElem? hx) b hb
      · cases hb
    simp [nth_eq, hb']
  · show ((fun b => nth Bs b) b).isSome = true
    have := hH.cl c B (by rw [← nth_eq]; exact hc) b hb
    simp [nth_eq, this]

theorem flags_spec {H : Nat → Option Blk} : ∀ {Bs : List Blk} {i0 : Nat}, flagsOk H Bs i0 = true → ∀ j B, Bs[j]? = some (true, B) → ∃ C, H (i0 + j) = some (true, C)
  | [], i0, _, j, B, h => by simp at h
  | (b, C) :: r, i0, hf, j, B, h => by
    simp only [flagsOk] at hf
    cases j with
    | zero =>
      simp only [List.getElem?_cons_zero, Option.some.injEq, Prod.mk.injEq] at h
      obtain ⟨rfl, rfl⟩ := h
      simp only [cond_true] at hf
      split at hf
      · rename_i D hD; exact ⟨D, hD⟩
      · cases hf
    | succ j =>
      have hr : flagsOk H r (i0 + 1) = true := by
        cases b with
        | false => exact hf
        | true =>
          simp only [cond_true] at hf
          split at hf
          · exact hf
          · cases hf
      obtain ⟨D, hD⟩ := flags_spec hr j B (by simpa using h)
      exact ⟨D, by rw [show i0 + (j + 1) = i0 + 1 + j by omega]; exact hD⟩
theorem closedR_spec {H : Nat → Option Blk} {nb : Nat} {news bs : List Nat} (h : closedR H nb news bs = true) : ∀ b ∈ bs, b < nb ∨ b ∈ news := by
  intro b hb
  simp only [closedR, List.all_eq_true, Bool.or_eq_true] at h
  rcases h b hb with h | h
  · exact .inl (by simpa using h)
  · exact .inr (has_mem h)
theorem bNames_mem {H : Nat → Option Blk} : ∀ {l : List Nat} {b : Nat} {B : Blk}, b ∈ l → H b = some B → ∀ c ∈ nmL B.2, c ∈ bNames H l
  | c :: l, b, B, hb, hH, x, hx => by
    simp only [bNames, List.mem_append]
    rcases List.mem_cons.1 hb with rfl | hb
    · left; rw [hH]; exact hx
    · exact .inr (bNames_mem hb hH x hx)
theorem newsOf_ge {H : Nat → Option Blk} {nb : Nat} {ws : List Nat} : ∀ b ∈ newsOf H nb ws, nb ≤ b := by
  intro b hb
  simp only [newsOf, List.mem_filter, Bool.not_eq_true'] at hb
  have := hb.2
  rcases Nat.lt_or_ge b nb with h | h
  · rw [show Nat.blt b nb = true by simpa using h] at this; cases this
  · exact h

/-- A FUNCTION: what the evaluator tells of it is so. -/
theorem evFun_sound {α : Type} {tab : Tab} {h : Hd} (ht : TabOk P tab) (hc : h.CallsOk P) (hm : P.follows .mixedOrders = true) {f : FuncId} {fn : Func} (hf : P.funcs[f]? = some fn)
    (hname : (fn.name == "runtime.NumGoroutine") = false) (hl : ∀ c, fn.body = some c → LoopsOk P h c) {args : List TV} {Bs : List Blk} {k : TV → List (List Seg) → List (List Seg) → Option α} {r : α}
    (hev : evFun tab h fn args Bs k = some r) : ∃ v Bs' Ns, k v Bs' Ns = some r ∧ FnS P f args Bs v Bs' Ns := by
  unfold evFun at hev
  split at hev
  · cases hev
  · rename_i c hbody
    cases hcond : (Nat.ble args.length fn.ntmps && Nat.ble Bs.length 1000) with
    | false => rw [hcond] at hev; cases hev
    | true =>
      rw [hcond] at hev
      simp only [Bool.and_eq_true] at hcond
      simp only [cond_true] at hev
      obtain ⟨e, stF, hend, hcode⟩ := ev_sound ht hc hm c _ _ r (hl c hbody) hev
      have hend' : evEnd tab fn.results.toList Bs Bs.length (List.range Bs.length) stF k = some r ∧ (e = .normal ∨ e = .ret) := by
        cases e with
        | normal => exact ⟨hend, .inl rfl⟩
        | ret => exact ⟨hend, .inr rfl⟩
        | exit id => cases hend
      obtain ⟨hend, he⟩ := hend'
      unfold evEnd at hend
      split at hend
      · cases hend
      · rename_i vals hvals
        simp only at hend
        generalize hnews : newsOf stF.H Bs.length ((oneOf vals).nm ++ bNames stF.H (List.range Bs.length)) = news at hend
        cases hchk : (nodupB news && (closedR stF.H Bs.length news (oneOf vals).nm && (closedR stF.H Bs.length news (bNames stF.H (List.range Bs.length)) && (closedR stF.H Bs.length news (bNames stF.H news) &&
            (flagsOk stF.H Bs 0 && (kindsOk stF.H Bs 0 && news.all fun b => match stF.H b with | some (true, _) => true | _ => false)))))) with
        | false => rw [hchk] at hend; cases hend
        | true =>
          rw [hchk] at hend
          simp only [cond_true] at hend
          simp only [Bool.and_eq_true] at hchk
          obtain ⟨k1, k2, k3, k4, k5, k7, k6⟩ := hchk
          refine ⟨_, _, _, hend, by simp, ⟨fn, hf, by rw [hbody]; rfl, hname⟩, fun ids w cargs hH hA hnm hle => ?_⟩
          have hnd := nodup_spec k1
          have c2 := closedR_spec k2
          have c3 := closedR_spec k3
          have c4 := closedR_spec k4
          have c5 := flags_spec k5
          have c7 := kinds_spec k7
          have hge : ∀ b ∈ news, Bs.length ≤ b := by rw [← hnews]; exact newsOf_ge
          have c6 : ∀ b ∈ news, ∃ C, stF.H b = some (true, C) := by
            intro b hb
            simp only [List.all_eq_true] at k6
            have := k6 b hb
            split at this
            · rename_i C hC; exact ⟨C, hC⟩
            · cases this
          have hstart := rep_start hH hA hnm hle (Nat.le_of_ble_eq_true hcond.1)
          refine calls_of_wp hf hbody (wp_mono (hcode w (wrOf ids Bs 0) Bs.length ids _ w ⟨ids, hstart⟩) ?_)
          rintro e' a' w' ⟨rfl, idsF, hr⟩
          obtain ⟨vs, r1, r2, r3, r4⟩ := evResL_run ht hr fn.results.toList vals hvals
          have hres := results_run r1
          generalize hcv : (if hh : vs.length = 1 then vs[0] else Value.tuple vs.toArray) = cv at hres
          have hval : (oneOf vals).R idsF cv := by
            rw [← hcv]
            cases vals with
            | nil => exact oneOf_R0 r2
            | cons x xs => exact oneOf_R r2 (by simp)
          have hbp : bodyPost P fn (fun e w' => ∃ ids' cv', e = .returned cv' ∧ RetOk Bs ((oneOf vals).ren (toIdx Bs.length news)) ((List.range Bs.length).map fun b => renL (toIdx Bs.length news) (cont stF.H b))
              (news.map fun b => renL (toIdx Bs.length news) (cont stF.H b)) ids w ids' cv' w') .ret a' w' := by
            refine ⟨hr.defers, cv, hres, fun i => cond (Nat.blt i Bs.length) (idsF i) (idsF (news.getD (i - Bs.length) 0)), cv, rfl, ?_⟩
            have hlow : ∀ i, i < Bs.length → (cond (Nat.blt i Bs.length) (idsF i) (idsF (news.getD (i - Bs.length) 0))) = idsF i := fun i hi => by
              rw [show Nat.blt i Bs.length = true by simpa using hi]; rfl
            have hhigh : ∀ j, (cond (Nat.blt (Bs.length + j) Bs.length) (idsF (Bs.length + j)) (idsF (news.getD (Bs.length + j - Bs.length) 0))) = idsF (news.getD j 0) := fun j => by
              rw [blt_false (show ¬ Bs.length + j < Bs.length by omega)]
              show idsF _ = _
              congr 2; omega
            have hto : ∀ b, (b < Bs.length ∨ b ∈ news) → (fun i => cond (Nat.blt i Bs.length) (idsF i) (idsF (news.getD (i - Bs.length) 0))) (toIdx Bs.length news b) = idsF b ∧ toIdx Bs.length news b < Bs.length + news.length := by
              intro b hb
              by_cases hlt : b < Bs.length
              · have : toIdx Bs.length news b = b := by unfold toIdx; rw [show Nat.blt b Bs.length = true by simpa using hlt]; rfl
                rw [this]; exact ⟨hlow b hlt, by omega⟩
              · have hbn : b ∈ news := hb.resolve_left hlt
                have : toIdx Bs.length news b = Bs.length + idx news b := by unfold toIdx; rw [blt_false hlt]; rfl
                rw [this]
                obtain ⟨h1, h2⟩ := idx_lt hbn
                refine ⟨?_, by omega⟩
                have := hhigh (idx news b)
                simp only at this ⊢
                rw [this, h2]
            have hsame : ∀ i, i < Bs.length → idsF i = ids i := hr.bor
            have hblkF : ∀ (b : Nat) (C : Blk), stF.H b = some C → (b < Bs.length ∨ b ∈ news) → ∀ q, (cond (Nat.blt q Bs.length) (idsF q) (idsF (news.getD (q - Bs.length) 0))) = idsF b →
                (∀ c ∈ nmL C.2, c < Bs.length ∨ c ∈ news) → BlkR (fun i => cond (Nat.blt i Bs.length) (idsF i) (idsF (news.getD (i - Bs.length) 0))) w' q (C.1, renL (toIdx Bs.length news) C.2) := by
              intro b C hC hb q hq hn
              obtain ⟨g1, gg, g2, g3⟩ := hr.blk b C hC
              refine ⟨renL_ok.2 g1, by simp only [hq]; exact gg.ren, by simp only [hq]; exact fun hl => g2 (renL_Lv.1 hl), fun j x hx => ?_⟩
              simp only [renL_cells, List.getElem?_map, Option.map_eq_some_iff] at hx
              obtain ⟨y, hy, rfl⟩ := hx
              obtain ⟨u, u1, u2, u3⟩ := g3 j y hy
              simp only [hq]
              exact ⟨u, u1, SV.ren_R.2 (u2.congr fun c hc => (hto c (hn c (cellsL_nm _ y (List.mem_of_getElem? hy) c hc))).1), u3⟩
            have hnewsz : ∀ b ∈ news, ∀ C, stF.H b = some (true, C) → Lv C → w.heap.size ≤ (idsF b).1 ∨ (idsF b).1 ∈ wrOf ids Bs 0 := by
              intro b hb C hC hl
              rcases hr.own b C hC hl with h | ⟨_, h⟩
              · exact .inr h
              · exact .inl h
            -- of blocks that came in and may not be written
            have hnewro : ∀ b ∈ news, ∀ C, stF.H b = some (true, C) → Lv C → ∀ j C0, Bs[j]? = some (false, C0) → Lv C0 → (idsF b).1 ≠ (ids j).1 := by
              intro b hb C hC hl j C0 hj hl0
              have h0 := (hH.blk j _ hj).2.2.1 hl0
              rcases hnewsz b hb C hC hl with h | h
              · omega
              · obtain ⟨m, D, hm1, hmD, hm2⟩ := wrOf_mem h
                rw [Nat.zero_add] at hm2
                rw [hm2]
                refine hH.sep m j D _ hm1 hj ?_ hmD hl0
                rintro rfl
                rw [hm1] at hj
                cases hj
            have hnget : ∀ j, j < news.length → news.getD j 0 ∈ news := fun j hj => by
              have : news[j]? = some (news.getD j 0) := by simp [List.getElem?_eq_getElem hj]
              exact List.mem_of_getElem? this
            have hlenA : (afterB Bs ((List.range Bs.length).map fun b => renL (toIdx Bs.length news) (cont stF.H b))).length = Bs.length := afterB_length (by simp)
            have hAfter : ∀ i (hi : i < Bs.length), (afterB Bs ((List.range Bs.length).map fun b => renL (toIdx Bs.length news) (cont stF.H b)))[i]? = some (Bs[i].1, cond Bs[i].1 (renL (toIdx Bs.length news) (cont stF.H i)) Bs[i].2) := fun i hi =>
              afterB_get (by simp [hi]) (by simp [hi])
            -- an entry of the list behind the call
            have hent : ∀ (i : Nat) (B : Blk), (afterB Bs ((List.range Bs.length).map fun b => renL (toIdx Bs.length news) (cont stF.H b)) ++ (news.map fun b => renL (toIdx Bs.length news) (cont stF.H b)).map fun N => (true, N))[i]? = some B →
                (i < Bs.length ∧ ∃ B0, Bs[i]? = some B0 ∧ B.1 = B0.1 ∧ ((B0.1 = true ∧ ∃ C, stF.H i = some (true, C) ∧ B.2 = renL (toIdx Bs.length news) C) ∨ (B0.1 = false ∧ B.2 = B0.2))) ∨
                (∃ j, j < news.length ∧ i = Bs.length + j ∧ ∃ C, stF.H (news.getD j 0) = some (true, C) ∧ B = (true, renL (toIdx Bs.length news) C)) := by
              intro i B hB
              by_cases hi : i < Bs.length
              · left
                rw [List.getElem?_append_left (by rw [hlenA]; exact hi), hAfter i hi] at hB
                obtain rfl := Option.some.inj hB
                refine ⟨hi, Bs[i], by simp [hi], rfl, ?_⟩
                cases hwr : Bs[i].1 with
                | true =>
                  left
                  obtain ⟨C, hC⟩ := c5 i Bs[i].2 (by rw [List.getElem?_eq_getElem hi, ← hwr])
                  rw [Nat.zero_add] at hC
                  exact ⟨rfl, C, hC, by simp [cont, hC]⟩
                | false => right; exact ⟨rfl, rfl⟩
              · right
                rw [List.getElem?_append_right (by rw [hlenA]; omega), hlenA, List.getElem?_map, List.getElem?_map] at hB
                simp only [Option.map_eq_some_iff] at hB
                obtain ⟨N, ⟨b, hb, rfl⟩, rfl⟩ := hB
                have hjl : i - Bs.length < news.length := (List.getElem?_eq_some_iff.1 hb).1
                have hgb : news.getD (i - Bs.length) 0 = b := by simp [List.getD, hb]
                obtain ⟨C, hC⟩ := c6 b (List.mem_of_getElem? hb)
                exact ⟨i - Bs.length, hjl, by omega, C, by rw [hgb]; exact hC, by simp [cont, hC]⟩
            have hrange : ∀ i, i < Bs.length → ∀ C, stF.H i = some C → ∀ c ∈ nmL C.2, c < Bs.length ∨ c ∈ news := fun i hi C hC c hc => c3 c (bNames_mem (List.mem_range.2 hi) hC c hc)
            have hnewsn : ∀ b ∈ news, ∀ C, stF.H b = some C → ∀ c ∈ nmL C.2, c < Bs.length ∨ c ∈ news := fun b hb C hC c hc => c4 c (bNames_mem hb hC c hc)
            refine ⟨fun i hi => ?_, ?_, ⟨fun i B hB => ?_, fun i j B C hB hC hne => ?_, fun i B hB b hb => ?_⟩, hr.keeps, fun i B C hB hC hl => ?_, fun j N hj hl => ?_, fun b hb => ?_⟩
            · simp only [hlow i hi]; exact hsame i hi
            · exact TV.ren_R.2 (hval.congr fun b hb => (hto b (c2 b hb)).1)
            · rcases hent i B hB with ⟨hi, B0, hB0, e1, ⟨e2, C, hC, e3⟩ | ⟨e2, e3⟩⟩ | ⟨j, hj, rfl, C, hC, rfl⟩
              · have := hblkF i (true, C) hC (.inl hi) i (hlow i hi) (hrange i hi _ hC)
                rw [show B = (true, renL (toIdx Bs.length news) C) from Prod.ext (e1.trans e2) e3]
                exact this
              · -- not written: as it was
                have h0 := hH.blk i B0 hB0
                have hBB : B = B0 := Prod.ext e1 e3
                rw [hBB]
                refine h0.congr (by simp only [hlow i hi]; exact hsame i hi) (fun c hc => ?_) hr.keeps.size (fun hlv => hr.keeps.block _ (h0.2.2.1 hlv) fun hw => ?_)
                · have := hH.cl i B0 hB0 c hc
                  simp only [hlow c this]; exact hsame c this
                · obtain ⟨m, D, hm1, hmD, hm2⟩ := wrOf_mem hw
                  rw [Nat.zero_add] at hm2
                  refine hH.sep m i D B0 hm1 hB0 ?_ hmD hlv hm2.symm
                  rintro rfl
                  rw [hm1] at hB0
                  obtain rfl := Option.some.inj hB0
                  cases e2
              · exact hblkF (news.getD j 0) (true, C) hC (.inr (hnget j hj)) (Bs.length + j) (hhigh j) (hnewsn _ (hnget j hj) _ hC)
            · intro lb lc
              rcases hent i _ hB with ⟨hi, B0, hB0, e1, e23⟩ | ⟨p, hp, rfl, D, hD, hDD⟩ <;> rcases hent j _ hC with ⟨hj, C0, hC0, f1, f23⟩ | ⟨q, hq, rfl, E, hE, hEE⟩
              · simp only [hlow i hi, hlow j hj]
                obtain ⟨b0, B0⟩ := B0
                simp only at e1
                subst e1
                rcases e23 with ⟨_, D, hD, e3⟩ | ⟨e2, _⟩
                · simp only at e3
                  rw [e3] at lb
                  have lD := renL_Lv.1 lb
                  rcases f23 with ⟨f2, E, hE, f3⟩ | ⟨f2, f3⟩
                  · rw [f3] at lc
                    exact hr.sep i j D _ hD hE hne lD (renL_Lv.1 lc)
                  · rw [hsame i hi, hsame j hj]
                    rw [f3] at lc
                    refine hH.sep i j B0 C0 hB0 hC0 hne ?_ lc
                    refine kindOk_spec (c7 i B0 (true, D) hB0 (by rw [Nat.zero_add]; exact hD)) lD fun E1 l1 E2 l2 h1 h2 => ?_
                    have b1 := (hH.blk i _ hB0).2.1
                    have b2 := (hr.blk i _ hD).2.1
                    simp only at h2
                    subst h1; subst h2
                    rw [← b1.1, ← b2.1, hsame i hi]
                · cases e2
              · simp only [hlow i hi, hhigh q]
                obtain ⟨b0, B0⟩ := B0
                simp only at e1
                subst e1
                rcases e23 with ⟨_, D, hD, e3⟩ | ⟨e2, _⟩
                · simp only at e3
                  rw [e3] at lb
                  rw [hEE] at lc
                  exact hr.sep i _ D _ hD hE (by have := hge _ (hnget q hq); omega) (renL_Lv.1 lb) (renL_Lv.1 lc)
                · cases e2
              · simp only [hlow j hj, hhigh p]
                obtain ⟨c0, C0⟩ := C0
                simp only [Prod.mk.injEq, true_and] at hDD
                rw [hDD] at lb
                rcases f23 with ⟨f2, E, hE, f3⟩ | ⟨f2, f3⟩
                · rw [f3] at lc
                  exact hr.sep _ j D _ hD hE (by have := hge _ (hnget p hp); omega) (renL_Lv.1 lb) (renL_Lv.1 lc)
                · rw [f3] at lc
                  simp only at f2
                  subst f2
                  rw [hsame j hj]
                  exact hnewro _ (hnget p hp) D hD (renL_Lv.1 lb) j C0 hC0 lc
              · simp only [hhigh]
                simp only [Prod.mk.injEq, true_and] at hDD
                rw [hDD] at lb
                rw [hEE] at lc
                refine hr.sep _ _ D _ hD hE (fun e => ?_) (renL_Lv.1 lb) (renL_Lv.1 lc)
                have g1 : news[p]? = some (news.getD p 0) := by simp [List.getElem?_eq_getElem hp]
                have g2 : news[q]? = some (news.getD q 0) := by simp [List.getElem?_eq_getElem hq]
                rw [← e] at g2
                exact hne (by rw [nodup_get hnd g1 g2])
            · have hlenT : (afterB Bs ((List.range Bs.length).map fun b => renL (toIdx Bs.length news) (cont stF.H b)) ++ (news.map fun b => renL (toIdx Bs.length news) (cont stF.H b)).map fun N => ((true, N) : Blk)).length = Bs.length + news.length := by
                rw [List.length_append, hlenA]; simp
              rw [hlenT]
              rcases hent i B hB with ⟨hi, B0, hB0, e1, ⟨e2, C, hC, e3⟩ | ⟨e2, e3⟩⟩ | ⟨j, hj, rfl, C, hC, rfl⟩
              · rw [e3, renL_nm, List.mem_map] at hb
                obtain ⟨c, hc, rfl⟩ := hb
                exact (hto c (hrange i hi _ hC c hc)).2
              · rw [e3] at hb
                have := hH.cl i B0 hB0 b hb; omega
              · simp only [renL_nm, List.mem_map] at hb
                obtain ⟨c, hc, rfl⟩ := hb
                exact (hto c (hnewsn _ (hnget j hj) _ hC c hc)).2
            · have hi : i < Bs.length := (List.getElem?_eq_some_iff.1 hB).1
              obtain ⟨D, hD⟩ := c5 i B hB
              rw [Nat.zero_add] at hD
              simp only [List.getElem?_map, List.getElem?_range hi, Option.map_some, Option.some.injEq] at hC
              subst hC
              rw [show cont stF.H i = D by simp [cont, hD]] at hl
              have lD := renL_Lv.1 hl
              refine kindOk_spec (c7 i B (true, D) hB (by rw [Nat.zero_add]; exact hD)) lD fun E1 l1 E2 l2 h1 h2 => ?_
              have b1 := (hH.blk i _ hB).2.1
              have b2 := (hr.blk i _ hD).2.1
              simp only at h2
              subst h1; subst h2
              rw [← b1.1, ← b2.1, hsame i hi]
            · have hjl : j < news.length := by simpa using (List.getElem?_eq_some_iff.1 hj).1
              obtain ⟨C, hC⟩ := c6 _ (hnget j hjl)
              simp only [List.getElem?_map, List.getElem?_eq_getElem hjl, Option.map_some, Option.some.injEq] at hj
              have hgd : news.getD j 0 = news[j] := by simp [List.getElem?_eq_getElem hjl]
              rw [← hgd, show cont stF.H (news.getD j 0) = C by unfold cont; rw [hC]] at hj
              subst hj
              have := hnewsz _ (hnget j hjl) C hC (renL_Lv.1 hl)
              simpa only [hhigh] using this
            · simp only [TV.ren_nm, List.mem_map] at hb
              obtain ⟨c, hc, rfl⟩ := hb
              simpa using (hto c (c2 c hc)).2
          rcases he with rfl | rfl
          · exact hbp
          · exact hbp
end Go.Proofs.Ytlmmgjngihlpeaa.Sx
