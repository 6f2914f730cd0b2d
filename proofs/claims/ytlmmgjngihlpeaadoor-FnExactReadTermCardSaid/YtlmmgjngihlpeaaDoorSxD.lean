/- A symbolic evaluator for the machine's code, part D: memory. Our own work. -/
import Derived.Test.YtlmmgjngihlpeaaDoorSxC
namespace Go.Proofs.YtlmmgjngihlpeaaDoor.Sx
open Go
set_option linter.unusedVariables false
variable {P : Program}
def freshIds (ids : Ids) (b : Nat) (g : Nat × Nat × Nat × Nat) : Ids := fun c => if c = b then g else ids c
theorem freshIds_ne {ids : Ids} {b c : Nat} {g : Nat × Nat × Nat × Nat} (h : c ≠ b) : freshIds ids b g c = ids c := by simp [freshIds, h]
theorem freshIds_eq {ids : Ids} {b : Nat} {g : Nat × Nat × Nat × Nat} : freshIds ids b g b = g := by simp [freshIds]
theorem Keeps.alloc {w0 w : World} {S : List Nat} (h : Keeps w0 w S) (o : Obj) : Keeps w0 (w.alloc o) S :=
  ⟨h.os, h.tape, h.output, by have := h.size; simp; omega, fun k hk hS => by
    rw [← h.block k hk hS]
    have := h.size
    show (w.heap.push o)[k]? = _
    rw [Array.getElem?_push, if_neg (by omega)]⟩
theorem Rep.alloc {w0 : World} {S : List Nat} {nb : Nat} {idb ids : Ids} {st : St} {a : Act} {w : World} (h : Rep w0 S nb idb ids st a w) {b : Nat} {B : List Seg} {cs : Array Value} {t : TypeId}
    (hb : st.H b = none) (hnb : nb ≤ b) (hok : oksL B) {xs : List SV} (hcs : CR ids (cellsL B ++ xs) cs.toList) (hn : ∀ c ∈ nmL B, (st.H c).isSome = true) {lc : Nat × Nat}
    (hgro : ∀ E l, B = [.gro E l] → lc.1 = l.length ∧ lc.2 * E.s ≤ cs.size) (hno : ∀ K V l, B ≠ [.mp K V l]) (hnr : noRws B = true) :
    Rep w0 S nb idb (freshIds ids b (w.heap.size, 0, lc)) { st with H := updH st.H [(b, true, B)] } a (w.alloc (.cells cs t)) := by
  have hdom : ∀ c, (st.H c).isSome = true → c ≠ b := fun c hc e => by subst e; rw [hb] at hc; cases hc
  have hupd : ∀ c, updH st.H [(b, true, B)] c = if c = b then some (true, B) else st.H c := fun c => by
    rw [updH_eq]
    simp only [outAt]
    by_cases hc : c = b
    · subst hc; simp [Nat.beq_refl]
    · have : Nat.beq c b = false := by
        cases hq : Nat.beq c b with
        | false => rfl
        | true => exact absurd (Nat.eq_of_beq_eq_true hq) hc
      simp [this, hc]
  have hold : ∀ c C, st.H c = some C → Lv C.2 → (ids c).1 < w.heap.size := fun c C hc => (h.blk c C hc).2.2.1
  refine ⟨h.keeps.alloc _, h.size, h.defers, fun t => ?_, fun i hi => ?_, fun c C hc => ?_, fun c d C D hc hd hne => ?_, fun c C hc => ?_, fun t c hc => ?_, fun c C hc d hd => ?_, h.limg, h.hid.upd (by simp) (fun c C hc => ?_) fun e E he g hg => ?_⟩
  rotate_right 2
  · dsimp only at hc; rw [hupd] at hc
    by_cases hcb : c = b
    · subst hcb
      rw [if_pos rfl] at hc
      obtain rfl := Option.some.inj hc
      refine .inr ⟨hnr, fun _ e E _ he hg => ?_⟩
      have := (h.hid.rel e E he).lt _ hg
      rw [freshIds_eq] at this
      exact Nat.lt_irrefl _ this
    · rw [if_neg hcb] at hc
      exact .inl ⟨hc, freshIds_ne hcb, fun d hd => freshIds_ne (hdom d (h.clH c C hc d hd))⟩
  · have := (h.hid.rel e E he).lt _ hg
    show (w.heap.push _)[_]? = _
    rw [Array.getElem?_push, if_neg (by omega)]
  · exact (h.tmps t).congr fun c hc => freshIds_ne (hdom c (h.clT t c hc))
  · rw [freshIds_ne (by omega)]; exact h.bor i hi
  · dsimp only at hc; rw [hupd] at hc
    by_cases hcb : c = b
    · subst hcb
      rw [if_pos rfl] at hc
      obtain rfl := Option.some.inj hc
      refine ⟨hok, ?_, by rw [freshIds_eq]; simp, fun j x hx => ?_⟩
      · dsimp only
        rw [freshIds_eq]
        unfold GroR
        split
        · exact absurd rfl (hno _ _ _)
        · rename_i E l
          obtain ⟨g1, g2⟩ := hgro E l rfl
          refine ⟨g1, fun _ _ j h1 h2 => ⟨⟨cs[j]'(by dsimp only at h2; omega), ?_⟩, by simp⟩⟩
          simp only [Nat.zero_add, World.cell?_alloc_new]
          exact Array.getElem?_eq_getElem _
        · trivial
      obtain ⟨v, hv, hxv⟩ := hcs.get (show (cellsL B ++ xs)[j]? = some x by rw [List.getElem?_append_left (List.getElem?_eq_some_iff.1 hx).1]; exact hx)
      rw [freshIds_eq]
      refine ⟨v, ?_, hxv.congr fun d hd => freshIds_ne (hdom d (hn d (cellsL_nm _ x (List.mem_of_getElem? hx) d hd))), fun _ => ?_⟩
      · simp only [Nat.zero_add, World.cell?_alloc_new]; simpa using hv
      · simp
    · rw [if_neg hcb] at hc
      refine (h.blk c C hc).congr (freshIds_ne hcb) (fun d hd => freshIds_ne (hdom d (h.clH c C hc d hd))) (by simp) ?_
      intro hne
      show (w.heap.push _)[_]? = _
      have := hold c C hc hne
      rw [Array.getElem?_push, if_neg (by omega)]
  · dsimp only at hc hd; rw [hupd] at hc hd
    intro hC hD
    by_cases hcb : c = b <;> by_cases hdb : d = b
    · omega
    · subst hcb
      rw [if_neg hdb] at hd
      rw [freshIds_eq, freshIds_ne hdb]
      have := hold d D hd hD
      dsimp only; omega
    · subst hdb
      rw [if_neg hcb] at hc
      rw [freshIds_eq, freshIds_ne hcb]
      have := hold c _ hc hC
      dsimp only; omega
    · rw [if_neg hcb] at hc; rw [if_neg hdb] at hd
      rw [freshIds_ne hcb, freshIds_ne hdb]
      exact h.sep c d C D hc hd hne hC hD
  · dsimp only at hc; rw [hupd] at hc
    intro hC
    by_cases hcb : c = b
    · subst hcb; rw [freshIds_eq]; exact .inr ⟨hnb, h.keeps.size⟩
    · rw [if_neg hcb] at hc; rw [freshIds_ne hcb]; exact h.own c C hc hC
  · have := h.clT t c hc
    show (updH st.H [(b, true, B)] c).isSome = true
    rw [hupd, if_neg (hdom c this)]; exact this
  · show (updH st.H [(b, true, B)] d).isSome = true
    have hx : (st.H d).isSome = true := by
      dsimp only at hc; rw [hupd] at hc
      by_cases hcb : c = b
      · subst hcb; rw [if_pos rfl] at hc; obtain rfl := Option.some.inj hc; exact hn d hd
      · rw [if_neg hcb] at hc; exact h.clH c C hc d hd
    rw [hupd, if_neg (hdom d hx)]; exact hx
theorem setCell_block (w : World) (a : Addr) (v : Value) (k : Nat) (h : k ≠ a.block) : (w.setCell a v).heap[k]? = w.heap[k]? := by
  simp only [World.setCell, Array.getElem?_modify]
  rw [if_neg (fun e => h e.symm)]
theorem addr_add (g o i : Nat) : (⟨g, o, none⟩ : Addr).add i = ⟨g, o + i, none⟩ := by
  unfold Addr.add; split
  · subst_vars; rfl
  · rfl
theorem run_storeCells (g o : Nat) : ∀ (vs : List Value) (i : Nat) (w : World), (∀ j, j < vs.length → ∃ u, w.cell? ⟨g, o + i + j, none⟩ = some u) →
    (∀ j, j < vs.length → w.frozen? ⟨g, o + i + j, none⟩ = false) → (∀ v ∈ vs, v.oneCell' = true) →
    ∃ w', (storeCells ⟨g, o, none⟩ vs i).run P w = .ok () w' ∧ (∀ j v, vs[j]? = some v → w'.cell? ⟨g, o + i + j, none⟩ = some v) ∧
      (∀ k, (k < o + i ∨ o + i + vs.length ≤ k) → w'.cell? ⟨g, k, none⟩ = w.cell? ⟨g, k, none⟩) ∧ (∀ a, w'.frozen? a = w.frozen? a) ∧
      w'.heap.size = w.heap.size ∧ (∀ k, k ≠ g → w'.heap[k]? = w.heap[k]?) ∧ w'.os = w.os ∧ w'.tape = w.tape ∧ w'.output = w.output
  | [], i, w, _, _, _ => ⟨w, rfl, by simp, fun _ _ => rfl, fun _ => rfl, rfl, fun _ _ => rfl, rfl, rfl, rfl⟩
  | v :: vs, i, w, hc, hf, ho => by
    obtain ⟨u, hu⟩ := hc 0 (by simp)
    have hf0 := hf 0 (by simp)
    simp only [Nat.add_zero] at hu hf0
    have hcell : ∀ a, a ≠ (⟨g, o + i, none⟩ : Addr) → (w.setCell ⟨g, o + i, none⟩ v).cell? a = w.cell? a := fun a ha => World.cell?_setCell_other w _ _ _ (fun e => ha e.symm)
    obtain ⟨w', h1, h2, h3, h4, h5, h6, h7, h8, h9⟩ := run_storeCells g o vs (i + 1) (w.setCell ⟨g, o + i, none⟩ v)
      (fun j hj => by
        obtain ⟨u', hu'⟩ := hc (j + 1) (by simpa using hj)
        refine ⟨u', ?_⟩
        rw [show o + (i + 1) + j = o + i + (j + 1) from by omega, hcell _ (by intro e; injection e; omega)]; exact hu')
      (fun j hj => by
        have := hf (j + 1) (by simpa using hj)
        rw [World.frozen?_setCell, show o + (i + 1) + j = o + i + (j + 1) from by omega]; exact this)
      (fun x hx => ho x (by simp [hx]))
    refine ⟨w', ?_, fun j x hx => ?_, fun k hk => ?_, fun a => ?_, ?_, fun k hk => ?_, h7, h8, h9⟩
    · simp only [storeCells, Sem.run_bind, addr_add, run_store P w _ _ _ (ho v (by simp)), hu, hf0, Bool.false_eq_true, if_false, Result.andThen_ok]
      exact h1
    · cases j with
      | zero =>
        simp only [List.getElem?_cons_zero, Option.some.injEq] at hx
        subst hx
        rw [Nat.add_zero, h3 (o + i) (by omega)]
        exact World.cell?_setCell_same w _ _ hu
      | succ j =>
        have := h2 j x (by simpa using hx)
        rw [show o + i + (j + 1) = o + (i + 1) + j from by omega]; exact this
    · simp only [List.length_cons] at hk
      rw [h3 k (by omega)]
      exact hcell _ (by intro e; injection e; omega)
    · rw [h4, World.frozen?_setCell]
    · rw [h5]; simp
    · rw [h6 k hk]; exact setCell_block _ _ _ _ hk
theorem Keeps.stored {w0 w w' : World} {S : List Nat} {g : Nat} (h : Keeps w0 w S) (hg : g ∈ S ∨ w0.heap.size ≤ g) (hsz : w'.heap.size = w.heap.size) (hb : ∀ k, k ≠ g → w'.heap[k]? = w.heap[k]?)
    (h7 : w'.os = w.os) (h8 : w'.tape = w.tape) (h9 : w'.output = w.output) : Keeps w0 w' S :=
  ⟨h7.trans h.os, h8.trans h.tape, h9.trans h.output, by rw [hsz]; exact h.size, fun k hk hS => by
    rw [hb k (by rintro rfl; rcases hg with hg | hg <;> first | exact hS hg | omega)]
    exact h.block k hk hS⟩
theorem Rep.store {w0 : World} {S : List Nat} {nb : Nat} {idb ids : Ids} {st : St} {a : Act} {w : World} (h : Rep w0 S nb idb ids st a w) {b : Nat} {B B' : List Seg} {o : Nat} {xs : List SV} {vs : List Value}
    (hb : st.H b = some (true, B)) (hok : oksL B') (hlen : o + xs.length ≤ (cellsL B).length) (hcells : cellsL B' = (cellsL B).take o ++ xs ++ (cellsL B).drop (o + xs.length))
    (hx : CR ids xs vs) (hk : ∀ x ∈ xs, x.known = true) (hn : ∀ c ∈ nmL B', (st.H c).isSome = true) (hne : Lv B) (hgro : ∀ E l, B' = [.gro E l] → ∃ l0, B = [.gro E l0] ∧ 0 < E.s) (hno : ∀ K V l, B' ≠ [.mp K V l]) (hnr : noRws B' = true) :
    ∃ w', (storeCells ⟨(ids b).1, (ids b).2.1 + o, none⟩ vs 0).run P w = .ok () w' ∧ Rep w0 S nb idb ids { st with H := updH st.H [(b, true, B')] } a w' := by
  obtain ⟨hB1, hBg, hB2, hB3⟩ := h.blk b _ hb
  dsimp only at hB1 hBg hB2 hB3
  have hvl : xs.length = vs.length := hx.length
  have hget : ∀ j, o + j < (cellsL B).length → ∃ u, w.cell? ⟨(ids b).1, (ids b).2.1 + o + 0 + j, none⟩ = some u ∧ w.frozen? ⟨(ids b).1, (ids b).2.1 + o + 0 + j, none⟩ = false := by
    intro j hj
    obtain ⟨v, h1, h2, h3⟩ := hB3 (o + j) _ (List.getElem?_eq_getElem hj)
    refine ⟨v, ?_, ?_⟩
    · rw [← h1]; congr 2; omega
    · rw [← h3 rfl]; congr 2; omega
  obtain ⟨w', h1, h2, h3, h4, h5, h6, h7, h8, h9⟩ := run_storeCells (P := P) (ids b).1 ((ids b).2.1 + o) vs 0 w
    (fun j hj => by obtain ⟨u, hu, _⟩ := hget j (by omega); exact ⟨u, hu⟩)
    (fun j hj => by obtain ⟨u, _, hu⟩ := hget j (by omega); exact hu)
    (fun v hv => by
      obtain ⟨j, hj, rfl⟩ := List.mem_iff_getElem.1 hv
      have hj' : j < xs.length := by omega
      obtain ⟨v', hv', hr⟩ := hx.get (List.getElem?_eq_getElem hj')
      rw [List.getElem?_eq_getElem hj] at hv'
      rw [Option.some.inj hv']
      exact hr.one (hk _ (List.getElem_mem hj')))
  have hupd : ∀ c, updH st.H [(b, true, B')] c = if c = b then some (true, B') else st.H c := fun c => by
    rw [updH_eq]
    simp only [outAt]
    by_cases hc : c = b
    · subst hc; simp [Nat.beq_refl]
    · have : Nat.beq c b = false := by
        cases hq : Nat.beq c b with
        | false => rfl
        | true => exact absurd (Nat.eq_of_beq_eq_true hq) hc
      simp [this, hc]
  have hsome : ∀ c, (updH st.H [(b, true, B')] c).isSome = (st.H c).isSome := fun c => by
    rw [hupd]; by_cases hc : c = b
    · subst hc; rw [if_pos rfl, hb]; rfl
    · rw [if_neg hc]
  refine ⟨w', h1, h.keeps.stored ((h.own b B hb hne).imp_right And.right) h5 h6 h7 h8 h9, h.size, h.defers, h.tmps, h.bor, fun c C hc => ?_, fun c d C D hc hd hcd => ?_, fun c C hc => ?_, fun t c hc => ?_, fun c C hc d hd => ?_, h.limg, h.hid.upd (by rw [h5]; exact Nat.le_refl _) (fun c C hc => ?_) fun e E he g hg => ?_⟩
  rotate_right 2
  · dsimp only at hc; rw [hupd] at hc
    by_cases hcb : c = b
    · subst hcb
      rw [if_pos rfl] at hc
      obtain rfl := Option.some.inj hc
      exact .inr ⟨hnr, fun _ e E hec he hg => h.hid.sepL e c E _ he hb hne hg⟩
    · rw [if_neg hcb] at hc
      exact .inl ⟨hc, rfl, fun d hd => rfl⟩
  · exact h6 g fun hgb => h.hid.sepL e b E _ he hb hne (by rw [← hgb]; exact hg)
  · dsimp only at hc; rw [hupd] at hc
    by_cases hcb : c = b
    · subst hcb
      rw [if_pos rfl] at hc
      obtain rfl := Option.some.inj hc
      refine ⟨hok, ?_, fun _ => by rw [h5]; exact hB2 hne, fun j x hxj => ?_⟩
      · dsimp only
        unfold GroR
        split
        · exact absurd rfl (hno _ _ _)
        · rename_i E l
          obtain ⟨l0, rfl, hE0⟩ := hgro E l rfl
          have hl0 : l0.length = l.length := by
            have := congrArg List.length hcells
            simp only [List.length_append, List.length_take, List.length_drop] at this
            have e1 : (cellsL [.gro E l0]).length = l0.length * E.s := by rw [cells_gro]; exact flatMap_enc_length E l0
            have e2 : (cellsL [.gro E l]).length = l.length * E.s := by rw [cells_gro]; exact flatMap_enc_length E l
            rw [e1, e2] at this
            rw [e1] at hlen
            exact Nat.eq_of_mul_eq_mul_right hE0 (by omega)
          obtain ⟨g1, g2⟩ := hBg
          refine ⟨by rw [g1, hl0], fun _ _ j j1 j2 => ?_⟩
          obtain ⟨⟨u, hu⟩, hf⟩ := g2 rfl hne j (by rw [hl0]; exact j1) j2
          have hcl : (cellsL [.gro E l0]).length = l0.length * E.s := by rw [cells_gro]; exact flatMap_enc_length E l0
          refine ⟨⟨u, ?_⟩, by rw [h4]; exact hf⟩
          rw [h3 _ (by right; rw [← hl0] at j1; omega)]; exact hu
        · trivial
      simp only at hxj ⊢
      rw [hcells] at hxj
      have hfr : w'.frozen? ⟨(ids c).1, (ids c).2.1 + j, none⟩ = w.frozen? ⟨(ids c).1, (ids c).2.1 + j, none⟩ := h4 _
      by_cases hj1 : j < o
      · have hxo : (cellsL B)[j]? = some x := by
          rw [List.append_assoc, List.getElem?_append_left (by simp; omega)] at hxj
          simpa [List.getElem?_take, hj1] using hxj
        obtain ⟨v, g1, g2, g3⟩ := hB3 j x hxo
        exact ⟨v, by rw [h3 _ (by omega)]; exact g1, g2, fun hh => by rw [hfr]; exact g3 rfl⟩
      · by_cases hj2 : j < o + xs.length
        · have hxo : xs[j - o]? = some x := by
            rw [List.append_assoc, List.getElem?_append_right (by simp; omega), List.getElem?_append_left (by simp; omega)] at hxj
            rw [← hxj]; congr 1; simp; omega
          obtain ⟨v, g1, g2⟩ := hx.get hxo
          obtain ⟨v0, _, _, g3⟩ := hB3 j _ (List.getElem?_eq_getElem (show j < (cellsL B).length by omega))
          refine ⟨v, ?_, g2, fun hh => by rw [hfr]; exact g3 rfl⟩
          rw [← h2 _ _ g1]; congr 2; omega
        · have hxo : (cellsL B)[j]? = some x := by
            rw [List.getElem?_append_right (by simp; omega)] at hxj
            rw [List.getElem?_drop] at hxj
            rw [← hxj]; congr 1; simp; omega
          obtain ⟨v, g1, g2, g3⟩ := hB3 j x hxo
          exact ⟨v, by rw [h3 _ (by omega)]; exact g1, g2, fun hh => by rw [hfr]; exact g3 rfl⟩
    · rw [if_neg hcb] at hc
      refine (h.blk c C hc).congr rfl (fun _ _ => rfl) (by rw [h5]; exact Nat.le_refl _) (fun hC => h6 _ ?_)
      exact fun e => h.sep b c B C hb hc (fun e => hcb e.symm) hne hC e.symm
  · dsimp only at hc hd; rw [hupd] at hc hd
    intro hC hD
    have hc' : ∃ C', st.H c = some (true, C') ∧ Lv C' := by
      by_cases hcb : c = b
      · subst hcb; exact ⟨_, hb, hne⟩
      · rw [if_neg hcb] at hc; exact ⟨_, hc, hC⟩
    have hd' : ∃ D', st.H d = some D' ∧ Lv D'.2 := by
      by_cases hdb : d = b
      · subst hdb; exact ⟨_, hb, hne⟩
      · rw [if_neg hdb] at hd; exact ⟨_, hd, hD⟩
    obtain ⟨C', hc', hC'⟩ := hc'; obtain ⟨D', hd', hD'⟩ := hd'
    exact h.sep c d C' D' hc' hd' hcd hC' hD'
  · dsimp only at hc; rw [hupd] at hc
    intro hC
    by_cases hcb : c = b
    · subst hcb; exact h.own c B hb hne
    · rw [if_neg hcb] at hc; exact h.own c C hc hC
  · show (updH st.H [(b, true, B')] c).isSome = true
    rw [hsome]; exact h.clT t c hc
  · show (updH st.H [(b, true, B')] d).isSome = true
    rw [hsome]
    dsimp only at hc; rw [hupd] at hc
    by_cases hcb : c = b
    · subst hcb; rw [if_pos rfl] at hc; obtain rfl := Option.some.inj hc; exact hn d hd
    · rw [if_neg hcb] at hc; exact h.clH c C hc d hd
theorem run_loadCells_rep {w0 : World} {S : List Nat} {nb : Nat} {idb ids : Ids} {st : St} {a : Act} {w : World} (h : Rep w0 S nb idb ids st a w) {b : Nat} {B : Blk} {o n : Nat}
    (hb : st.H b = some B) (hlen : o + n ≤ (cellsL B.2).length) :
    ∃ cs : Array Value, (loadCells ⟨(ids b).1, (ids b).2.1 + o, none⟩ n).run P w = .ok cs w ∧ CR ids (((cellsL B.2).drop o).take n) cs.toList := by
  obtain ⟨hB1, _, hB2, hB3⟩ := h.blk b _ hb
  have hex : ∀ j, ∃ v, j < n → w.cell? ⟨(ids b).1, (ids b).2.1 + o + j, none⟩ = some v ∧ ((cellsL B.2)[o + j]?.getD .unk).R ids v := by
    intro j
    by_cases hj : j < n
    · obtain ⟨v, h1, h2, _⟩ := hB3 (o + j) _ (List.getElem?_eq_getElem (show o + j < (cellsL B.2).length by omega))
      refine ⟨v, fun _ => ⟨by rw [← h1]; congr 2; omega, ?_⟩⟩
      rw [List.getElem?_eq_getElem (show o + j < (cellsL B.2).length by omega)]
      exact h2
    · exact ⟨undef, fun hh => absurd hh hj⟩
  let F : Nat → Value := fun j => (hex j).choose
  have hF : ∀ j, j < n → w.cell? ⟨(ids b).1, (ids b).2.1 + o + j, none⟩ = some (F j) ∧ ((cellsL B.2)[o + j]?.getD .unk).R ids (F j) := fun j hj => (hex j).choose_spec hj
  have hl := run_loadCells_list (P := P) w ⟨(ids b).1, (ids b).2.1 + o, none⟩ ((List.range n).map F) (fun j v hv => by
    have hj : j < n := by
      have := (List.getElem?_eq_some_iff.1 hv).1
      simpa using this
    simp [hj] at hv
    rw [addr_add, ← hv]
    exact (hF j hj).1)
  refine ⟨((List.range n).map F).toArray, by simpa using hl, CR.of_get (by simp; omega) fun i x v hx hv => ?_⟩
  have hi : i < n := by
    have := (List.getElem?_eq_some_iff.1 hx).1
    simp at this; omega
  simp [hi] at hv
  subst hv
  have := (hF i hi).2
  have hxx : (cellsL B.2)[o + i]? = some x := by
    rw [List.getElem?_take, if_pos hi, List.getElem?_drop] at hx; exact hx
  rwa [hxx] at this
end Go.Proofs.YtlmmgjngihlpeaaDoor.Sx
