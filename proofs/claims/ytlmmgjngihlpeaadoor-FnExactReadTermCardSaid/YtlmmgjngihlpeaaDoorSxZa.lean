/- A symbolic evaluator for the machine's code, part Za: rows of rows. Our own work. -/
import Derived.Test.YtlmmgjngihlpeaaDoorSxZ
namespace Go.Proofs.YtlmmgjngihlpeaaDoor.Sx
open Go
set_option linter.unusedVariables false
set_option linter.unusedSimpArgs false
variable {P : Program}
theorem footR_sub {w : World} {p : Nat × Nat × Nat × Nat} {h : Option (Nat × Nat)} {i c : Nat} (hh : h = none ∨ ∃ c', h = some (i, c')) : ∀ n, (footR w p (some (i, c)) n).Sublist (footR w p h n)
  | 0 => List.Sublist.slnil
  | n + 1 => by
    simp only [footR]
    refine (footR_sub hh n).append ?_
    rcases hh with rfl | ⟨c', rfl⟩
    · show List.Sublist (cond (Nat.beq i n) _ _) _
      cases Nat.beq i n with
      | true => exact List.nil_sublist _
      | false => exact List.Sublist.refl _
    · exact List.Sublist.refl _
theorem nodup_append_disj {l m : List Nat} (h : (l ++ m).Nodup) : ∀ g ∈ l, g ∉ m := by
  intro g h1 h2
  exact (List.nodup_append.1 h).2.2 g h1 g h2 rfl
theorem beq_ne {i n : Nat} (h : i ≠ n) : Nat.beq i n = false := by
  cases hb : Nat.beq i n with
  | false => rfl
  | true => exact absurd (Nat.eq_of_beq_eq_true hb) h
theorem footR_out {w : World} {p : Nat × Nat × Nat × Nat} {i c g : Nat} : ∀ {n : Nat}, (footR w p none n).Nodup → i < n → g ∈ rowObj (w.cell? ⟨p.1, p.2.1 + i, none⟩) → g ∉ footR w p (some (i, c)) n
  | 0, _, h, _ => by omega
  | n + 1, hn, hi, hg => by
    simp only [footR] at hn ⊢
    have hd := nodup_append_disj hn
    by_cases hin : i = n
    · subst hin
      rw [show isHole (some (i, c)) i = true from Nat.beq_refl i]
      simp only [cond_true, List.append_nil]
      intro h
      have := (footR_sub (w := w) (p := p) (c := c) (.inl rfl) i).subset h
      exact hd g this hg
    · have hlt : i < n := by omega
      have h1 := footR_out (c := c) (List.nodup_append.1 hn).1 hlt hg
      intro h
      rcases List.mem_append.1 h with h | h
      · exact h1 h
      · refine hd g ((footR_mem).2 ⟨i, hlt, rfl, hg⟩) ?_
        rw [show isHole (some (i, c)) n = false from beq_ne hin] at h
        exact h
theorem footR_fill {w w' : World} {p : Nat × Nat × Nat × Nat} {i c : Nat} (hsame : ∀ j, j ≠ i → w'.cell? ⟨p.1, p.2.1 + j, none⟩ = w.cell? ⟨p.1, p.2.1 + j, none⟩) (hone : (rowObj (w'.cell? ⟨p.1, p.2.1 + i, none⟩)).Nodup) :
    ∀ {n : Nat}, (footR w p (some (i, c)) n).Nodup → (∀ g ∈ rowObj (w'.cell? ⟨p.1, p.2.1 + i, none⟩), g ∉ footR w p (some (i, c)) n) → (footR w' p none n).Nodup
  | 0, _, _ => List.nodup_nil
  | n + 1, hn, hd => by
    simp only [footR] at hn hd ⊢
    have hn1 := (List.nodup_append.1 hn).1
    have hd1 : ∀ g ∈ rowObj (w'.cell? ⟨p.1, p.2.1 + i, none⟩), g ∉ footR w p (some (i, c)) n := fun g hg h => hd g hg (List.mem_append_left _ h)
    have ih := footR_fill hsame hone hn1 hd1
    have hmem : ∀ g ∈ footR w' p none n, g ∈ footR w p (some (i, c)) n ∨ (i < n ∧ g ∈ rowObj (w'.cell? ⟨p.1, p.2.1 + i, none⟩)) := by
      intro g hg
      obtain ⟨j, hj, _, hg⟩ := footR_mem.1 hg
      by_cases hji : j = i
      · subst hji; exact .inr ⟨hj, hg⟩
      · rw [hsame j hji] at hg
        exact .inl (footR_mem.2 ⟨j, hj, beq_ne (fun e => hji e.symm), hg⟩)
    rw [show isHole none n = false from rfl]
    simp only [cond_false]
    by_cases hin : n = i
    · subst hin
      refine List.nodup_append.2 ⟨ih, hone, fun g hg g' hg' e => ?_⟩
      subst e
      rcases hmem g hg with h | ⟨h, _⟩
      · exact hd1 g hg' h
      · omega
    · have hh : isHole (some (i, c)) n = false := beq_ne (fun e => hin e.symm)
      rw [hh] at hn hd
      simp only [cond_false] at hn hd
      rw [hsame n hin]
      obtain ⟨_, h2, h3⟩ := List.nodup_append.1 hn
      refine List.nodup_append.2 ⟨ih, h2, fun g hg g' hg' e => ?_⟩
      subst e
      rcases hmem g hg with h | ⟨_, h⟩
      · exact h3 g h g hg' rfl
      · exact hd g h (List.mem_append_right _ hg')
theorem rowObj_nodup (v : Option Value) : (rowObj v).Nodup := by
  unfold rowObj
  split
  · simp
  · exact List.nodup_nil
theorem RowR.place {w : World} {E : EK} {l : List E.T} {v : Value} {p : Nat × Nat × Nat × Nat} (hb : BlkR (fun _ => p) w 0 (true, [.gro E l])) (hv : (SV.gsl 0 E.s).R (fun _ => p) v) : l ≠ [] → p.1 ∈ rowObj (some v) := by
  intro hl
  rw [gsl_obj hv]
  have q1 := hb.2.1.1
  dsimp only at q1
  rw [show Nat.beq p.2.2.1 0 = false by rw [q1]; cases l <;> first | exact absurd rfl hl | rfl]
  simp
section
variable {w0 : World} {S : List Nat} {nb : Nat} {idb ids : Ids} {st : St} {a : Act} {w : World}
theorem rws_blk {ids : Ids} {w : World} {b : Nat} {fl : Bool} {E : EK} {ll : List (List E.T)} {hh : Option (Nat × Nat)} : BlkR ids w b (fl, [.rws E ll hh]) :=
  ⟨fun s hs => by simp only [List.mem_singleton] at hs; subst hs; trivial, trivial, fun h => h.elim, fun j x hx => by simp [cellsL, Seg.cells] at hx⟩
theorem Rep.openRow (h : Rep w0 S nb idb ids st a w) {b c i : Nat} {E : EK} {ll : List (List E.T)} {l : List E.T} (hb : st.H b = some (true, [.rws E ll none])) (hi : ll[i]? = some l) (hc : st.H c = none) (hnb : nb ≤ c) :
    ∃ v p, w.cell? ⟨(ids b).1, (ids b).2.1 + i, none⟩ = some v ∧ Rep w0 S nb idb (freshIds ids c p) { st with H := updH st.H [(c, true, [.gro E l]), (b, true, [.rws E ll (some (i, c))])] } a w ∧ (SV.gsl c E.s).R (freshIds ids c p) v := by
  have hin : i < ll.length := (List.getElem?_eq_some_iff.1 hi).1
  obtain ⟨hlt, hnd, hrows⟩ := h.hid.rel b _ hb
  obtain ⟨v, hv, hvf, p, hblk, hgsl⟩ := hrows i l hi
  have hdom : ∀ d, (st.H d).isSome = true → d ≠ c := fun d hd e => by subst e; rw [hc] at hd; cases hd
  have hbc : b ≠ c := hdom b (by rw [hb]; rfl)
  have hplace : l ≠ [] → p.1 ∈ rowObj (w.cell? ⟨(ids b).1, (ids b).2.1 + i, none⟩) := fun hl => by rw [hv]; exact RowR.place hblk hgsl hl
  have hin0 : l ≠ [] → p.1 ∈ foot w (ids b) [.rws E ll none] := fun hl => by
    simp only [foot, List.mem_cons]
    exact .inr (footR_mem.2 ⟨i, hin, rfl, hplace hl⟩)
  have hsub : ∀ g, g ∈ foot w (ids b) [.rws E ll (some (i, c))] → g ∈ foot w (ids b) [.rws E ll none] := fun g hg => by
    simp only [foot, List.mem_cons] at hg ⊢
    exact hg.imp_right fun hg => (footR_sub (.inl rfl) _).subset hg
  have hout : l ≠ [] → p.1 ∉ foot w (ids b) [.rws E ll (some (i, c))] := fun hl hg => by
    simp only [foot, List.nodup_cons] at hnd
    simp only [foot, List.mem_cons] at hg
    rcases hg with hg | hg
    · exact hnd.1 (by rw [← hg]; exact footR_mem.2 ⟨i, hin, rfl, hplace hl⟩)
    · exact footR_out hnd.2 hin (hplace hl) hg
  have hs : ∀ d, (st.H d).isSome = true → (updH st.H [(c, true, [.gro E l]), (b, true, [.rws E ll (some (i, c))])] d).isSome = true := fun d hd => by
    rw [upd2, if_neg (hdom d hd)]
    by_cases hdb : d = b
    · rw [if_pos hdb]; rfl
    · rw [if_neg hdb]; exact hd
  have hcase : ∀ d D, updH st.H [(c, true, [.gro E l]), (b, true, [.rws E ll (some (i, c))])] d = some D → (d = c ∧ D = (true, [.gro E l])) ∨ (d = b ∧ D = (true, [.rws E ll (some (i, c))])) ∨ (d ≠ c ∧ d ≠ b ∧ st.H d = some D) := fun d D hd => by
    rw [upd2] at hd
    by_cases hdc : d = c
    · rw [if_pos hdc] at hd; exact .inl ⟨hdc, (Option.some.inj hd).symm⟩
    · rw [if_neg hdc] at hd
      by_cases hdb : d = b
      · rw [if_pos hdb] at hd; exact .inr (.inl ⟨hdb, (Option.some.inj hd).symm⟩)
      · rw [if_neg hdb] at hd; exact .inr (.inr ⟨hdc, hdb, hd⟩)
  have hfr : ∀ d, d ≠ c → freshIds ids c p d = ids d := fun d hd => freshIds_ne hd
  have hgc : BlkR (freshIds ids c p) w c (true, [.gro E l]) := hblk.at rfl freshIds_eq
  refine ⟨v, p, hv, ⟨h.keeps, h.size, h.defers, fun t => (h.tmps t).congr fun d hd => hfr d (hdom d (h.clT t d hd)), fun j hj => ?_, fun d D hd => ?_, fun d e D F hd he hne ld le => ?_, fun d D hd ld => ?_,
    fun t d hd => hs d (h.clT t d hd), fun d D hd e he => ?_, h.limg, ⟨fun d D hd hno => ?_, fun d D hd => ?_, fun d D hd g hg => ?_, fun d e D F hd he le hg => ?_, fun d e D F hd he hne g hg hg2 => ?_⟩⟩, ?_⟩
  · rw [hfr j (by omega)]; exact h.bor j hj
  · rcases hcase d D hd with ⟨rfl, rfl⟩ | ⟨rfl, rfl⟩ | ⟨h1, h2, h3⟩
    · exact hgc
    · exact rws_blk
    · exact (h.blk d D h3).congr (hfr d h1) (fun e he => hfr e (hdom e (h.clH d D h3 e he))) (Nat.le_refl _) fun _ => rfl
  · rcases hcase d _ hd with ⟨rfl, e1⟩ | ⟨rfl, e1⟩ | ⟨h1, h2, h3⟩ <;> rcases hcase e F he with ⟨rfl, e2⟩ | ⟨rfl, e2⟩ | ⟨g1, g2, g3⟩
    · exact absurd rfl hne
    · subst e2; exact le.elim
    · rw [freshIds_eq, hfr e g1]
      intro heq
      simp only [Prod.mk.injEq, true_and] at e1
      subst e1
      exact h.hid.sepL b e _ F hb g3 le (by rw [← heq]; exact hin0 ld)
    · simp only [Prod.mk.injEq, true_and] at e1; subst e1; exact ld.elim
    · exact absurd rfl hne
    · simp only [Prod.mk.injEq, true_and] at e1; subst e1; exact ld.elim
    · rw [freshIds_eq, hfr d h1]
      intro heq
      subst e2
      exact h.hid.sepL b d _ _ hb h3 ld (by rw [heq]; exact hin0 le)
    · subst e2; exact le.elim
    · rw [hfr d h1, hfr e g1]; exact h.sep d e D F h3 g3 hne ld le
  · rcases hcase d _ hd with ⟨rfl, e1⟩ | ⟨rfl, e1⟩ | ⟨h1, h2, h3⟩
    · simp only [Prod.mk.injEq, true_and] at e1
      subst e1
      rw [freshIds_eq]
      exact (h.hid.own b _ hb _ (hin0 ld)).imp_right fun h => ⟨hnb, h⟩
    · simp only [Prod.mk.injEq, true_and] at e1; subst e1; exact ld.elim
    · rw [hfr d h1]; exact h.own d D h3 ld
  · rcases hcase d D hd with ⟨rfl, rfl⟩ | ⟨rfl, rfl⟩ | ⟨h1, h2, h3⟩
    · simp [nmL, Seg.nm] at he
    · have : e = c := by simpa [nmL, Seg.nm] using he
      subst this
      dsimp only
      rw [upd2, if_pos rfl]; rfl
    · exact hs e (h.clH d D h3 e he)
  · rcases hcase d D hd with ⟨rfl, rfl⟩ | ⟨rfl, rfl⟩ | ⟨h1, h2, h3⟩
    · rfl
    · rfl
    · exact h.hid.fl d D h3 hno
  · rcases hcase d D hd with ⟨rfl, rfl⟩ | ⟨rfl, rfl⟩ | ⟨h1, h2, h3⟩
    · exact .of_no rfl
    · refine ⟨by rw [hfr d hbc]; exact hlt, ?_, fun j m hm => ?_⟩
      · rw [hfr d hbc]
        simp only [foot] at hnd ⊢
        exact hnd.sublist (List.Sublist.cons_cons _ (footR_sub (.inl rfl) _))
      · obtain ⟨u, u1, u2, u3⟩ := hrows j m hm
        refine ⟨u, by rw [hfr d hbc]; exact u1, by rw [hfr d hbc]; exact u2, ?_⟩
        show (cond (Nat.beq i j) ((SV.gsl c E.s).R (freshIds ids c p) u) (RowR w E m u))
        cases hij : Nat.beq i j with
        | true =>
          obtain rfl := Nat.eq_of_beq_eq_true hij
          rw [hv] at u1
          obtain rfl := Option.some.inj u1
          show (SV.gsl c E.s).R (freshIds ids c p) v
          simp only [SV.R, freshIds_eq] at hgsl ⊢
          exact hgsl
        | false => exact u3
    · exact (h.hid.rel d D h3).congr (hfr d h1) (fun e he => hfr e (hdom e (h.clH d D h3 e he))) (Nat.le_refl _) fun _ _ => rfl
  · rcases hcase d D hd with ⟨rfl, rfl⟩ | ⟨rfl, rfl⟩ | ⟨h1, h2, h3⟩
    · rw [foot_no rfl] at hg; cases hg
    · rw [hfr d hbc] at hg; exact h.hid.own d _ hb g (hsub g hg)
    · rw [hfr d h1] at hg; exact h.hid.own d D h3 g hg
  · rcases hcase d D hd with ⟨rfl, rfl⟩ | ⟨rfl, rfl⟩ | ⟨h1, h2, h3⟩
    · rw [foot_no rfl] at hg; cases hg
    · rw [hfr d hbc] at hg
      rcases hcase e F he with ⟨rfl, rfl⟩ | ⟨rfl, rfl⟩ | ⟨g1, g2, g3⟩
      · rw [freshIds_eq] at hg; exact hout le hg
      · exact le.elim
      · rw [hfr e g1] at hg; exact h.hid.sepL d e _ F hb g3 le (hsub _ hg)
    · rw [hfr d h1] at hg
      rcases hcase e F he with ⟨rfl, rfl⟩ | ⟨rfl, rfl⟩ | ⟨g1, g2, g3⟩
      · rw [freshIds_eq] at hg
        exact h.hid.sepH b d _ D hb h3 (fun e => h2 e.symm) _ (hin0 le) hg
      · exact le.elim
      · rw [hfr e g1] at hg; exact h.hid.sepL d e D F h3 g3 le hg
  · rcases hcase d D hd with ⟨rfl, rfl⟩ | ⟨rfl, rfl⟩ | ⟨h1, h2, h3⟩
    · rw [foot_no rfl] at hg; cases hg
    · rw [hfr d hbc] at hg
      rcases hcase e F he with ⟨rfl, rfl⟩ | ⟨rfl, rfl⟩ | ⟨g1, g2, g3⟩
      · rw [foot_no rfl] at hg2; cases hg2
      · exact absurd rfl hne
      · rw [hfr e g1] at hg2; exact h.hid.sepH d e _ F hb g3 hne g (hsub g hg) hg2
    · rw [hfr d h1] at hg
      rcases hcase e F he with ⟨rfl, rfl⟩ | ⟨rfl, rfl⟩ | ⟨g1, g2, g3⟩
      · rw [foot_no rfl] at hg2; cases hg2
      · rw [hfr e hbc] at hg2; exact h.hid.sepH d e D _ h3 hb hne g hg (hsub g hg2)
      · rw [hfr e g1] at hg2; exact h.hid.sepH d e D F h3 g3 hne g hg hg2
  · simp only [SV.R, freshIds_eq] at hgsl ⊢
    exact hgsl
theorem Rep.fillRow (h : Rep w0 S nb idb ids st a w) {b c i : Nat} {E : EK} {ll : List (List E.T)} {hh : Option (Nat × Nat)} {l : List E.T} (hb : st.H b = some (true, [.rws E ll hh])) (hi : i < ll.length) (hc : st.H c = some (true, [.gro E l]))
    (hhole : hh = none ∨ ∃ c', hh = some (i, c')) {v : Value} (hv : (SV.gsl c E.s).R ids v) {w' : World} (hsz : w'.heap.size = w.heap.size) (hblk : ∀ k, k ≠ (ids b).1 → w'.heap[k]? = w.heap[k]?)
    (hcell : w'.cell? ⟨(ids b).1, (ids b).2.1 + i, none⟩ = some v) (hcells : ∀ j, j ≠ i → w'.cell? ⟨(ids b).1, (ids b).2.1 + j, none⟩ = w.cell? ⟨(ids b).1, (ids b).2.1 + j, none⟩) (hfroz : ∀ ad, w'.frozen? ad = w.frozen? ad)
    (h7 : w'.os = w.os) (h8 : w'.tape = w.tape) (h9 : w'.output = w.output) :
    Rep w0 S nb idb ids { st with H := updH st.H [(b, true, [.rws E (ll.set i l) none]), (c, true, [])] } a w' := by
  obtain ⟨hlt, hnd, hrows⟩ := h.hid.rel b _ hb
  have hbc : b ≠ c := by rintro rfl; rw [hb] at hc; cases hc
  have hgb : (ids b).1 ∈ foot w (ids b) [.rws E ll hh] := by simp [foot]
  have hs : ∀ d, (st.H d).isSome = true → (updH st.H [(b, true, [.rws E (ll.set i l) none]), (c, true, [])] d).isSome = true := fun d hd => by
    rw [upd2]
    by_cases hdb : d = b
    · rw [if_pos hdb]; rfl
    · rw [if_neg hdb]
      by_cases hdc : d = c
      · rw [if_pos hdc]; rfl
      · rw [if_neg hdc]; exact hd
  have hcase : ∀ d D, updH st.H [(b, true, [.rws E (ll.set i l) none]), (c, true, [])] d = some D → (d = b ∧ D = (true, [.rws E (ll.set i l) none])) ∨ (d = c ∧ D = (true, [])) ∨ (d ≠ b ∧ d ≠ c ∧ st.H d = some D) := fun d D hd => by
    rw [upd2] at hd
    by_cases hdb : d = b
    · rw [if_pos hdb] at hd; exact .inl ⟨hdb, (Option.some.inj hd).symm⟩
    · rw [if_neg hdb] at hd
      by_cases hdc : d = c
      · rw [if_pos hdc] at hd; exact .inr (.inl ⟨hdc, (Option.some.inj hd).symm⟩)
      · rw [if_neg hdc] at hd; exact .inr (.inr ⟨hdb, hdc, hd⟩)
  -- the row's object
  have hrc : BlkR (fun _ => ids c) w 0 (true, [.gro E l]) := (h.blk c _ hc).at rfl rfl
  have hvc : (SV.gsl 0 E.s).R (fun _ => ids c) v := hv
  have hobj : ∀ g ∈ rowObj (some v), l ≠ [] ∧ g = (ids c).1 := fun g hg => by
    obtain ⟨h1, _⟩ := RowR.obj ⟨_, hrc, hvc⟩ g hg
    refine ⟨h1, ?_⟩
    rw [gsl_obj hvc] at hg
    cases hz : Nat.beq (ids c).2.2.1 0 with
    | true => simp [hz] at hg
    | false => simpa [hz] using hg
  have hnew : ∀ g ∈ rowObj (some v), g ∉ foot w (ids b) [.rws E ll hh] := fun g hg => by
    obtain ⟨h1, rfl⟩ := hobj g hg
    exact h.hid.sepL b c _ _ hb hc h1
  have hne0 : ∀ g ∈ rowObj (some v), g ≠ (ids b).1 := fun g hg e => hnew g hg (by rw [e]; exact hgb)
  -- the objects of the rest
  have hsub0 : ∀ g, g ∈ footR w (ids b) (some (i, 0)) ll.length → g ∈ footR w (ids b) hh ll.length := fun g hg => (footR_sub hhole _).subset hg
  have hfoot : ∀ g, g ∈ foot w' (ids b) [.rws E (ll.set i l) none] → g ∈ foot w (ids b) [.rws E ll hh] ∨ g ∈ rowObj (some v) := fun g hg => by
    simp only [foot, List.mem_cons, List.length_set] at hg ⊢
    rcases hg with hg | hg
    · exact .inl (.inl hg)
    · obtain ⟨j, hj, _, hg⟩ := footR_mem.1 hg
      by_cases hji : j = i
      · subst hji; rw [hcell] at hg; exact .inr hg
      · rw [hcells j hji] at hg
        exact .inl (.inr (hsub0 g (footR_mem.2 ⟨j, hj, beq_ne (fun e => hji e.symm), hg⟩)))
  have hother : ∀ d D, st.H d = some D → d ≠ b → ∀ g ∈ foot w (ids d) D.2, w'.heap[g]? = w.heap[g]? := fun d D hd hdb g hg => hblk g fun e => h.hid.sepH d b D _ hd hb hdb g hg (by rw [e]; exact hgb)
  have hotherL : ∀ d D, st.H d = some D → Lv D.2 → w'.heap[(ids d).1]? = w.heap[(ids d).1]? := fun d D hd ld => hblk _ fun e => h.hid.sepL b d _ D hb hd ld (by rw [e]; exact hgb)
  have hfd : ∀ d D, st.H d = some D → d ≠ b → foot w' (ids d) D.2 = foot w (ids d) D.2 := fun d D hd hdb => foot_congr fun hm => hother d D hd hdb _ hm
  refine ⟨h.keeps.stored (h.hid.own b _ hb _ hgb) hsz (fun k hk => hblk k hk) h7 h8 h9, h.size, h.defers, h.tmps, h.bor, fun d D hd => ?_, fun d e D F hd he hne ld le => ?_, fun d D hd ld => ?_,
    fun t d hd => hs d (h.clT t d hd), fun d D hd e he => ?_, h.limg, ⟨fun d D hd hno => ?_, fun d D hd => ?_, fun d D hd g hg => ?_, fun d e D F hd he le hg => ?_, fun d e D F hd he hne g hg hg2 => ?_⟩⟩
  · rcases hcase d D hd with ⟨rfl, rfl⟩ | ⟨rfl, rfl⟩ | ⟨h1, h2, h3⟩
    · exact rws_blk
    · exact ⟨(fun s hs => nomatch hs), trivial, fun hl => hl.elim, fun j x hx => by simp [cellsL] at hx⟩
    · exact (h.blk d D h3).congr rfl (fun _ _ => rfl) (Nat.le_of_eq hsz.symm) fun hl => hotherL d D h3 hl
  · rcases hcase d _ hd with ⟨rfl, e1⟩ | ⟨rfl, e1⟩ | ⟨h1, h2, h3⟩
    · simp only [Prod.mk.injEq, true_and] at e1; subst e1; exact ld.elim
    · simp only [Prod.mk.injEq, true_and] at e1; subst e1; exact ld.elim
    · rcases hcase e F he with ⟨rfl, e2⟩ | ⟨rfl, e2⟩ | ⟨g1, g2, g3⟩
      · subst e2; exact le.elim
      · subst e2; exact le.elim
      · exact h.sep d e D F h3 g3 hne ld le
  · rcases hcase d _ hd with ⟨rfl, e1⟩ | ⟨rfl, e1⟩ | ⟨h1, h2, h3⟩
    · simp only [Prod.mk.injEq, true_and] at e1; subst e1; exact ld.elim
    · simp only [Prod.mk.injEq, true_and] at e1; subst e1; exact ld.elim
    · exact h.own d D h3 ld
  · rcases hcase d D hd with ⟨rfl, rfl⟩ | ⟨rfl, rfl⟩ | ⟨h1, h2, h3⟩
    · simp [nmL, Seg.nm] at he
    · simp [nmL] at he
    · exact hs e (h.clH d D h3 e he)
  · rcases hcase d D hd with ⟨rfl, rfl⟩ | ⟨rfl, rfl⟩ | ⟨h1, h2, h3⟩
    · rfl
    · rfl
    · exact h.hid.fl d D h3 hno
  · rcases hcase d D hd with ⟨rfl, rfl⟩ | ⟨rfl, rfl⟩ | ⟨h1, h2, h3⟩
    · refine ⟨by rw [hsz]; exact hlt, ?_, fun j m hm => ?_⟩
      · simp only [foot, List.nodup_cons, List.length_set] at hnd ⊢
        refine ⟨fun hg => ?_, footR_fill (w := w) (i := i) (c := 0) hcells (rowObj_nodup _) (hnd.2.sublist (footR_sub hhole _)) fun g hg hg2 => ?_⟩
        · obtain ⟨j, hj, _, hg⟩ := footR_mem.1 hg
          by_cases hji : j = i
          · subst hji; rw [hcell] at hg; exact hne0 _ hg rfl
          · rw [hcells j hji] at hg
            exact hnd.1 (hsub0 _ (footR_mem.2 ⟨j, hj, beq_ne (fun e => hji e.symm), hg⟩))
        · rw [hcell] at hg
          exact hnew g hg (by simp only [foot, List.mem_cons]; exact .inr (hsub0 g hg2))
      · by_cases hji : j = i
        · subst hji
          have hml : m = l := by
            rw [List.getElem?_set_self hi] at hm; exact (Option.some.inj hm).symm
          subst hml
          exact ⟨v, hcell, by rw [hfroz]; obtain ⟨_, _, u2, _⟩ := hrows j _ (List.getElem?_eq_getElem hi); exact u2, RowR.congr ⟨_, hrc, hvc⟩ (Nat.le_of_eq hsz.symm) fun g hg => hblk g (hne0 g hg)⟩
        · rw [List.getElem?_set_ne (fun e => hji e.symm)] at hm
          obtain ⟨u, u1, u2, u3⟩ := hrows j m hm
          have u4 : RowR w E m u := by
            rcases hhole with rfl | ⟨c', rfl⟩
            · exact u3
            · simp only [beq_ne (fun e => hji e.symm : i ≠ j), cond_false] at u3
              exact u3
          refine ⟨u, by rw [hcells j hji]; exact u1, by rw [hfroz]; exact u2, u4.congr (Nat.le_of_eq hsz.symm) fun g hg => hblk g fun e => ?_⟩
          simp only [foot, List.nodup_cons] at hnd
          refine hnd.1 (hsub0 _ (footR_mem.2 ⟨j, (List.getElem?_eq_some_iff.1 hm).1, beq_ne (fun e => hji e.symm), ?_⟩))
          rw [u1, ← e]; exact hg
    · exact .of_no rfl
    · exact (h.hid.rel d D h3).congr rfl (fun _ _ => rfl) (Nat.le_of_eq hsz.symm) fun g hg => hother d D h3 h1 g hg
  · rcases hcase d D hd with ⟨rfl, rfl⟩ | ⟨rfl, rfl⟩ | ⟨h1, h2, h3⟩
    · rcases hfoot g hg with hg | hg
      · exact h.hid.own d _ hb g hg
      · obtain ⟨hl, rfl⟩ := hobj g hg
        exact (h.own c _ hc hl).imp_right And.right
    · rw [foot_no rfl] at hg; cases hg
    · rw [hfd d D h3 h1] at hg; exact h.hid.own d D h3 g hg
  · rcases hcase e F he with ⟨rfl, rfl⟩ | ⟨rfl, rfl⟩ | ⟨g1, g2, g3⟩
    · exact le.elim
    · exact le.elim
    · rcases hcase d D hd with ⟨rfl, rfl⟩ | ⟨rfl, rfl⟩ | ⟨h1, h2, h3⟩
      · rcases hfoot _ hg with hg | hg
        · exact h.hid.sepL d e _ F hb g3 le hg
        · obtain ⟨hl, heq⟩ := hobj _ hg
          exact h.sep c e _ F hc g3 (fun e => g2 e.symm) hl le heq.symm
      · rw [foot_no rfl] at hg; cases hg
      · rw [hfd d D h3 h1] at hg; exact h.hid.sepL d e D F h3 g3 le hg
  · rcases hcase d D hd with ⟨rfl, rfl⟩ | ⟨rfl, rfl⟩ | ⟨h1, h2, h3⟩
    · rcases hcase e F he with ⟨rfl, rfl⟩ | ⟨rfl, rfl⟩ | ⟨g1, g2, g3⟩
      · exact absurd rfl hne
      · rw [foot_no rfl] at hg2; cases hg2
      · rw [hfd e F g3 g1] at hg2
        rcases hfoot g hg with hg | hg
        · exact h.hid.sepH d e _ F hb g3 hne g hg hg2
        · obtain ⟨hl, rfl⟩ := hobj g hg
          exact h.hid.sepL e c F _ g3 hc hl hg2
    · rw [foot_no rfl] at hg; cases hg
    · rw [hfd d D h3 h1] at hg
      rcases hcase e F he with ⟨rfl, rfl⟩ | ⟨rfl, rfl⟩ | ⟨g1, g2, g3⟩
      · rcases hfoot g hg2 with hg2 | hg2
        · exact h.hid.sepH d e D _ h3 hb hne g hg hg2
        · obtain ⟨hl, rfl⟩ := hobj g hg2
          exact h.hid.sepL d c D _ h3 hc hl hg
      · rw [foot_no rfl] at hg2; cases hg2
      · rw [hfd e F g3 g1] at hg2; exact h.hid.sepH d e D F h3 g3 hne g hg hg2
theorem Rep.shut (h : Rep w0 S nb idb ids st a w) {b c i : Nat} {E : EK} {ll : List (List E.T)} {l : List E.T} (hb : st.H b = some (true, [.rws E ll (some (i, c))])) (hi : i < ll.length) (hc : st.H c = some (true, [.gro E l])) :
    Rep w0 S nb idb ids { st with H := updH st.H [(b, true, [.rws E (ll.set i l) none]), (c, true, [])] } a w := by
  obtain ⟨_, _, hrows⟩ := h.hid.rel b _ hb
  obtain ⟨v, v1, v2, v3⟩ := hrows i _ (List.getElem?_eq_getElem hi)
  simp only [Nat.beq_refl, cond_true] at v3
  exact h.fillRow hb hi hc (.inr ⟨c, rfl⟩) v3 rfl (fun _ _ => rfl) v1 (fun _ _ => rfl) (fun _ => rfl) rfl rfl rfl
end
end Go.Proofs.YtlmmgjngihlpeaaDoor.Sx
