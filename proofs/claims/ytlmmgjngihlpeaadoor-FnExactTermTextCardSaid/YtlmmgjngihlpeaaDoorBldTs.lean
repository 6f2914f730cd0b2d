/- TermText over a slice that the caller made: the function and its row. Our own work. -/
import Derived.Test.YtlmmgjngihlpeaaDoorBldT
namespace Go.Proofs.YtlmmgjngihlpeaaDoor.Sx
open Go
set_option linter.unusedVariables false
set_option maxRecDepth 100000
open Classical in
noncomputable def g10 {α : Type} (m : Nat) : S_g10 α := fun lo len cap n u k =>
  match g40 m lo len cap n u some with
  | some true => if lo = 0 ∧ len = u.length ∧ n = u.length ∧ TTok m u then k (textT m u) else none
  | some false => k ⟨#[]⟩
  | none => none
theorem g10Ok (m : Nat) : RowOk Go.Proofs.Tryd.prog 10 (fun {α} => g10R (g10 m (α := α))) := by
  refine row_of (F := fun {α} => g10K (g10 m (α := α))) fun α ls k r h => ?_
  have hVal : ∀ b, g40 m (lf ls 0).nat (lf ls 1).nat (lf ls 2).nat (lf ls 3).nat ((lf ls 4).lst EN) some = some b → ∃ Bs' Ns, FnS Go.Proofs.Tryd.prog 40 (fillT g10tp ls).1 (fillB g10bp (fillT g10tp ls).2).1 (.vl (.sv (.bool b))) Bs' Ns := by
    intro b hb
    obtain ⟨v, Bs, Ns, h1, h2⟩ := g40Fn m Bool ls (fun v Bs Ns => match v with | .vl (.sv (.bool b)) => some b | _ => none) b hb
    split at h1
    · cases h1; exact ⟨Bs, Ns, h2⟩
    · cases h1
  have hmain : ∀ b, g40 m (lf ls 0).nat (lf ls 1).nat (lf ls 2).nat (lf ls 3).nat ((lf ls 4).lst EN) some = some b → (b = true → (lf ls 0).nat = 0 ∧ (lf ls 1).nat = ((lf ls 4).lst EN).length ∧ (lf ls 3).nat = ((lf ls 4).lst EN).length ∧ TTok m ((lf ls 4).lst EN)) →
      FnS Go.Proofs.Tryd.prog 10 (fillT g10tp ls).1 (fillB g10bp (fillT g10tp ls).2).1 (.vl (.sv (.str (cond b (textT m ((lf ls 4).lst EN)) ⟨#[]⟩)))) ((fillB g10bp (fillT g10tp ls).2).1.map (·.2)) [] := by
    intro b hb hok
    obtain ⟨Bs', Ns, hV⟩ := hVal b hb
    refine fnS_pure (fn := Go.Proofs.Tryd.f10) (by kernel_rfl) (by kernel_rfl) (by kernel_rfl) rfl fun ids w cargs hH hA hg => ?_
    obtain ⟨v, rfl⟩ : ∃ v, cargs = [v] := by
      match cargs, hA with
      | [v], _ => exact ⟨v, rfl⟩
    have hv : v = .slice (some ⟨(ids 0).1, (ids 0).2.1 + (0 + (lf ls 0).nat * 5), none⟩) (lf ls 1).nat (lf ls 2).nat := hA.1
    have hblk := hH.blk 0 (false, [.seq EN (lf ls 3).nat ((lf ls 4).lst EN)]) rfl
    refine (tt_calls m (u := (lf ls 4).lst EN) (by intro B hB; simp only [List.mem_singleton, show (fillB g10bp (fillT g10tp ls).2).1 = [(false, [.seq EN (lf ls 3).nat ((lf ls 4).lst EN)])] from rfl] at hB; subst hB; exact ⟨rfl, rfl⟩) (by show 1 ≤ 1000; omega)
      (by intro x hx b hb; simp only [List.mem_singleton, show (fillT g10tp ls).1 = [.vl (.sv (.slc 0 0 5 (lf ls 0).nat (lf ls 1).nat (lf ls 2).nat))] from rfl] at hx; subst hx; simp only [TV.nm, Val.nm, SV.nm, List.mem_singleton] at hb; subst hb; show 0 < 1; omega) hV (fun hb => (hok hb).2.2.2) hH hA hg.sub (fun hbt hne => ?_)).mono ?_
    · subst hbt
      · obtain ⟨e1, e2, e3, e4⟩ := hok rfl
        refine ⟨(ids 0).1, (ids 0).2.1, (lf ls 2).nat, ?_, hblk.2.2.1 trivial, fun i hi j x hx => ?_⟩
        · rw [hv, e1, e2]; simp
        · have hj : j < 5 := by
            have := (List.getElem?_eq_some_iff.1 hx).1
            rwa [encR_length] at this
          have hget := flatMap_enc_get EN ((lf ls 4).lst EN) i j hi hj
          have hcl : cellsL [.seq EN (lf ls 3).nat ((lf ls 4).lst EN)] = ((lf ls 4).lst EN).flatMap EN.enc := by simp [cellsL, Seg.cells]
          obtain ⟨v', h1, h2, _⟩ := hblk.2.2.2 (i * 5 + j) x (by
            rw [hcl]
            refine hget.trans ?_
            rw [show List.getD ((lf ls 4).lst EN) i EN.d = ((lf ls 4).lst EN)[i] by simp [List.getD, hi]]
            exact hx)
          exact ⟨v', by rw [← h1]; congr 2; omega, h2⟩
    · rintro e w' ⟨rfl, hk⟩
      exact ⟨_, rfl, rfl, keeps_of hk⟩
  replace h : g10 m (lf ls 0).nat (lf ls 1).nat (lf ls 2).nat (lf ls 3).nat ((lf ls 4).lst EN) (fun y0 => k (.vl (.sv (.str y0))) [[.seq EN (lf ls 3).nat ((lf ls 4).lst EN)]] []) = some r := h
  unfold g10 at h
  split at h
  · rename_i hb
    split at h
    · rename_i hc
      exact ⟨_, _, _, h, hmain true hb (fun _ => hc)⟩
    · cases h
  · rename_i hb
    exact ⟨_, _, _, h, hmain false hb (fun h => by cases h)⟩
  · cases h
end Go.Proofs.YtlmmgjngihlpeaaDoor.Sx
