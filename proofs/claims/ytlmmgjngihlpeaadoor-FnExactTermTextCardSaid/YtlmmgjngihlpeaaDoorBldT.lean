/- TermText, as a function of the evaluator's: its row by the walk of BldW. Our own work. -/
import Derived.Test.YtlmmgjngihlpeaaDoorBldh
import Derived.Test.YtlmmgjngihlpeaaDoorBldW
import Derived.Test.YtlmmgjngihlpeaaDoorSxP
namespace Go.Proofs.YtlmmgjngihlpeaaDoor.Sx
open Go
set_option linter.unusedVariables false
set_option maxRecDepth 100000
abbrev EN : EK := .rc [.i8, .i16, .i16, .i64, .i64]
noncomputable def lineT (m : Nat) (x : List Int) : Option ByteArray :=
  (g43 m (x.getD 1 0) some).bind fun sa => (g43 m (x.getD 2 0) some).bind fun sb => (g42 m (x.getD 0 0) (x.getD 3 0) (x.getD 4 0) sa sb some).map (· ++ ⟨#[10]⟩)
structure TTok (m : Nat) (u : List (List Int)) : Prop where
  ne : u ≠ []
  le : u.length ≤ 40
  wr : ∀ x ∈ u, IntKind.wrap .i64 (x.getD 1 0) = x.getD 1 0 ∧ IntKind.wrap .i64 (x.getD 2 0) = x.getD 2 0
  ln : ∀ x ∈ u, ∃ l, lineT m x = some l ∧ l.size ≤ 1000000
noncomputable def textT (m : Nat) (u : List (List Int)) : ByteArray := u.foldl (fun s x => s ++ (lineT m x).getD ⟨#[]⟩) ⟨#[]⟩
theorem itoa_fnS (m : Nat) {n : Int} {s : ByteArray} (h : g43 m n some = some s) : FnS Go.Proofs.Tryd.prog 43 [.vl (.sv (.int .i64 n))] [] (.vl (.sv (.str s))) [] [] := by
  obtain ⟨v, Bs, Ns, h1, h2⟩ := g43Fn m ByteArray [.i n] (fun v Bs Ns => match v, Bs, Ns with | .vl (.sv (.str s)), [], [] => some s | _, _, _ => none) s h
  split at h1
  · cases h1; exact h2
  · cases h1
theorem node_fnS (m : Nat) {kd p q : Int} {sa sb s : ByteArray} (h : g42 m kd p q sa sb some = some s) :
    FnS Go.Proofs.Tryd.prog 42 [.vl (.sv (.int .i8 kd)), .vl (.sv (.int .i64 p)), .vl (.sv (.int .i64 q)), .vl (.sv (.str sa)), .vl (.sv (.str sb))] [] (.vl (.sv (.str s))) [] [] := by
  obtain ⟨v, Bs, Ns, h1, h2⟩ := g42Fn m ByteArray [.i kd, .i p, .i q, .s sa, .s sb] (fun v Bs Ns => match v, Bs, Ns with | .vl (.sv (.str s)), [], [] => some s | _, _, _ => none) s h
  split at h1
  · cases h1; exact h2
  · cases h1
theorem tt_calls (m : Nat) {args : List TV} {Bs : List Blk} {u : List (List Int)} (hfl : ∀ B ∈ Bs, B.1 = false ∧ noRws B.2 = true) (hl : Bs.length ≤ 1000) (hnm : ∀ x ∈ args, ∀ b ∈ x.nm, b < Bs.length) {b : Bool} {Bs' Ns : List (List Seg)}
    (hV : FnS Go.Proofs.Tryd.prog 40 args Bs (.vl (.sv (.bool b))) Bs' Ns) (hok : b = true → TTok m u) {ids : Ids} {w : World} {v : Value} (hH : HRep ids Bs w) (hA : TsR ids args [v]) (hg : GlobOk w [])
    (hmem : b = true → u ≠ [] → ∃ blk off cap, v = .slice (some ⟨blk, off, none⟩) u.length cap ∧ blk < w.heap.size ∧ ∀ i (h : i < u.length) j x, (encR [.i8, .i16, .i16, .i64, .i64] u[i])[j]? = some x → ∃ v', w.cell? ⟨blk, off + i * 5 + j, none⟩ = some v' ∧ x.R ids v') :
    Calls Go.Proofs.Tryd.prog 10 #[v] w fun e w' => e = .returned (.string (cond b (textT m u) ⟨#[]⟩)) ∧ RowKit.Below w.heap.size w w' := by
  have hVc : ∀ w', RowKit.Below w.heap.size w w' → Calls Go.Proofs.Tryd.prog 40 #[v] w' fun e w2 => e = .returned (.bool b) ∧ RowKit.Below w'.heap.size w' w2 := by
    intro w' hk
    refine (fnS_calls hV hfl hl hnm (hH.kept (keeps_of hk)) hA (hg.kept (keeps_of hk))).mono ?_
    rintro e w2 ⟨ids', cv, rfl, hv, hk2⟩
    have hv' : cv = .bool b := hv
    exact ⟨by rw [hv'], hk2⟩
  cases b with
  | false => exact tt_bad v w (hVc w (RowKit.Below.refl _ _))
  | true =>
    obtain ⟨h1, h2, h3, h4⟩ := hok rfl
    obtain ⟨blk, off, cap, rfl, hblk, hcells⟩ := hmem rfl h1
    have hline : ∀ x ∈ u, ∃ sa sb s, g43 m (x.getD 1 0) some = some sa ∧ g43 m (x.getD 2 0) some = some sb ∧ g42 m (x.getD 0 0) (x.getD 3 0) (x.getD 4 0) sa sb some = some s ∧ lineT m x = some (s ++ ⟨#[10]⟩) := by
      intro x hx
      obtain ⟨l, hl, _⟩ := h4 x hx
      unfold lineT at hl
      simp only [Option.bind_eq_some_iff, Option.map_eq_some_iff] at hl
      obtain ⟨sa, ha, sb, hb, s, hs, rfl⟩ := hl
      refine ⟨sa, sb, s, ha, hb, hs, ?_⟩
      unfold lineT
      rw [ha, Option.bind_some, hb, Option.bind_some, hs]; rfl
    have hread : ∀ x : List Int, x.headD 0 = x.getD 0 0 ∧ x.tail.headD 0 = x.getD 1 0 ∧ x.tail.tail.headD 0 = x.getD 2 0 ∧ x.tail.tail.tail.headD 0 = x.getD 3 0 ∧ x.tail.tail.tail.tail.headD 0 = x.getD 4 0 := by
      intro x
      rcases x with _ | ⟨a, _ | ⟨b, _ | ⟨c, _ | ⟨d, _ | ⟨e, r⟩⟩⟩⟩⟩ <;> exact ⟨rfl, rfl, rfl, rfl, rfl⟩
    exact tt_walk u blk off cap w hblk h1 h2 (fun x => (lineT m x).getD ⟨#[]⟩) (fun n => (g43 m n some).getD ⟨#[]⟩) (fun kd p q sa sb => (g42 m kd p q sa sb some).getD ⟨#[]⟩)
      (fun x hx => by
        obtain ⟨sa, sb, s, e1, e2, e3, e4⟩ := hline x hx
        obtain ⟨l, hl, hsz⟩ := h4 x hx
        refine ⟨?_, by rw [hl]; exact hsz⟩
        simp only [e1, e2, e3, e4, Option.getD_some])
      (fun i h => by
        have hc := hcells i h
        obtain ⟨r0, r1, r2, r3, r4⟩ := hread u[i]
        rw [← r0, ← r1, ← r2, ← r3, ← r4]
        refine ⟨?_, ?_, ?_, ?_, ?_⟩
        · obtain ⟨v', e, hv⟩ := hc 0 _ rfl
          rw [show v' = _ from hv] at e; exact e
        · obtain ⟨v', e, hv⟩ := hc 1 _ rfl
          rw [show v' = _ from hv] at e; exact e
        · obtain ⟨v', e, hv⟩ := hc 2 _ rfl
          rw [show v' = _ from hv] at e; exact e
        · obtain ⟨v', e, hv⟩ := hc 3 _ rfl
          rw [show v' = _ from hv] at e; exact e
        · obtain ⟨v', e, hv⟩ := hc 4 _ rfl
          rw [show v' = _ from hv] at e; exact e)
      h3 hVc
      (fun x hx w' hk => by
        obtain ⟨sa, sb, s, e1, e2, e3, e4⟩ := hline x hx
        have hg' := hg.kept (keeps_of hk)
        simp only [e1, e2, Option.getD_some]
        constructor
        · refine (fnS_calls (itoa_fnS m e1) (by simp) (by simp) (by simp [TV.nm, Val.nm, SV.nm]) (hrep_nil ids w') (cargs := [_]) ⟨rfl, trivial⟩ hg').mono ?_
          rintro e w2 ⟨ids', cv, rfl, hv, hk2⟩
          exact ⟨by rw [show cv = _ from hv], hk2⟩
        · refine (fnS_calls (itoa_fnS m e2) (by simp) (by simp) (by simp [TV.nm, Val.nm, SV.nm]) (hrep_nil ids w') (cargs := [_]) ⟨rfl, trivial⟩ hg').mono ?_
          rintro e w2 ⟨ids', cv, rfl, hv, hk2⟩
          exact ⟨by rw [show cv = _ from hv], hk2⟩)
      (fun x hx w' hk => by
        obtain ⟨sa, sb, s, e1, e2, e3, e4⟩ := hline x hx
        have hg' := hg.kept (keeps_of hk)
        simp only [e1, e2, e3, Option.getD_some]
        refine (fnS_calls (node_fnS m e3) (by simp) (by simp) (by simp [TV.nm, Val.nm, SV.nm]) (hrep_nil ids w') (cargs := [_, _, _, _, _]) ⟨rfl, rfl, rfl, rfl, rfl, trivial⟩ hg').mono ?_
        rintro e w2 ⟨ids', cv, rfl, hv, hk2⟩
        exact ⟨by rw [show cv = _ from hv], hk2⟩)
end Go.Proofs.YtlmmgjngihlpeaaDoor.Sx
