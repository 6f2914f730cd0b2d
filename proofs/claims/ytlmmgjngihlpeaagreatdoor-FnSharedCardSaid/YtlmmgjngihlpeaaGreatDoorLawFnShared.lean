/- The row of FnShared, and its tied card. Printed by our own sx.py. -/
import Derived.Test.YtlmmgjngihlpeaaGreatDoorRows
import Derived.Test.YtlmmgjngihlpeaaGreatDoorTie
import Derived.Test.YtlmmgjngihlpeaaGreatDoorCards
import Derived.Test.YtlmmgjngihlpeaaGreatDoorFsk
import Derived.WalkKit
import Derived.ProofKit
import Derived.LaidMore
import Derived.OpenShut
import Derived.Stop.Joined
import Derived.SevenTiedAt
import Derived.Lay
import Derived.HandedShaped
import Derived.Stop.LaidErr
namespace Go.Proofs.YtlmmgjngihlpeaaGreatDoor.fnShared
open Go Go.ChangeShapes Go.WideShapes Go.ChangeAt Go.RowKit
set_option linter.unusedVariables false
set_option maxRecDepth 100000
theorem star : "*" ++ "errors.errorString" = "*errors.errorString" := by decide
theorem rowE (u : TypeId) (h : Tryz.prog.typeName? 3 u = some "*errors.errorString") : u = 250 :=
  typeName_ptr_named (nm := "errors.errorString") (by rw [star]; kernel_rfl) (by kernel_rfl) (by decide) u (by rw [star]; exact h)
theorem sent {n : String} {text : List UInt8} {r : List (String × DataW Unit)} {W : World} {g : Nat} (h : laidMet Tryz.prog ((n, .iface "*errors.errorString" (.ptr (.agg [.lit (.string text)]))) :: r) W)
    (hg : Tryz.prog.globalNamed n = some g) (ht : (Tryz.prog.globals[g]?).map (·.type) = some 75) : g < W.heap.size /\ ∃ t v, W.cell? ⟨g, 0, none⟩ = some (.iface t v) := by
  obtain ⟨a0, s0, hv0, -, -, -⟩ := laid_sentinel h hg ht (show Tryz.prog.underlying 75 = some (.interface #[("Error", 80)]) by kernel_rfl) rowE (show Tryz.prog.underlying 250 = some (.pointer 252) by kernel_rfl)
    (show Tryz.prog.underlying 252 = some (.struct #[{ name := "s", type := 9, offset := 0, embedded := false, tag := "", pkgPath := "errors", byteOffset := 0 }]) by kernel_rfl) (ts := 9) rfl rfl (by kernel_rfl) (by kernel_rfl) (by kernel_rfl)
  have h0 := World.var?_cell hg hv0 0
  refine ⟨?_, _, _, by simpa using h0⟩
  simp only [World.var?, hg, Option.bind_some] at hv0
  split at hv0
  . rename_i h; exact (Array.getElem?_eq_some_iff.1 h).1
  . cases hv0
theorem globOk {W : World} (h : laidMetH Tryz.prog Rows.fnSharedRow.laid W) : Sx.gQ W [] := by
  rw [MakeChecks.laidMetH_plain _ _ _ (by kernel_rfl)] at h
  have hT := h.tail.tail
  obtain ⟨_, ⟨g0, t0, cs0, f0, p0, q0, hg, ht, hv, hd, _⟩, _, _⟩ := hT
  obtain rfl := Option.some.inj ((show Tryz.prog.globalNamed _ = some 1 by kernel_rfl).symm.trans hg)
  obtain rfl := Option.some.inj ((show (Tryz.prog.globals[1]?).map (·.type) = some 231 by kernel_rfl).symm.trans ht)
  have hq := Sx.af0 (L := Sx.DX) (kd := .u64) hg hv hd (n := 20) (e := 124) (by kernel_rfl) (by kernel_rfl) (by kernel_rfl) (by kernel_rfl)
  have s0 := sent (g := 3) h.tail.tail.tail.tail (by kernel_rfl) (by kernel_rfl)
  have s1 := sent (g := 2) h.tail.tail.tail.tail.tail (by kernel_rfl) (by kernel_rfl)
  refine ⟨λp hp => ?_, λg hg => ?_⟩
  . obtain rfl : p = (1, .u64, Sx.DX) := by simpa [Sx.Wz] using hp
    exact ⟨by simp, hq.1, hq.2⟩
  . have : g = 2 \/ g = 3 := by simpa [Sx.anE] using hg
    rcases this with rfl | rfl
    . exact ⟨by simp, s1.1, s1.2⟩
    . exact ⟨by simp, s0.1, s0.2⟩
theorem inPlace_ : ((Rows.fnSharedRow).inPlace == Tryz.prog.inPlace 3) = true := by kernel_rfl
theorem unfollowed_ : ((Rows.fnSharedRow).unfollowed == Tryz.prog.unfollowed 3) = true := by kernel_rfl
theorem recurses_ : ((Rows.fnSharedRow).recurses == Tryz.prog.recurses 3) = true := by kernel_rfl
theorem named_ : ((Rows.fnSharedRow).named == Tryz.prog.varsNamed 3) = true := by kernel_rfl
theorem facts_ : joinedFacts Tryz.prog 3 Tryz.f3 Rows.fnSharedSpec Rows.fnSharedRow = true :=
  Sx.ahS (by kernel_rfl) Sx.WQ Sx.aaC (by kernel_rfl) (by kernel_rfl) (by kernel_rfl) inPlace_ unfollowed_ recurses_ named_ (by kernel_rfl) (by kernel_rfl) (by kernel_rfl) (by kernel_rfl) (by kernel_rfl)
    (by kernel_rfl) (by kernel_rfl) (by kernel_rfl) (by kernel_rfl) (by kernel_rfl) rfl Sx.aAa Sx.af9 rfl Sx.WS Sx.aGk rfl rfl rfl (by kernel_rfl) (by kernel_rfl) (by kernel_rfl)
theorem lifted (os : Os) (started : os.Started) (H : Type) (enc : TypeId × Value -> H) :
    ReturnsInHanded {} Tryz.checked os 3 .any (λw args => (Rows.fnSharedSpec.pre enc Tryz.prog Tryz.f3 [] false w args /\ laidMetH Tryz.prog Rows.fnSharedRow.laid w) /\ sizedMet enc Tryz.prog Tryz.f3 (OpenSpec.ofChange Rows.fnSharedSpec) false w args)
      (Rows.fnSharedSpec.post enc Tryz.prog Tryz.f3 false true false false) := by
  refine returnsInHanded_of_change_and (C := Tryz.checked) (X := λw _ => laidMetH Tryz.prog Rows.fnSharedRow.laid w) (λ_ _ _ hh h => h.of_heap hh) Sx.aH0 started (by kernel_rfl) Tryz.func3
    (ChangeSpec.witness_shaped (enc := enc) (C := Tryz.checked) (os := os) (X := λw _ => laidMetH Tryz.prog Rows.fnSharedRow.laid w) false (World.laidAll Tryz.prog os Rows.fnSharedRow.laid) #[.slice none 0 0, .slice none 0 0] 8 (World.laidAll_os _ _ _) (World.shaped_of_ZipB (by kernel_rfl) (by kernel_rfl)) (by kernel_rfl) (by kernel_rfl) (by kernel_rfl) (by rw [MakeChecks.laidMetH_plain _ _ _ (by kernel_rfl)]; exact laidMet_laidAll _ (by kernel_rfl) (by kernel_rfl))) ?_
  intro W base args ds gs before hval0 hW _ _ hL _
  exact Sx.af2 (aps := [(.sl (.int .u8)), (.sl (.int .u8))]) (fn := Tryz.f3) (s := Rows.fnSharedSpec) (Nat.lt_of_le_of_lt (Nat.zero_le _) ((globOk hL).1 _ (by simp [Sx.Wz]; rfl)).2.1) (globOk hL) (Sx.aHm 1048577) Sx.ahQ (by kernel_rfl) Sx.WQ (by kernel_rfl) rfl (λH ds h => by
    match ds, h with
    | [d0, d1], _ => rfl) rfl Tryz.underlying4 hval0 hW
theorem over : Rows.fnSharedRow.holds Tryz.pinned (OpenSpec.ofChange Rows.fnSharedSpec) :=
  OpenClaim.holds_of_wide 3 Tryz.f3 rfl rfl rfl rfl rfl rfl rfl ⟨rfl, rfl, rfl, rfl, rfl⟩ rfl rfl rfl rfl rfl (by kernel_rfl) Tryz.func3 facts_
    (of_decide_eq_true (by kernel_rfl)) (by unfold Func.isWrapper; first | (rw [if_pos (by decide +kernel)]; kernel_rfl) | (rw [if_neg (by decide +kernel)]; exact ⟨rfl, rfl⟩))
    (λos started H enc _ => lifted os started H enc)
theorem proved : Rows.FnSharedCardSaid :=
  Claim7.holds_tied_plain_at .later [] Rows.fnSharedCard.laidKinds true Rows.fnSharedCard.stood.harness Rows.fnSharedCard.stood.looks
    over (λ_ h => by cases h) (by kernel_rfl) (λ_ h => by cases h) fnShared_row_tie rfl ⟨rfl, rfl⟩ (by kernel_rfl) rfl
    (λf fn hf hfn => by
      obtain rfl : f = 3 := Option.some.inj ((show Tryz.prog.funcNamed _ = some 3 by kernel_rfl).symm.trans hf) |>.symm
      obtain rfl : fn = Tryz.f3 := (Option.some.inj (Tryz.func3.symm.trans hfn)).symm
      exact ⟨by kernel_rfl, λj t ht => by
        have hm : t ∈ [22, 22] := by
          have := Array.mem_of_getElem? ht
          simpa [Tryz.f3] using this
        have hall : ([22, 22].all λu => !Tryz.prog.wantsStandIn u) = true := by kernel_rfl
        exact (show Tryz.prog.wantsStandIn t = false by simpa using List.all_eq_true.1 hall t hm)⟩)
    (by kernel_rfl)
#print axioms proved
end Go.Proofs.YtlmmgjngihlpeaaGreatDoor.fnShared
namespace Go.Proofs.YtlmmgjngihlpeaaGreatDoor
/-- The row, under a short name, for the claim. -/
theorem fnShared_holds : Rows.FnSharedCardSaid := fnShared.proved
end Go.Proofs.YtlmmgjngihlpeaaGreatDoor
