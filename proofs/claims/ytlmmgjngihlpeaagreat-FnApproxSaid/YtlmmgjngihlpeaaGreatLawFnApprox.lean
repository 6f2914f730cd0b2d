/- The row of FnApprox. Printed by our own sx.py. -/
import Derived.Test.YtlmmgjngihlpeaaGreatRows
import Derived.Test.YtlmmgjngihlpeaaGreatAppC
import Derived.Test.YtlmmgjngihlpeaaGreatSxS
import Derived.WalkKit
import Derived.ProofKit
import Derived.ChangeOld
import Derived.SizedLaws
import Derived.HandedShaped
namespace Go.Proofs.YtlmmgjngihlpeaaGreat.fnApprox
open Go.ChangeShapes Go.WideShapes Go.ChangeAt Go.RowKit
set_option linter.unusedVariables false
set_option maxRecDepth 100000
theorem inPlace_:((Rows.fnApproxRow).inPlace==Tryz.prog.inPlace 3)=true:=by kernel_rfl
theorem unfollowed_:((Rows.fnApproxRow).unfollowed==Tryz.prog.unfollowed 3)=true:=by kernel_rfl
theorem recurses_:((Rows.fnApproxRow).recurses==Tryz.prog.recurses 3)=true:=by kernel_rfl
theorem named_:((Rows.fnApproxRow).named==Tryz.prog.varsNamed 3)=true:=by kernel_rfl
theorem facts_:joinedFacts Tryz.prog 3 Tryz.f3 Rows.fnApproxSpec Rows.fnApproxRow=true:=
  Sx.facts_of (by kernel_rfl) Sx.laidOut_ Sx.mapsRowed_ (by kernel_rfl) (by kernel_rfl) (by kernel_rfl) inPlace_ unfollowed_ recurses_ named_ (by kernel_rfl) (by kernel_rfl) (by kernel_rfl) (by kernel_rfl) (by kernel_rfl)
    (by kernel_rfl) (by kernel_rfl) (by kernel_rfl) (by kernel_rfl) (by kernel_rfl) rfl Sx.heard_ Sx.mayEnter_ rfl Sx.liftsFinal_ Sx.make_ rfl rfl rfl (by kernel_rfl) (by kernel_rfl) (by kernel_rfl)
theorem lifted(os:Os)(started:os.Started)(H:Type)(enc:TypeId×Value→H):
    ReturnsInHanded {} Tryz.checked os 3 .any (Rows.fnApproxSpec.pre6 enc Tryz.prog Tryz.f3 Rows.fnApproxRow.domain false) (Rows.fnApproxSpec.post enc Tryz.prog Tryz.f3 false true false false):=by
  refine returnsInHanded_of_change_shaped (C:=Tryz.checked) Sx.own_ started (by kernel_rfl) Tryz.func3
    (ChangeSpec.witness6 (enc:=enc) (C:=Tryz.checked) false ⟨#[], #[.slice none 0 0, .slice none 0 0],[]⟩ 8 (by kernel_rfl) (by kernel_rfl) (by kernel_rfl) (by kernel_rfl)) ?_
  intro W base args ds gs before hval0 hW hcnd hsz0 hsh _
  exact Sx.law_postA (aps:=[(.sl (.int .u8)),(.sl (.int .u8))]) (fn:=Tryz.f3) (s:=Rows.fnApproxSpec) (Sx.shaped_pos hsh) Sx.glob0 (Sx.g3Fn 1048577) Sx.lawApprox' (by kernel_rfl) Sx.laidOut_ (by kernel_rfl) rfl (fun H ds h=>by
    match ds,h with
    |[d0,d1],_=>rfl) rfl Tryz.underlying4 hval0 hW
theorem over:Rows.fnApproxRow.holds Tryz.pinned (OpenSpec.ofChange Rows.fnApproxSpec):=
  OpenClaim.holds_of_wide 3 Tryz.f3 rfl rfl rfl rfl rfl rfl rfl ⟨rfl,rfl,rfl,rfl,rfl⟩ rfl rfl rfl rfl rfl (by kernel_rfl) Tryz.func3 facts_
    (of_decide_eq_true (by kernel_rfl)) (by unfold Func.isWrapper;first|(rw[if_pos (by decide+kernel)];kernel_rfl)|(rw[if_neg (by decide+kernel)];exact⟨rfl,rfl⟩))
    (fun os started H enc _=>lifted os started H enc)
theorem proved:Rows.FnApproxSaid:=over
#print axioms proved
end Go.Proofs.YtlmmgjngihlpeaaGreat.fnApprox
namespace Go.Proofs.YtlmmgjngihlpeaaGreat
theorem fnApprox_holds:Rows.FnApproxSaid:=fnApprox.proved
end Go.Proofs.YtlmmgjngihlpeaaGreat
