/- The row of FnExactWhichSide. Printed by our own sx.py. -/
import Derived.Test.YtlmmgjngihlpeaaRows
import Derived.Test.YtlmmgjngihlpeaaAskSide
import Derived.Test.YtlmmgjngihlpeaaSxS
import Derived.WalkKit
import Derived.ProofKit
import Derived.ChangeOld
import Derived.SizedLaws
import Derived.HandedShaped
namespace Go.Proofs.Ytlmmgjngihlpeaa.fnExactWhichSide
open Go.ChangeShapes Go.WideShapes Go.ChangeAt Go.RowKit
set_option linter.unusedVariables false
set_option maxRecDepth 100000
theorem inPlace_:((Rows.fnExactWhichSideRow).inPlace==Try.prog.inPlace 8)=true:=by kernel_rfl
theorem unfollowed_:((Rows.fnExactWhichSideRow).unfollowed==Try.prog.unfollowed 8)=true:=by kernel_rfl
theorem recurses_:((Rows.fnExactWhichSideRow).recurses==Try.prog.recurses 8)=true:=by kernel_rfl
theorem named_:((Rows.fnExactWhichSideRow).named==Try.prog.varsNamed 8)=true:=by kernel_rfl
theorem facts_:joinedFacts Try.prog 8 Try.f8 Rows.fnExactWhichSideSpec Rows.fnExactWhichSideRow=true:=
  Sx.facts_of (by kernel_rfl) Sx.laidOut_ Sx.mapsRowed_ (by kernel_rfl) (by kernel_rfl) (by kernel_rfl) inPlace_ unfollowed_ recurses_ named_ (by kernel_rfl) (by kernel_rfl) (by kernel_rfl) (by kernel_rfl) (by kernel_rfl)
    (by kernel_rfl) (by kernel_rfl) (by kernel_rfl) (by kernel_rfl) (by kernel_rfl) rfl Sx.heard_ Sx.mayEnter_ rfl Sx.liftsFinal_ Sx.make_ rfl rfl rfl (by kernel_rfl) (by kernel_rfl) (by kernel_rfl)
theorem lifted(os:Os)(started:os.Started)(H:Type)(enc:TypeId×Value→H):
    ReturnsInHanded {} Try.checked os 8 .any (Rows.fnExactWhichSideSpec.pre6 enc Try.prog Try.f8 Rows.fnExactWhichSideRow.domain false) (Rows.fnExactWhichSideSpec.post enc Try.prog Try.f8 false true false false):=by
  refine returnsInHanded_of_change_shaped (C:=Try.checked) Sx.own_ started (by kernel_rfl) Try.func8
    (ChangeSpec.witness6 (enc:=enc) (C:=Try.checked) false ⟨#[], #[.slice none 0 0, .int .i64 0, .int .i64 0, .int .i64 0, .int .i64 0],[]⟩ 8 (by kernel_rfl) (by kernel_rfl) (by kernel_rfl) (by kernel_rfl)) ?_
  intro W base args ds gs before hval0 hW hcnd hsz0 hsh _
  exact Sx.law_postA (aps:=[(.sl (.rc [.i8, .i16, .i16, .i64, .i64])),(.flat (.vl (.sv (.int .i64)))),(.flat (.vl (.sv (.int .i64)))),(.flat (.vl (.sv (.int .i64)))),(.flat (.vl (.sv (.int .i64))))]) (fn:=Try.f8) (s:=Rows.fnExactWhichSideSpec) (Sx.shaped_pos hsh) (Sx.g8Fn 1048577) Sx.askLaw8' (by kernel_rfl) Sx.laidOut_ (by kernel_rfl) rfl (fun H ds h=>by
    match ds,h with
    |[d0,d1,d2,d3,d4],_=>rfl) rfl Try.underlying4 hval0 hW
theorem over:Rows.fnExactWhichSideRow.holds Try.pinned (OpenSpec.ofChange Rows.fnExactWhichSideSpec):=
  OpenClaim.holds_of_wide 8 Try.f8 rfl rfl rfl rfl rfl rfl rfl ⟨rfl,rfl,rfl,rfl,rfl⟩ rfl rfl rfl rfl rfl (by kernel_rfl) Try.func8 facts_
    (of_decide_eq_true (by kernel_rfl)) (by unfold Func.isWrapper;first|(rw[if_pos (by decide+kernel)];kernel_rfl)|(rw[if_neg (by decide+kernel)];exact⟨rfl,rfl⟩))
    (fun os started H enc _=>lifted os started H enc)
theorem proved:Rows.FnExactWhichSideSaid:=over
#print axioms proved
end Go.Proofs.Ytlmmgjngihlpeaa.fnExactWhichSide
namespace Go.Proofs.Ytlmmgjngihlpeaa
theorem fnExactWhichSide_holds:Rows.FnExactWhichSideSaid:=fnExactWhichSide.proved
end Go.Proofs.Ytlmmgjngihlpeaa
