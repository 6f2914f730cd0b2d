/- The row of FnExactAsksOf. Printed by our own sx.py. -/
import Derived.Test.YtlmmgjngihlpeaaRows
import Derived.Test.YtlmmgjngihlpeaaAskY
import Derived.Test.YtlmmgjngihlpeaaSxS
import Derived.WalkKit
import Derived.ProofKit
import Derived.ChangeOld
import Derived.SizedLaws
import Derived.HandedShaped
namespace Go.Proofs.Ytlmmgjngihlpeaa.fnExactAsksOf
open Go.ChangeShapes Go.WideShapes Go.ChangeAt Go.RowKit
set_option linter.unusedVariables false
set_option maxRecDepth 100000
theorem inPlace_:((Rows.fnExactAsksOfRow).inPlace==Try.prog.inPlace 9)=true:=by kernel_rfl
theorem unfollowed_:((Rows.fnExactAsksOfRow).unfollowed==Try.prog.unfollowed 9)=true:=by kernel_rfl
theorem recurses_:((Rows.fnExactAsksOfRow).recurses==Try.prog.recurses 9)=true:=by kernel_rfl
theorem named_:((Rows.fnExactAsksOfRow).named==Try.prog.varsNamed 9)=true:=by kernel_rfl
theorem facts_:joinedFacts Try.prog 9 Try.f9 Rows.fnExactAsksOfSpec Rows.fnExactAsksOfRow=true:=
  Sx.facts_of (by kernel_rfl) Sx.laidOut_ Sx.mapsRowed_ (by kernel_rfl) (by kernel_rfl) (by kernel_rfl) inPlace_ unfollowed_ recurses_ named_ (by kernel_rfl) (by kernel_rfl) (by kernel_rfl) (by kernel_rfl) (by kernel_rfl)
    (by kernel_rfl) (by kernel_rfl) (by kernel_rfl) (by kernel_rfl) (by kernel_rfl) rfl Sx.heard_ Sx.mayEnter_ rfl Sx.liftsFinal_ Sx.make_ rfl rfl rfl (by kernel_rfl) (by kernel_rfl) (by kernel_rfl)
theorem lifted(os:Os)(started:os.Started)(H:Type)(enc:TypeId×Value→H):
    ReturnsInHanded {} Try.checked os 9 .any (Rows.fnExactAsksOfSpec.pre6 enc Try.prog Try.f9 Rows.fnExactAsksOfRow.domain false) (Rows.fnExactAsksOfSpec.post enc Try.prog Try.f9 false true false false):=by
  refine returnsInHanded_of_change_shaped (C:=Try.checked) Sx.own_ started (by kernel_rfl) Try.func9
    (ChangeSpec.witness6 (enc:=enc) (C:=Try.checked) false ⟨#[], #[.slice none 0 0, .int .i64 0, .int .i64 0],[]⟩ 8 (by kernel_rfl) (by kernel_rfl) (by kernel_rfl) (by kernel_rfl)) ?_
  intro W base args ds gs before hval0 hW hcnd hsz0 hsh _
  exact Sx.law_postA (aps:=[(.sl (.rc [.i8, .i16, .i16, .i64, .i64])),(.flat (.vl (.sv (.int .i64)))),(.flat (.vl (.sv (.int .i64))))]) (fn:=Try.f9) (s:=Rows.fnExactAsksOfSpec) (Sx.shaped_pos hsh) (Sx.g9Fn 1048577) Sx.askLaw9' (by kernel_rfl) Sx.laidOut_ (by kernel_rfl) rfl (fun H ds h=>by
    match ds,h with
    |[d0,d1,d2],_=>rfl) rfl Try.underlying4 hval0 hW
theorem over:Rows.fnExactAsksOfRow.holds Try.pinned (OpenSpec.ofChange Rows.fnExactAsksOfSpec):=
  OpenClaim.holds_of_wide 9 Try.f9 rfl rfl rfl rfl rfl rfl rfl ⟨rfl,rfl,rfl,rfl,rfl⟩ rfl rfl rfl rfl rfl (by kernel_rfl) Try.func9 facts_
    (of_decide_eq_true (by kernel_rfl)) (by unfold Func.isWrapper;first|(rw[if_pos (by decide+kernel)];kernel_rfl)|(rw[if_neg (by decide+kernel)];exact⟨rfl,rfl⟩))
    (fun os started H enc _=>lifted os started H enc)
theorem proved:Rows.FnExactAsksOfSaid:=over
#print axioms proved
end Go.Proofs.Ytlmmgjngihlpeaa.fnExactAsksOf
namespace Go.Proofs.Ytlmmgjngihlpeaa
theorem fnExactAsksOf_holds:Rows.FnExactAsksOfSaid:=fnExactAsksOf.proved
end Go.Proofs.Ytlmmgjngihlpeaa
