/- The row of FnExactTermDigits. Printed by our own sx.py. -/
import Derived.Test.YtlmmgjngihlpeaaGreatRows
import Derived.Test.YtlmmgjngihlpeaaGreatAskDl
import Derived.Test.YtlmmgjngihlpeaaGreatSxS
import Derived.WalkKit
import Derived.ProofKit
import Derived.ChangeOld
import Derived.SizedLaws
import Derived.HandedShaped
namespace Go.Proofs.YtlmmgjngihlpeaaGreat.fnExactTermDigits
open Go.ChangeShapes Go.WideShapes Go.ChangeAt Go.RowKit
set_option linter.unusedVariables false
set_option maxRecDepth 100000
theorem inPlace_:((Rows.fnExactTermDigitsRow).inPlace==Tryz.prog.inPlace 4)=true:=by kernel_rfl
theorem unfollowed_:((Rows.fnExactTermDigitsRow).unfollowed==Tryz.prog.unfollowed 4)=true:=by kernel_rfl
theorem recurses_:((Rows.fnExactTermDigitsRow).recurses==Tryz.prog.recurses 4)=true:=by kernel_rfl
theorem named_:((Rows.fnExactTermDigitsRow).named==Tryz.prog.varsNamed 4)=true:=by kernel_rfl
theorem facts_:joinedFacts Tryz.prog 4 Tryz.f4 Rows.fnExactTermDigitsSpec Rows.fnExactTermDigitsRow=true:=
  Sx.facts_of (by kernel_rfl) Sx.laidOut_ Sx.mapsRowed_ (by kernel_rfl) (by kernel_rfl) (by kernel_rfl) inPlace_ unfollowed_ recurses_ named_ (by kernel_rfl) (by kernel_rfl) (by kernel_rfl) (by kernel_rfl) (by kernel_rfl)
    (by kernel_rfl) (by kernel_rfl) (by kernel_rfl) (by kernel_rfl) (by kernel_rfl) rfl Sx.heard_ Sx.mayEnter_ rfl Sx.liftsFinal_ Sx.make_ rfl rfl rfl (by kernel_rfl) (by kernel_rfl) (by kernel_rfl)
theorem lifted(os:Os)(started:os.Started)(H:Type)(enc:TypeId×Value→H):
    ReturnsInHanded {} Tryz.checked os 4 .any (Rows.fnExactTermDigitsSpec.pre6 enc Tryz.prog Tryz.f4 Rows.fnExactTermDigitsRow.domain false) (Rows.fnExactTermDigitsSpec.post enc Tryz.prog Tryz.f4 false true false false):=by
  refine returnsInHanded_of_change_shaped (C:=Tryz.checked) Sx.own_ started (by kernel_rfl) Tryz.func4
    (ChangeSpec.witness6 (enc:=enc) (C:=Tryz.checked) false ⟨#[], #[.slice none 0 0, .int .i64 0, .int .i64 0],[]⟩ 8 (by kernel_rfl) (by kernel_rfl) (by kernel_rfl) (by kernel_rfl)) ?_
  intro W base args ds gs before hval0 hW hcnd hsz0 hsh _
  exact Sx.law_postA (aps:=[(.sl (.rc [.i8, .i16, .i16, .i64, .i64])),(.flat (.vl (.sv (.int .i64)))),(.flat (.vl (.sv (.int .i64))))]) (fn:=Tryz.f4) (s:=Rows.fnExactTermDigitsSpec) (Sx.shaped_pos hsh) Sx.glob0 (Sx.g4Fn 1048577) Sx.digLaw' (by kernel_rfl) Sx.laidOut_ (by kernel_rfl) rfl (fun H ds h=>by
    match ds,h with
    |[d0,d1,d2],_=>rfl) rfl Tryz.underlying4 hval0 hW
theorem over:Rows.fnExactTermDigitsRow.holds Tryz.pinned (OpenSpec.ofChange Rows.fnExactTermDigitsSpec):=
  OpenClaim.holds_of_wide 4 Tryz.f4 rfl rfl rfl rfl rfl rfl rfl ⟨rfl,rfl,rfl,rfl,rfl⟩ rfl rfl rfl rfl rfl (by kernel_rfl) Tryz.func4 facts_
    (of_decide_eq_true (by kernel_rfl)) (by unfold Func.isWrapper;first|(rw[if_pos (by decide+kernel)];kernel_rfl)|(rw[if_neg (by decide+kernel)];exact⟨rfl,rfl⟩))
    (fun os started H enc _=>lifted os started H enc)
theorem proved:Rows.FnExactTermDigitsSaid:=over
#print axioms proved
end Go.Proofs.YtlmmgjngihlpeaaGreat.fnExactTermDigits
namespace Go.Proofs.YtlmmgjngihlpeaaGreat
theorem fnExactTermDigits_holds:Rows.FnExactTermDigitsSaid:=fnExactTermDigits.proved
end Go.Proofs.YtlmmgjngihlpeaaGreat
