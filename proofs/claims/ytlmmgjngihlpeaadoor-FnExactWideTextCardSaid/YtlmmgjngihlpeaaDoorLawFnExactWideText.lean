/- The row of FnExactWideText, and its tied card. Printed by our own sx.py. -/
import Derived.Test.YtlmmgjngihlpeaaDoorRows
import Derived.Test.YtlmmgjngihlpeaaDoorTie
import Derived.Test.YtlmmgjngihlpeaaDoorCards
import Derived.Test.YtlmmgjngihlpeaaDoorTxtF
import Derived.Test.YtlmmgjngihlpeaaDoorSxS
import Derived.Test.YtlmmgjngihlpeaaDoorSxGl
import Derived.WalkKit
import Derived.ProofKit
import Derived.LaidMore
import Derived.OpenShut
import Derived.Stop.Joined
import Derived.SevenTiedAt
import Derived.HandedShaped
namespace Go.Proofs.YtlmmgjngihlpeaaDoor.fnExactWideText
open Go Go.ChangeShapes Go.WideShapes Go.ChangeAt Go.RowKit
set_option linter.unusedVariables false
set_option maxRecDepth 100000
theorem globOk{W:World}(h:laidMetH Tryd.prog Rows.fnExactWideTextRow.laid W):Sx.GlobOk W []:=by
  rw[MakeChecks.laidMetH_plain _ _ _ (by kernel_rfl)] at h
  obtain⟨_,⟨_,_,_,_,_,_,_,_,_,_,⟨_,_,_,_,_,_,_,_,_,_,⟨g0,t0,cs0,f0,p0,q0,hg,ht,hv,hd,_⟩,_⟩,_⟩,_,_⟩:=h
  obtain rfl:=Option.some.inj ((show Tryd.prog.globalNamed _=some 1 by kernel_rfl).symm.trans hg)
  obtain rfl:=Option.some.inj ((show(Tryd.prog.globals[1]?).map (·.type)=some 178 by kernel_rfl).symm.trans ht)
  have hq:=Sx.laid_glob (L:=Sx.pow10L) (kd:= .u64) hg hv hd (n:=20) (e:=100) (by kernel_rfl) (by kernel_rfl) (by kernel_rfl)
  intro p hp
  obtain rfl:p=(1, .u64,Sx.pow10L):=by simpa[Sx.globs] using hp
  exact⟨by simp,hq.1,hq.2⟩
theorem door_met(os:Os)(args:Array Value):laidMetH Tryd.prog Rows.fnExactWideTextRow.laid ((World.doorLaid Tryd.prog 72 os).forCall (fun _ _=>0) ⟨#[],args,[]⟩).memory:=
  laidMetH_of_parts3 (fuel:=8) (laidMet_of_run' 8 (by kernel_rfl) (by kernel_rfl)) (by kernel_rfl) (by kernel_rfl)
theorem inPlace_:((Rows.fnExactWideTextRow).inPlace==Tryd.prog.inPlace 4)=true:=by kernel_rfl
theorem unfollowed_:((Rows.fnExactWideTextRow).unfollowed==Tryd.prog.unfollowed 4)=true:=by kernel_rfl
theorem recurses_:((Rows.fnExactWideTextRow).recurses==Tryd.prog.recurses 4)=true:=by kernel_rfl
theorem named_:((Rows.fnExactWideTextRow).named==Tryd.prog.varsNamed 4)=true:=by kernel_rfl
theorem facts_:joinedFacts Tryd.prog 4 Tryd.f4 Rows.fnExactWideTextSpec Rows.fnExactWideTextRow=true:=
  Sx.facts_of (by kernel_rfl) Sx.laidOut_ Sx.mapsRowed_ (by kernel_rfl) (by kernel_rfl) (by kernel_rfl) inPlace_ unfollowed_ recurses_ named_ (by kernel_rfl) (by kernel_rfl) (by kernel_rfl) (by kernel_rfl) (by kernel_rfl)
    (by kernel_rfl) (by kernel_rfl) (by kernel_rfl) (by kernel_rfl) (by kernel_rfl) rfl Sx.heard_ Sx.mayEnter_ rfl Sx.liftsFinal_ Sx.make_ rfl rfl rfl (by kernel_rfl) (by kernel_rfl) (by kernel_rfl)
theorem lifted(os:Os)(started:os.Started)(H:Type)(enc:TypeId×Value→H):
    ReturnsInHanded {} Tryd.checked os 4 .any (fun w args=>(Rows.fnExactWideTextSpec.pre enc Tryd.prog Tryd.f4 [] false w args∧laidMetH Tryd.prog Rows.fnExactWideTextRow.laid w)∧sizedMet enc Tryd.prog Tryd.f4 (OpenSpec.ofChange Rows.fnExactWideTextSpec) false w args)
      (Rows.fnExactWideTextSpec.post enc Tryd.prog Tryd.f4 false true false false):=by
  refine returnsInHanded_of_change_and (C:=Tryd.checked) (X:=fun w _=>laidMetH Tryd.prog Rows.fnExactWideTextRow.laid w) (fun _ _ _ hh h=>h.of_heap hh) Sx.own_ started (by kernel_rfl) Tryd.func4
    (ChangeSpec.witness_shaped (enc:=enc) (C:=Tryd.checked) (os:=os) (X:=fun w _=>laidMetH Tryd.prog Rows.fnExactWideTextRow.laid w) false (World.doorLaid Tryd.prog 72 os) #[.agg #[.bool false, .int .u32 0, .int .u32 0, .int .u32 0, .int .u32 0, .int .u32 0, .int .u32 0]] 8 rfl (World.shaped_of_RefB (by kernel_rfl) (by kernel_rfl)) (by kernel_rfl) (by kernel_rfl) (by kernel_rfl) (door_met os _)) ?_
  intro W base args ds gs before hval0 hW _ _ hL _
  exact Sx.law_post (fn:=Tryd.f4) (s:=Rows.fnExactWideTextSpec) (globOk hL) (Sx.g4Fn 400) Sx.wideTextLaw' (by kernel_rfl) Sx.laidOut_ (by kernel_rfl) rfl (fun H ds h=>by
    match ds,h with
    |[d0],_=>rfl) rfl Tryd.underlying4 hval0 hW
theorem over:Rows.fnExactWideTextRow.holds Tryd.pinned (OpenSpec.ofChange Rows.fnExactWideTextSpec):=
  OpenClaim.holds_of_wide 4 Tryd.f4 rfl rfl rfl rfl rfl rfl rfl ⟨rfl,rfl,rfl,rfl,rfl⟩ rfl rfl rfl rfl rfl (by kernel_rfl) Tryd.func4 facts_
    (of_decide_eq_true (by kernel_rfl)) (by unfold Func.isWrapper;first|(rw[if_pos (by decide+kernel)];kernel_rfl)|(rw[if_neg (by decide+kernel)];exact⟨rfl,rfl⟩))
    (fun os started H enc _=>lifted os started H enc)
theorem proved:Rows.FnExactWideTextCardSaid:=
  Claim7.holds_tied_plain_at .later [] Rows.fnExactWideTextCard.laidKinds true Rows.fnExactWideTextCard.stood.harness Rows.fnExactWideTextCard.stood.looks
    over (fun _ h=>by cases h) (by kernel_rfl) (fun _ h=>by cases h) fnExactWideText_row_tie rfl ⟨rfl,rfl⟩ (by kernel_rfl) rfl
    (fun f fn hf hfn=>by
      obtain rfl:f=4:=Option.some.inj ((show Tryd.prog.funcNamed _=some 4 by kernel_rfl).symm.trans hf)|>.symm
      obtain rfl:fn=Tryd.f4:=(Option.some.inj (Tryd.func4.symm.trans hfn)).symm
      exact⟨by kernel_rfl,fun j t ht=>by
        have hm:t∈[32]:=by
          have:=Array.mem_of_getElem? ht
          simpa[Tryd.f4] using this
        have hall:([32].all fun u=> !Tryd.prog.wantsStandIn u)=true:=by kernel_rfl
        exact(show Tryd.prog.wantsStandIn t=false by simpa using List.all_eq_true.1 hall t hm)⟩)
    (by kernel_rfl)
#print axioms proved
end Go.Proofs.YtlmmgjngihlpeaaDoor.fnExactWideText
namespace Go.Proofs.YtlmmgjngihlpeaaDoor
theorem fnExactWideText_holds:Rows.FnExactWideTextCardSaid:=fnExactWideText.proved
end Go.Proofs.YtlmmgjngihlpeaaDoor
