/- The row of FnWides, and its tied card. Printed by our own sx.py. -/
import Derived.Test.YtlmmgjngihlpeaaDoorRows
import Derived.Test.YtlmmgjngihlpeaaDoorTie
import Derived.Test.YtlmmgjngihlpeaaDoorCards
import Derived.Test.YtlmmgjngihlpeaaDoorTxtI
import Derived.Test.YtlmmgjngihlpeaaDoorSxS
import Derived.Test.YtlmmgjngihlpeaaDoorSxGl
import Derived.WalkKit
import Derived.ProofKit
import Derived.LaidMore
import Derived.OpenShut
import Derived.Stop.Joined
import Derived.SevenTiedAt
import Derived.HandedShaped
namespace Go.Proofs.YtlmmgjngihlpeaaDoor.fnWides
open Go Go.ChangeShapes Go.WideShapes Go.ChangeAt Go.RowKit
set_option linter.unusedVariables false
set_option maxRecDepth 100000
theorem globOk{W:World}(h:laidMetH Tryd.prog Rows.fnWidesRow.laid W):Sx.GlobOk W []:=by
  rw[MakeChecks.laidMetH_plain _ _ _ (by kernel_rfl)] at h
  obtain⟨_,⟨_,_,_,_,_,_,_,_,_,_,⟨_,_,_,_,_,_,_,_,_,_,⟨g0,t0,cs0,f0,p0,q0,hg,ht,hv,hd,_⟩,_⟩,_⟩,_,_⟩:=h
  obtain rfl:=Option.some.inj ((show Tryd.prog.globalNamed _=some 1 by kernel_rfl).symm.trans hg)
  obtain rfl:=Option.some.inj ((show(Tryd.prog.globals[1]?).map (·.type)=some 178 by kernel_rfl).symm.trans ht)
  have hq:=Sx.laid_glob (L:=Sx.pow10L) (kd:= .u64) hg hv hd (n:=20) (e:=100) (by kernel_rfl) (by kernel_rfl) (by kernel_rfl)
  intro p hp
  obtain rfl:p=(1, .u64,Sx.pow10L):=by simpa[Sx.globs] using hp
  exact⟨by simp,hq.1,hq.2⟩
theorem door_met(os:Os)(args:Array Value):laidMetH Tryd.prog Rows.fnWidesRow.laid ((World.doorLaid Tryd.prog 72 os).forCall (fun _ _=>0) ⟨#[],args,[]⟩).memory:=
  laidMetH_of_parts3 (fuel:=8) (laidMet_of_run' 8 (by kernel_rfl) (by kernel_rfl)) (by kernel_rfl) (by kernel_rfl)
theorem inPlace_:((Rows.fnWidesRow).inPlace==Tryd.prog.inPlace 5)=true:=by kernel_rfl
theorem unfollowed_:((Rows.fnWidesRow).unfollowed==Tryd.prog.unfollowed 5)=true:=by kernel_rfl
theorem recurses_:((Rows.fnWidesRow).recurses==Tryd.prog.recurses 5)=true:=by kernel_rfl
theorem named_:((Rows.fnWidesRow).named==Tryd.prog.varsNamed 5)=true:=by kernel_rfl
theorem facts_:joinedFacts Tryd.prog 5 Tryd.f5 Rows.fnWidesSpec Rows.fnWidesRow=true:=
  Sx.facts_of (by kernel_rfl) Sx.laidOut_ Sx.mapsRowed_ (by kernel_rfl) (by kernel_rfl) (by kernel_rfl) inPlace_ unfollowed_ recurses_ named_ (by kernel_rfl) (by kernel_rfl) (by kernel_rfl) (by kernel_rfl) (by kernel_rfl)
    (by kernel_rfl) (by kernel_rfl) (by kernel_rfl) (by kernel_rfl) (by kernel_rfl) rfl Sx.heard_ Sx.mayEnter_ rfl Sx.liftsFinal_ Sx.make_ rfl rfl rfl (by kernel_rfl) (by kernel_rfl) (by kernel_rfl)
theorem lifted(os:Os)(started:os.Started)(H:Type)(enc:TypeId×Value→H):
    ReturnsInHanded {} Tryd.checked os 5 .any (fun w args=>(Rows.fnWidesSpec.pre enc Tryd.prog Tryd.f5 [] false w args∧laidMetH Tryd.prog Rows.fnWidesRow.laid w)∧sizedMet enc Tryd.prog Tryd.f5 (OpenSpec.ofChange Rows.fnWidesSpec) false w args)
      (Rows.fnWidesSpec.post enc Tryd.prog Tryd.f5 false true false false):=by
  refine returnsInHanded_of_change_and (C:=Tryd.checked) (X:=fun w _=>laidMetH Tryd.prog Rows.fnWidesRow.laid w) (fun _ _ _ hh h=>h.of_heap hh) Sx.own_ started (by kernel_rfl) Tryd.func5
    (ChangeSpec.witness_shaped (enc:=enc) (C:=Tryd.checked) (os:=os) (X:=fun w _=>laidMetH Tryd.prog Rows.fnWidesRow.laid w) false (World.doorLaid Tryd.prog 72 os) #[.slice none 0 0, .slice none 0 0] 8 rfl (World.shaped_of_RefB (by kernel_rfl) (by kernel_rfl)) (by kernel_rfl) (by kernel_rfl) (by kernel_rfl) (door_met os _)) ?_
  intro W base args ds gs before hval0 hW _ _ hL _
  exact Sx.law_postA (aps:=[(.sl (.int .u8)),(.sl (.int .u8))]) (fn:=Tryd.f5) (s:=Rows.fnWidesSpec) (Nat.lt_of_le_of_lt (Nat.zero_le _) ((globOk hL) _ (by simp[Sx.globs];rfl)).2.1) (globOk hL) (Sx.g5Fn 400) Sx.lawWides' (by kernel_rfl) Sx.laidOut_ (by kernel_rfl) rfl (fun H ds h=>by
    match ds,h with
    |[d0,d1],_=>rfl) rfl Tryd.underlying4 hval0 hW
theorem over:Rows.fnWidesRow.holds Tryd.pinned (OpenSpec.ofChange Rows.fnWidesSpec):=
  OpenClaim.holds_of_wide 5 Tryd.f5 rfl rfl rfl rfl rfl rfl rfl ⟨rfl,rfl,rfl,rfl,rfl⟩ rfl rfl rfl rfl rfl (by kernel_rfl) Tryd.func5 facts_
    (of_decide_eq_true (by kernel_rfl)) (by unfold Func.isWrapper;first|(rw[if_pos (by decide+kernel)];kernel_rfl)|(rw[if_neg (by decide+kernel)];exact⟨rfl,rfl⟩))
    (fun os started H enc _=>lifted os started H enc)
theorem proved:Rows.FnWidesCardSaid:=
  Claim7.holds_tied_plain_at .later [] Rows.fnWidesCard.laidKinds true Rows.fnWidesCard.stood.harness Rows.fnWidesCard.stood.looks
    over (fun _ h=>by cases h) (by kernel_rfl) (fun _ h=>by cases h) fnWides_row_tie rfl ⟨rfl,rfl⟩ (by kernel_rfl) rfl
    (fun f fn hf hfn=>by
      obtain rfl:f=5:=Option.some.inj ((show Tryd.prog.funcNamed _=some 5 by kernel_rfl).symm.trans hf)|>.symm
      obtain rfl:fn=Tryd.f5:=(Option.some.inj (Tryd.func5.symm.trans hfn)).symm
      exact⟨by kernel_rfl,fun j t ht=>by
        have hm:t∈[37,37]:=by
          have:=Array.mem_of_getElem? ht
          simpa[Tryd.f5] using this
        have hall:([37,37].all fun u=> !Tryd.prog.wantsStandIn u)=true:=by kernel_rfl
        exact(show Tryd.prog.wantsStandIn t=false by simpa using List.all_eq_true.1 hall t hm)⟩)
    (by kernel_rfl)
#print axioms proved
end Go.Proofs.YtlmmgjngihlpeaaDoor.fnWides
namespace Go.Proofs.YtlmmgjngihlpeaaDoor
theorem fnWides_holds:Rows.FnWidesCardSaid:=fnWides.proved
end Go.Proofs.YtlmmgjngihlpeaaDoor
