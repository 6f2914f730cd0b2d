/- The row of FnExactDecimalOf, and its tied card. Printed by our own sx.py. -/
import Derived.Test.YtlmmgjngihlpeaaGreatDoorRows
import Derived.Test.YtlmmgjngihlpeaaGreatDoorTie
import Derived.Test.YtlmmgjngihlpeaaGreatDoorCards
import Derived.Test.YtlmmgjngihlpeaaGreatDoorAskDec
import Derived.Test.YtlmmgjngihlpeaaGreatDoorSxS
import Derived.Test.YtlmmgjngihlpeaaGreatDoorSxGl
import Derived.WalkKit
import Derived.ProofKit
import Derived.LaidMore
import Derived.OpenShut
import Derived.Stop.Joined
import Derived.SevenTiedAt
import Derived.HandedShaped
namespace Go.Proofs.YtlmmgjngihlpeaaGreatDoor.fnExactDecimalOf
open Go Go.ChangeShapes Go.WideShapes Go.ChangeAt Go.RowKit
set_option linter.unusedVariables false
set_option maxRecDepth 100000
theorem globOk{W:World}(h:laidMetH Tryz.prog Rows.fnExactDecimalOfRow.laid W):Sx.GlobOk W []:=by
  rw[MakeChecks.laidMetH_plain _ _ _ (by kernel_rfl)] at h
  obtain⟨_,⟨_,_,_,_,_,_,_,_,_,_,⟨_,_,_,_,_,_,_,_,_,_,⟨g0,t0,cs0,f0,p0,q0,hg,ht,hv,hd,_⟩,_⟩,_⟩,_,_⟩:=h
  obtain rfl:=Option.some.inj ((show Tryz.prog.globalNamed _=some 1 by kernel_rfl).symm.trans hg)
  obtain rfl:=Option.some.inj ((show(Tryz.prog.globals[1]?).map (·.type)=some 231 by kernel_rfl).symm.trans ht)
  have hq:=Sx.laid_glob (L:=Sx.pow10L) (kd:= .u64) hg hv hd (n:=20) (e:=124) (by kernel_rfl) (by kernel_rfl) (by kernel_rfl)
  intro p hp
  obtain rfl:p=(1, .u64,Sx.pow10L):=by simpa[Sx.globs] using hp
  exact⟨by simp,hq.1,hq.2⟩
theorem door_met(os:Os)(args:Array Value):laidMetH Tryz.prog Rows.fnExactDecimalOfRow.laid ((World.doorLaid Tryz.prog 72 os).forCall (fun _ _=>0) ⟨#[],args,[]⟩).memory:=
  laidMetH_of_parts3 (fuel:=8) (laidMet_of_run' 8 (by kernel_rfl) (by kernel_rfl)) (by kernel_rfl) (by kernel_rfl)
theorem inPlace_:((Rows.fnExactDecimalOfRow).inPlace==Tryz.prog.inPlace 4)=true:=by kernel_rfl
theorem unfollowed_:((Rows.fnExactDecimalOfRow).unfollowed==Tryz.prog.unfollowed 4)=true:=by kernel_rfl
theorem recurses_:((Rows.fnExactDecimalOfRow).recurses==Tryz.prog.recurses 4)=true:=by kernel_rfl
theorem named_:((Rows.fnExactDecimalOfRow).named==Tryz.prog.varsNamed 4)=true:=by kernel_rfl
theorem facts_:joinedFacts Tryz.prog 4 Tryz.f4 Rows.fnExactDecimalOfSpec Rows.fnExactDecimalOfRow=true:=
  Sx.facts_of (by kernel_rfl) Sx.laidOut_ Sx.mapsRowed_ (by kernel_rfl) (by kernel_rfl) (by kernel_rfl) inPlace_ unfollowed_ recurses_ named_ (by kernel_rfl) (by kernel_rfl) (by kernel_rfl) (by kernel_rfl) (by kernel_rfl)
    (by kernel_rfl) (by kernel_rfl) (by kernel_rfl) (by kernel_rfl) (by kernel_rfl) rfl Sx.heard_ Sx.mayEnter_ rfl Sx.liftsFinal_ Sx.make_ rfl rfl rfl (by kernel_rfl) (by kernel_rfl) (by kernel_rfl)
theorem lifted(os:Os)(started:os.Started)(H:Type)(enc:TypeId×Value→H):
    ReturnsInHanded {} Tryz.checked os 4 .any (fun w args=>(Rows.fnExactDecimalOfSpec.pre enc Tryz.prog Tryz.f4 [] false w args∧laidMetH Tryz.prog Rows.fnExactDecimalOfRow.laid w)∧sizedMet enc Tryz.prog Tryz.f4 (OpenSpec.ofChange Rows.fnExactDecimalOfSpec) false w args)
      (Rows.fnExactDecimalOfSpec.post enc Tryz.prog Tryz.f4 false true false false):=by
  refine returnsInHanded_of_change_and (C:=Tryz.checked) (X:=fun w _=>laidMetH Tryz.prog Rows.fnExactDecimalOfRow.laid w) (fun _ _ _ hh h=>h.of_heap hh) Sx.own_ started (by kernel_rfl) Tryz.func4
    (ChangeSpec.witness_shaped (enc:=enc) (C:=Tryz.checked) (os:=os) (X:=fun w _=>laidMetH Tryz.prog Rows.fnExactDecimalOfRow.laid w) false (World.doorLaid Tryz.prog 72 os) #[.slice none 0 0, .int .i64 0, .int .i64 0] 8 rfl (World.shaped_of_RefB (by kernel_rfl) (by kernel_rfl)) (by kernel_rfl) (by kernel_rfl) (by kernel_rfl) (door_met os _)) ?_
  intro W base args ds gs before hval0 hW _ _ hL _
  exact Sx.law_postA (aps:=[(.sl (.rc [.i8, .i16, .i16, .i64, .i64])),(.flat (.vl (.sv (.int .i64)))),(.flat (.vl (.sv (.int .i64))))]) (fn:=Tryz.f4) (s:=Rows.fnExactDecimalOfSpec) (Nat.lt_of_le_of_lt (Nat.zero_le _) ((globOk hL) _ (by simp[Sx.globs];rfl)).2.1) (globOk hL) (Sx.g4Fn 1048577) Sx.decLaw' (by kernel_rfl) Sx.laidOut_ (by kernel_rfl) rfl (fun H ds h=>by
    match ds,h with
    |[d0,d1,d2],_=>rfl) rfl Tryz.underlying4 hval0 hW
theorem over:Rows.fnExactDecimalOfRow.holds Tryz.pinned (OpenSpec.ofChange Rows.fnExactDecimalOfSpec):=
  OpenClaim.holds_of_wide 4 Tryz.f4 rfl rfl rfl rfl rfl rfl rfl ⟨rfl,rfl,rfl,rfl,rfl⟩ rfl rfl rfl rfl rfl (by kernel_rfl) Tryz.func4 facts_
    (of_decide_eq_true (by kernel_rfl)) (by unfold Func.isWrapper;first|(rw[if_pos (by decide+kernel)];kernel_rfl)|(rw[if_neg (by decide+kernel)];exact⟨rfl,rfl⟩))
    (fun os started H enc _=>lifted os started H enc)
theorem proved:Rows.FnExactDecimalOfCardSaid:=
  Claim7.holds_tied_plain_at .later [] Rows.fnExactDecimalOfCard.laidKinds true Rows.fnExactDecimalOfCard.stood.harness Rows.fnExactDecimalOfCard.stood.looks
    over (fun _ h=>by cases h) (by kernel_rfl) (fun _ h=>by cases h) fnExactDecimalOf_row_tie rfl ⟨rfl,rfl⟩ (by kernel_rfl) rfl
    (fun f fn hf hfn=>by
      obtain rfl:f=4:=Option.some.inj ((show Tryz.prog.funcNamed _=some 4 by kernel_rfl).symm.trans hf)|>.symm
      obtain rfl:fn=Tryz.f4:=(Option.some.inj (Tryz.func4.symm.trans hfn)).symm
      exact⟨by kernel_rfl,fun j t ht=>by
        have hm:t∈[51,2,2]:=by
          have:=Array.mem_of_getElem? ht
          simpa[Tryz.f4] using this
        have hall:([51,2,2].all fun u=> !Tryz.prog.wantsStandIn u)=true:=by kernel_rfl
        exact(show Tryz.prog.wantsStandIn t=false by simpa using List.all_eq_true.1 hall t hm)⟩)
    (by kernel_rfl)
#print axioms proved
end Go.Proofs.YtlmmgjngihlpeaaGreatDoor.fnExactDecimalOf
namespace Go.Proofs.YtlmmgjngihlpeaaGreatDoor
theorem fnExactDecimalOf_holds:Rows.FnExactDecimalOfCardSaid:=fnExactDecimalOf.proved
end Go.Proofs.YtlmmgjngihlpeaaGreatDoor
