/- Plain laws: WideText answers alike. Our own work. -/
import Derived.Test.YtlmmgjngihlpeaaDoorTxtE
namespace Go.Proofs.YtlmmgjngihlpeaaDoor.Sx
open Go
set_option linter.unusedVariables false
set_option linter.unusedSimpArgs false
set_option maxRecDepth 100000
section
variable {α:Type}
theorem bytesEq_same(s:ByteArray):bytesEq s s=true:=by unfold bytesEq;exact beq_self_eq_true _
theorem wideTextLaw(m:Nat)(hm:300≤m)(q:Bool){l:List Int}(hl:l.length=6)(ul:U32 l)(k:Bool→Option α):g4 m q l k=k true:=by
 obtain⟨f,hf⟩:∃f,m=f+7:=⟨m-7,by omega⟩
 have ew:∀k:List Int→Option α,g13 m q l k=k l:=fun k=>by rw[hf];exact g13Eq f q hl k
 obtain⟨a,ha,rfl⟩:=limbs_ex hl ul
 rw[g4_o,ew]
 by_cases hv:(!(q&&decide (a=0)))=true
 ·obtain⟨z,hz,rfl,e⟩:=zed_of ha hv
  rw[e] at ew⊢
  rw[specWideText m hm hz,ew,implWideText m hm hz,bytesEq_same,Bool.not_true,cond_false]
 ·have h1:q=true∧a=0:=by
   cases q with
   |false=>exact absurd rfl hv
   |true=>exact⟨rfl,by simpa using hv⟩
  obtain⟨rfl,rfl⟩:=h1
  rw[g12_o,g46_o,eqLI_zero (by decide)]
  show g13 m true (limbs 6 0) _=_
  rw[ew,g14_o,g20_o,eqLI_zero (by decide)]
  show cond (!bytesEq (⟨#[]⟩:ByteArray) (⟨#[]⟩:ByteArray)) (k false) (k true)=k true
  rw[bytesEq_same];rfl
end
theorem wideTextLaw'(ls:List Lf)(hw:WT g4tp ls):g4K (g4 400) ls (fun v _ _=>saysTrue v)=some ():=wideTextLaw 400 (by decide) _ hw.1.2.1.1 hw.1.2.1.2 _
end Go.Proofs.YtlmmgjngihlpeaaDoor.Sx
