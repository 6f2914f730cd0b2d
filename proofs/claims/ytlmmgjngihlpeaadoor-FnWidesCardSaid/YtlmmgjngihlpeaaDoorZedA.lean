/- Plain laws: wides as whole numbers. Our own work. -/
import Derived.Test.YtlmmgjngihlpeaaDoorPureU
import Derived.Test.YtlmmgjngihlpeaaDoorSxU
namespace Go.Proofs.YtlmmgjngihlpeaaDoor.Sx
open Go
set_option linter.unusedVariables false
set_option linter.unusedSimpArgs false
set_option maxRecDepth 100000
def zs(z:Int):Bool:=decide (z<0)
def zl(z:Int):List Int:=limbs 6 z.natAbs
def fitZ(z:Int):Bool:=decide (z.natAbs<W192)
def zt(z:Int):Int:=z.tmod (W192:Int)
theorem w192_pos:0<W192:=by decide
theorem fitZ_iff{z:Int}:fitZ z=true↔z.natAbs<W192:=by simp[fitZ]
theorem zt_abs(z:Int):(zt z).natAbs=z.natAbs%W192:=by
 unfold zt
 rw[Int.natAbs_tmod];rfl
theorem zt_of{z:Int}(h:z.natAbs<W192):zt z=z:=by
 unfold zt
 rcases Int.le_total 0 z with h0|h0
 ·rw[Int.tmod_eq_emod_of_nonneg h0,Int.emod_eq_of_lt h0 (by omega)]
 ·have:z=-(z.natAbs:Int):=by omega
  rw[this,Int.neg_tmod,←Int.ofNat_tmod,Nat.mod_eq_of_lt h]
theorem zl_zt(z:Int):zl (zt z)=zl z:=by
 unfold zl
 rw[zt_abs]
 exact limbs_modEq 6 _
theorem zl_neg(z:Int):zl (-z)=zl z:=by unfold zl;rw[Int.natAbs_neg]
theorem zs_nat(a:Nat):zs (a:Int)=false:=decide_eq_false (by omega)
theorem zs_negnat(a:Nat):zs (-(a:Int))= !(decide (a=0)):=by
 unfold zs
 by_cases h:a=0
 ·subst h;rfl
 ·rw[decide_eq_false h,decide_eq_true (show-(a:Int)<0 by omega)];rfl
theorem zcases(x:Int):∃a:Nat,x.natAbs=a∧zl x=limbs 6 a∧((x=a∧zs x=false)∨(x=-(a:Int)∧0<a∧zs x=true)):=by
 refine⟨x.natAbs,rfl,rfl, ?_⟩
 unfold zs
 by_cases h:x<0
 ·exact .inr ⟨by omega,by omega,decide_eq_true h⟩
 ·exact .inl ⟨by omega,decide_eq_false h⟩
theorem zed_of{q:Bool}{a:Nat}(ha:a<W192)(h:(!(q&&decide (a=0)))=true):∃z:Int,z.natAbs<W192∧q=zs z∧limbs 6 a=zl z:=by
 cases q with
 |false=>exact⟨a,by omega,(zs_nat a).symm,rfl⟩
 |true=>
  refine⟨-(a:Int),by omega, ?_, ?_⟩
  ·rw[zs_negnat];simpa using h
  ·rw[zl_neg];rfl
theorem zed_valid(z:Int):(!(zs z&&decide (z.natAbs=0)))=true:=by
 unfold zs
 by_cases h:z<0
 ·rw[decide_eq_true h,decide_eq_false (show¬z.natAbs=0 by omega)];rfl
 ·rw[decide_eq_false h];rfl
variable {α:Type} {n:Nat}
theorem g46Z(m:Nat){z:Int}(hz:z.natAbs<W192)(k:Bool→Option α):g46 m (zs z) (zl z) k=k true:=by
 unfold zl
 rw[g46L m (zs z) hz,zed_valid]
theorem g20Z(m:Nat){z:Int}(hz:z.natAbs<W192)(k:Bool→Option α):g20 m (zs z) (zl z) k=k true:=by
 unfold zl
 rw[g20L m (zs z) hz,zed_valid]
theorem g64Z(m:Nat)(q:Bool){a:Nat}(ha:a<W192)(k:Bool→Option α):g64 m q (limbs 6 a) k=k (zs (cond q (-(a:Int)) a)):=by
 rw[g64L m q ha]
 cases q
 ·rw[cond_false,zs_nat];rfl
 ·rw[cond_true,zs_negnat];rfl
theorem g68Z(m:Nat)(q:Bool){a:Nat}(ha:a<W192)(k:Bool→Option α):g68 m q (limbs 6 a) k=k (zs (cond q (-(a:Int)) a)):=by
 rw[g68L m q ha]
 cases q
 ·rw[cond_false,zs_nat];rfl
 ·rw[cond_true,zs_negnat];rfl
theorem zl_eq{z:Int}{a:Nat}(h:z.natAbs=a):zl z=limbs 6 a:=by unfold zl;rw[h]
theorem fitZ_eq{z:Int}{a:Nat}(h:z.natAbs=a):fitZ z=decide (a<W192):=by unfold fitZ;rw[h]
theorem cmpN_ge0(a b:Nat):decide (cmpN a b≥0)=decide (b≤a):=by
 unfold cmpN
 by_cases h1:a<b
 ·rw[if_pos h1,decide_eq_false (show¬b≤a by omega)];rfl
 ·rw[if_neg h1,decide_eq_true (show b≤a by omega)]
  split<;>rfl
theorem cmpN_lt0(a b:Nat):decide (cmpN a b<0)=decide (a<b):=by
 unfold cmpN
 by_cases h1:a<b
 ·rw[if_pos h1,decide_eq_true h1];rfl
 ·rw[if_neg h1,decide_eq_false h1]
  split<;>rfl
theorem g58Z{x y:Int}(hx:x.natAbs<W192)(hy:y.natAbs<W192)(k:Bool→List Int→Int→Option α):
  g58 (n+7) (zs x) (zl x) (zs y) (zl y) k=cond (fitZ (x+y)) (k (zs (x+y)) (zl (x+y)) 0) (k false [0,0,0,0,0,0] 3):=by
 obtain⟨a,ea,la,ca⟩:=zcases x
 obtain⟨b,eb,lb,cb⟩:=zcases y
 rw[ea] at hx
 rw[eb] at hy
 rw[g58_o,la,lb]
 rcases ca with⟨ex,sx⟩|⟨ex,pa,sx⟩<;>rcases cb with⟨ey,sy⟩|⟨ey,pb,sy⟩
 ·have e:(x+y).natAbs=a+b:=by omega
  rw[sx,sy,beq_self_eq_true,cond_true,g98L _ hx hy,fitZ_eq e]
  by_cases h:a+b<W192
  ·rw[decide_eq_true h,Bool.not_true,cond_false,cond_true,g64Z _ _ h,zl_eq e,show x+y=((a+b:Nat):Int) by omega];rfl
  ·rw[decide_eq_false h];rfl
 ·have hf:(x+y).natAbs<W192:=by omega
  rw[sx,sy,show(false==true)=false from rfl,cond_false,g99L _ hx hy,cmpN_ge0,fitZ_iff.2 hf,cond_true]
  by_cases h:b≤a
  ·rw[decide_eq_true h,cond_true,g100L _ h,g64Z _ _ (show a-b<W192 by omega),zl_eq (show(x+y).natAbs=a-b by omega),cond_false,show((a-b:Nat):Int)=x+y by omega]
  ·rw[decide_eq_false h,cond_false,g100L _ (show a≤b by omega),g64Z _ _ (show b-a<W192 by omega),zl_eq (show(x+y).natAbs=b-a by omega),cond_true,show-((b-a:Nat):Int)=x+y by omega]
 ·have hf:(x+y).natAbs<W192:=by omega
  rw[sx,sy,show(true==false)=false from rfl,cond_false,g99L _ hx hy,cmpN_ge0,fitZ_iff.2 hf,cond_true]
  by_cases h:b≤a
  ·rw[decide_eq_true h,cond_true,g100L _ h,g64Z _ _ (show a-b<W192 by omega),zl_eq (show(x+y).natAbs=a-b by omega),cond_true,show-((a-b:Nat):Int)=x+y by omega]
  ·rw[decide_eq_false h,cond_false,g100L _ (show a≤b by omega),g64Z _ _ (show b-a<W192 by omega),zl_eq (show(x+y).natAbs=b-a by omega),cond_false,show((b-a:Nat):Int)=x+y by omega]
 ·have e:(x+y).natAbs=a+b:=by omega
  rw[sx,sy,beq_self_eq_true,cond_true,g98L _ hx hy,fitZ_eq e]
  by_cases h:a+b<W192
  ·rw[decide_eq_true h,Bool.not_true,cond_false,cond_true,g64Z _ _ h,zl_eq e,show x+y=-((a+b:Nat):Int) by omega];rfl
  ·rw[decide_eq_false h];rfl
theorem g68T(m:Nat)(q:Bool)(a:Nat)(k:Bool→Option α):g68 m q (limbs 6 a) k=k (zs (zt (cond q (-(a:Int)) a))):=by
 have h:=g68Z m q (Nat.mod_lt a w192_pos) k
 rw[show limbs 6 (a%W192)=limbs 6 a from limbs_modEq 6 a] at h
 rw[h]
 cases q
 ·rw[cond_false,cond_false];congr 2
 ·rw[cond_true,cond_true];congr 2
  unfold zt
  rw[Int.neg_tmod];rfl
theorem g55Z{x y:Int}(hx:x.natAbs<W192)(hy:y.natAbs<W192)(o:Bool)(k:Bool→List Int→Bool→Option α):
  g55 (n+7) (zs x) (zl x) (zs y) (zl y) o k=k (zs (zt (x+y))) (zl (zt (x+y))) (o|| !(fitZ (x+y))):=by
 obtain⟨a,ea,la,ca⟩:=zcases x
 obtain⟨b,eb,lb,cb⟩:=zcases y
 rw[ea] at hx
 rw[eb] at hy
 rw[g55_o,la,lb,zl_zt]
 rcases ca with⟨ex,sx⟩|⟨ex,pa,sx⟩<;>rcases cb with⟨ey,sy⟩|⟨ey,pb,sy⟩
 ·have e:(x+y).natAbs=a+b:=by omega
  rw[sx,sy,beq_self_eq_true,cond_true,g94L _ hx hy,fitZ_eq e,zl_eq e,show x+y=((a+b:Nat):Int) by omega]
  cases o
  ·rw[cond_false,g68T];rfl
  ·rw[cond_true,g68T];rfl
 ·have hf:(x+y).natAbs<W192:=by omega
  rw[sx,sy,show(false==true)=false from rfl,cond_false,g95L _ hx hy,cmpN_lt0,fitZ_iff.2 hf,zt_of hf,Bool.not_true,Bool.or_false]
  by_cases h:a<b
  ·rw[decide_eq_true h,cond_true,g96L _ (show a≤b by omega),g68Z _ _ (show b-a<W192 by omega),zl_eq (show(x+y).natAbs=b-a by omega),cond_true,show-((b-a:Nat):Int)=x+y by omega]
  ·rw[decide_eq_false h,cond_false,g96L _ (show b≤a by omega),g68Z _ _ (show a-b<W192 by omega),zl_eq (show(x+y).natAbs=a-b by omega),cond_false,show((a-b:Nat):Int)=x+y by omega]
 ·have hf:(x+y).natAbs<W192:=by omega
  rw[sx,sy,show(true==false)=false from rfl,cond_false,g95L _ hx hy,cmpN_lt0,fitZ_iff.2 hf,zt_of hf,Bool.not_true,Bool.or_false]
  by_cases h:a<b
  ·rw[decide_eq_true h,cond_true,g96L _ (show a≤b by omega),g68Z _ _ (show b-a<W192 by omega),zl_eq (show(x+y).natAbs=b-a by omega),cond_false,show((b-a:Nat):Int)=x+y by omega]
  ·rw[decide_eq_false h,cond_false,g96L _ (show b≤a by omega),g68Z _ _ (show a-b<W192 by omega),zl_eq (show(x+y).natAbs=a-b by omega),cond_true,show-((a-b:Nat):Int)=x+y by omega]
 ·have e:(x+y).natAbs=a+b:=by omega
  rw[sx,sy,beq_self_eq_true,cond_true,g94L _ hx hy,fitZ_eq e,zl_eq e,show x+y=-((a+b:Nat):Int) by omega]
  cases o
  ·rw[cond_false,g68T];rfl
  ·rw[cond_true,g68T];rfl
theorem zneg{x:Int}{a:Nat}(ea:x.natAbs=a)(ca:(x=a∧zs x=false)∨(x=-(a:Int)∧0<a∧zs x=true)):(cond (!(zs x)) (-(a:Int)) a)=-x:=by
 rcases ca with⟨ex,sx⟩|⟨ex,pa,sx⟩
 ·rw[sx,ex];rfl
 ·rw[sx,ex];show((a:Nat):Int)=_;omega
theorem g62Z(m:Nat){x:Int}(hx:x.natAbs<W192)(k:Bool→Option α):g62 m (zs x) (zl x) k=k (zs (-x)):=by
 obtain⟨a,ea,la,ca⟩:=zcases x
 rw[ea] at hx
 rw[g62_o,la,g68Z _ _ hx,zneg ea ca]
theorem g59Z{x y:Int}(hx:x.natAbs<W192)(hy:y.natAbs<W192)(o:Bool)(k:Bool→List Int→Bool→Option α):
  g59 (n+7) (zs x) (zl x) (zs y) (zl y) o k=k (zs (zt (x-y))) (zl (zt (x-y))) (o|| !(fitZ (x-y))):=by
 rw[g59_o,g62Z _ hy,←zl_neg y,g55Z hx (by rw[Int.natAbs_neg];exact hy)]
 rfl
end Go.Proofs.YtlmmgjngihlpeaaDoor.Sx
