import Derived.Test.YtlmmgjngihlpeaaGreatSxV
import Derived.Test.YtlmmgjngihlpeaaGreatSxQ
import Derived.Test.YtlmmgjngihlpeaaGreatPureU
import Derived.Test.YtlmmgjngihlpeaaGreatSxU
import Derived.Test.YtlmmgjngihlpeaaGreatPureZb
namespace Go.Proofs.YtlmmgjngihlpeaaGreat.Sx
open Go
set_option linter.unusedVariables false
set_option linter.unusedSimpArgs false
set_option maxRecDepth 100000
theorem wrapS{i:Nat}(h:i<2000000000):IntKind.wrap .i64 ((i:Int)+(1:Int))=((i+1:Nat):Int):=by rw[IntKind.wrap_i64];omega
theorem wrapI{x:Int}(h1:-9223372036854775808≤x)(h2:x≤9223372036854775807):IntKind.wrap .i64 x=x:=by rw[IntKind.wrap_i64];omega
theorem dT{p:Prop}[Decidable p](h:p):decide p=true:=decide_eq_true h
theorem dF{p:Prop}[Decidable p](h:¬p):decide p=false:=decide_eq_false h
theorem getD_at{T:Type}(u:List T)(d:T){i:Nat}(h:i<u.length):List.getD u i d=u[i]:=by simp[List.getD,h]
theorem cond_k{α:Type}(K:Bool→Option α)(b x y:Bool):cond b (K x) (K y)=K (cond b x y):=by cases b<;>rfl
theorem cond_dec{β:Type}{p q r:Prop}[Decidable p][Decidable q][Decidable r](h:p↔q∧r)(x y:β):cond (!(decide q)) y (cond (decide r) x y)=cond (decide p) x y:=by
 by_cases hq:q<;>by_cases hr:r<;>simp[hq,hr,h]
theorem loopR{β:Type}(F:Nat→Nat→β)(R:Nat→β)(n:Nat)(he:∀m,F (m+1) n=R n)(hs:∀m i,i<n→F m (i+1)=R (i+1)→F (m+1) i=R i):∀(d i m:Nat),i+d=n→d<m→F m i=R i
 |0,i,m,hi,hm=>by
  obtain⟨m,rfl⟩:∃n,m=n+1:=⟨m-1,by omega⟩
  obtain rfl:i=n:=by omega
  exact he m
 |d+1,i,m,hi,hm=>by
  obtain⟨m,rfl⟩:∃n,m=n+1:=⟨m-1,by omega⟩
  exact hs m i (by omega) (loopR F R n he hs d (i+1) m (by omega) (by omega))
theorem take_snoc{T:Type}(l:List T){i:Nat}(h:i<l.length):l.take i++[l[i]]=l.take (i+1):=by rw[List.take_succ_eq_append_getElem h]
theorem cast_lt{i n:Nat}(h:i<n):(0:Int)≤(i:Int)∧(i:Int)<(n:Nat):=⟨by omega,by omega⟩
def zs(z:Int):Bool:=decide (z<0)
def zl(z:Int):List Int:=limbs 6 z.natAbs
def fitZ(z:Int):Bool:=decide (z.natAbs<W192)
def zt(z:Int):Int:=z.tmod (W192:Int)
theorem w192_pos:0<W192:=by decide
theorem fitZ_iff{z:Int}:fitZ z=true↔z.natAbs<W192:=by simp[fitZ]
theorem zt_abs(z:Int):(zt z).natAbs=z.natAbs%W192:=by
 unfold zt
 rw[Int.natAbs_tmod];rfl
theorem zt_fit(z:Int):(zt z).natAbs<W192:=by rw[zt_abs];exact Nat.mod_lt _ w192_pos
theorem zt_of{z:Int}(h:z.natAbs<W192):zt z=z:=by
 unfold zt
 rcases Int.le_total 0 z with h0|h0
 ·rw[Int.tmod_eq_emod_of_nonneg h0,Int.emod_eq_of_lt h0 (by omega)]
 ·have:z=-(z.natAbs:Int):=by omega
  rw[this,Int.neg_tmod,←Int.ofNat_tmod,Nat.mod_eq_of_lt h]
theorem zl_zt(z:Int):zl (zt z)=zl z:=by
 unfold zl
 rw[zt_abs]
 exact limbs_modEq 6 _
theorem zl_nat(a:Nat):zl (a:Int)=limbs 6 a:=rfl
theorem zl_neg(z:Int):zl (-z)=zl z:=by unfold zl;rw[Int.natAbs_neg]
theorem zl_length(z:Int):(zl z).length=6:=l6 _
theorem zs_nat(a:Nat):zs (a:Int)=false:=decide_eq_false (by omega)
theorem zs_negnat(a:Nat):zs (-(a:Int))= !(decide (a=0)):=by
 unfold zs
 by_cases h:a=0
 ·subst h;rfl
 ·rw[decide_eq_false h,decide_eq_true (show-(a:Int)<0 by omega)];rfl
theorem zcases(x:Int):∃a:Nat,x.natAbs=a∧zl x=limbs 6 a∧((x=a∧zs x=false)∨(x=-(a:Int)∧0<a∧zs x=true)):=by
 refine⟨x.natAbs,rfl,rfl, ?_⟩
 unfold zs
 by_cases h:x<0
 ·exact .inr ⟨by omega,by omega,decide_eq_true h⟩
 ·exact .inl ⟨by omega,decide_eq_false h⟩
theorem zed_valid(z:Int):(!(zs z&&decide (z.natAbs=0)))=true:=by
 unfold zs
 by_cases h:z<0
 ·rw[decide_eq_true h,decide_eq_false (show¬z.natAbs=0 by omega)];rfl
 ·rw[decide_eq_false h];rfl
variable {α:Type} {n:Nat}
theorem g15Z(m:Nat){z:Int}(hz:z.natAbs<W192)(k:Bool→Option α):g15 m (zs z) (zl z) k=k true:=by
 unfold zl
 rw[g15L m (zs z) hz,zed_valid]
theorem g110Z(m:Nat)(q:Bool){a:Nat}(ha:a<W192)(k:Bool→Option α):g110 m q (limbs 6 a) k=k (zs (cond q (-(a:Int)) a)):=by
 rw[g110L m q ha]
 cases q
 ·rw[cond_false,zs_nat];rfl
 ·rw[cond_true,zs_negnat];rfl
theorem g73Z(m:Nat)(q:Bool){a:Nat}(ha:a<W192)(k:Bool→Option α):g73 m q (limbs 6 a) k=k (zs (cond q (-(a:Int)) a)):=by
 rw[g73L m q ha]
 cases q
 ·rw[cond_false,zs_nat];rfl
 ·rw[cond_true,zs_negnat];rfl
theorem zl_eq{z:Int}{a:Nat}(h:z.natAbs=a):zl z=limbs 6 a:=by unfold zl;rw[h]
theorem fitZ_eq{z:Int}{a:Nat}(h:z.natAbs=a):fitZ z=decide (a<W192):=by unfold fitZ;rw[h]
theorem cmpN_ge0(a b:Nat):decide (cmpN a b≥0)=decide (b≤a):=by
 unfold cmpN
 by_cases h1:a<b
 ·rw[if_pos h1,decide_eq_false (show¬b≤a by omega)];rfl
 ·rw[if_neg h1,decide_eq_true (show b≤a by omega)]
  split<;>rfl
theorem cmpN_lt0(a b:Nat):decide (cmpN a b<0)=decide (a<b):=by
 unfold cmpN
 by_cases h1:a<b
 ·rw[if_pos h1,decide_eq_true h1];rfl
 ·rw[if_neg h1,decide_eq_false h1]
  split<;>rfl
theorem g78Z{x y:Int}(hx:x.natAbs<W192)(hy:y.natAbs<W192)(k:Bool→List Int→Int→Option α):
  g78 (n+7) (zs x) (zl x) (zs y) (zl y) k=cond (fitZ (x+y)) (k (zs (x+y)) (zl (x+y)) 0) (k false [0,0,0,0,0,0] 3):=by
 obtain⟨a,ea,la,ca⟩:=zcases x
 obtain⟨b,eb,lb,cb⟩:=zcases y
 rw[ea] at hx
 rw[eb] at hy
 rw[g78_o,la,lb]
 rcases ca with⟨ex,sx⟩|⟨ex,pa,sx⟩<;>rcases cb with⟨ey,sy⟩|⟨ey,pb,sy⟩
 ·have e:(x+y).natAbs=a+b:=by omega
  rw[sx,sy,beq_self_eq_true,cond_true,g109L _ hx hy,fitZ_eq e]
  by_cases h:a+b<W192
  ·rw[decide_eq_true h,Bool.not_true,cond_false,cond_true,g110Z _ _ h,zl_eq e,show x+y=((a+b:Nat):Int) by omega];rfl
  ·rw[decide_eq_false h];rfl
 ·have hf:(x+y).natAbs<W192:=by omega
  rw[sx,sy,show(false==true)=false from rfl,cond_false,g111L _ hx hy,cmpN_ge0,fitZ_iff.2 hf,cond_true]
  by_cases h:b≤a
  ·rw[decide_eq_true h,cond_true,g108L _ h,g110Z _ _ (show a-b<W192 by omega),zl_eq (show(x+y).natAbs=a-b by omega),cond_false,show((a-b:Nat):Int)=x+y by omega]
  ·rw[decide_eq_false h,cond_false,g108L _ (show a≤b by omega),g110Z _ _ (show b-a<W192 by omega),zl_eq (show(x+y).natAbs=b-a by omega),cond_true,show-((b-a:Nat):Int)=x+y by omega]
 ·have hf:(x+y).natAbs<W192:=by omega
  rw[sx,sy,show(true==false)=false from rfl,cond_false,g111L _ hx hy,cmpN_ge0,fitZ_iff.2 hf,cond_true]
  by_cases h:b≤a
  ·rw[decide_eq_true h,cond_true,g108L _ h,g110Z _ _ (show a-b<W192 by omega),zl_eq (show(x+y).natAbs=a-b by omega),cond_true,show-((a-b:Nat):Int)=x+y by omega]
  ·rw[decide_eq_false h,cond_false,g108L _ (show a≤b by omega),g110Z _ _ (show b-a<W192 by omega),zl_eq (show(x+y).natAbs=b-a by omega),cond_false,show((b-a:Nat):Int)=x+y by omega]
 ·have e:(x+y).natAbs=a+b:=by omega
  rw[sx,sy,beq_self_eq_true,cond_true,g109L _ hx hy,fitZ_eq e]
  by_cases h:a+b<W192
  ·rw[decide_eq_true h,Bool.not_true,cond_false,cond_true,g110Z _ _ h,zl_eq e,show x+y=-((a+b:Nat):Int) by omega];rfl
  ·rw[decide_eq_false h];rfl
theorem g73T(m:Nat)(q:Bool)(a:Nat)(k:Bool→Option α):g73 m q (limbs 6 a) k=k (zs (zt (cond q (-(a:Int)) a))):=by
 have h:=g73Z m q (Nat.mod_lt a w192_pos) k
 rw[show limbs 6 (a%W192)=limbs 6 a from limbs_modEq 6 a] at h
 rw[h]
 cases q
 ·rw[cond_false,cond_false];congr 2
 ·rw[cond_true,cond_true];congr 2
  unfold zt
  rw[Int.neg_tmod];rfl
theorem g53Z{x y:Int}(hx:x.natAbs<W192)(hy:y.natAbs<W192)(o:Bool)(k:Bool→List Int→Bool→Option α):
  g53 (n+7) (zs x) (zl x) (zs y) (zl y) o k=k (zs (zt (x+y))) (zl (zt (x+y))) (o|| !(fitZ (x+y))):=by
 obtain⟨a,ea,la,ca⟩:=zcases x
 obtain⟨b,eb,lb,cb⟩:=zcases y
 rw[ea] at hx
 rw[eb] at hy
 rw[g53_o,la,lb,zl_zt]
 rcases ca with⟨ex,sx⟩|⟨ex,pa,sx⟩<;>rcases cb with⟨ey,sy⟩|⟨ey,pb,sy⟩
 ·have e:(x+y).natAbs=a+b:=by omega
  rw[sx,sy,beq_self_eq_true,cond_true,g45L _ hx hy,fitZ_eq e,zl_eq e,show x+y=((a+b:Nat):Int) by omega]
  cases o
  ·rw[cond_false,g73T];rfl
  ·rw[cond_true,g73T];rfl
 ·have hf:(x+y).natAbs<W192:=by omega
  rw[sx,sy,show(false==true)=false from rfl,cond_false,g46L _ hx hy,cmpN_lt0,fitZ_iff.2 hf,zt_of hf,Bool.not_true,Bool.or_false]
  by_cases h:a<b
  ·rw[decide_eq_true h,cond_true,g84L _ (show a≤b by omega),g73Z _ _ (show b-a<W192 by omega),zl_eq (show(x+y).natAbs=b-a by omega),cond_true,show-((b-a:Nat):Int)=x+y by omega]
  ·rw[decide_eq_false h,cond_false,g84L _ (show b≤a by omega),g73Z _ _ (show a-b<W192 by omega),zl_eq (show(x+y).natAbs=a-b by omega),cond_false,show((a-b:Nat):Int)=x+y by omega]
 ·have hf:(x+y).natAbs<W192:=by omega
  rw[sx,sy,show(true==false)=false from rfl,cond_false,g46L _ hx hy,cmpN_lt0,fitZ_iff.2 hf,zt_of hf,Bool.not_true,Bool.or_false]
  by_cases h:a<b
  ·rw[decide_eq_true h,cond_true,g84L _ (show a≤b by omega),g73Z _ _ (show b-a<W192 by omega),zl_eq (show(x+y).natAbs=b-a by omega),cond_false,show((b-a:Nat):Int)=x+y by omega]
  ·rw[decide_eq_false h,cond_false,g84L _ (show b≤a by omega),g73Z _ _ (show a-b<W192 by omega),zl_eq (show(x+y).natAbs=a-b by omega),cond_true,show-((a-b:Nat):Int)=x+y by omega]
 ·have e:(x+y).natAbs=a+b:=by omega
  rw[sx,sy,beq_self_eq_true,cond_true,g45L _ hx hy,fitZ_eq e,zl_eq e,show x+y=-((a+b:Nat):Int) by omega]
  cases o
  ·rw[cond_false,g73T];rfl
  ·rw[cond_true,g73T];rfl
theorem zneg{x:Int}{a:Nat}(ea:x.natAbs=a)(ca:(x=a∧zs x=false)∨(x=-(a:Int)∧0<a∧zs x=true)):(cond (!(zs x)) (-(a:Int)) a)=-x:=by
 rcases ca with⟨ex,sx⟩|⟨ex,pa,sx⟩
 ·rw[sx,ex];rfl
 ·rw[sx,ex];show((a:Nat):Int)=_;omega
theorem g79Z(m:Nat){x:Int}(hx:x.natAbs<W192)(k:Bool→Option α):g79 m (zs x) (zl x) k=k (zs (-x)):=by
 obtain⟨a,ea,la,ca⟩:=zcases x
 rw[ea] at hx
 rw[g79_o,la,g110Z _ _ hx,zneg ea ca]
theorem g71Z(m:Nat){x:Int}(hx:x.natAbs<W192)(k:Bool→Option α):g71 m (zs x) (zl x) k=k (zs (-x)):=by
 obtain⟨a,ea,la,ca⟩:=zcases x
 rw[ea] at hx
 rw[g71_o,la,g73Z _ _ hx,zneg ea ca]
theorem g41Z{x y:Int}(hx:x.natAbs<W192)(hy:y.natAbs<W192)(o:Bool)(k:Bool→List Int→Bool→Option α):
  g41 (n+7) (zs x) (zl x) (zs y) (zl y) o k=k (zs (zt (x-y))) (zl (zt (x-y))) (o|| !(fitZ (x-y))):=by
 rw[g41_o,g71Z _ hy,←zl_neg y,g53Z hx (by rw[Int.natAbs_neg];exact hy)]
 rfl
theorem g77Z(p:Nat){x:Int}(hp:p<192)(hx:x.natAbs<W192)(k:Bool→List Int→Int→Option α):
  g77 (n+40) (zs x) (zl x) (p:Int) k=cond (fitZ (x*2^p)) (k (zs (x*2^p)) (zl (x*2^p)) 0) (k false [0,0,0,0,0,0] 3):=by
 have e:(x*2^p).natAbs=x.natAbs*2^p:=by rw[Int.natAbs_mul,Int.natAbs_pow];rfl
 unfold zl
 rw[g77L n p (zs x) hp hx,fitZ_eq e,e]
 have hp2:=Nat.two_pow_pos p
 have:(zs x&& !(decide (x.natAbs*2^p=0)))=zs (x*2^p):=by
  unfold zs
  by_cases h:x<0
  ·have h1:0<x.natAbs:=by omega
   have h2:=Nat.mul_pos h1 hp2
   rw[decide_eq_true h,decide_eq_false (show¬x.natAbs*2^p=0 by omega),decide_eq_true]
   ·rfl
   ·exact Int.mul_neg_of_neg_of_pos h (Int.pow_pos (by decide))
  ·have h3:¬x*2^p<0:=by
    have:=Int.mul_nonneg (show 0≤x by omega) (Int.le_of_lt (Int.pow_pos (m:=p) (show(0:Int)<2 by decide)))
    omega
   rw[decide_eq_false h,decide_eq_false h3];rfl
 rw[this]
theorem g42Z(p:Nat){x:Int}(o:Bool)(hp:p<192)(hx:x.natAbs<W192)(k:Bool→List Int→Bool→Option α):
  g42 (n+40) (zs x) (zl x) (p:Int) o k=cond (fitZ (x*2^p)) (k (zs (x*2^p)) (zl (x*2^p)) o) (k false [0,0,0,0,0,0] true):=by
 have e:(x*2^p).natAbs=x.natAbs*2^p:=by rw[Int.natAbs_mul,Int.natAbs_pow];rfl
 unfold zl
 rw[show n+40=(n+33)+7 from rfl,g42L (n+33) p (zs x) o hp hx,fitZ_eq e,e]
 have hp2:=Nat.two_pow_pos p
 have:(zs x&& !(decide (x.natAbs*2^p=0)))=zs (x*2^p):=by
  unfold zs
  by_cases h:x<0
  ·have h1:0<x.natAbs:=by omega
   have h2:=Nat.mul_pos h1 hp2
   rw[decide_eq_true h,decide_eq_false (show¬x.natAbs*2^p=0 by omega),decide_eq_true]
   ·rfl
   ·exact Int.mul_neg_of_neg_of_pos h (Int.pow_pos (by decide))
  ·have h3:¬x*2^p<0:=by
    have:=Int.mul_nonneg (show 0≤x by omega) (Int.le_of_lt (Int.pow_pos (m:=p) (show(0:Int)<2 by decide)))
    omega
   rw[decide_eq_false h,decide_eq_false h3];rfl
 rw[this]
variable {α:Type} {n:Nat}
theorem two_limbs{v:Nat}(h:v<18446744073709551616):limbs 6 v=[((v%4294967296:Nat):Int),((v/4294967296:Nat):Int),0,0,0,0]:=by
 have h1:v/4294967296<4294967296:=by omega
 simp only[limbs,Nat.mod_eq_of_lt h1,Nat.div_eq_of_lt h1]<;>rfl
theorem limb0{v:Nat}(h:v<18446744073709551616):IntKind.wrap .u32 (v:Int)=((v%4294967296:Nat):Int):=wrapU32 v
theorem limb1{v:Nat}(h:v<18446744073709551616):IntKind.wrap .u32 (Int.fdiv (v:Int) (2^32))=((v/4294967296:Nat):Int):=by
 rw[show(2^32:Int)=((4294967296:Nat):Int) from rfl,fdivNat,wrapU32,Nat.mod_eq_of_lt (by omega)]
theorem u64_neg{x:Int}(h0:x<0)(h1:-9223372036854775808≤x):IntKind.wrap .u64 (0-IntKind.wrap .u64 x)=(x.natAbs:Int):=by
 have e:∀y:Int,IntKind.wrap .u64 y=y%18446744073709551616:=fun y=>by simp[IntKind.wrap,IntKind.bits,IntKind.signed]
 rw[e,e]
 omega
theorem small_w{x:Int}(h1:-9223372036854775808≤x)(h2:x≤9223372036854775807):x.natAbs<18446744073709551616:=by omega
theorem small_W{x:Int}(h1:-9223372036854775808≤x)(h2:x≤9223372036854775807):x.natAbs<W192:=by
 have:18446744073709551616≤W192:=by decide
 omega
theorem set01(a b:Int):List.set (List.set [0,0,0,0,0,0] 0 a) 1 b=[a,b,0,0,0,0]:=rfl
theorem g80Z(m:Nat){x:Int}(h1:-9223372036854775808≤x)(h2:x≤9223372036854775807)(k:Bool→List Int→Option α):g80 m x k=k (zs x) (zl x):=by
 have hv:=small_w h1 h2
 rw[g80_o]
 by_cases h:x<0
 ·rw[decide_eq_true h,cond_true]
  dsimp only
  rw[u64_neg h h1,limb0 hv,limb1 hv]
  rw[set01,←two_limbs hv,g110Z m true (small_W h1 h2),cond_true,show-(x.natAbs:Int)=x by omega];rfl
 ·rw[decide_eq_false h,cond_false]
  dsimp only
  have e:IntKind.wrap .u64 x=(x.natAbs:Int):=by rw[wrapU64 (by omega) (by omega)];omega
  rw[e,limb0 hv,limb1 hv]
  rw[set01,←two_limbs hv,g110Z m false (small_W h1 h2),cond_false,show(x.natAbs:Int)=x by omega];rfl
theorem g55Z(m:Nat){x:Int}(h1:-9223372036854775808≤x)(h2:x≤9223372036854775807)(k:Bool→List Int→Option α):g55 m x k=k (zs x) (zl x):=by
 have hv:=small_w h1 h2
 rw[g55_o]
 by_cases h:x<0
 ·rw[decide_eq_true h,cond_true]
  dsimp only
  rw[u64_neg h h1,limb0 hv,limb1 hv,←two_limbs hv,g73Z m true (small_W h1 h2),cond_true,show-(x.natAbs:Int)=x by omega];rfl
 ·rw[decide_eq_false h,cond_false]
  dsimp only
  have e:IntKind.wrap .u64 x=(x.natAbs:Int):=by rw[wrapU64 (by omega) (by omega)];omega
  rw[e,limb0 hv,limb1 hv,←two_limbs hv,g73Z m false (small_W h1 h2),cond_false,show(x.natAbs:Int)=x by omega];rfl
theorem zs_mul{x y:Int}:(!(zs x==zs y)&& !(decide (x.natAbs*y.natAbs=0)))=zs (x*y):=by
 unfold zs
 by_cases hx:x<0<;>by_cases hy:y<0
 ·have h:=Int.mul_pos_of_neg_of_neg hx hy
  rw[decide_eq_true hx,decide_eq_true hy,decide_eq_false (show¬x*y<0 by omega)];rfl
 ·rw[decide_eq_true hx,decide_eq_false hy]
  by_cases h0:y=0
  ·subst h0;simp
  ·have h:=Nat.mul_pos (show 0<x.natAbs by omega) (show 0<y.natAbs by omega)
   rw[decide_eq_true (Int.mul_neg_of_neg_of_pos hx (by omega)),decide_eq_false (show¬x.natAbs*y.natAbs=0 by omega)];rfl
 ·rw[decide_eq_false hx,decide_eq_true hy]
  by_cases h0:x=0
  ·subst h0;simp
  ·have h:=Nat.mul_pos (show 0<x.natAbs by omega) (show 0<y.natAbs by omega)
   rw[decide_eq_true (Int.mul_neg_of_pos_of_neg (by omega) hy),decide_eq_false (show¬x.natAbs*y.natAbs=0 by omega)];rfl
 ·have h:=Int.mul_nonneg (show 0≤x by omega) (show 0≤y by omega)
  rw[decide_eq_false hx,decide_eq_false hy,decide_eq_false (show¬x*y<0 by omega)];rfl
theorem g54Z{x y:Int}(hx:x.natAbs<W192)(hy:y.natAbs<W192)(o:Bool)(k:Bool→List Int→Bool→Option α):
  g54 (n+7) (zs x) (zl x) (zs y) (zl y) o k=cond (fitZ (x*y)) (k (zs (x*y)) (zl (x*y)) o) (k false [0,0,0,0,0,0] true):=by
 rw[g54_o]
 unfold zl
 rw[g85L n hx hy,fitZ_eq (Int.natAbs_mul x y)]
 by_cases h:x.natAbs*y.natAbs<W192
 ·rw[decide_eq_true h,cond_true,cond_true]
  have e:g73 (n+7) (!(zs x==zs y)) (limbs 6 (x.natAbs*y.natAbs))=fun(k:Bool→Option α)=>k (zs (x*y)):=by
   funext k;rw[g73L _ _ h,zs_mul]
  rw[e,Int.natAbs_mul]
  cases o<;>rfl
 ·rw[decide_eq_false h,cond_false,cond_false]
  have e:∀q,g73 (n+7) q [0,0,0,0,0,0]=fun(k:Bool→Option α)=>k false:=by
   intro q;funext k;cases q<;>kernel_rfl
  rw[e]
  cases o<;>rfl
variable {α:Type} {n:Nat}
theorem mk_zs(c:Bool)(v:Nat):(c&& !(decide (v=0)))=zs (cond c (-(v:Int)) v):=by
 cases c
 ·rw[cond_false,zs_nat];rfl
 ·rw[cond_true,zs_negnat];rfl
theorem mk_zl(c:Bool)(v:Nat):limbs 6 v=zl (cond c (-(v:Int)) v):=by
 cases c
 ·rfl
 ·rw[cond_true,zl_neg];rfl
theorem zs_mk(x:Int):x=cond (zs x) (-(x.natAbs:Int)) x.natAbs:=by
 unfold zs
 by_cases h:x<0
 ·rw[decide_eq_true h,cond_true];omega
 ·rw[decide_eq_false h,cond_false];omega
theorem div_pos(s:Bool){a b:Nat}(hb:0<b):(cond s (-(a:Int)) a)/(b:Int)=cond s (-(dQ s false a b:Int)) (dQ s false a b)∧(cond s (-(a:Int)) a)%(b:Int)=dR s false a b:=by
 have h:=Nat.div_add_mod a b
 have hr:=Nat.mod_lt a hb
 refine(Int.ediv_emod_unique (by omega)).2 ?_
 have h':(b:Int)*((a/b:Nat):Int)+((a%b:Nat):Int)=a:=by
  rw[←Int.natCast_mul,←Int.natCast_add,h]
 unfold dQ dR ups
 cases s
 ·simp only[beq_self_eq_true,Bool.not_true,Bool.false_and,cond_false]
  exact⟨by omega,by omega,by omega⟩
 ·simp only[show(true==false)=false from rfl,Bool.not_false,Bool.true_and,cond_true]
  by_cases h0:a%b=0
  ·rw[decide_eq_true h0,Bool.not_true,cond_false,cond_false]
   refine⟨?_,by omega,by omega⟩
   rw[Int.mul_neg];omega
  ·rw[decide_eq_false h0,Bool.not_false,cond_true,cond_true]
   refine⟨?_,by omega,by omega⟩
   rw[Int.natCast_add,Int.mul_neg,Int.mul_add]
   omega
theorem div_parts(s t:Bool){a b:Nat}(hb:0<b):cond (!(s==t)) (-(dQ s t a b:Int)) (dQ s t a b)=(cond s (-(a:Int)) a).fdiv (cond t (-(b:Int)) b)∧cond t (-(dR s t a b:Int)) (dR s t a b)=(cond s (-(a:Int)) a).fmod (cond t (-(b:Int)) b):=by
 cases t
 ·obtain⟨h1,h2⟩:=div_pos (a:=a) s hb
  rw[cond_false,cond_false,Int.fdiv_eq_ediv_of_nonneg _ (by omega),Int.fmod_eq_emod_of_nonneg _ (by omega),h1,h2]
  cases s<;>exact⟨rfl,rfl⟩
 ·obtain⟨h1,h2⟩:=div_pos (a:=a) (!s) hb
  rw[cond_true,cond_true]
  have e:(cond s (-(a:Int)) a)=-(cond (!s) (-(a:Int)) a):=by cases s<;>simp
  rw[e,Int.neg_fdiv_neg,Int.fmod_def,Int.neg_fdiv_neg,Int.fdiv_eq_ediv_of_nonneg _ (by omega)]
  have hd:dQ s true a b=dQ (!s) false a b:=by unfold dQ ups;cases s<;>rfl
  have hd2:dR s true a b=dR (!s) false a b:=by unfold dR ups;cases s<;>rfl
  rw[hd,hd2,←h2]
  constructor
  ·rw[h1];cases s<;>rfl
  ·have:=Int.emod_def (cond (!s) (-(a:Int)) a) b
   rw[this,Int.neg_mul];omega
theorem nz_abs{y:Int}(h:y≠0):0<y.natAbs:=by omega
theorem div_Z{x y:Int}(hy:y≠0):(cond (!(zs x==zs y)) (-(dQ (zs x) (zs y) x.natAbs y.natAbs:Int)) (dQ (zs x) (zs y) x.natAbs y.natAbs)=x.fdiv y)∧cond (zs y) (-(dR (zs x) (zs y) x.natAbs y.natAbs:Int)) (dR (zs x) (zs y) x.natAbs y.natAbs)=x.fmod y:=by
 have h:=div_parts (zs x) (zs y) (a:=x.natAbs) (nz_abs hy)
 rw[←zs_mk x,←zs_mk y] at h
 exact h
theorem g118Z(m:Nat)(hm:240≤m){x y:Int}(hx:x.natAbs<W192)(hy:y.natAbs<W192)(h0:y≠0)(k:Bool→List Int→Bool→List Int→Option α):
  g118 m (zs x) (zl x) (zs y) (zl y) k=k (zs (x.fdiv y)) (zl (x.fdiv y)) (zs (x.fmod y)) (zl (x.fmod y)):=by
 unfold zl
 obtain⟨h1,h2⟩:=div_Z (x:=x) h0
 rw[g118L m hm (zs x) (zs y) hx (nz_abs h0) hy,mk_zs,mk_zs,mk_zl (!(zs x==zs y)),mk_zl (zs y),h1,h2];rfl
theorem g112Z(m:Nat)(hm:240≤m){x y:Int}(hx:x.natAbs<W192)(hy:y.natAbs<W192)(h0:y≠0)(k:Bool→List Int→Bool→List Int→Option α):
  g112 m (zs x) (zl x) (zs y) (zl y) k=k (zs (x.fdiv y)) (zl (x.fdiv y)) (zs (x.fmod y)) (zl (x.fmod y)):=by
 unfold zl
 obtain⟨h1,h2⟩:=div_Z (x:=x) h0
 rw[g112L m hm (zs x) (zs y) hx (nz_abs h0) hy,mk_zs,mk_zs,mk_zl (!(zs x==zs y)),mk_zl (zs y),h1,h2];rfl
theorem fdiv_fit{x y:Int}(hx:x.natAbs<W192)(h0:y≠0):(x.fdiv y).natAbs<W192∧(1<y.natAbs→(x.fdiv y).natAbs+1<W192):=by
 obtain⟨h1,_⟩:=div_Z (x:=x) h0
 obtain⟨g1,g2⟩:=dQ_lt (s:=zs x) (t:=zs y) hx (nz_abs h0)
 rw[←h1]
 cases(!(zs x==zs y))<;>simp only[cond_true,cond_false,Int.natAbs_neg,Int.natAbs_natCast]<;>exact⟨g1,fun h=>g2 (by omega)⟩
theorem fmod_abs{x y:Int}(hy:y.natAbs<W192)(h0:y≠0):(x.fmod y).natAbs=dR (zs x) (zs y) x.natAbs y.natAbs∧(x.fmod y).natAbs<W192∧(x.fmod y).natAbs<y.natAbs:=by
 obtain⟨_,h2⟩:=div_Z (x:=x) h0
 obtain⟨g1,g2⟩:=dR_lt (s:=zs x) (t:=zs y) (a:=x.natAbs) (nz_abs h0) hy
 have hr:=Nat.mod_lt x.natAbs (nz_abs h0)
 have g3:dR (zs x) (zs y) x.natAbs y.natAbs<y.natAbs:=by
  unfold dR ups
  cases(!(zs x==zs y))<;>simp only[Bool.false_and,Bool.true_and,cond_false]
  ·exact hr
  ·by_cases h:x.natAbs%y.natAbs=0
   ·rw[decide_eq_true h,Bool.not_true,cond_false];exact hr
   ·rw[decide_eq_false h,Bool.not_false,cond_true];omega
 have e:(x.fmod y).natAbs=dR (zs x) (zs y) x.natAbs y.natAbs:=by
  rw[←h2]
  generalize dR (zs x) (zs y) x.natAbs y.natAbs=D
  cases zs y<;>simp only[cond_true,cond_false,Int.natAbs_neg,Int.natAbs_natCast]
 exact⟨e,by omega,by omega⟩
def dnZ(x y:Int):Int:=cond (decide (y.natAbs≤2*(x.fmod y).natAbs)) (x.fdiv y+1) (x.fdiv y)
theorem dn_res(m:Nat)(hm:240≤m){x y:Int}(hx:x.natAbs<W192)(hy:y.natAbs<W192)(h0:y≠0):(dnZ x y).natAbs<W192∧
  (y.natAbs≤2*(x.fmod y).natAbs→(x.fdiv y+1).natAbs<W192):=by
 have h1:=(fdiv_fit hx h0)
 have h2:=(fmod_abs (x:=x) hy h0).2.2
 unfold dnZ
 by_cases h:y.natAbs≤2*(x.fmod y).natAbs
 ·rw[decide_eq_true h,cond_true]
  have:=h1.2 (by omega)
  exact⟨by omega,fun _=>by omega⟩
 ·rw[decide_eq_false h,cond_false]
  exact⟨h1.1,fun g=>absurd g h⟩
theorem g98Z(m:Nat)(hm:240≤m){x y:Int}(hx:x.natAbs<W192)(hy:y.natAbs<W192)(h0:y≠0)(k:Bool→List Int→Option α):
  g98 m (zs x) (zl x) (zs y) (zl y) k=k (zs (dnZ x y)) (zl (dnZ x y)):=by
 obtain⟨m,rfl⟩:∃j,m=j+7:=⟨m-7,by omega⟩
 obtain⟨r1,r2,r3⟩:=fmod_abs (x:=x) hy h0
 have hf:=dn_res (m+7) hm hx hy h0
 rw[g98U,g118Z _ hm hx hy h0]
 unfold zl
 rw[g108L m (show(x.fmod y).natAbs≤y.natAbs by omega),g111L m r2 (by omega),cmpN_ge0]
 unfold dnZ
 by_cases h:y.natAbs≤2*(x.fmod y).natAbs
 ·rw[decide_eq_true (show y.natAbs-(x.fmod y).natAbs≤(x.fmod y).natAbs by omega),cond_true,decide_eq_true h,cond_true]
  have e:=g80Z (α:=α) (m+7) (x:=1) (by omega) (by omega)
  rw[e]
  have:=g78Z (α:=α) (n:=m) (x:=x.fdiv y) (y:=1) (fdiv_fit hx h0).1 (by decide)
  unfold zl at this
  rw[show zl 1=limbs 6 (1:Int).natAbs from rfl,this,fitZ_iff.2 (hf.2 h),cond_true]
 ·rw[decide_eq_false (show¬y.natAbs-(x.fmod y).natAbs≤(x.fmod y).natAbs by omega),cond_false,decide_eq_false h,cond_false]
theorem g87Z(m:Nat)(hm:240≤m){x y:Int}(hx:x.natAbs<W192)(hy:y.natAbs<W192)(h0:y≠0)(o:Bool)(k:Bool→List Int→Bool→Option α):
  g87 m (zs x) (zl x) (zs y) (zl y) o k=k (zs (dnZ x y)) (zl (dnZ x y)) o:=by
 obtain⟨m,rfl⟩:∃j,m=j+7:=⟨m-7,by omega⟩
 obtain⟨r1,r2,r3⟩:=fmod_abs (x:=x) hy h0
 have hf:=dn_res (m+7) hm hx hy h0
 rw[g87U,g112Z _ hm hx hy h0]
 unfold zl
 rw[g84L m (show(x.fmod y).natAbs≤y.natAbs by omega),g46L m r2 (by omega),cmpN_lt0]
 unfold dnZ
 by_cases h:y.natAbs≤2*(x.fmod y).natAbs
 ·rw[decide_eq_false (show¬(x.fmod y).natAbs<y.natAbs-(x.fmod y).natAbs by omega),cond_false,decide_eq_true h,cond_true]
  have e:=g55Z (α:=α) (m+7) (x:=1) (by omega) (by omega)
  rw[e]
  have:=g53Z (α:=α) (n:=m) (x:=x.fdiv y) (y:=1) (fdiv_fit hx h0).1 (by decide) o
  unfold zl at this
  rw[show zl 1=limbs 6 (1:Int).natAbs from rfl,this,fitZ_iff.2 (hf.2 h),zt_of (hf.2 h),Bool.not_true,Bool.or_false]
 ·rw[decide_eq_true (show(x.fmod y).natAbs<y.natAbs-(x.fmod y).natAbs by omega),cond_true,decide_eq_false h,cond_false]
def nearZ(x:Int)(p:Nat):Int:=cond (decide (p=0)) x ((x+2^(p-1))/2^p)
theorem nearN_Z(x:Int){p:Nat}(hp:0<p):cond (zs x) (-(nearN (zs x) x.natAbs p:Int)) (nearN (zs x) x.natAbs p)=nearZ x p:=by
 unfold nearZ
 rw[decide_eq_false (show¬p=0 by omega),cond_false]
 generalize ha:x.natAbs=a
 have h2:(2:Nat)^p=2*2^(p-1):=by rw[←Nat.pow_succ'];congr 1;omega
 have hh:=Nat.two_pow_pos (p-1)
 have hdm:=Nat.div_add_mod a (2^p)
 have hml:=Nat.mod_lt a (Nat.two_pow_pos p)
 have c1:(2:Int)^p=((2^p:Nat):Int):=by norm_cast
 have c2:(2:Int)^(p-1)=((2^(p-1):Nat):Int):=by norm_cast
 rw[c1,c2]
 have hdm':((2^p:Nat):Int)*((a/2^p:Nat):Int)+((a%2^p:Nat):Int)=a:=by
  rw[←Int.natCast_mul,←Int.natCast_add,hdm]
 generalize hB:(2^p:Nat)=B at*
 generalize hH:(2^(p-1):Nat)=H at*
 symm
 suffices hs:∀q r:Int,r+(B:Int)*q=x+H→0≤r→r<B→(x+H)/(B:Int)=q by
  unfold nearN
  rw[hB,hH]
  unfold zs
  by_cases hx:x<0
  ·rw[decide_eq_true hx,cond_true,cond_true]
   by_cases hc:H<a%B
   ·rw[decide_eq_true hc,cond_true]
    refine hs _ ((B:Int)+H-((a%B:Nat):Int)) ?_ (by omega) (by omega)
    rw[Int.natCast_add,Int.mul_neg,Int.mul_add];omega
   ·rw[decide_eq_false hc,cond_false]
    refine hs _ ((H:Int)-((a%B:Nat):Int)) ?_ (by omega) (by omega)
    rw[Int.mul_neg];omega
  ·rw[decide_eq_false hx,cond_false,cond_false]
   by_cases hc:H≤a%B
   ·rw[decide_eq_true hc,cond_true]
    refine hs _ (((a%B:Nat):Int)-H) ?_ (by omega) (by omega)
    rw[Int.natCast_add,Int.mul_add];omega
   ·rw[decide_eq_false hc,cond_false]
    refine hs _ (((a%B:Nat):Int)+H) ?_ (by omega) (by omega)
    omega
 intro q r h1 h3 h4
 exact((Int.ediv_emod_unique (by omega)).2 ⟨h1,h3,h4⟩).1
theorem g74W(p:Nat)(hp:p<192){x:Int}(hx:x.natAbs<W192)(o:Bool)(k:Bool→List Int→Bool→Option α):
  g74 (n+7) (zs x) (zl x) (p:Int) o k=k (zs (nearZ x p)) (zl (nearZ x p)) o:=by
 by_cases h0:p=0
 ·subst h0
  exact g74Z n (zs x) o hx k
 ·have e:=nearN_Z x (show 0<p by omega)
  unfold zl
  rw[g74L n p (zs x) o (by omega) hp hx,mk_zs,mk_zl (zs x),e];rfl
theorem rootN_spec(a:Nat):∀(i R:Nat),R*R≤a→a<(R+2^(i+1))*(R+2^(i+1))→rootN a i R*rootN a i R≤a∧a<(rootN a i R+1)*(rootN a i R+1):=by
 have step:∀i R,R*R≤a→a<(R+2^(i+1))*(R+2^(i+1))→rootStep a i R*rootStep a i R≤a∧a<(rootStep a i R+2^i)*(rootStep a i R+2^i):=by
  intro i R h1 h2
  unfold rootStep
  by_cases h:(R+2^i)*(R+2^i)≤a
  ·rw[decide_eq_true h,cond_true]
   refine⟨h, ?_⟩
   rw[show R+2^i+2^i=R+2^(i+1) by rw[Nat.pow_succ];omega]
   exact h2
  ·rw[decide_eq_false h,cond_false]
   exact⟨h1,by omega⟩
 intro i
 induction i with
 |zero=>intro R h1 h2;exact step 0 R h1 h2
 |succ i ih=>
  intro R h1 h2
  obtain⟨g1,g2⟩:=step (i+1) R h1 h2
  exact ih _ g1 g2
def isq(a:Nat):Nat:=rootN a ((Nat.log2 a+2)/2) 0
theorem isq_unique{a R S:Nat}(h1:R*R≤a)(h2:a<(R+1)*(R+1))(h3:S*S≤a)(h4:a<(S+1)*(S+1)):R=S:=by
 rcases Nat.lt_trichotomy R S with h|h|h
 ·have:=Nat.mul_le_mul (show R+1≤S by omega) (show R+1≤S by omega);omega
 ·exact h
 ·have:=Nat.mul_le_mul (show S+1≤R by omega) (show S+1≤R by omega);omega
theorem root_start{a b i:Nat}(hb:a<2^b)(hi:b≤2*i):a<(0+2^(i+1))*(0+2^(i+1)):=by
 rw[Nat.zero_add,←Nat.pow_add]
 exact Nat.lt_of_lt_of_le hb (Nat.pow_le_pow_right (by decide) (by omega))
theorem isq_spec(a:Nat):isq a*isq a≤a∧a<(isq a+1)*(isq a+1):=
 rootN_spec a _ 0 (by omega) (root_start (b:=Nat.log2 a+1) Nat.lt_log2_self (by omega))
theorem rootN_isq{a b:Nat}(hb:isLen a b=true):rootN a ((b+1)/2) 0=isq a:=by
 obtain⟨h1,h2⟩:=rootN_spec a ((b+1)/2) 0 (by omega) (root_start (isLen_iff.1 hb).1 (by omega))
 obtain⟨h3,h4⟩:=isq_spec a
 exact isq_unique h1 h2 h3 h4
theorem isq_le(a:Nat):isq a≤a:=by
 obtain⟨h1,h2⟩:=isq_spec a
 rcases Nat.eq_zero_or_pos (isq a) with h|h
 ·omega
 ·have:=Nat.mul_le_mul_left (isq a) h;omega
theorem g92N(n:Nat)(hn:100≤n){a:Nat}(ha:a<W192)(k:List Int→Option α):g92 (n+40) (limbs 6 a) k=k (limbs 6 (isq a)):=by
 obtain⟨b,hb⟩:=len_of a
 have hb192:=len_le192 ha hb
 rw[g92M,g72L (n+33) ha hb,half_start hb192]
 have:=g92loop (α:=α) n ha [0,0,0,0,0,0] (fun l=>k l) ((b+1)/2) (n+40) 0 (by omega) (by omega) (start_ok hb192)
 rw[show limbs 6 0=[0,0,0,0,0,0] from rfl] at this
 rw[this,rootN_isq hb]
variable {α:Type} {n:Nat}
theorem g121W(m:Nat){x:Int}(hx:x.natAbs<W192)(k:Int→Option α):g121 m (zs x) (zl x) k=k x.sign:=by
 unfold zl
 rw[g121L m (zs x) hx]
 unfold zs
 rcases Int.lt_trichotomy x 0 with h|h|h
 ·rw[decide_eq_true h,cond_true,Int.sign_eq_neg_one_of_neg h]
 ·subst h;rfl
 ·rw[decide_eq_false (show¬x<0 by omega),cond_false,decide_eq_false (show¬x.natAbs=0 by omega),cond_false,Int.sign_eq_one_of_pos h]
theorem g75W(m:Nat){x:Int}(hx:x.natAbs<W192)(k:Int→Option α):g75 m (zs x) (zl x) k=k x.sign:=by
 unfold zl
 rw[g75L m (zs x) hx]
 unfold zs
 rcases Int.lt_trichotomy x 0 with h|h|h
 ·rw[decide_eq_true h,cond_true,Int.sign_eq_neg_one_of_neg h]
 ·subst h;rfl
 ·rw[decide_eq_false (show¬x<0 by omega),cond_false,decide_eq_false (show¬x.natAbs=0 by omega),cond_false,Int.sign_eq_one_of_pos h]
theorem sign_ne{y:Int}(h:y≠0):(y.sign==0)=false:=by
 have:y.sign≠0:=fun e=>h (Int.sign_eq_zero_iff_zero.1 e)
 simpa using this
theorem abs_zl(x:Int):zl x=zl (x.natAbs:Int):=rfl
end Go.Proofs.YtlmmgjngihlpeaaGreat.Sx
