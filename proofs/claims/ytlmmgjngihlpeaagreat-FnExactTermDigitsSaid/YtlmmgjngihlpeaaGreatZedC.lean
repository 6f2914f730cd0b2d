/- Plain laws: quotients, what is nearest, roots and powers of whole numbers. Our own work. -/
import Derived.Test.YtlmmgjngihlpeaaGreatZedB
import Derived.Test.YtlmmgjngihlpeaaGreatPureZb
namespace Go.Proofs.YtlmmgjngihlpeaaGreat.Sx
open Go
set_option linter.unusedVariables false
set_option linter.unusedSimpArgs false
set_option maxRecDepth 100000
variable {α:Type} {n:Nat}
theorem mk_zs(c:Bool)(v:Nat):(c&& !(decide (v=0)))=zs (cond c (-(v:Int)) v):=by
 cases c
 ·rw[cond_false,zs_nat];rfl
 ·rw[cond_true,zs_negnat];rfl
theorem mk_zl(c:Bool)(v:Nat):limbs 6 v=zl (cond c (-(v:Int)) v):=by
 cases c
 ·rfl
 ·rw[cond_true,zl_neg];rfl
theorem zs_mk(x:Int):x=cond (zs x) (-(x.natAbs:Int)) x.natAbs:=by
 unfold zs
 by_cases h:x<0
 ·rw[decide_eq_true h,cond_true];omega
 ·rw[decide_eq_false h,cond_false];omega
theorem div_pos(s:Bool){a b:Nat}(hb:0<b):(cond s (-(a:Int)) a)/(b:Int)=cond s (-(dQ s false a b:Int)) (dQ s false a b)∧(cond s (-(a:Int)) a)%(b:Int)=dR s false a b:=by
 have h:=Nat.div_add_mod a b
 have hr:=Nat.mod_lt a hb
 refine(Int.ediv_emod_unique (by omega)).2 ?_
 have h':(b:Int)*((a/b:Nat):Int)+((a%b:Nat):Int)=a:=by
  rw[←Int.natCast_mul,←Int.natCast_add,h]
 unfold dQ dR ups
 cases s
 ·simp only[beq_self_eq_true,Bool.not_true,Bool.false_and,cond_false]
  exact⟨by omega,by omega,by omega⟩
 ·simp only[show(true==false)=false from rfl,Bool.not_false,Bool.true_and,cond_true]
  by_cases h0:a%b=0
  ·rw[decide_eq_true h0,Bool.not_true,cond_false,cond_false]
   refine⟨?_,by omega,by omega⟩
   rw[Int.mul_neg];omega
  ·rw[decide_eq_false h0,Bool.not_false,cond_true,cond_true]
   refine⟨?_,by omega,by omega⟩
   rw[Int.natCast_add,Int.mul_neg,Int.mul_add]
   omega
theorem div_parts(s t:Bool){a b:Nat}(hb:0<b):cond (!(s==t)) (-(dQ s t a b:Int)) (dQ s t a b)=(cond s (-(a:Int)) a).fdiv (cond t (-(b:Int)) b)∧cond t (-(dR s t a b:Int)) (dR s t a b)=(cond s (-(a:Int)) a).fmod (cond t (-(b:Int)) b):=by
 cases t
 ·obtain⟨h1,h2⟩:=div_pos (a:=a) s hb
  rw[cond_false,cond_false,Int.fdiv_eq_ediv_of_nonneg _ (by omega),Int.fmod_eq_emod_of_nonneg _ (by omega),h1,h2]
  cases s<;>exact⟨rfl,rfl⟩
 ·obtain⟨h1,h2⟩:=div_pos (a:=a) (!s) hb
  rw[cond_true,cond_true]
  have e:(cond s (-(a:Int)) a)=-(cond (!s) (-(a:Int)) a):=by cases s<;>simp
  rw[e,Int.neg_fdiv_neg,Int.fmod_def,Int.neg_fdiv_neg,Int.fdiv_eq_ediv_of_nonneg _ (by omega)]
  have hd:dQ s true a b=dQ (!s) false a b:=by unfold dQ ups;cases s<;>rfl
  have hd2:dR s true a b=dR (!s) false a b:=by unfold dR ups;cases s<;>rfl
  rw[hd,hd2,←h2]
  constructor
  ·rw[h1];cases s<;>rfl
  ·have:=Int.emod_def (cond (!s) (-(a:Int)) a) b
   rw[this,Int.neg_mul];omega
theorem nz_abs{y:Int}(h:y≠0):0<y.natAbs:=by omega
theorem div_Z{x y:Int}(hy:y≠0):(cond (!(zs x==zs y)) (-(dQ (zs x) (zs y) x.natAbs y.natAbs:Int)) (dQ (zs x) (zs y) x.natAbs y.natAbs)=x.fdiv y)∧cond (zs y) (-(dR (zs x) (zs y) x.natAbs y.natAbs:Int)) (dR (zs x) (zs y) x.natAbs y.natAbs)=x.fmod y:=by
 have h:=div_parts (zs x) (zs y) (a:=x.natAbs) (nz_abs hy)
 rw[←zs_mk x,←zs_mk y] at h
 exact h
theorem g118Z(m:Nat)(hm:240≤m){x y:Int}(hx:x.natAbs<W192)(hy:y.natAbs<W192)(h0:y≠0)(k:Bool→List Int→Bool→List Int→Option α):
  g118 m (zs x) (zl x) (zs y) (zl y) k=k (zs (x.fdiv y)) (zl (x.fdiv y)) (zs (x.fmod y)) (zl (x.fmod y)):=by
 unfold zl
 obtain⟨h1,h2⟩:=div_Z (x:=x) h0
 rw[g118L m hm (zs x) (zs y) hx (nz_abs h0) hy,mk_zs,mk_zs,mk_zl (!(zs x==zs y)),mk_zl (zs y),h1,h2];rfl
theorem g112Z(m:Nat)(hm:240≤m){x y:Int}(hx:x.natAbs<W192)(hy:y.natAbs<W192)(h0:y≠0)(k:Bool→List Int→Bool→List Int→Option α):
  g112 m (zs x) (zl x) (zs y) (zl y) k=k (zs (x.fdiv y)) (zl (x.fdiv y)) (zs (x.fmod y)) (zl (x.fmod y)):=by
 unfold zl
 obtain⟨h1,h2⟩:=div_Z (x:=x) h0
 rw[g112L m hm (zs x) (zs y) hx (nz_abs h0) hy,mk_zs,mk_zs,mk_zl (!(zs x==zs y)),mk_zl (zs y),h1,h2];rfl
theorem fdiv_fit{x y:Int}(hx:x.natAbs<W192)(h0:y≠0):(x.fdiv y).natAbs<W192∧(1<y.natAbs→(x.fdiv y).natAbs+1<W192):=by
 obtain⟨h1,_⟩:=div_Z (x:=x) h0
 obtain⟨g1,g2⟩:=dQ_lt (s:=zs x) (t:=zs y) hx (nz_abs h0)
 rw[←h1]
 cases(!(zs x==zs y))<;>simp only[cond_true,cond_false,Int.natAbs_neg,Int.natAbs_natCast]<;>exact⟨g1,fun h=>g2 (by omega)⟩
theorem fmod_abs{x y:Int}(hy:y.natAbs<W192)(h0:y≠0):(x.fmod y).natAbs=dR (zs x) (zs y) x.natAbs y.natAbs∧(x.fmod y).natAbs<W192∧(x.fmod y).natAbs<y.natAbs:=by
 obtain⟨_,h2⟩:=div_Z (x:=x) h0
 obtain⟨g1,g2⟩:=dR_lt (s:=zs x) (t:=zs y) (a:=x.natAbs) (nz_abs h0) hy
 have hr:=Nat.mod_lt x.natAbs (nz_abs h0)
 have g3:dR (zs x) (zs y) x.natAbs y.natAbs<y.natAbs:=by
  unfold dR ups
  cases(!(zs x==zs y))<;>simp only[Bool.false_and,Bool.true_and,cond_false]
  ·exact hr
  ·by_cases h:x.natAbs%y.natAbs=0
   ·rw[decide_eq_true h,Bool.not_true,cond_false];exact hr
   ·rw[decide_eq_false h,Bool.not_false,cond_true];omega
 have e:(x.fmod y).natAbs=dR (zs x) (zs y) x.natAbs y.natAbs:=by
  rw[←h2]
  generalize dR (zs x) (zs y) x.natAbs y.natAbs=D
  cases zs y<;>simp only[cond_true,cond_false,Int.natAbs_neg,Int.natAbs_natCast]
 exact⟨e,by omega,by omega⟩
def dnZ(x y:Int):Int:=cond (decide (y.natAbs≤2*(x.fmod y).natAbs)) (x.fdiv y+1) (x.fdiv y)
theorem dn_res(m:Nat)(hm:240≤m){x y:Int}(hx:x.natAbs<W192)(hy:y.natAbs<W192)(h0:y≠0):(dnZ x y).natAbs<W192∧
  (y.natAbs≤2*(x.fmod y).natAbs→(x.fdiv y+1).natAbs<W192):=by
 have h1:=(fdiv_fit hx h0)
 have h2:=(fmod_abs (x:=x) hy h0).2.2
 unfold dnZ
 by_cases h:y.natAbs≤2*(x.fmod y).natAbs
 ·rw[decide_eq_true h,cond_true]
  have:=h1.2 (by omega)
  exact⟨by omega,fun _=>by omega⟩
 ·rw[decide_eq_false h,cond_false]
  exact⟨h1.1,fun g=>absurd g h⟩
theorem g98Z(m:Nat)(hm:240≤m){x y:Int}(hx:x.natAbs<W192)(hy:y.natAbs<W192)(h0:y≠0)(k:Bool→List Int→Option α):
  g98 m (zs x) (zl x) (zs y) (zl y) k=k (zs (dnZ x y)) (zl (dnZ x y)):=by
 obtain⟨m,rfl⟩:∃j,m=j+7:=⟨m-7,by omega⟩
 obtain⟨r1,r2,r3⟩:=fmod_abs (x:=x) hy h0
 have hf:=dn_res (m+7) hm hx hy h0
 rw[g98U,g118Z _ hm hx hy h0]
 unfold zl
 rw[g108L m (show(x.fmod y).natAbs≤y.natAbs by omega),g111L m r2 (by omega),cmpN_ge0]
 unfold dnZ
 by_cases h:y.natAbs≤2*(x.fmod y).natAbs
 ·rw[decide_eq_true (show y.natAbs-(x.fmod y).natAbs≤(x.fmod y).natAbs by omega),cond_true,decide_eq_true h,cond_true]
  have e:=g80Z (α:=α) (m+7) (x:=1) (by omega) (by omega)
  rw[e]
  have:=g78Z (α:=α) (n:=m) (x:=x.fdiv y) (y:=1) (fdiv_fit hx h0).1 (by decide)
  unfold zl at this
  rw[show zl 1=limbs 6 (1:Int).natAbs from rfl,this,fitZ_iff.2 (hf.2 h),cond_true]
 ·rw[decide_eq_false (show¬y.natAbs-(x.fmod y).natAbs≤(x.fmod y).natAbs by omega),cond_false,decide_eq_false h,cond_false]
theorem g87Z(m:Nat)(hm:240≤m){x y:Int}(hx:x.natAbs<W192)(hy:y.natAbs<W192)(h0:y≠0)(o:Bool)(k:Bool→List Int→Bool→Option α):
  g87 m (zs x) (zl x) (zs y) (zl y) o k=k (zs (dnZ x y)) (zl (dnZ x y)) o:=by
 obtain⟨m,rfl⟩:∃j,m=j+7:=⟨m-7,by omega⟩
 obtain⟨r1,r2,r3⟩:=fmod_abs (x:=x) hy h0
 have hf:=dn_res (m+7) hm hx hy h0
 rw[g87U,g112Z _ hm hx hy h0]
 unfold zl
 rw[g84L m (show(x.fmod y).natAbs≤y.natAbs by omega),g46L m r2 (by omega),cmpN_lt0]
 unfold dnZ
 by_cases h:y.natAbs≤2*(x.fmod y).natAbs
 ·rw[decide_eq_false (show¬(x.fmod y).natAbs<y.natAbs-(x.fmod y).natAbs by omega),cond_false,decide_eq_true h,cond_true]
  have e:=g55Z (α:=α) (m+7) (x:=1) (by omega) (by omega)
  rw[e]
  have:=g53Z (α:=α) (n:=m) (x:=x.fdiv y) (y:=1) (fdiv_fit hx h0).1 (by decide) o
  unfold zl at this
  rw[show zl 1=limbs 6 (1:Int).natAbs from rfl,this,fitZ_iff.2 (hf.2 h),zt_of (hf.2 h),Bool.not_true,Bool.or_false]
 ·rw[decide_eq_true (show(x.fmod y).natAbs<y.natAbs-(x.fmod y).natAbs by omega),cond_true,decide_eq_false h,cond_false]
def nearZ(x:Int)(p:Nat):Int:=cond (decide (p=0)) x ((x+2^(p-1))/2^p)
theorem nearN_Z(x:Int){p:Nat}(hp:0<p):cond (zs x) (-(nearN (zs x) x.natAbs p:Int)) (nearN (zs x) x.natAbs p)=nearZ x p:=by
 unfold nearZ
 rw[decide_eq_false (show¬p=0 by omega),cond_false]
 generalize ha:x.natAbs=a
 have h2:(2:Nat)^p=2*2^(p-1):=by rw[←Nat.pow_succ'];congr 1;omega
 have hh:=Nat.two_pow_pos (p-1)
 have hdm:=Nat.div_add_mod a (2^p)
 have hml:=Nat.mod_lt a (Nat.two_pow_pos p)
 have c1:(2:Int)^p=((2^p:Nat):Int):=by norm_cast
 have c2:(2:Int)^(p-1)=((2^(p-1):Nat):Int):=by norm_cast
 rw[c1,c2]
 have hdm':((2^p:Nat):Int)*((a/2^p:Nat):Int)+((a%2^p:Nat):Int)=a:=by
  rw[←Int.natCast_mul,←Int.natCast_add,hdm]
 generalize hB:(2^p:Nat)=B at*
 generalize hH:(2^(p-1):Nat)=H at*
 symm
 suffices hs:∀q r:Int,r+(B:Int)*q=x+H→0≤r→r<B→(x+H)/(B:Int)=q by
  unfold nearN
  rw[hB,hH]
  unfold zs
  by_cases hx:x<0
  ·rw[decide_eq_true hx,cond_true,cond_true]
   by_cases hc:H<a%B
   ·rw[decide_eq_true hc,cond_true]
    refine hs _ ((B:Int)+H-((a%B:Nat):Int)) ?_ (by omega) (by omega)
    rw[Int.natCast_add,Int.mul_neg,Int.mul_add];omega
   ·rw[decide_eq_false hc,cond_false]
    refine hs _ ((H:Int)-((a%B:Nat):Int)) ?_ (by omega) (by omega)
    rw[Int.mul_neg];omega
  ·rw[decide_eq_false hx,cond_false,cond_false]
   by_cases hc:H≤a%B
   ·rw[decide_eq_true hc,cond_true]
    refine hs _ (((a%B:Nat):Int)-H) ?_ (by omega) (by omega)
    rw[Int.natCast_add,Int.mul_add];omega
   ·rw[decide_eq_false hc,cond_false]
    refine hs _ (((a%B:Nat):Int)+H) ?_ (by omega) (by omega)
    omega
 intro q r h1 h3 h4
 exact((Int.ediv_emod_unique (by omega)).2 ⟨h1,h3,h4⟩).1
theorem g74W(p:Nat)(hp:p<192){x:Int}(hx:x.natAbs<W192)(o:Bool)(k:Bool→List Int→Bool→Option α):
  g74 (n+7) (zs x) (zl x) (p:Int) o k=k (zs (nearZ x p)) (zl (nearZ x p)) o:=by
 by_cases h0:p=0
 ·subst h0
  exact g74Z n (zs x) o hx k
 ·have e:=nearN_Z x (show 0<p by omega)
  unfold zl
  rw[g74L n p (zs x) o (by omega) hp hx,mk_zs,mk_zl (zs x),e];rfl
theorem rootN_spec(a:Nat):∀(i R:Nat),R*R≤a→a<(R+2^(i+1))*(R+2^(i+1))→rootN a i R*rootN a i R≤a∧a<(rootN a i R+1)*(rootN a i R+1):=by
 have step:∀i R,R*R≤a→a<(R+2^(i+1))*(R+2^(i+1))→rootStep a i R*rootStep a i R≤a∧a<(rootStep a i R+2^i)*(rootStep a i R+2^i):=by
  intro i R h1 h2
  unfold rootStep
  by_cases h:(R+2^i)*(R+2^i)≤a
  ·rw[decide_eq_true h,cond_true]
   refine⟨h, ?_⟩
   rw[show R+2^i+2^i=R+2^(i+1) by rw[Nat.pow_succ];omega]
   exact h2
  ·rw[decide_eq_false h,cond_false]
   exact⟨h1,by omega⟩
 intro i
 induction i with
 |zero=>intro R h1 h2;exact step 0 R h1 h2
 |succ i ih=>
  intro R h1 h2
  obtain⟨g1,g2⟩:=step (i+1) R h1 h2
  exact ih _ g1 g2
def isq(a:Nat):Nat:=rootN a ((Nat.log2 a+2)/2) 0
theorem isq_unique{a R S:Nat}(h1:R*R≤a)(h2:a<(R+1)*(R+1))(h3:S*S≤a)(h4:a<(S+1)*(S+1)):R=S:=by
 rcases Nat.lt_trichotomy R S with h|h|h
 ·have:=Nat.mul_le_mul (show R+1≤S by omega) (show R+1≤S by omega);omega
 ·exact h
 ·have:=Nat.mul_le_mul (show S+1≤R by omega) (show S+1≤R by omega);omega
theorem root_start{a b i:Nat}(hb:a<2^b)(hi:b≤2*i):a<(0+2^(i+1))*(0+2^(i+1)):=by
 rw[Nat.zero_add,←Nat.pow_add]
 exact Nat.lt_of_lt_of_le hb (Nat.pow_le_pow_right (by decide) (by omega))
theorem isq_spec(a:Nat):isq a*isq a≤a∧a<(isq a+1)*(isq a+1):=
 rootN_spec a _ 0 (by omega) (root_start (b:=Nat.log2 a+1) Nat.lt_log2_self (by omega))
theorem rootN_isq{a b:Nat}(hb:isLen a b=true):rootN a ((b+1)/2) 0=isq a:=by
 obtain⟨h1,h2⟩:=rootN_spec a ((b+1)/2) 0 (by omega) (root_start (isLen_iff.1 hb).1 (by omega))
 obtain⟨h3,h4⟩:=isq_spec a
 exact isq_unique h1 h2 h3 h4
theorem isq_le(a:Nat):isq a≤a:=by
 obtain⟨h1,h2⟩:=isq_spec a
 rcases Nat.eq_zero_or_pos (isq a) with h|h
 ·omega
 ·have:=Nat.mul_le_mul_left (isq a) h;omega
theorem g92N(n:Nat)(hn:100≤n){a:Nat}(ha:a<W192)(k:List Int→Option α):g92 (n+40) (limbs 6 a) k=k (limbs 6 (isq a)):=by
 obtain⟨b,hb⟩:=len_of a
 have hb192:=len_le192 ha hb
 rw[g92M,g72L (n+33) ha hb,half_start hb192]
 have:=g92loop (α:=α) n ha [0,0,0,0,0,0] (fun l=>k l) ((b+1)/2) (n+40) 0 (by omega) (by omega) (start_ok hb192)
 rw[show limbs 6 0=[0,0,0,0,0,0] from rfl] at this
 rw[this,rootN_isq hb]
end Go.Proofs.YtlmmgjngihlpeaaGreat.Sx
