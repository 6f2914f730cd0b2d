import Derived.Test.YtlmmgjngihlpeaaDoorPureG
namespace Go.Proofs.YtlmmgjngihlpeaaDoor.Sx
open Go
set_option linter.unusedVariables false
set_option linter.unusedSimpArgs false
set_option maxRecDepth 100000
def limbs:Nat→Nat→List Int
 |0,_=>[]
 |k+1,n=>((n%4294967296:Nat):Int)::limbs k (n/4294967296)
def val:List Int→Nat
 |[]=>0
 |x::r=>x.toNat+4294967296*val r
abbrev W192:Nat:=6277101735386680763835789423207666416102355444464034512896
theorem limbs_length:∀(k n:Nat),(limbs k n).length=k
 |0,_=>rfl
 |k+1,n=>by simp[limbs,limbs_length k]
theorem limbs_val:∀(l:List Int),U32 l→limbs l.length (val l)=l
 |[],_=>rfl
 |x::r,h=>by
  have hx:=bounds_u32 (h x (by simp))
  have e:val (x::r)=x.toNat+4294967296*val r:=rfl
  simp only[List.length_cons,limbs]
  rw[e,show(x.toNat+4294967296*val r)%4294967296=x.toNat by omega,show(x.toNat+4294967296*val r)/4294967296=val r by omega,limbs_val r (fun y hy=>h y (by simp[hy]))]
  rw[Int.toNat_of_nonneg hx.1]
theorem val_lt:∀(l:List Int),U32 l→val l<4294967296^l.length
 |[],_=>by simp[val]
 |x::r,h=>by
  have hx:=bounds_u32 (h x (by simp))
  have:=val_lt r (fun y hy=>h y (by simp[hy]))
  simp only[val,List.length_cons,Nat.pow_succ]
  omega
theorem val_limbs:∀(k n:Nat),val (limbs k n)=n%4294967296^k
 |0,n=>by simp[limbs,val,Nat.mod_one]
 |k+1,n=>by
  simp only[limbs,val,val_limbs k,Int.toNat_natCast]
  rw[Nat.pow_succ,Nat.mul_comm (4294967296^k),Nat.mod_mul]
theorem limbs_ex{l:List Int}(hl:l.length=6)(ul:U32 l):∃a:Nat,a<W192∧l=limbs 6 a:=
 ⟨val l,by have:=val_lt l ul;rw[hl] at this;exact this,by rw[←hl,limbs_val l ul]⟩
theorem limbs_inj{a b:Nat}(ha:a<W192)(hb:b<W192)(h:limbs 6 a=limbs 6 b):a=b:=by
 have h':=congrArg val h
 rw[val_limbs,val_limbs,Nat.mod_eq_of_lt ha,Nat.mod_eq_of_lt hb] at h'
 exact h'
theorem wrapU32(x:Nat):IntKind.wrap .u32 (x:Int)=((x%4294967296:Nat):Int):=by
 unfold IntKind.wrap;simp only[IntKind.signed,IntKind.bits];simp
theorem wrapU64N(x:Nat):IntKind.wrap .u64 (x:Int)=((x%18446744073709551616:Nat):Int):=by
 unfold IntKind.wrap;simp only[IntKind.signed,IntKind.bits];simp
theorem difX_nat{a b c:Nat}(ha:a<4294967296)(hb:b<4294967296)(hc:c≤1):difX c a b=(a:Int)-b-c:=by
 unfold difX
 rw[wrapI64 (x:=(a:Int)) (by omega) (by omega),wrapI64 (x:=(b:Int)) (by omega) (by omega),wrapI64 (x:=(a:Int)-b) (by omega) (by omega),wrapI64 (by omega) (by omega)]
theorem dif_limbs:∀(k a b c:Nat),c≤1→b+c≤a→difL c (limbs k a) (limbs k b)=limbs k (a-b-c)
 |0,a,b,c,hc,h=>by simp[limbs,difL]
 |k+1,a,b,c,hc,h=>by
  have e:=difX_nat (a:=a%4294967296) (b:=b%4294967296) (c:=c) (by omega) (by omega) hc
  simp only[limbs,difL,e]
  by_cases hlt:a%4294967296<b%4294967296+c
  ·have h1:difB (((a%4294967296:Nat):Int)-((b%4294967296:Nat):Int)-(c:Int))=((1:Nat):Int):=by unfold difB;rw[if_pos (by omega)];rfl
   have h2:difD (((a%4294967296:Nat):Int)-((b%4294967296:Nat):Int)-(c:Int))=(((a-b-c)%4294967296:Nat):Int):=by
    unfold difD
    rw[if_pos (by omega),wrapI64 (by omega) (by omega)]
    rw[show((a%4294967296:Nat):Int)-((b%4294967296:Nat):Int)-(c:Int)+4294967296=((a%4294967296+4294967296-b%4294967296-c:Nat):Int) by omega,wrapU32]
    congr 1;omega
   rw[h1,h2,dif_limbs k _ _ 1 (by omega) (by omega)]
   congr 2;omega
  ·have h1:difB (((a%4294967296:Nat):Int)-((b%4294967296:Nat):Int)-(c:Int))=((0:Nat):Int):=by unfold difB;rw[if_neg (by omega)];rfl
   have h2:difD (((a%4294967296:Nat):Int)-((b%4294967296:Nat):Int)-(c:Int))=(((a-b-c)%4294967296:Nat):Int):=by
    unfold difD
    rw[if_neg (by omega)]
    rw[show((a%4294967296:Nat):Int)-((b%4294967296:Nat):Int)-(c:Int)=((a%4294967296-b%4294967296-c:Nat):Int) by omega,wrapU32]
    congr 1;omega
   rw[h1,h2,dif_limbs k _ _ 0 (by omega) (by omega)]
   congr 2;omega
theorem dif6{a b:Nat}(h:b≤a):difL 0 (limbs 6 a) (limbs 6 b)=limbs 6 (a-b):=dif_limbs 6 a b 0 (by omega) (by omega)
def cmpN(a b:Nat):Int:=if a<b then-1 else if b<a then 1 else 0
theorem cmp1_step{x y a b:Nat}{B:Nat}(ha:a<B)(hb:b<B):cmp1 (x:Int) (y:Int) (cmpN a b)=cmpN (a+B*x) (b+B*y):=by
 unfold cmp1 cmpN
 by_cases h1:x<y
 ·have:a+B*x<b+B*y:=by
   have:B*(x+1)≤B*y:=Nat.mul_le_mul_left _ h1
   rw[Nat.mul_succ] at this;omega
  rw[if_pos (by omega),if_pos this]
 ·by_cases h2:y<x
  ·have:b+B*y<a+B*x:=by
    have:B*(y+1)≤B*x:=Nat.mul_le_mul_left _ h2
    rw[Nat.mul_succ] at this;omega
   rw[if_neg (by omega),if_pos (by omega),if_neg (by omega),if_pos this]
  ·have:x=y:=by omega
   subst this
   rw[if_neg (by omega),if_neg (by omega)]
   simp only[Nat.add_lt_add_iff_right]
theorem six_split(a:Nat)(ha:a<W192):∃x0 x1 x2 x3 x4 x5:Nat,x0<4294967296∧x1<4294967296∧x2<4294967296∧x3<4294967296∧x4<4294967296∧x5<4294967296∧
  limbs 6 a=[(x0:Int),(x1:Int),(x2:Int),(x3:Int),(x4:Int),(x5:Int)]∧
  a=x0+4294967296*x1+18446744073709551616*x2+79228162514264337593543950336*x3+340282366920938463463374607431768211456*x4+1461501637330902918203684832716283019655932542976*x5:=by
 refine⟨a%4294967296,a/4294967296%4294967296,a/4294967296/4294967296%4294967296,a/4294967296/4294967296/4294967296%4294967296,a/4294967296/4294967296/4294967296/4294967296%4294967296,
  a/4294967296/4294967296/4294967296/4294967296/4294967296%4294967296,by omega,by omega,by omega,by omega,by omega,by omega,rfl, ?_⟩
 have:a<6277101735386680763835789423207666416102355444464034512896:=ha
 omega
theorem cmp6_limbs{a b:Nat}(ha:a<W192)(hb:b<W192):cmp6 (limbs 6 a) (limbs 6 b)=cmpN a b:=by
 obtain⟨x0,x1,x2,x3,x4,x5,p0,p1,p2,p3,p4,p5,e,e'⟩:=six_split a ha
 obtain⟨y0,y1,y2,y3,y4,y5,q0,q1,q2,q3,q4,q5,f,f'⟩:=six_split b hb
 rw[e,f]
 show cmp1 (x5:Int) y5 (cmp1 (x4:Int) y4 (cmp1 (x3:Int) y3 (cmp1 (x2:Int) y2 (cmp1 (x1:Int) y1 (cmp1 (x0:Int) y0 0)))))=_
 rw[show(0:Int)=cmpN 0 0 from rfl,cmp1_step (B:=1) (by omega) (by omega),cmp1_step (B:=4294967296) (by omega) (by omega),cmp1_step (B:=18446744073709551616) (by omega) (by omega),
  cmp1_step (B:=79228162514264337593543950336) (by omega) (by omega),cmp1_step (B:=340282366920938463463374607431768211456) (by omega) (by omega),cmp1_step (B:=1461501637330902918203684832716283019655932542976) (by omega) (by omega)]
 rw[e',f']
 congr 1<;>omega
theorem eqLI_limbs{a b:Nat}(ha:a<W192)(hb:b<W192):eqLI (limbs 6 a) (limbs 6 b)=decide (a=b):=by
 by_cases h:a=b
 ·subst h;simp[eqLI]
 ·rw[decide_eq_false h]
  unfold eqLI
  exact decide_eq_false fun hq=>h (limbs_inj ha hb hq)
theorem eqLI_zero{a:Nat}(ha:a<W192):eqLI (limbs 6 a) [0,0,0,0,0,0]=decide (a=0):=eqLI_limbs (b:=0) ha (by decide)
theorem limbs_add:∀(j k n:Nat),limbs (j+k) n=limbs j n++limbs k (n/4294967296^j)
 |0,k,n=>by simp[limbs]
 |j+1,k,n=>by
  rw[show j+1+k=(j+k)+1 by omega]
  simp only[limbs,limbs_add j k,List.cons_append]
  rw[Nat.div_div_eq_div_mul,Nat.pow_succ,Nat.mul_comm (4294967296^j)]
theorem limbs_mod:∀(k n M:Nat),limbs k (n+4294967296^k*M)=limbs k n
 |0,n,M=>rfl
 |k+1,n,M=>by
  simp only[limbs]
  have p:4294967296^(k+1)*M=4294967296*(4294967296^k*M):=by rw[Nat.pow_succ];simp only[Nat.mul_assoc,Nat.mul_left_comm]
  rw[p,show(n+4294967296*(4294967296^k*M))%4294967296=n%4294967296 by omega,show(n+4294967296*(4294967296^k*M))/4294967296=n/4294967296+4294967296^k*M by omega,limbs_mod k]
theorem ofInt_nat(k n:Nat):(BitVec.ofInt k (n:Int)).toNat=n%2^k:=by
 rw[BitVec.ofInt_natCast,BitVec.toNat_ofNat]
theorem or32{x y:Nat}(hx:x<4294967296)(hy:y<4294967296):ibits .or .u32 (x:Int) (y:Int)=((x|||y:Nat):Int):=by
 have h:x|||y<2^32:=Nat.or_lt_two_pow hx hy
 show IntKind.wrap .u32 ((BitVec.ofInt 32 (x:Int)|||BitVec.ofInt 32 (y:Int)).toNat:Int)=_
 rw[BitVec.toNat_or,ofInt_nat,ofInt_nat,Nat.mod_eq_of_lt hx,Nat.mod_eq_of_lt hy,wrapU32,Nat.mod_eq_of_lt h]
theorem or64{x y:Nat}(hx:x<18446744073709551616)(hy:y<18446744073709551616):ibits .or .u64 (x:Int) (y:Int)=((x|||y:Nat):Int):=by
 have h:x|||y<2^64:=Nat.or_lt_two_pow hx hy
 show IntKind.wrap .u64 ((BitVec.ofInt 64 (x:Int)|||BitVec.ofInt 64 (y:Int)).toNat:Int)=_
 rw[BitVec.toNat_or,ofInt_nat,ofInt_nat,Nat.mod_eq_of_lt hx,Nat.mod_eq_of_lt hy,wrapU64N,Nat.mod_eq_of_lt h]
theorem or_is_add(x y i:Nat)(hy:y<2^i):x*2^i|||y=x*2^i+y:=by
 have e:=Nat.two_pow_add_eq_or_of_lt hy x
 rw[Nat.mul_comm] at e
 exact e.symm
theorem pow_split{r:Nat}(hr:r≤32):4294967296=2^(32-r)*2^r:=by
 rw[←Nat.pow_add,Nat.sub_add_cancel hr]
theorem mod_up{r:Nat}(hr:r≤32)(x:Nat):x*2^r%4294967296=(x%2^(32-r))*2^r:=by
 conv=>lhs;rw[pow_split hr]
 exact Nat.mul_mod_mul_right _ _ _
theorem up_lt{r:Nat}(hr:r≤32)(x c:Nat)(hc:c<2^r):x*2^r%4294967296+c<4294967296:=by
 rw[mod_up hr]
 have h1:x%2^(32-r)+1≤2^(32-r):=Nat.mod_lt _ (Nat.two_pow_pos _)
 have h2:=Nat.mul_le_mul_right (2^r) h1
 rw[←pow_split hr,Nat.add_mul] at h2
 omega
theorem up_or{r:Nat}(hr:r≤32)(x c:Nat)(hc:c<2^r):(x*2^r%4294967296)|||c=x*2^r%4294967296+c:=by
 rw[mod_up hr];exact or_is_add _ _ _ hc
theorem up_step{r:Nat}(hr:r≤32)(k x c M:Nat)(hc:c<2^r):limbs (k+1) (x*2^r+c+4294967296*M)=((x*2^r%4294967296+c:Nat):Int)::limbs k (x*2^r/4294967296+M):=by
 have h:=up_lt hr x c hc
 simp only[limbs]
 generalize x*2^r=t at*
 rw[show(t+c+4294967296*M)%4294967296=t%4294967296+c by omega,show(t+c+4294967296*M)/4294967296=t/4294967296+M by omega]
theorem carry_up{r x:Nat}(hx:x<4294967296):x*2^r/4294967296<2^r:=by
 refine Nat.div_lt_of_lt_mul ?_
 exact Nat.mul_lt_mul_of_pos_right hx (Nat.two_pow_pos r)
theorem shr_up{r x:Nat}(hr:r≤32):x/2^(32-r)=x*2^r/4294967296:=by
 conv=>rhs;rw[pow_split hr]
 rw[Nat.mul_div_mul_right _ _ (Nat.two_pow_pos r)]
end Go.Proofs.YtlmmgjngihlpeaaDoor.Sx
/- Plain laws: what the functions on sizes compute, as numbers. Our own work. -/
namespace Go.Proofs.YtlmmgjngihlpeaaDoor.Sx
open Go
set_option linter.unusedVariables false
set_option linter.unusedSimpArgs false
set_option maxRecDepth 100000
theorem l6(a:Nat):(limbs 6 a).length=6:=limbs_length 6 a
section
variable {α:Type} (n:Nat) {a b:Nat}
theorem g100L(h:b≤a)(k:List Int→Option α):g100 (n+7) (limbs 6 a) (limbs 6 b) k=k (limbs 6 (a-b)):=by
 rw[g100Eq n (l6 a) (l6 b),dif6 h]
theorem g99L(ha:a<W192)(hb:b<W192)(k:Int→Option α):g99 (n+7) (limbs 6 a) (limbs 6 b) k=k (cmpN a b):=by
 rw[g99Eq n (l6 a) (l6 b),cmp6_limbs ha hb]
theorem g87L(m:Nat)(ha:a<W192)(k:Bool→Option α):g87 m (limbs 6 a) k=k (decide (a=0)):=by
 simp only[g87,g87b,eqLI_zero ha]
theorem g46L(m:Nat)(q:Bool)(ha:a<W192)(k:Bool→Option α):g46 m q (limbs 6 a) k=k (!(q&&decide (a=0))):=by
 simp only[g46,g46b,eqLI_zero ha];cases q<;>cases(decide (a=0))<;>rfl
theorem g20L(m:Nat)(q:Bool)(ha:a<W192)(k:Bool→Option α):g20 m q (limbs 6 a) k=k (!(q&&decide (a=0))):=by
 simp only[g20,g20b,eqLI_zero ha];cases q<;>cases(decide (a=0))<;>rfl
end
def dv:Nat→Nat→Nat
 |0,N=>N
 |j+1,N=>dv j (N/4294967296)
theorem dv_eq:∀j N,dv j N=N/4294967296^j
 |0,N=>by simp[dv]
 |j+1,N=>by rw[dv,dv_eq j,Nat.div_div_eq_div_mul,Nat.pow_succ,Nat.mul_comm (4294967296^j)]
end Go.Proofs.YtlmmgjngihlpeaaDoor.Sx
/- Plain laws: products. Our own work. -/
namespace Go.Proofs.YtlmmgjngihlpeaaDoor.Sx
open Go
set_option linter.unusedVariables false
set_option linter.unusedSimpArgs false
set_option maxRecDepth 100000
end Go.Proofs.YtlmmgjngihlpeaaDoor.Sx
/- Plain laws: bit lengths of numbers; powers; int64 values. Our own work. -/
namespace Go.Proofs.YtlmmgjngihlpeaaDoor.Sx
open Go
set_option linter.unusedVariables false
set_option linter.unusedSimpArgs false
set_option maxRecDepth 100000
theorem len_of(a:Nat):∃b,isLen a b=true:=by
 by_cases h0:a=0
 ·exact⟨0,by rw[h0];rfl⟩
 ·exact⟨a.log2+1,by rw[isLen_iff];exact⟨Nat.lt_log2_self, .inr (by simpa using Nat.log2_self_le h0)⟩⟩
theorem g115Un{α:Type}(n:Nat)(a b c d e f:Int)(k:Int→Option α):g115 (n+40) [a,b,c,d,e,f] k=(cond (f==0) (cond (e==0) (cond (d==0) (cond (c==0) (cond (b==0) (cond (a==0) (k 0) (g115l2 0 [a,b,c,d,e,f] (fun x=>k (IntKind.wrap .i64 (0+x))) (n+40) 0 a)) (g115l2 1 [a,b,c,d,e,f] (fun x=>k (IntKind.wrap .i64 (32+x))) (n+40) 0 b)) (g115l2 2 [a,b,c,d,e,f] (fun x=>k (IntKind.wrap .i64 (64+x))) (n+40) 0 c)) (g115l2 3 [a,b,c,d,e,f] (fun x=>k (IntKind.wrap .i64 (96+x))) (n+40) 0 d)) (g115l2 4 [a,b,c,d,e,f] (fun x=>k (IntKind.wrap .i64 (128+x))) (n+40) 0 e)) (g115l2 5 [a,b,c,d,e,f] (fun x=>k (IntKind.wrap .i64 (160+x))) (n+40) 0 f)):=by kernel_rfl
theorem limb93{α:Type}(n w s x b:Nat)(l:List Int)(hs:s≤160)(hx:x<4294967296)(r:Option α)(k:Int→Option α){A:Nat}(hA:A/2^s=x)(hb:isLen A b=true)(hr:x=0→r=k (b:Int)):
  cond ((x:Int)==0) r (g115l2 (w:Int) l (fun y=>k (IntKind.wrap .i64 ((s:Int)+y))) (n+40) 0 (x:Int))=k (b:Int):=by
 by_cases h0:x=0
 ·subst h0
  exact hr rfl
 ·rw[show((x:Int)==0)=false by simpa using h0]
  obtain⟨c,hc,hc2⟩:=len_ex x hx
  simp only[cond_false]
  have:=g115l2Eq (w:Int) l (fun y=>k (IntKind.wrap .i64 ((s:Int)+y))) c x 0 (n+39-c) hc (by omega)
  rw[show n+39-c+c+1=n+40 by omega,Nat.zero_add] at this
  rw[show(0:Int)=((0:Nat):Int) from rfl,this,wrapI64 (by omega) (by omega)]
  have:b=c+s:=isLen_unique hb (isLen_shift (by rw[hA];exact hc) (isLen_pos hc (by omega)))
  congr 1;omega
theorem g115L{α:Type}(n:Nat){a b:Nat}(ha:a<W192)(hb:isLen a b=true)(k:Int→Option α):g115 (n+40) (limbs 6 a) k=k (b:Int):=by
 obtain⟨x0,x1,x2,x3,x4,x5,p0,p1,p2,p3,p4,p5,e,e'⟩:=six_split a ha
 rw[e,g115Un]
 refine limb93 n 5 160 x5 b _ (by decide) p5 _ k (A:=a) (by rw[e'];omega) hb fun h5=> ?_
 refine limb93 n 4 128 x4 b _ (by decide) p4 _ k (A:=a) (by rw[e'];omega) hb fun h4=> ?_
 refine limb93 n 3 96 x3 b _ (by decide) p3 _ k (A:=a) (by rw[e'];omega) hb fun h3=> ?_
 refine limb93 n 2 64 x2 b _ (by decide) p2 _ k (A:=a) (by rw[e'];omega) hb fun h2=> ?_
 refine limb93 n 1 32 x1 b _ (by decide) p1 _ k (A:=a) (by rw[e'];omega) hb fun h1=> ?_
 refine limb93 n 0 0 x0 b _ (by decide) p0 _ k (A:=a) (by rw[e'];omega) hb fun h0=> ?_
 have:a=0:=by omega
 have hb0:b=0:=isLen_unique hb (by rw[this];rfl)
 rw[hb0];rfl
end Go.Proofs.YtlmmgjngihlpeaaDoor.Sx
