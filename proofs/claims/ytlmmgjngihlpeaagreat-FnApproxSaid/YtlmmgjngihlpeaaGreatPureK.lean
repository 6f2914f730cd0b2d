import Derived.Test.YtlmmgjngihlpeaaGreatPureG
namespace Go.Proofs.YtlmmgjngihlpeaaGreat.Sx
open Go
set_option linter.unusedVariables false
set_option linter.unusedSimpArgs false
set_option maxRecDepth 100000
def limbs:Nat→Nat→List Int
 |0,_=>[]
 |k+1,n=>((n%4294967296:Nat):Int)::limbs k (n/4294967296)
def val:List Int→Nat
 |[]=>0
 |x::r=>x.toNat+4294967296*val r
abbrev W192:Nat:=6277101735386680763835789423207666416102355444464034512896
theorem limbs_length:∀(k n:Nat),(limbs k n).length=k
 |0,_=>rfl
 |k+1,n=>by simp[limbs,limbs_length k]
theorem wf_u32{n:Nat}(h:n<4294967296):(Lit.int .u32 (n:Int)).wf=true:=by
 simp[Lit.wf,IntKind.min,IntKind.max,IntKind.signed,IntKind.bits];omega
theorem limbs_u32:∀(k n:Nat),U32 (limbs k n)
 |0,_=>by intro x hx;cases hx
 |k+1,n=>by
  intro x hx
  simp only[limbs,List.mem_cons] at hx
  rcases hx with rfl|hx
  ·exact wf_u32 (by omega)
  ·exact limbs_u32 k _ x hx
theorem val_limbs:∀(k n:Nat),val (limbs k n)=n%4294967296^k
 |0,n=>by simp[limbs,val,Nat.mod_one]
 |k+1,n=>by
  simp only[limbs,val,val_limbs k,Int.toNat_natCast]
  rw[Nat.pow_succ,Nat.mul_comm (4294967296^k),Nat.mod_mul]
theorem limbs_inj{a b:Nat}(ha:a<W192)(hb:b<W192)(h:limbs 6 a=limbs 6 b):a=b:=by
 have h':=congrArg val h
 rw[val_limbs,val_limbs,Nat.mod_eq_of_lt ha,Nat.mod_eq_of_lt hb] at h'
 exact h'
theorem wrapU64{x:Int}(h0:0≤x)(h1:x<18446744073709551616):IntKind.wrap .u64 x=x:=by
 unfold IntKind.wrap;simp only[IntKind.signed,IntKind.bits];simp;omega
theorem wrapU32(x:Nat):IntKind.wrap .u32 (x:Int)=((x%4294967296:Nat):Int):=by
 unfold IntKind.wrap;simp only[IntKind.signed,IntKind.bits];simp
theorem wrapU64N(x:Nat):IntKind.wrap .u64 (x:Int)=((x%18446744073709551616:Nat):Int):=by
 unfold IntKind.wrap;simp only[IntKind.signed,IntKind.bits];simp
theorem sumS_nat{a b c:Nat}(ha:a<4294967296)(hb:b<4294967296)(hc:c<4294967296):sumS c a b=((a+b+c:Nat):Int):=by
 unfold sumS
 rw[wrapU64N,wrapU64N,Nat.mod_eq_of_lt (by omega),Nat.mod_eq_of_lt (by omega),←Int.natCast_add,wrapU64N,Nat.mod_eq_of_lt (by omega),←Int.natCast_add,wrapU64N,Nat.mod_eq_of_lt (by omega)]
theorem sumL_limbs:∀(k a b c:Nat),c≤1→sumL sumS c (limbs k a) (limbs k b)=(limbs k (a+b+c),(((a%4294967296^k+b%4294967296^k+c)/4294967296^k:Nat):Int))
 |0,a,b,c,hc=>by simp[limbs,sumL,Nat.mod_one]
 |k+1,a,b,c,hc=>by
  have e:=sumS_nat (a:=a%4294967296) (b:=b%4294967296) (c:=c) (by omega) (by omega) (by omega)
  simp only[limbs,sumL,e]
  have h1:hiS ((a%4294967296+b%4294967296+c:Nat):Int)=(((a%4294967296+b%4294967296+c)/4294967296:Nat):Int):=fdivNat _ 4294967296
  have h2:loS ((a%4294967296+b%4294967296+c:Nat):Int)=(((a+b+c)%4294967296:Nat):Int):=by
   unfold loS;rw[wrapU32];congr 1;omega
  rw[h1,h2,sumL_limbs k _ _ _ (by omega)]
  have e1:a/4294967296+b/4294967296+(a%4294967296+b%4294967296+c)/4294967296=(a+b+c)/4294967296:=by omega
  rw[e1]
  refine Prod.ext rfl ?_
  show(((a/4294967296%4294967296^k+b/4294967296%4294967296^k+(a%4294967296+b%4294967296+c)/4294967296)/4294967296^k:Nat):Int)=_
  congr 1
  have p:4294967296^(k+1)=4294967296*4294967296^k:=by rw[Nat.pow_succ,Nat.mul_comm]
  rw[p,Nat.mod_mul,Nat.mod_mul (x:=b),←Nat.div_div_eq_div_mul]
  congr 1
  generalize a/4294967296%4294967296^k=x
  generalize b/4294967296%4294967296^k=y
  omega
theorem sum6{a b:Nat}(ha:a<W192)(hb:b<W192):sumL sumS 0 (limbs 6 a) (limbs 6 b)=(limbs 6 (a+b),(((a+b)/W192:Nat):Int)):=by
 have:=sumL_limbs 6 a b 0 (by omega)
 rw[Nat.mod_eq_of_lt ha,Nat.mod_eq_of_lt hb] at this
 exact this
theorem difX_nat{a b c:Nat}(ha:a<4294967296)(hb:b<4294967296)(hc:c≤1):difX c a b=(a:Int)-b-c:=by
 unfold difX
 rw[wrapI64 (x:=(a:Int)) (by omega) (by omega),wrapI64 (x:=(b:Int)) (by omega) (by omega),wrapI64 (x:=(a:Int)-b) (by omega) (by omega),wrapI64 (by omega) (by omega)]
theorem dif_limbs:∀(k a b c:Nat),c≤1→b+c≤a→difL c (limbs k a) (limbs k b)=limbs k (a-b-c)
 |0,a,b,c,hc,h=>by simp[limbs,difL]
 |k+1,a,b,c,hc,h=>by
  have e:=difX_nat (a:=a%4294967296) (b:=b%4294967296) (c:=c) (by omega) (by omega) hc
  simp only[limbs,difL,e]
  by_cases hlt:a%4294967296<b%4294967296+c
  ·have h1:difB (((a%4294967296:Nat):Int)-((b%4294967296:Nat):Int)-(c:Int))=((1:Nat):Int):=by unfold difB;rw[if_pos (by omega)];rfl
   have h2:difD (((a%4294967296:Nat):Int)-((b%4294967296:Nat):Int)-(c:Int))=(((a-b-c)%4294967296:Nat):Int):=by
    unfold difD
    rw[if_pos (by omega),wrapI64 (by omega) (by omega)]
    rw[show((a%4294967296:Nat):Int)-((b%4294967296:Nat):Int)-(c:Int)+4294967296=((a%4294967296+4294967296-b%4294967296-c:Nat):Int) by omega,wrapU32]
    congr 1;omega
   rw[h1,h2,dif_limbs k _ _ 1 (by omega) (by omega)]
   congr 2;omega
  ·have h1:difB (((a%4294967296:Nat):Int)-((b%4294967296:Nat):Int)-(c:Int))=((0:Nat):Int):=by unfold difB;rw[if_neg (by omega)];rfl
   have h2:difD (((a%4294967296:Nat):Int)-((b%4294967296:Nat):Int)-(c:Int))=(((a-b-c)%4294967296:Nat):Int):=by
    unfold difD
    rw[if_neg (by omega)]
    rw[show((a%4294967296:Nat):Int)-((b%4294967296:Nat):Int)-(c:Int)=((a%4294967296-b%4294967296-c:Nat):Int) by omega,wrapU32]
    congr 1;omega
   rw[h1,h2,dif_limbs k _ _ 0 (by omega) (by omega)]
   congr 2;omega
theorem dif6{a b:Nat}(h:b≤a):difL 0 (limbs 6 a) (limbs 6 b)=limbs 6 (a-b):=dif_limbs 6 a b 0 (by omega) (by omega)
def cmpN(a b:Nat):Int:=if a<b then-1 else if b<a then 1 else 0
theorem cmp1_step{x y a b:Nat}{B:Nat}(ha:a<B)(hb:b<B):cmp1 (x:Int) (y:Int) (cmpN a b)=cmpN (a+B*x) (b+B*y):=by
 unfold cmp1 cmpN
 by_cases h1:x<y
 ·have:a+B*x<b+B*y:=by
   have:B*(x+1)≤B*y:=Nat.mul_le_mul_left _ h1
   rw[Nat.mul_succ] at this;omega
  rw[if_pos (by omega),if_pos this]
 ·by_cases h2:y<x
  ·have:b+B*y<a+B*x:=by
    have:B*(y+1)≤B*x:=Nat.mul_le_mul_left _ h2
    rw[Nat.mul_succ] at this;omega
   rw[if_neg (by omega),if_pos (by omega),if_neg (by omega),if_pos this]
  ·have:x=y:=by omega
   subst this
   rw[if_neg (by omega),if_neg (by omega)]
   simp only[Nat.add_lt_add_iff_right]
theorem six_split(a:Nat)(ha:a<W192):∃x0 x1 x2 x3 x4 x5:Nat,x0<4294967296∧x1<4294967296∧x2<4294967296∧x3<4294967296∧x4<4294967296∧x5<4294967296∧
  limbs 6 a=[(x0:Int),(x1:Int),(x2:Int),(x3:Int),(x4:Int),(x5:Int)]∧
  a=x0+4294967296*x1+18446744073709551616*x2+79228162514264337593543950336*x3+340282366920938463463374607431768211456*x4+1461501637330902918203684832716283019655932542976*x5:=by
 refine⟨a%4294967296,a/4294967296%4294967296,a/4294967296/4294967296%4294967296,a/4294967296/4294967296/4294967296%4294967296,a/4294967296/4294967296/4294967296/4294967296%4294967296,
  a/4294967296/4294967296/4294967296/4294967296/4294967296%4294967296,by omega,by omega,by omega,by omega,by omega,by omega,rfl, ?_⟩
 have:a<6277101735386680763835789423207666416102355444464034512896:=ha
 omega
theorem cmp6_limbs{a b:Nat}(ha:a<W192)(hb:b<W192):cmp6 (limbs 6 a) (limbs 6 b)=cmpN a b:=by
 obtain⟨x0,x1,x2,x3,x4,x5,p0,p1,p2,p3,p4,p5,e,e'⟩:=six_split a ha
 obtain⟨y0,y1,y2,y3,y4,y5,q0,q1,q2,q3,q4,q5,f,f'⟩:=six_split b hb
 rw[e,f]
 show cmp1 (x5:Int) y5 (cmp1 (x4:Int) y4 (cmp1 (x3:Int) y3 (cmp1 (x2:Int) y2 (cmp1 (x1:Int) y1 (cmp1 (x0:Int) y0 0)))))=_
 rw[show(0:Int)=cmpN 0 0 from rfl,cmp1_step (B:=1) (by omega) (by omega),cmp1_step (B:=4294967296) (by omega) (by omega),cmp1_step (B:=18446744073709551616) (by omega) (by omega),
  cmp1_step (B:=79228162514264337593543950336) (by omega) (by omega),cmp1_step (B:=340282366920938463463374607431768211456) (by omega) (by omega),cmp1_step (B:=1461501637330902918203684832716283019655932542976) (by omega) (by omega)]
 rw[e',f']
 congr 1<;>omega
theorem eqLI_limbs{a b:Nat}(ha:a<W192)(hb:b<W192):eqLI (limbs 6 a) (limbs 6 b)=decide (a=b):=by
 by_cases h:a=b
 ·subst h;simp[eqLI]
 ·rw[decide_eq_false h]
  unfold eqLI
  exact decide_eq_false fun hq=>h (limbs_inj ha hb hq)
theorem eqLI_zero{a:Nat}(ha:a<W192):eqLI (limbs 6 a) [0,0,0,0,0,0]=decide (a=0):=eqLI_limbs (b:=0) ha (by decide)
def mulS(c x y o:Int):Int:=IntKind.wrap .u64 ((IntKind.wrap .u64 ((IntKind.wrap .u64 ((IntKind.wrap .u64 x)*(IntKind.wrap .u64 y)))+(IntKind.wrap .u64 o)))+c)
def mulD(c x y o:Int):Int:=IntKind.wrap .u64 (c+(IntKind.wrap .u64 ((IntKind.wrap .u64 ((IntKind.wrap .u64 x)*(IntKind.wrap .u64 y)))+(IntKind.wrap .u64 o))))
theorem mulDEq:mulD=mulS:=by funext c x y o;unfold mulD mulS;rw[Int.add_comm]
def mulRow(F:Int→Int→Int→Int→Int)(x c:Int):List Int→List Int→List Int×Int
 |y::ys,o::os=>(loS (F c x y o)::(mulRow F x (hiS (F c x y o)) ys os).1,(mulRow F x (hiS (F c x y o)) ys os).2)
 |_,_=>([],c)
theorem mul_le{x y:Nat}(hx:x<4294967296)(hy:y<4294967296):x*y≤18446744065119617025:=by
 have:=Nat.mul_le_mul (show x≤4294967295 by omega) (show y≤4294967295 by omega)
 omega
theorem mulS_nat{c x y o:Nat}(hc:c<4294967296)(hx:x<4294967296)(hy:y<4294967296)(ho:o<4294967296):mulS c x y o=((x*y+o+c:Nat):Int):=by
 have:=mul_le hx hy
 unfold mulS
 rw[wrapU64N,wrapU64N,wrapU64N,Nat.mod_eq_of_lt (show x<18446744073709551616 by omega),Nat.mod_eq_of_lt (show y<18446744073709551616 by omega),Nat.mod_eq_of_lt (show o<18446744073709551616 by omega),←Int.natCast_mul,wrapU64N,
  Nat.mod_eq_of_lt (by omega),←Int.natCast_add,wrapU64N,Nat.mod_eq_of_lt (by omega),←Int.natCast_add,wrapU64N,Nat.mod_eq_of_lt (by omega)]
theorem mulRow_limbs{x:Nat}(hx:x<4294967296):∀(k b o c:Nat),c<4294967296→
  mulRow mulS x c (limbs k b) (limbs k o)=(limbs k (x*b+o+c),(((x*(b%4294967296^k)+o%4294967296^k+c)/4294967296^k:Nat):Int))
 |0,b,o,c,hc=>by simp[limbs,mulRow,Nat.mod_one]
 |k+1,b,o,c,hc=>by
  have e:=mulS_nat (c:=c) (x:=x) (y:=b%4294967296) (o:=o%4294967296) hc hx (by omega) (by omega)
  have hm:=mul_le hx (show b%4294967296<4294967296 by omega)
  simp only[limbs,mulRow,e]
  have h1:hiS ((x*(b%4294967296)+o%4294967296+c:Nat):Int)=(((x*(b%4294967296)+o%4294967296+c)/4294967296:Nat):Int):=fdivNat _ 4294967296
  have hb:x*b=x*(b%4294967296)+4294967296*(x*(b/4294967296)):=by
   conv=>lhs;rw[←Nat.mod_add_div b 4294967296]
   rw[Nat.mul_add,Nat.mul_left_comm]
  have h2:loS ((x*(b%4294967296)+o%4294967296+c:Nat):Int)=(((x*b+o+c)%4294967296:Nat):Int):=by
   unfold loS;rw[wrapU32,hb];congr 1;omega
  rw[h1,h2,mulRow_limbs hx k _ _ _ (by omega)]
  have e1:x*(b/4294967296)+o/4294967296+(x*(b%4294967296)+o%4294967296+c)/4294967296=(x*b+o+c)/4294967296:=by rw[hb];omega
  rw[e1]
  refine Prod.ext rfl ?_
  show(((x*(b/4294967296%4294967296^k)+o/4294967296%4294967296^k+(x*(b%4294967296)+o%4294967296+c)/4294967296)/4294967296^k:Nat):Int)=_
  congr 1
  have p:4294967296^(k+1)=4294967296*4294967296^k:=by rw[Nat.pow_succ,Nat.mul_comm]
  rw[p,Nat.mod_mul,Nat.mod_mul (x:=o),←Nat.div_div_eq_div_mul,Nat.mul_add,Nat.mul_left_comm x 4294967296]
  congr 1
  generalize x*(b/4294967296%4294967296^k)=u
  generalize o/4294967296%4294967296^k=v
  omega
theorem limbs_add:∀(j k n:Nat),limbs (j+k) n=limbs j n++limbs k (n/4294967296^j)
 |0,k,n=>by simp[limbs]
 |j+1,k,n=>by
  rw[show j+1+k=(j+k)+1 by omega]
  simp only[limbs,limbs_add j k,List.cons_append]
  rw[Nat.div_div_eq_div_mul,Nat.pow_succ,Nat.mul_comm (4294967296^j)]
theorem limbs_mod:∀(k n M:Nat),limbs k (n+4294967296^k*M)=limbs k n
 |0,n,M=>rfl
 |k+1,n,M=>by
  simp only[limbs]
  have p:4294967296^(k+1)*M=4294967296*(4294967296^k*M):=by rw[Nat.pow_succ];simp only[Nat.mul_assoc,Nat.mul_left_comm]
  rw[p,show(n+4294967296*(4294967296^k*M))%4294967296=n%4294967296 by omega,show(n+4294967296*(4294967296^k*M))/4294967296=n/4294967296+4294967296^k*M by omega,limbs_mod k]
theorem limbs_modEq(k n:Nat):limbs k (n%4294967296^k)=limbs k n:=by
 conv=>rhs;rw[←Nat.mod_add_div n (4294967296^k),limbs_mod]
theorem ofInt_nat(k n:Nat):(BitVec.ofInt k (n:Int)).toNat=n%2^k:=by
 rw[BitVec.ofInt_natCast,BitVec.toNat_ofNat]
theorem or32{x y:Nat}(hx:x<4294967296)(hy:y<4294967296):ibits .or .u32 (x:Int) (y:Int)=((x|||y:Nat):Int):=by
 have h:x|||y<2^32:=Nat.or_lt_two_pow hx hy
 show IntKind.wrap .u32 ((BitVec.ofInt 32 (x:Int)|||BitVec.ofInt 32 (y:Int)).toNat:Int)=_
 rw[BitVec.toNat_or,ofInt_nat,ofInt_nat,Nat.mod_eq_of_lt hx,Nat.mod_eq_of_lt hy,wrapU32,Nat.mod_eq_of_lt h]
theorem or64{x y:Nat}(hx:x<18446744073709551616)(hy:y<18446744073709551616):ibits .or .u64 (x:Int) (y:Int)=((x|||y:Nat):Int):=by
 have h:x|||y<2^64:=Nat.or_lt_two_pow hx hy
 show IntKind.wrap .u64 ((BitVec.ofInt 64 (x:Int)|||BitVec.ofInt 64 (y:Int)).toNat:Int)=_
 rw[BitVec.toNat_or,ofInt_nat,ofInt_nat,Nat.mod_eq_of_lt hx,Nat.mod_eq_of_lt hy,wrapU64N,Nat.mod_eq_of_lt h]
theorem and64{x:Nat}(hx:x<18446744073709551616):ibits .and .u64 (x:Int) 4294967295=((x%4294967296:Nat):Int):=by
 show IntKind.wrap .u64 ((BitVec.ofInt 64 (x:Int)&&&BitVec.ofInt 64 ((4294967295:Nat):Int)).toNat:Int)=_
 rw[BitVec.toNat_and,ofInt_nat,ofInt_nat,Nat.mod_eq_of_lt hx,Nat.mod_eq_of_lt (by decide:4294967295<2^64),show(4294967295:Nat)=2^32-1 from rfl,Nat.and_two_pow_sub_one_eq_mod,wrapU64N,Nat.mod_eq_of_lt (show x%2^32<18446744073709551616 by omega)]
theorem or_is_add(x y i:Nat)(hy:y<2^i):x*2^i|||y=x*2^i+y:=by
 have e:=Nat.two_pow_add_eq_or_of_lt hy x
 rw[Nat.mul_comm] at e
 exact e.symm
theorem pow_split{r:Nat}(hr:r≤32):4294967296=2^(32-r)*2^r:=by
 rw[←Nat.pow_add,Nat.sub_add_cancel hr]
theorem mod_up{r:Nat}(hr:r≤32)(x:Nat):x*2^r%4294967296=(x%2^(32-r))*2^r:=by
 conv=>lhs;rw[pow_split hr]
 exact Nat.mul_mod_mul_right _ _ _
theorem up_lt{r:Nat}(hr:r≤32)(x c:Nat)(hc:c<2^r):x*2^r%4294967296+c<4294967296:=by
 rw[mod_up hr]
 have h1:x%2^(32-r)+1≤2^(32-r):=Nat.mod_lt _ (Nat.two_pow_pos _)
 have h2:=Nat.mul_le_mul_right (2^r) h1
 rw[←pow_split hr,Nat.add_mul] at h2
 omega
theorem up_or{r:Nat}(hr:r≤32)(x c:Nat)(hc:c<2^r):(x*2^r%4294967296)|||c=x*2^r%4294967296+c:=by
 rw[mod_up hr];exact or_is_add _ _ _ hc
theorem up_step{r:Nat}(hr:r≤32)(k x c M:Nat)(hc:c<2^r):limbs (k+1) (x*2^r+c+4294967296*M)=((x*2^r%4294967296+c:Nat):Int)::limbs k (x*2^r/4294967296+M):=by
 have h:=up_lt hr x c hc
 simp only[limbs]
 generalize x*2^r=t at*
 rw[show(t+c+4294967296*M)%4294967296=t%4294967296+c by omega,show(t+c+4294967296*M)/4294967296=t/4294967296+M by omega]
theorem carry_up{r x:Nat}(hx:x<4294967296):x*2^r/4294967296<2^r:=by
 refine Nat.div_lt_of_lt_mul ?_
 exact Nat.mul_lt_mul_of_pos_right hx (Nat.two_pow_pos r)
theorem shr_up{r x:Nat}(hr:r≤32):x/2^(32-r)=x*2^r/4294967296:=by
 conv=>rhs;rw[pow_split hr]
 rw[Nat.mul_div_mul_right _ _ (Nat.two_pow_pos r)]
theorem up_six{r x0 x1 x2 x3 x4 x5:Nat}(hr:r≤32)(h0:x0<4294967296)(h1:x1<4294967296)(h2:x2<4294967296)(h3:x3<4294967296)(h4:x4<4294967296){N:Nat}
  (hN:N=(x0+4294967296*x1+18446744073709551616*x2+79228162514264337593543950336*x3+340282366920938463463374607431768211456*x4+1461501637330902918203684832716283019655932542976*x5)):
  limbs 6 (N*2^r)=[((x0*2^r%4294967296:Nat):Int),((x1*2^r%4294967296+x0*2^r/4294967296:Nat):Int),((x2*2^r%4294967296+x1*2^r/4294967296:Nat):Int),
   ((x3*2^r%4294967296+x2*2^r/4294967296:Nat):Int),((x4*2^r%4294967296+x3*2^r/4294967296:Nat):Int),((x5*2^r%4294967296+x4*2^r/4294967296:Nat):Int)]:=by
 have e:N*2^r=x0*2^r+0+4294967296*(x1*2^r+4294967296*(x2*2^r+4294967296*(x3*2^r+4294967296*(x4*2^r+4294967296*(x5*2^r+4294967296*0))))):=by
  subst hN
  generalize 2^r=P
  simp only[Nat.add_mul,Nat.mul_assoc]
  omega
 rw[e,up_step hr _ _ _ _ (Nat.two_pow_pos r)]
 rw[show∀u v w:Nat,u+(v+4294967296*w)=v+u+4294967296*w from fun u v w=>by omega,up_step hr _ _ _ _ (carry_up h0)]
 rw[show∀u v w:Nat,u+(v+4294967296*w)=v+u+4294967296*w from fun u v w=>by omega,up_step hr _ _ _ _ (carry_up h1)]
 rw[show∀u v w:Nat,u+(v+4294967296*w)=v+u+4294967296*w from fun u v w=>by omega,up_step hr _ _ _ _ (carry_up h2)]
 rw[show∀u v w:Nat,u+(v+4294967296*w)=v+u+4294967296*w from fun u v w=>by omega,up_step hr _ _ _ _ (carry_up h3)]
 rw[show∀u v w:Nat,u+(v+4294967296*w)=v+u+4294967296*w from fun u v w=>by omega,up_step hr _ _ _ _ (carry_up h4)]
 rfl
theorem down_step{r:Nat}(hr:r≤32)(k x M:Nat)(hx:x<4294967296):limbs (k+1) ((x+4294967296*M)/2^r)=((x/2^r+M*2^(32-r)%4294967296:Nat):Int)::limbs k (M/2^r):=by
 have e1:(x+4294967296*M)/2^r=x/2^r+M*2^(32-r):=by
  conv=>lhs;rw[pow_split hr]
  rw[Nat.mul_comm (2^(32-r)) (2^r),Nat.mul_assoc,Nat.add_mul_div_left _ _ (Nat.two_pow_pos r),Nat.mul_comm M]
 have hc:x/2^r<2^(32-r):=by
  refine Nat.div_lt_of_lt_mul ?_
  rw[Nat.mul_comm,←pow_split hr];exact hx
 have hl:=up_lt (r:=32-r) (by omega) M (x/2^r) hc
 have e2:M*2^(32-r)/4294967296=M/2^r:=by
  have:=shr_up (r:=32-r) (x:=M) (by omega)
  rw[←this];congr 2;omega
 simp only[limbs]
 rw[e1,←e2]
 generalize M*2^(32-r)=t at*
 generalize x/2^r=c at*
 rw[show(c+t)%4294967296=c+t%4294967296 by omega,show(c+t)/4294967296=t/4294967296 by omega]
theorem down_mod{r:Nat}(hr:r≤32)(x M:Nat):(x+4294967296*M)*2^(32-r)%4294967296=x*2^(32-r)%4294967296:=by
 rw[Nat.add_mul,Nat.mul_assoc,Nat.add_mul_mod_self_left]
end Go.Proofs.YtlmmgjngihlpeaaGreat.Sx
/- Plain laws: what the functions on sizes compute, as numbers. Our own work. -/
namespace Go.Proofs.YtlmmgjngihlpeaaGreat.Sx
open Go
set_option linter.unusedVariables false
set_option linter.unusedSimpArgs false
set_option maxRecDepth 100000
theorem l6(a:Nat):(limbs 6 a).length=6:=limbs_length 6 a
theorem carry_zero{s:Nat}:((((s/W192:Nat):Int))==0)=decide (s<W192):=by
 by_cases h:s<W192
 ·rw[Nat.div_eq_of_lt h,decide_eq_true h];rfl
 ·rw[decide_eq_false h]
  have:0<s/W192:=Nat.div_pos (by omega) (by decide)
  generalize s/W192=q at*
  simp;omega
section
variable {α:Type} (n:Nat) {a b:Nat}
theorem g109L(ha:a<W192)(hb:b<W192)(k:List Int→Bool→Option α):g109 (n+7) (limbs 6 a) (limbs 6 b) k=k (limbs 6 (a+b)) (decide (a+b<W192)):=by
 rw[g109Eq n (l6 a) (l6 b),sum6 ha hb];simp only[carry_zero]
theorem g45L(ha:a<W192)(hb:b<W192)(k:List Int→Bool→Option α):g45 (n+7) (limbs 6 a) (limbs 6 b) k=k (limbs 6 (a+b)) (!(decide (a+b<W192))):=by
 rw[g45Eq n (l6 a) (l6 b),sum6 ha hb];simp only[bne,carry_zero]
theorem g108L(h:b≤a)(k:List Int→Option α):g108 (n+7) (limbs 6 a) (limbs 6 b) k=k (limbs 6 (a-b)):=by
 rw[g108Eq n (l6 a) (l6 b),dif6 h]
theorem g84L(h:b≤a)(k:List Int→Option α):g84 (n+7) (limbs 6 a) (limbs 6 b) k=k (limbs 6 (a-b)):=by
 rw[g84Eqi n (l6 a) (l6 b),difLEq _ _ 0 (limbs_u32 6 a) (limbs_u32 6 b) (.inl rfl),dif6 h]
theorem g111L(ha:a<W192)(hb:b<W192)(k:Int→Option α):g111 (n+7) (limbs 6 a) (limbs 6 b) k=k (cmpN a b):=by
 rw[g111Eq n (l6 a) (l6 b),cmp6_limbs ha hb]
theorem g46L(ha:a<W192)(hb:b<W192)(k:Int→Option α):g46 (n+7) (limbs 6 a) (limbs 6 b) k=k (cmpN a b):=by
 rw[g46Eq n (l6 a) (l6 b),cmp6_limbs ha hb]
theorem g126L(m:Nat)(ha:a<W192)(k:Bool→Option α):g126 m (limbs 6 a) k=k (decide (a=0)):=by
 simp only[g126,g126b,eqLI_zero ha]
theorem g110L(m:Nat)(q:Bool)(ha:a<W192)(k:Bool→Option α):g110 m q (limbs 6 a) k=k (q&& !(decide (a=0))):=by
 simp only[g110,g110b,g126L m ha];cases q<;>rfl
theorem g73L(m:Nat)(q:Bool)(ha:a<W192)(k:Bool→Option α):g73 m q (limbs 6 a) k=k (q&& !(decide (a=0))):=by
 simp only[g73,g73b,eqLI_zero ha];cases q<;>rfl
theorem g15L(m:Nat)(q:Bool)(ha:a<W192)(k:Bool→Option α):g15 m q (limbs 6 a) k=k (!(q&&decide (a=0))):=by
 simp only[g15,g15b,eqLI_zero ha];cases q<;>cases(decide (a=0))<;>rfl
end
def dv:Nat→Nat→Nat
 |0,N=>N
 |j+1,N=>dv j (N/4294967296)
theorem dv_eq:∀j N,dv j N=N/4294967296^j
 |0,N=>by simp[dv]
 |j+1,N=>by rw[dv,dv_eq j,Nat.div_div_eq_div_mul,Nat.pow_succ,Nat.mul_comm (4294967296^j)]
theorem row_put(i:Nat){N x b:Nat}(hi:i<6)(hx:x<4294967296)(hb:b<W192)(hN:N<4294967296^(i+6)):
  List.set (limbs i N++((mulRow mulS (x:Int) 0 (limbs 6 b) (limbs 6 (dv i N))).1++limbs (6-i) (dv (i+6) N))) (i+6) (IntKind.wrap .u32 (mulRow mulS (x:Int) 0 (limbs 6 b) (limbs 6 (dv i N))).2)=
   limbs 12 (N+x*b*4294967296^i):=by
 have h:=mulRow_limbs hx 6 b (dv i N) 0 (by omega)
 rw[show((0:Nat):Int)=0 from rfl] at h
 rw[h]
 simp only[Nat.add_zero]
 have hd:dv i N<W192:=by
  rw[dv_eq]
  refine Nat.div_lt_of_lt_mul ?_
  rw[←show(4294967296:Nat)^6=W192 from by decide,←Nat.pow_add]
  exact hN
 have hd':dv (i+6) N=0:=by rw[dv_eq];exact Nat.div_eq_of_lt hN
 rw[hd',show(4294967296:Nat)^6=W192 from by decide,Nat.mod_eq_of_lt hb,Nat.mod_eq_of_lt hd]
 have hc:(x*b+dv i N)/W192<4294967296:=by
  refine Nat.div_lt_of_lt_mul ?_
  have h1:x*b≤4294967295*b:=Nat.mul_le_mul_right _ (by omega)
  have hb':b<6277101735386680763835789423207666416102355444464034512896:=hb
  have hd'':dv i N<6277101735386680763835789423207666416102355444464034512896:=hd
  show _<6277101735386680763835789423207666416102355444464034512896*4294967296
  omega
 rw[wrapU32,Nat.mod_eq_of_lt hc]
 have e1:limbs 12 (N+x*b*4294967296^i)=limbs i N++(limbs 6 (x*b+dv i N)++limbs (6-i) ((x*b+dv i N)/W192)):=by
  rw[show 12=i+(6+(6-i)) by omega,limbs_add,Nat.mul_comm (x*b),limbs_mod,limbs_add,Nat.add_mul_div_left _ _ (Nat.pow_pos (by decide)),dv_eq,Nat.add_comm (N/_),
   show(4294967296:Nat)^6=W192 from by decide]
 rw[e1,List.set_append_right _ _ (by rw[limbs_length];omega),List.set_append_right _ _ (by rw[limbs_length,limbs_length];omega),limbs_length,limbs_length,show i+6-i-6=0 by omega]
 congr 2
 obtain⟨j,hj⟩:∃j,6-i=j+1:=⟨5-i,by omega⟩
 rw[hj]
 simp only[limbs,List.set_cons_zero]
 rw[Nat.mod_eq_of_lt hc,Nat.div_eq_of_lt hc]
theorem g119row0{α:Type}(n a b N:Nat)(q r s:Bool)(z:List Int)(k:Int→List Int→Option α):g119l2 0 q (limbs 6 a) r (limbs 6 b) s z k (n+7) 0 0 (limbs 12 N)=
  k (mulRow mulS ((dv 0 a%4294967296:Nat):Int) 0 (limbs 6 b) (limbs 6 (dv 0 N))).2 (limbs 0 N++((mulRow mulS ((dv 0 a%4294967296:Nat):Int) 0 (limbs 6 b) (limbs 6 (dv 0 N))).1++limbs 6 (dv 6 N))):=by kernel_rfl
theorem g85row0{α:Type}(n a b N:Nat)(w z y:List Int)(v:Int)(k:Int→List Int→Option α):g85l2 0 ((dv 0 a%4294967296:Nat):Int) w v (limbs 6 b) z y k (n+7) 0 0 (limbs 12 N)=
  k (mulRow mulD ((dv 0 a%4294967296:Nat):Int) 0 (limbs 6 b) (limbs 6 (dv 0 N))).2 (limbs 0 N++((mulRow mulD ((dv 0 a%4294967296:Nat):Int) 0 (limbs 6 b) (limbs 6 (dv 0 N))).1++limbs 6 (dv 6 N))):=by kernel_rfl
theorem g119row1{α:Type}(n a b N:Nat)(q r s:Bool)(z:List Int)(k:Int→List Int→Option α):g119l2 1 q (limbs 6 a) r (limbs 6 b) s z k (n+7) 0 0 (limbs 12 N)=
  k (mulRow mulS ((dv 1 a%4294967296:Nat):Int) 0 (limbs 6 b) (limbs 6 (dv 1 N))).2 (limbs 1 N++((mulRow mulS ((dv 1 a%4294967296:Nat):Int) 0 (limbs 6 b) (limbs 6 (dv 1 N))).1++limbs 5 (dv 7 N))):=by kernel_rfl
theorem g85row1{α:Type}(n a b N:Nat)(w z y:List Int)(v:Int)(k:Int→List Int→Option α):g85l2 1 ((dv 1 a%4294967296:Nat):Int) w v (limbs 6 b) z y k (n+7) 0 0 (limbs 12 N)=
  k (mulRow mulD ((dv 1 a%4294967296:Nat):Int) 0 (limbs 6 b) (limbs 6 (dv 1 N))).2 (limbs 1 N++((mulRow mulD ((dv 1 a%4294967296:Nat):Int) 0 (limbs 6 b) (limbs 6 (dv 1 N))).1++limbs 5 (dv 7 N))):=by kernel_rfl
theorem g119row2{α:Type}(n a b N:Nat)(q r s:Bool)(z:List Int)(k:Int→List Int→Option α):g119l2 2 q (limbs 6 a) r (limbs 6 b) s z k (n+7) 0 0 (limbs 12 N)=
  k (mulRow mulS ((dv 2 a%4294967296:Nat):Int) 0 (limbs 6 b) (limbs 6 (dv 2 N))).2 (limbs 2 N++((mulRow mulS ((dv 2 a%4294967296:Nat):Int) 0 (limbs 6 b) (limbs 6 (dv 2 N))).1++limbs 4 (dv 8 N))):=by kernel_rfl
theorem g85row2{α:Type}(n a b N:Nat)(w z y:List Int)(v:Int)(k:Int→List Int→Option α):g85l2 2 ((dv 2 a%4294967296:Nat):Int) w v (limbs 6 b) z y k (n+7) 0 0 (limbs 12 N)=
  k (mulRow mulD ((dv 2 a%4294967296:Nat):Int) 0 (limbs 6 b) (limbs 6 (dv 2 N))).2 (limbs 2 N++((mulRow mulD ((dv 2 a%4294967296:Nat):Int) 0 (limbs 6 b) (limbs 6 (dv 2 N))).1++limbs 4 (dv 8 N))):=by kernel_rfl
theorem g119row3{α:Type}(n a b N:Nat)(q r s:Bool)(z:List Int)(k:Int→List Int→Option α):g119l2 3 q (limbs 6 a) r (limbs 6 b) s z k (n+7) 0 0 (limbs 12 N)=
  k (mulRow mulS ((dv 3 a%4294967296:Nat):Int) 0 (limbs 6 b) (limbs 6 (dv 3 N))).2 (limbs 3 N++((mulRow mulS ((dv 3 a%4294967296:Nat):Int) 0 (limbs 6 b) (limbs 6 (dv 3 N))).1++limbs 3 (dv 9 N))):=by kernel_rfl
theorem g85row3{α:Type}(n a b N:Nat)(w z y:List Int)(v:Int)(k:Int→List Int→Option α):g85l2 3 ((dv 3 a%4294967296:Nat):Int) w v (limbs 6 b) z y k (n+7) 0 0 (limbs 12 N)=
  k (mulRow mulD ((dv 3 a%4294967296:Nat):Int) 0 (limbs 6 b) (limbs 6 (dv 3 N))).2 (limbs 3 N++((mulRow mulD ((dv 3 a%4294967296:Nat):Int) 0 (limbs 6 b) (limbs 6 (dv 3 N))).1++limbs 3 (dv 9 N))):=by kernel_rfl
theorem g119row4{α:Type}(n a b N:Nat)(q r s:Bool)(z:List Int)(k:Int→List Int→Option α):g119l2 4 q (limbs 6 a) r (limbs 6 b) s z k (n+7) 0 0 (limbs 12 N)=
  k (mulRow mulS ((dv 4 a%4294967296:Nat):Int) 0 (limbs 6 b) (limbs 6 (dv 4 N))).2 (limbs 4 N++((mulRow mulS ((dv 4 a%4294967296:Nat):Int) 0 (limbs 6 b) (limbs 6 (dv 4 N))).1++limbs 2 (dv 10 N))):=by kernel_rfl
theorem g85row4{α:Type}(n a b N:Nat)(w z y:List Int)(v:Int)(k:Int→List Int→Option α):g85l2 4 ((dv 4 a%4294967296:Nat):Int) w v (limbs 6 b) z y k (n+7) 0 0 (limbs 12 N)=
  k (mulRow mulD ((dv 4 a%4294967296:Nat):Int) 0 (limbs 6 b) (limbs 6 (dv 4 N))).2 (limbs 4 N++((mulRow mulD ((dv 4 a%4294967296:Nat):Int) 0 (limbs 6 b) (limbs 6 (dv 4 N))).1++limbs 2 (dv 10 N))):=by kernel_rfl
theorem g119row5{α:Type}(n a b N:Nat)(q r s:Bool)(z:List Int)(k:Int→List Int→Option α):g119l2 5 q (limbs 6 a) r (limbs 6 b) s z k (n+7) 0 0 (limbs 12 N)=
  k (mulRow mulS ((dv 5 a%4294967296:Nat):Int) 0 (limbs 6 b) (limbs 6 (dv 5 N))).2 (limbs 5 N++((mulRow mulS ((dv 5 a%4294967296:Nat):Int) 0 (limbs 6 b) (limbs 6 (dv 5 N))).1++limbs 1 (dv 11 N))):=by kernel_rfl
theorem g85row5{α:Type}(n a b N:Nat)(w z y:List Int)(v:Int)(k:Int→List Int→Option α):g85l2 5 ((dv 5 a%4294967296:Nat):Int) w v (limbs 6 b) z y k (n+7) 0 0 (limbs 12 N)=
  k (mulRow mulD ((dv 5 a%4294967296:Nat):Int) 0 (limbs 6 b) (limbs 6 (dv 5 N))).2 (limbs 5 N++((mulRow mulD ((dv 5 a%4294967296:Nat):Int) 0 (limbs 6 b) (limbs 6 (dv 5 N))).1++limbs 1 (dv 11 N))):=by kernel_rfl
end Go.Proofs.YtlmmgjngihlpeaaGreat.Sx
/- Plain laws: products. Our own work. -/
namespace Go.Proofs.YtlmmgjngihlpeaaGreat.Sx
open Go
set_option linter.unusedVariables false
set_option linter.unusedSimpArgs false
set_option maxRecDepth 100000
theorem part_step(a b i:Nat):(a%4294967296^i)*b+(dv i a%4294967296)*b*4294967296^i=(a%4294967296^(i+1))*b:=by
 rw[Nat.mod_pow_succ,dv_eq,Nat.add_mul,Nat.mul_right_comm,Nat.mul_comm (_%_) (_^i)]
theorem part_lt{a b:Nat}(i:Nat)(hb:b<W192):(a%4294967296^i)*b<4294967296^(i+6):=by
 rw[Nat.pow_add,show(4294967296:Nat)^6=W192 from by decide]
 have h1:a%4294967296^i<4294967296^i:=Nat.mod_lt _ (Nat.pow_pos (by decide))
 exact Nat.mul_lt_mul'' h1 hb
theorem part_put(i:Nat){a b:Nat}(hi:i<6)(hb:b<W192):
  List.set (limbs i ((a%4294967296^i)*b)++((mulRow mulS ((dv i a%4294967296:Nat):Int) 0 (limbs 6 b) (limbs 6 (dv i ((a%4294967296^i)*b)))).1++limbs (6-i) (dv (i+6) ((a%4294967296^i)*b)))) (i+6)
   (IntKind.wrap .u32 (mulRow mulS ((dv i a%4294967296:Nat):Int) 0 (limbs 6 b) (limbs 6 (dv i ((a%4294967296^i)*b)))).2)=limbs 12 ((a%4294967296^(i+1))*b):=by
 rw[row_put i hi (Nat.mod_lt _ (by decide)) hb (part_lt i hb),part_step]
theorem g119s0{α:Type}(n j a b:Nat)(hb:b<W192)(q r s:Bool)(z:List Int)(k:List Int→Option α):g119l0 (g119l2M (n+7)) q (limbs 6 a) r (limbs 6 b) s z k (j+1) 0 (limbs 12 ((a%4294967296^0)*b))=
  g119l0 (g119l2M (n+7)) q (limbs 6 a) r (limbs 6 b) s z k j 1 (limbs 12 ((a%4294967296^1)*b)):=by
 have h1:∀out,g119l0 (g119l2M (n+7)) q (limbs 6 a) r (limbs 6 b) s z k (j+1) 0 out=g119l2 0 q (limbs 6 a) r (limbs 6 b) s z (fun c l=>g119l0 (g119l2M (n+7)) q (limbs 6 a) r (limbs 6 b) s z k j 1 (List.set l 6 (IntKind.wrap .u32 c))) (n+7) 0 0 out:=by intro out;kernel_rfl
 rw[h1,g119row0]
 exact congrArg (fun l=>g119l0 (g119l2M (n+7)) q (limbs 6 a) r (limbs 6 b) s z k j 1 l) (part_put 0 (by decide) hb)
theorem g85s0{α:Type}(n j a b:Nat)(hb:b<W192)(z:List Int)(k:List Int→Option α):g85l0 (g85l2M (n+7)) (limbs 6 a) (limbs 6 b) z k (j+1) 0 (limbs 12 ((a%4294967296^0)*b))=
  g85l0 (g85l2M (n+7)) (limbs 6 a) (limbs 6 b) z k j 1 (limbs 12 ((a%4294967296^1)*b)):=by
 have h1:∀out,g85l0 (g85l2M (n+7)) (limbs 6 a) (limbs 6 b) z k (j+1) 0 out=g85l2 0 ((dv 0 a%4294967296:Nat):Int) (limbs 6 a) 0 (limbs 6 b) (limbs 6 b) z (fun c l=>g85l0 (g85l2M (n+7)) (limbs 6 a) (limbs 6 b) z k j 1 (List.set l 6 (IntKind.wrap .u32 c))) (n+7) 0 0 out:=by intro out;kernel_rfl
 rw[h1,g85row0,mulDEq]
 exact congrArg (fun l=>g85l0 (g85l2M (n+7)) (limbs 6 a) (limbs 6 b) z k j 1 l) (part_put 0 (by decide) hb)
theorem g119s1{α:Type}(n j a b:Nat)(hb:b<W192)(q r s:Bool)(z:List Int)(k:List Int→Option α):g119l0 (g119l2M (n+7)) q (limbs 6 a) r (limbs 6 b) s z k (j+1) 1 (limbs 12 ((a%4294967296^1)*b))=
  g119l0 (g119l2M (n+7)) q (limbs 6 a) r (limbs 6 b) s z k j 2 (limbs 12 ((a%4294967296^2)*b)):=by
 have h1:∀out,g119l0 (g119l2M (n+7)) q (limbs 6 a) r (limbs 6 b) s z k (j+1) 1 out=g119l2 1 q (limbs 6 a) r (limbs 6 b) s z (fun c l=>g119l0 (g119l2M (n+7)) q (limbs 6 a) r (limbs 6 b) s z k j 2 (List.set l 7 (IntKind.wrap .u32 c))) (n+7) 0 0 out:=by intro out;kernel_rfl
 rw[h1,g119row1]
 exact congrArg (fun l=>g119l0 (g119l2M (n+7)) q (limbs 6 a) r (limbs 6 b) s z k j 2 l) (part_put 1 (by decide) hb)
theorem g85s1{α:Type}(n j a b:Nat)(hb:b<W192)(z:List Int)(k:List Int→Option α):g85l0 (g85l2M (n+7)) (limbs 6 a) (limbs 6 b) z k (j+1) 1 (limbs 12 ((a%4294967296^1)*b))=
  g85l0 (g85l2M (n+7)) (limbs 6 a) (limbs 6 b) z k j 2 (limbs 12 ((a%4294967296^2)*b)):=by
 have h1:∀out,g85l0 (g85l2M (n+7)) (limbs 6 a) (limbs 6 b) z k (j+1) 1 out=g85l2 1 ((dv 1 a%4294967296:Nat):Int) (limbs 6 a) 1 (limbs 6 b) (limbs 6 b) z (fun c l=>g85l0 (g85l2M (n+7)) (limbs 6 a) (limbs 6 b) z k j 2 (List.set l 7 (IntKind.wrap .u32 c))) (n+7) 0 0 out:=by intro out;kernel_rfl
 rw[h1,g85row1,mulDEq]
 exact congrArg (fun l=>g85l0 (g85l2M (n+7)) (limbs 6 a) (limbs 6 b) z k j 2 l) (part_put 1 (by decide) hb)
theorem g119s2{α:Type}(n j a b:Nat)(hb:b<W192)(q r s:Bool)(z:List Int)(k:List Int→Option α):g119l0 (g119l2M (n+7)) q (limbs 6 a) r (limbs 6 b) s z k (j+1) 2 (limbs 12 ((a%4294967296^2)*b))=
  g119l0 (g119l2M (n+7)) q (limbs 6 a) r (limbs 6 b) s z k j 3 (limbs 12 ((a%4294967296^3)*b)):=by
 have h1:∀out,g119l0 (g119l2M (n+7)) q (limbs 6 a) r (limbs 6 b) s z k (j+1) 2 out=g119l2 2 q (limbs 6 a) r (limbs 6 b) s z (fun c l=>g119l0 (g119l2M (n+7)) q (limbs 6 a) r (limbs 6 b) s z k j 3 (List.set l 8 (IntKind.wrap .u32 c))) (n+7) 0 0 out:=by intro out;kernel_rfl
 rw[h1,g119row2]
 exact congrArg (fun l=>g119l0 (g119l2M (n+7)) q (limbs 6 a) r (limbs 6 b) s z k j 3 l) (part_put 2 (by decide) hb)
theorem g85s2{α:Type}(n j a b:Nat)(hb:b<W192)(z:List Int)(k:List Int→Option α):g85l0 (g85l2M (n+7)) (limbs 6 a) (limbs 6 b) z k (j+1) 2 (limbs 12 ((a%4294967296^2)*b))=
  g85l0 (g85l2M (n+7)) (limbs 6 a) (limbs 6 b) z k j 3 (limbs 12 ((a%4294967296^3)*b)):=by
 have h1:∀out,g85l0 (g85l2M (n+7)) (limbs 6 a) (limbs 6 b) z k (j+1) 2 out=g85l2 2 ((dv 2 a%4294967296:Nat):Int) (limbs 6 a) 2 (limbs 6 b) (limbs 6 b) z (fun c l=>g85l0 (g85l2M (n+7)) (limbs 6 a) (limbs 6 b) z k j 3 (List.set l 8 (IntKind.wrap .u32 c))) (n+7) 0 0 out:=by intro out;kernel_rfl
 rw[h1,g85row2,mulDEq]
 exact congrArg (fun l=>g85l0 (g85l2M (n+7)) (limbs 6 a) (limbs 6 b) z k j 3 l) (part_put 2 (by decide) hb)
theorem g119s3{α:Type}(n j a b:Nat)(hb:b<W192)(q r s:Bool)(z:List Int)(k:List Int→Option α):g119l0 (g119l2M (n+7)) q (limbs 6 a) r (limbs 6 b) s z k (j+1) 3 (limbs 12 ((a%4294967296^3)*b))=
  g119l0 (g119l2M (n+7)) q (limbs 6 a) r (limbs 6 b) s z k j 4 (limbs 12 ((a%4294967296^4)*b)):=by
 have h1:∀out,g119l0 (g119l2M (n+7)) q (limbs 6 a) r (limbs 6 b) s z k (j+1) 3 out=g119l2 3 q (limbs 6 a) r (limbs 6 b) s z (fun c l=>g119l0 (g119l2M (n+7)) q (limbs 6 a) r (limbs 6 b) s z k j 4 (List.set l 9 (IntKind.wrap .u32 c))) (n+7) 0 0 out:=by intro out;kernel_rfl
 rw[h1,g119row3]
 exact congrArg (fun l=>g119l0 (g119l2M (n+7)) q (limbs 6 a) r (limbs 6 b) s z k j 4 l) (part_put 3 (by decide) hb)
theorem g85s3{α:Type}(n j a b:Nat)(hb:b<W192)(z:List Int)(k:List Int→Option α):g85l0 (g85l2M (n+7)) (limbs 6 a) (limbs 6 b) z k (j+1) 3 (limbs 12 ((a%4294967296^3)*b))=
  g85l0 (g85l2M (n+7)) (limbs 6 a) (limbs 6 b) z k j 4 (limbs 12 ((a%4294967296^4)*b)):=by
 have h1:∀out,g85l0 (g85l2M (n+7)) (limbs 6 a) (limbs 6 b) z k (j+1) 3 out=g85l2 3 ((dv 3 a%4294967296:Nat):Int) (limbs 6 a) 3 (limbs 6 b) (limbs 6 b) z (fun c l=>g85l0 (g85l2M (n+7)) (limbs 6 a) (limbs 6 b) z k j 4 (List.set l 9 (IntKind.wrap .u32 c))) (n+7) 0 0 out:=by intro out;kernel_rfl
 rw[h1,g85row3,mulDEq]
 exact congrArg (fun l=>g85l0 (g85l2M (n+7)) (limbs 6 a) (limbs 6 b) z k j 4 l) (part_put 3 (by decide) hb)
theorem g119s4{α:Type}(n j a b:Nat)(hb:b<W192)(q r s:Bool)(z:List Int)(k:List Int→Option α):g119l0 (g119l2M (n+7)) q (limbs 6 a) r (limbs 6 b) s z k (j+1) 4 (limbs 12 ((a%4294967296^4)*b))=
  g119l0 (g119l2M (n+7)) q (limbs 6 a) r (limbs 6 b) s z k j 5 (limbs 12 ((a%4294967296^5)*b)):=by
 have h1:∀out,g119l0 (g119l2M (n+7)) q (limbs 6 a) r (limbs 6 b) s z k (j+1) 4 out=g119l2 4 q (limbs 6 a) r (limbs 6 b) s z (fun c l=>g119l0 (g119l2M (n+7)) q (limbs 6 a) r (limbs 6 b) s z k j 5 (List.set l 10 (IntKind.wrap .u32 c))) (n+7) 0 0 out:=by intro out;kernel_rfl
 rw[h1,g119row4]
 exact congrArg (fun l=>g119l0 (g119l2M (n+7)) q (limbs 6 a) r (limbs 6 b) s z k j 5 l) (part_put 4 (by decide) hb)
theorem g85s4{α:Type}(n j a b:Nat)(hb:b<W192)(z:List Int)(k:List Int→Option α):g85l0 (g85l2M (n+7)) (limbs 6 a) (limbs 6 b) z k (j+1) 4 (limbs 12 ((a%4294967296^4)*b))=
  g85l0 (g85l2M (n+7)) (limbs 6 a) (limbs 6 b) z k j 5 (limbs 12 ((a%4294967296^5)*b)):=by
 have h1:∀out,g85l0 (g85l2M (n+7)) (limbs 6 a) (limbs 6 b) z k (j+1) 4 out=g85l2 4 ((dv 4 a%4294967296:Nat):Int) (limbs 6 a) 4 (limbs 6 b) (limbs 6 b) z (fun c l=>g85l0 (g85l2M (n+7)) (limbs 6 a) (limbs 6 b) z k j 5 (List.set l 10 (IntKind.wrap .u32 c))) (n+7) 0 0 out:=by intro out;kernel_rfl
 rw[h1,g85row4,mulDEq]
 exact congrArg (fun l=>g85l0 (g85l2M (n+7)) (limbs 6 a) (limbs 6 b) z k j 5 l) (part_put 4 (by decide) hb)
theorem g119s5{α:Type}(n j a b:Nat)(hb:b<W192)(q r s:Bool)(z:List Int)(k:List Int→Option α):g119l0 (g119l2M (n+7)) q (limbs 6 a) r (limbs 6 b) s z k (j+1) 5 (limbs 12 ((a%4294967296^5)*b))=
  g119l0 (g119l2M (n+7)) q (limbs 6 a) r (limbs 6 b) s z k j 6 (limbs 12 ((a%4294967296^6)*b)):=by
 have h1:∀out,g119l0 (g119l2M (n+7)) q (limbs 6 a) r (limbs 6 b) s z k (j+1) 5 out=g119l2 5 q (limbs 6 a) r (limbs 6 b) s z (fun c l=>g119l0 (g119l2M (n+7)) q (limbs 6 a) r (limbs 6 b) s z k j 6 (List.set l 11 (IntKind.wrap .u32 c))) (n+7) 0 0 out:=by intro out;kernel_rfl
 rw[h1,g119row5]
 exact congrArg (fun l=>g119l0 (g119l2M (n+7)) q (limbs 6 a) r (limbs 6 b) s z k j 6 l) (part_put 5 (by decide) hb)
theorem g85s5{α:Type}(n j a b:Nat)(hb:b<W192)(z:List Int)(k:List Int→Option α):g85l0 (g85l2M (n+7)) (limbs 6 a) (limbs 6 b) z k (j+1) 5 (limbs 12 ((a%4294967296^5)*b))=
  g85l0 (g85l2M (n+7)) (limbs 6 a) (limbs 6 b) z k j 6 (limbs 12 ((a%4294967296^6)*b)):=by
 have h1:∀out,g85l0 (g85l2M (n+7)) (limbs 6 a) (limbs 6 b) z k (j+1) 5 out=g85l2 5 ((dv 5 a%4294967296:Nat):Int) (limbs 6 a) 5 (limbs 6 b) (limbs 6 b) z (fun c l=>g85l0 (g85l2M (n+7)) (limbs 6 a) (limbs 6 b) z k j 6 (List.set l 11 (IntKind.wrap .u32 c))) (n+7) 0 0 out:=by intro out;kernel_rfl
 rw[h1,g85row5,mulDEq]
 exact congrArg (fun l=>g85l0 (g85l2M (n+7)) (limbs 6 a) (limbs 6 b) z k j 6 l) (part_put 5 (by decide) hb)
theorem g119rows{α:Type}(n:Nat){a b:Nat}(ha:a<W192)(hb:b<W192)(q r s:Bool)(z:List Int)(k:List Int→Option α):
  g119l0 (g119l2M (n+7)) q (limbs 6 a) r (limbs 6 b) s z k (n+7) 0 [0,0,0,0,0,0,0,0,0,0,0,0]=k (limbs 12 (a*b)):=by
 have h0:([0,0,0,0,0,0,0,0,0,0,0,0]:List Int)=limbs 12 ((a%4294967296^0)*b):=by rw[Nat.pow_zero,Nat.mod_one,Nat.zero_mul];rfl
 rw[h0,g119s0 n (n+6) a b hb,g119s1 n (n+5) a b hb,g119s2 n (n+4) a b hb,g119s3 n (n+3) a b hb,g119s4 n (n+2) a b hb,g119s5 n (n+1) a b hb,show(4294967296:Nat)^6=W192 from by decide,Nat.mod_eq_of_lt ha]
 rfl
theorem g85rows{α:Type}(n:Nat){a b:Nat}(ha:a<W192)(hb:b<W192)(z:List Int)(k:List Int→Option α):
  g85l0 (g85l2M (n+7)) (limbs 6 a) (limbs 6 b) z k (n+7) 0 [0,0,0,0,0,0,0,0,0,0,0,0]=k (limbs 12 (a*b)):=by
 have h0:([0,0,0,0,0,0,0,0,0,0,0,0]:List Int)=limbs 12 ((a%4294967296^0)*b):=by rw[Nat.pow_zero,Nat.mod_one,Nat.zero_mul];rfl
 rw[h0,g85s0 n (n+6) a b hb z,g85s1 n (n+5) a b hb z,g85s2 n (n+4) a b hb z,g85s3 n (n+3) a b hb z,g85s4 n (n+2) a b hb z,g85s5 n (n+1) a b hb z,show(4294967296:Nat)^6=W192 from by decide,Nat.mod_eq_of_lt ha]
 rfl
theorem chkStep{β:Type}(x:Nat)(A Z:β):cond (((x:Nat):Int) !=0) A Z=if x=0 then Z else A:=by
 by_cases h:x=0
 ·subst h;rfl
 ·rw[if_neg h,show(((x:Nat):Int) !=0)=true by simpa using h];rfl
theorem chkAll{β:Type}(x0 x1 x2 x3 x4 x5:Nat)(A Z:β)(p:Prop)[Decidable p](hp:p↔x0=0∧x1=0∧x2=0∧x3=0∧x4=0∧x5=0):
  cond (((x0:Nat):Int) !=0) A (cond (((x1:Nat):Int) !=0) A (cond (((x2:Nat):Int) !=0) A (cond (((x3:Nat):Int) !=0) A (cond (((x4:Nat):Int) !=0) A (cond (((x5:Nat):Int) !=0) A Z)))))=cond (decide p) Z A:=by
 simp only[chkStep]
 by_cases h0:x0=0
 ·by_cases h1:x1=0
  ·by_cases h2:x2=0
   ·by_cases h3:x3=0
    ·by_cases h4:x4=0
     ·by_cases h5:x5=0
      ·rw[decide_eq_true (hp.2 ⟨h0,h1,h2,h3,h4,h5⟩),if_pos h0,if_pos h1,if_pos h2,if_pos h3,if_pos h4,if_pos h5];rfl
      ·rw[decide_eq_false (fun h=>h5 (hp.1 h).2.2.2.2.2),if_pos h0,if_pos h1,if_pos h2,if_pos h3,if_pos h4,if_neg h5];rfl
     ·rw[decide_eq_false (fun h=>h4 (hp.1 h).2.2.2.2.1),if_pos h0,if_pos h1,if_pos h2,if_pos h3,if_neg h4];rfl
    ·rw[decide_eq_false (fun h=>h3 (hp.1 h).2.2.2.1),if_pos h0,if_pos h1,if_pos h2,if_neg h3];rfl
   ·rw[decide_eq_false (fun h=>h2 (hp.1 h).2.2.1),if_pos h0,if_pos h1,if_neg h2];rfl
  ·rw[decide_eq_false (fun h=>h1 (hp.1 h).2.1),if_pos h0,if_neg h1];rfl
 ·rw[decide_eq_false (fun h=>h0 (hp.1 h).1),if_neg h0];rfl
theorem chk6{β:Type}(N:Nat)(hN:N<W192*W192)(A Z:β):
  cond (((dv 6 N%4294967296:Nat):Int) !=0) A (cond (((dv 7 N%4294967296:Nat):Int) !=0) A (cond (((dv 8 N%4294967296:Nat):Int) !=0) A (cond (((dv 9 N%4294967296:Nat):Int) !=0) A
   (cond (((dv 10 N%4294967296:Nat):Int) !=0) A (cond (((dv 11 N%4294967296:Nat):Int) !=0) A Z)))))=cond (decide (N<W192)) Z A:=by
 apply chkAll
 have e:∀j,dv (6+j) N=dv j (N/W192):=fun j=>by rw[dv_eq,dv_eq,Nat.div_div_eq_div_mul,Nat.pow_add]
 rw[show dv 6 N=_ from e 0,show dv 7 N=_ from e 1,show dv 8 N=_ from e 2,show dv 9 N=_ from e 3,show dv 10 N=_ from e 4,show dv 11 N=_ from e 5]
 have hM:N/W192<6277101735386680763835789423207666416102355444464034512896:=Nat.div_lt_of_lt_mul hN
 have hz:N<W192↔N/W192=0:=by
  constructor
  ·exact Nat.div_eq_of_lt
  ·intro h;exact(Nat.div_eq_zero_iff_lt (by decide)).1 h
 rw[hz]
 generalize N/W192=M at*
 simp only[dv]
 constructor
 ·rintro rfl;decide
 ·rintro ⟨h0,h1,h2,h3,h4,h5⟩;omega
theorem g119chk{α:Type}(n N:Nat)(hN:N<W192*W192)(q r s:Bool)(la lb z:List Int)(k1 k2:List Int→Option α):
  g119l4 q la r lb s z (limbs 12 N) k1 k2 (n+7) 0 [0,0,0,0,0,0]=cond (decide (N<W192)) (k2 (limbs 6 N)) (k1 [0,0,0,0,0,0]):=by
 rw[←chk6 N hN]
 kernel_rfl
theorem g85chk{α:Type}(n N:Nat)(hN:N<W192*W192)(z:List Int)(k1:List Int→Option α)(k2:Option α):
  g85l4 6 6 6 6 z (limbs 12 N) k1 k2 (n+7) 0=cond (decide (N<W192)) k2 (k1 [0,0,0,0,0,0]):=by
 rw[←chk6 N hN]
 kernel_rfl
theorem mul_bound{a b:Nat}(ha:a<W192)(hb:b<W192):a*b<W192*W192:=Nat.mul_lt_mul'' ha hb
theorem g85L{α:Type}(n:Nat){a b:Nat}(ha:a<W192)(hb:b<W192)(k:List Int→Bool→Option α):
  g85 (n+7) (limbs 6 a) (limbs 6 b) k=cond (decide (a*b<W192)) (k (limbs 6 (a*b)) false) (k [0,0,0,0,0,0] true):=by
 unfold g85 g85b
 show g85l0 (g85l2M (n+7)) (limbs 6 a) (limbs 6 b) [0,0,0,0,0,0] (fun l835=>g85l4 6 6 6 6 [0,0,0,0,0,0] l835 (fun l850=>k l850 true) (k (List.take 6 (List.drop 0 l835)) false) (n+7) 0) (n+7) 0 [0,0,0,0,0,0,0,0,0,0,0,0]=_
 rw[g85rows n ha hb]
 simp only[g85chk n (a*b) (mul_bound ha hb)]
 rfl
theorem g119L{α:Type}(n:Nat){a b:Nat}(ha:a<W192)(hb:b<W192)(q r:Bool)(k:Bool→List Int→Int→Option α):
  g119 (n+7) q (limbs 6 a) r (limbs 6 b) k=cond (decide (a*b<W192)) (k ((!(q==r))&& !(decide (a*b=0))) (limbs 6 (a*b)) 0) (k false [0,0,0,0,0,0] 3):=by
 unfold g119 g119b
 show g119l0 (g119l2M (n+7)) q (limbs 6 a) r (limbs 6 b) false [0,0,0,0,0,0] (fun l744=>g119l4 q (limbs 6 a) r (limbs 6 b) false [0,0,0,0,0,0] l744 (fun l764=>k false l764 3) (fun l765=>g110 (n+7) (!(q==r)) l765 (fun b767=>k b767 l765 0)) (n+7) 0 [0,0,0,0,0,0]) (n+7) 0 [0,0,0,0,0,0,0,0,0,0,0,0]=_
 rw[g119rows n ha hb]
 simp only[g119chk n (a*b) (mul_bound ha hb)]
 by_cases h:a*b<W192
 ·rw[g110L (n+7) _ h]
 ·rw[decide_eq_false h];rfl
end Go.Proofs.YtlmmgjngihlpeaaGreat.Sx
/- Plain laws: bit lengths of numbers; powers; int64 values. Our own work. -/
namespace Go.Proofs.YtlmmgjngihlpeaaGreat.Sx
open Go
set_option linter.unusedVariables false
set_option linter.unusedSimpArgs false
set_option maxRecDepth 100000
theorem len_of(a:Nat):∃b,isLen a b=true:=by
 by_cases h0:a=0
 ·exact⟨0,by rw[h0];rfl⟩
 ·exact⟨a.log2+1,by rw[isLen_iff];exact⟨Nat.lt_log2_self, .inr (by simpa using Nat.log2_self_le h0)⟩⟩
theorem g72Un{α:Type}(n:Nat)(a b c d e f:Int)(k:Int→Option α):g72 (n+7) [a,b,c,d,e,f] k=(cond (f !=0) (g104 (n+7) f (fun x=>k (IntKind.wrap .i64 (160+x)))) (cond (e !=0) (g104 (n+7) e (fun x=>k (IntKind.wrap .i64 (128+x)))) (cond (d !=0) (g104 (n+7) d (fun x=>k (IntKind.wrap .i64 (96+x)))) (cond (c !=0) (g104 (n+7) c (fun x=>k (IntKind.wrap .i64 (64+x)))) (cond (b !=0) (g104 (n+7) b (fun x=>k (IntKind.wrap .i64 (32+x)))) (cond (a !=0) (g104 (n+7) a (fun x=>k (IntKind.wrap .i64 (0+x)))) (k 0))))))):=by kernel_rfl
theorem g122Un{α:Type}(n:Nat)(a b c d e f:Int)(k:Int→Option α):g122 (n+40) [a,b,c,d,e,f] k=(cond (f==0) (cond (e==0) (cond (d==0) (cond (c==0) (cond (b==0) (cond (a==0) (k 0) (g122l2 0 [a,b,c,d,e,f] (fun x=>k (IntKind.wrap .i64 (0+x))) (n+40) 0 a)) (g122l2 1 [a,b,c,d,e,f] (fun x=>k (IntKind.wrap .i64 (32+x))) (n+40) 0 b)) (g122l2 2 [a,b,c,d,e,f] (fun x=>k (IntKind.wrap .i64 (64+x))) (n+40) 0 c)) (g122l2 3 [a,b,c,d,e,f] (fun x=>k (IntKind.wrap .i64 (96+x))) (n+40) 0 d)) (g122l2 4 [a,b,c,d,e,f] (fun x=>k (IntKind.wrap .i64 (128+x))) (n+40) 0 e)) (g122l2 5 [a,b,c,d,e,f] (fun x=>k (IntKind.wrap .i64 (160+x))) (n+40) 0 f)):=by kernel_rfl
theorem limb94{α:Type}(m s x b:Nat)(hs:s≤160)(hx:x<4294967296)(r:Option α)(k:Int→Option α){A:Nat}(hA:A/2^s=x)(hb:isLen A b=true)(hr:x=0→r=k (b:Int)):
  cond ((x:Int) !=0) (g104 m (x:Int) (fun y=>k (IntKind.wrap .i64 ((s:Int)+y)))) r=k (b:Int):=by
 by_cases h0:x=0
 ·subst h0
  exact hr rfl
 ·rw[show((x:Int) !=0)=true by simpa using h0]
  obtain⟨c,hc,hc2⟩:=len_ex x hx
  simp only[cond_true]
  rw[g104Eq m hx hc,wrapI64 (by omega) (by omega)]
  have:b=c+s:=isLen_unique hb (isLen_shift (by rw[hA];exact hc) (isLen_pos hc (by omega)))
  congr 1;omega
theorem limb93{α:Type}(n w s x b:Nat)(l:List Int)(hs:s≤160)(hx:x<4294967296)(r:Option α)(k:Int→Option α){A:Nat}(hA:A/2^s=x)(hb:isLen A b=true)(hr:x=0→r=k (b:Int)):
  cond ((x:Int)==0) r (g122l2 (w:Int) l (fun y=>k (IntKind.wrap .i64 ((s:Int)+y))) (n+40) 0 (x:Int))=k (b:Int):=by
 by_cases h0:x=0
 ·subst h0
  exact hr rfl
 ·rw[show((x:Int)==0)=false by simpa using h0]
  obtain⟨c,hc,hc2⟩:=len_ex x hx
  simp only[cond_false]
  have:=g122l2Eq (w:Int) l (fun y=>k (IntKind.wrap .i64 ((s:Int)+y))) c x 0 (n+39-c) hc (by omega)
  rw[show n+39-c+c+1=n+40 by omega,Nat.zero_add] at this
  rw[show(0:Int)=((0:Nat):Int) from rfl,this,wrapI64 (by omega) (by omega)]
  have:b=c+s:=isLen_unique hb (isLen_shift (by rw[hA];exact hc) (isLen_pos hc (by omega)))
  congr 1;omega
theorem g72L{α:Type}(n:Nat){a b:Nat}(ha:a<W192)(hb:isLen a b=true)(k:Int→Option α):g72 (n+7) (limbs 6 a) k=k (b:Int):=by
 obtain⟨x0,x1,x2,x3,x4,x5,p0,p1,p2,p3,p4,p5,e,e'⟩:=six_split a ha
 rw[e,g72Un]
 refine limb94 (n+7) 160 x5 b (by decide) p5 _ k (A:=a) (by rw[e'];omega) hb fun h5=> ?_
 refine limb94 (n+7) 128 x4 b (by decide) p4 _ k (A:=a) (by rw[e'];omega) hb fun h4=> ?_
 refine limb94 (n+7) 96 x3 b (by decide) p3 _ k (A:=a) (by rw[e'];omega) hb fun h3=> ?_
 refine limb94 (n+7) 64 x2 b (by decide) p2 _ k (A:=a) (by rw[e'];omega) hb fun h2=> ?_
 refine limb94 (n+7) 32 x1 b (by decide) p1 _ k (A:=a) (by rw[e'];omega) hb fun h1=> ?_
 refine limb94 (n+7) 0 x0 b (by decide) p0 _ k (A:=a) (by rw[e'];omega) hb fun h0=> ?_
 have:a=0:=by omega
 have hb0:b=0:=isLen_unique hb (by rw[this];rfl)
 rw[hb0];rfl
theorem g122L{α:Type}(n:Nat){a b:Nat}(ha:a<W192)(hb:isLen a b=true)(k:Int→Option α):g122 (n+40) (limbs 6 a) k=k (b:Int):=by
 obtain⟨x0,x1,x2,x3,x4,x5,p0,p1,p2,p3,p4,p5,e,e'⟩:=six_split a ha
 rw[e,g122Un]
 refine limb93 n 5 160 x5 b _ (by decide) p5 _ k (A:=a) (by rw[e'];omega) hb fun h5=> ?_
 refine limb93 n 4 128 x4 b _ (by decide) p4 _ k (A:=a) (by rw[e'];omega) hb fun h4=> ?_
 refine limb93 n 3 96 x3 b _ (by decide) p3 _ k (A:=a) (by rw[e'];omega) hb fun h3=> ?_
 refine limb93 n 2 64 x2 b _ (by decide) p2 _ k (A:=a) (by rw[e'];omega) hb fun h2=> ?_
 refine limb93 n 1 32 x1 b _ (by decide) p1 _ k (A:=a) (by rw[e'];omega) hb fun h1=> ?_
 refine limb93 n 0 0 x0 b _ (by decide) p0 _ k (A:=a) (by rw[e'];omega) hb fun h0=> ?_
 have:a=0:=by omega
 have hb0:b=0:=isLen_unique hb (by rw[this];rfl)
 rw[hb0];rfl
theorem g80one{α:Type}(m:Nat)(k:Bool→List Int→Option α):g80 m 1 k=k false (limbs 6 1):=by kernel_rfl
end Go.Proofs.YtlmmgjngihlpeaaGreat.Sx
