import Derived.Test.YtlmmgjngihlpeaaPureU
/- Plain laws: long division bit by bit (the reference). Our own work. -/
namespace Go.Proofs.Ytlmmgjngihlpeaa.Sx
open Go
set_option linter.unusedVariables false
set_option linter.unusedSimpArgs false
set_option maxRecDepth 100000
theorem div_step{A b e:Nat}(hb:0<b)(he:e≤1):(2*A+e)/b=2*(A/b)+(if b≤2*(A%b)+e then 1 else 0)∧(2*A+e)%b=2*(A%b)+e-(if b≤2*(A%b)+e then b else 0):=by
 have h1:=Nat.div_add_mod A b
 have h2:=Nat.mod_lt A hb
 generalize A/b=q at*
 generalize A%b=r at*
 have h3:2*A+e=b*(2*q)+(2*r+e):=by rw[←h1,Nat.mul_add,Nat.mul_left_comm];omega
 by_cases h:b≤2*r+e
 ·rw[if_pos h,if_pos h]
  have h4:2*A+e=b*(2*q+1)+(2*r+e-b):=by rw[h3,Nat.mul_add b,Nat.mul_one];omega
  have h5:2*r+e-b<b:=by omega
  rw[h4]
  exact⟨by rw[Nat.mul_add_div hb,Nat.div_eq_of_lt h5,Nat.add_zero],by rw[Nat.mul_add_mod,Nat.mod_eq_of_lt h5]⟩
 ·rw[if_neg h,if_neg h]
  have h5:2*r+e<b:=by omega
  rw[h3]
  exact⟨by rw[Nat.mul_add_div hb,Nat.div_eq_of_lt h5],by rw[Nat.mul_add_mod,Nat.mod_eq_of_lt h5];rfl⟩
theorem up_six1{r c x0 x1 x2 x3 x4 x5:Nat}(hr:r≤32)(hc:c<2^r)(h0:x0<4294967296)(h1:x1<4294967296)(h2:x2<4294967296)(h3:x3<4294967296)(h4:x4<4294967296){N:Nat}
  (hN:N=(x0+4294967296*x1+18446744073709551616*x2+79228162514264337593543950336*x3+340282366920938463463374607431768211456*x4+1461501637330902918203684832716283019655932542976*x5)):
  limbs 6 (N*2^r+c)=[((x0*2^r%4294967296+c:Nat):Int),((x1*2^r%4294967296+x0*2^r/4294967296:Nat):Int),((x2*2^r%4294967296+x1*2^r/4294967296:Nat):Int),
   ((x3*2^r%4294967296+x2*2^r/4294967296:Nat):Int),((x4*2^r%4294967296+x3*2^r/4294967296:Nat):Int),((x5*2^r%4294967296+x4*2^r/4294967296:Nat):Int)]:=by
 have e:N*2^r+c=x0*2^r+c+4294967296*(x1*2^r+4294967296*(x2*2^r+4294967296*(x3*2^r+4294967296*(x4*2^r+4294967296*(x5*2^r+4294967296*0))))):=by
  subst hN
  generalize 2^r=P
  simp only[Nat.add_mul,Nat.mul_assoc]
  omega
 rw[e,up_step hr _ _ _ _ hc]
 rw[show∀u v w:Nat,u+(v+4294967296*w)=v+u+4294967296*w from fun u v w=>by omega,up_step hr _ _ _ _ (carry_up h0)]
 rw[show∀u v w:Nat,u+(v+4294967296*w)=v+u+4294967296*w from fun u v w=>by omega,up_step hr _ _ _ _ (carry_up h1)]
 rw[show∀u v w:Nat,u+(v+4294967296*w)=v+u+4294967296*w from fun u v w=>by omega,up_step hr _ _ _ _ (carry_up h2)]
 rw[show∀u v w:Nat,u+(v+4294967296*w)=v+u+4294967296*w from fun u v w=>by omega,up_step hr _ _ _ _ (carry_up h3)]
 rw[show∀u v w:Nat,u+(v+4294967296*w)=v+u+4294967296*w from fun u v w=>by omega,up_step hr _ _ _ _ (carry_up h4)]
 rfl
def S1(x p:Int):Int:=ibits .or .u32 (IntKind.wrap .u32 (x*2^1)) (Int.fdiv p (2^31))
theorem S1_nat{x p:Nat}(hx:x<4294967296)(hp:p<4294967296):S1 x p=((x*2^1%4294967296+p*2^1/4294967296:Nat):Int):=by
 unfold S1
 have hc:=carry_up (r:=1) hp
 have hu:=up_lt (r:=1) (by decide) x _ hc
 rw[shl32,shr32,show(31:Nat)=32-1 from rfl,shr_up (by decide),or32 (Nat.mod_lt _ (by decide)) (by omega),up_or (by decide) _ _ hc]
theorem g100sh{α:Type}(n:Nat)(v t x0 x1 x2 x3 x4 x5:Int)(a b c d q:List Int)(K:List Int→Option α):g100l2 v t a b c d q K (n+7) 5 [x0,x1,x2,x3,x4,x5]=K [x0,S1 x1 x0,S1 x2 x1,S1 x3 x2,S1 x4 x3,S1 x5 x4]:=by kernel_rfl
theorem bit1(x:Nat):ibits .and .u32 (x:Int) 1=((x%2:Nat):Int):=by
 have hx:∀y:Nat,y<2→IntKind.wrap .u32 (y:Int)=(y:Int):=fun y hy=>by rw[wrapU32,Nat.mod_eq_of_lt (by omega)]
 show IntKind.wrap .u32 ((BitVec.ofInt 32 (x:Int)&&&BitVec.ofInt 32 ((1:Nat):Int)).toNat:Int)=_
 rw[BitVec.toNat_and,ofInt_nat,ofInt_nat,Nat.mod_eq_of_lt (show 1<2^32 by decide),Nat.and_one_is_mod,hx _ (Nat.mod_lt _ (by decide))]
 congr 1
 omega
theorem set_bit{Q i:Nat}(hi:i<192)(j:Nat)(hj:j=i/32):List.set (limbs 6 (Q*2^(i+1))) j (ibits .or .u32 (List.getD (limbs 6 (Q*2^(i+1))) j 0) (IntKind.wrap .u32 (1*2^(i%32))))=
  limbs 6 (Q*2^(i+1)+2^i):=by
 subst hj
 have hw:i/32<6:=by omega
 obtain⟨t,ht⟩:∃t,6-i/32=t+1:=⟨5-i/32,by omega⟩
 have h6:i/32+(t+1)=6:=by omega
 have hi2:2^i=4294967296^(i/32)*2^(i%32):=by
  rw[show(4294967296:Nat)=2^32 from rfl,←Nat.pow_mul,←Nat.pow_add]
  congr 1;omega
 have hq:Q*2^(i+1)=4294967296^(i/32)*(Q*2^(i%32+1)):=by
  rw[Nat.pow_succ,hi2,Nat.pow_succ]
  simp only[Nat.mul_assoc,Nat.mul_left_comm]
 have hs:i%32+1≤32:=by omega
 have hc:2^(i%32)<2^(i%32+1):=Nat.pow_lt_pow_right (by decide) (by omega)
 have hul:=up_lt hs Q _ hc
 rw[limbs_getD 6 _ _ hw,dv_eq]
 have hdiv:Q*2^(i+1)/4294967296^(i/32)=Q*2^(i%32+1):=by rw[hq,Nat.mul_div_cancel_left _ (Nat.pow_pos (by decide))]
 have hdiv2:(Q*2^(i+1)+2^i)/4294967296^(i/32)=Q*2^(i%32+1)+2^(i%32):=by rw[hq,hi2,←Nat.mul_add,Nat.mul_div_cancel_left _ (Nat.pow_pos (by decide))]
 have hone:IntKind.wrap .u32 (1*2^(i%32))=((2^(i%32):Nat):Int):=by
  have:=shl32 1 (i%32)
  rw[show((1:Nat):Int)=1 from rfl] at this
  rw[this,Nat.one_mul,Nat.mod_eq_of_lt (by omega)]
 rw[hdiv,hone,or32 (Nat.mod_lt _ (by decide)) (by omega),up_or hs _ _ hc]
 have e1:limbs 6 (Q*2^(i+1))=limbs (i/32) (Q*2^(i+1))++limbs (t+1) (Q*2^(i%32+1)):=by
  rw[←hdiv,←limbs_add,h6]
 have e2:limbs 6 (Q*2^(i+1)+2^i)=limbs (i/32) (Q*2^(i+1))++limbs (t+1) (Q*2^(i%32+1)+2^(i%32)):=by
  rw[←hdiv2,←h6,limbs_add]
  congr 1
  rw[hi2,limbs_mod]
 rw[e1,e2,List.set_append_right _ _ (by rw[limbs_length];exact Nat.le_refl _),limbs_length,Nat.sub_self]
 congr 1
 generalize hM:Q*2^(i%32+1)=M at*
 generalize 2^(i%32)=c at*
 simp only[limbs,List.set_cons_zero]
 rw[show(M+c)%4294967296=M%4294967296+c by omega,show(M+c)/4294967296=M/4294967296 by omega]
theorem cmpN_ge(a b:Nat):decide (cmpN a b≥0)=decide (b≤a):=by
 unfold cmpN
 by_cases h1:a<b
 ·rw[if_pos h1,decide_eq_false (show¬b≤a by omega)];rfl
 ·by_cases h2:b<a
  ·rw[if_neg h1,if_pos h2,decide_eq_true (show b≤a by omega)];rfl
  ·rw[if_neg h1,if_neg h2,decide_eq_true (show b≤a by omega)];rfl
theorem bit_of{a i:Nat}(hi:i<192):dv (i/32) a%4294967296/2^(i%32)%2=a/2^i%2:=by
 rw[dv_eq]
 have hi2:2^i=4294967296^(i/32)*2^(i%32):=by
  rw[show(4294967296:Nat)=2^32 from rfl,←Nat.pow_mul,←Nat.pow_add]
  congr 1;omega
 rw[hi2,←Nat.div_div_eq_div_mul]
 generalize a/4294967296^(i/32)=M
 have hs:4294967296=2^(i%32)*(2*2^(31-i%32)):=by
  rw[Nat.mul_left_comm,←Nat.pow_add,show i%32+(31-i%32)=31 by omega]
 conv=>lhs;rw[hs,Nat.mod_mul_right_div_self,Nat.mod_mul_right_mod]
theorem step_val{a b i:Nat}(hb:0<b):a/2^i=2*(a/2^(i+1))+a/2^i%2:=by
 have:a/2^(i+1)=a/2^i/2:=by rw[Nat.pow_succ,Nat.div_div_eq_div_mul]
 rw[this];omega
theorem shifted{N e:Nat}(hN:N<W192)(he:e≤1):∃x0 x1 x2 x3 x4 x5:Nat,limbs 6 N=[(x0:Int),(x1:Int),(x2:Int),(x3:Int),(x4:Int),(x5:Int)]∧
  List.set [(x0:Int),S1 x1 x0,S1 x2 x1,S1 x3 x2,S1 x4 x3,S1 x5 x4] 0 (ibits .or .u32 (IntKind.wrap .u32 ((x0:Int)*2^1)) (e:Int))=limbs 6 (2*N+e)∧Int.fdiv (x5:Int) (2^31)=((N/2^191:Nat):Int):=by
 obtain⟨x0,x1,x2,x3,x4,x5,p0,p1,p2,p3,p4,p5,e1,e2⟩:=six_split N hN
 refine⟨x0,x1,x2,x3,x4,x5,e1, ?_, ?_⟩
 ·have hc:e<2^1:=by omega
  have hu:=up_lt (r:=1) (by decide) x0 e hc
  have:=up_six1 (r:=1) (by decide) hc p0 p1 p2 p3 p4 e2
  rw[show 2*N+e=N*2^1+e by omega,this,S1_nat p1 p0,S1_nat p2 p1,S1_nat p3 p2,S1_nat p4 p3,S1_nat p5 p4,shl32,or32 (Nat.mod_lt _ (by decide)) (by omega),up_or (by decide) _ _ hc]
  rfl
 ·rw[shr32]
  congr 1
  have:(2:Nat)^191=3138550867693340381917894711603833208051177722232017256448:=by decide
  rw[this,e2];omega
theorem g100s{α:Type}(n f i a b:Nat)(hi:i<192)(ha:a<W192)(hb0:0<b)(hb:b<W192)(z1 z2:List Int)(k:List Int→List Int→Option α):
  g100l0 (g102 (n+7)) (g105 (n+7)) (g100l2M (n+7)) (limbs 6 a) (limbs 6 b) z1 z2 k (f+1) (i:Int) (limbs 6 (a/2^(i+1)/b*2^(i+1))) (limbs 6 (a/2^(i+1)%b))=
  g100l0 (g102 (n+7)) (g105 (n+7)) (g100l2M (n+7)) (limbs 6 a) (limbs 6 b) z1 z2 k f ((i:Int)-1) (limbs 6 (a/2^i/b*2^i)) (limbs 6 (a/2^i%b)):=by
 have hrb:a/2^(i+1)%b<b:=Nat.mod_lt _ hb0
 have hrl:a/2^(i+1)%b<W192:=Nat.lt_trans hrb hb
 have he:a/2^i%2≤1:=by have:=Nat.mod_lt (a/2^i) (show 0<2 by decide);omega
 obtain⟨d1,d2⟩:=div_step (A:=a/2^(i+1)) hb0 he
 rw[←step_val (a:=a) (i:=i) hb0] at d1 d2
 generalize hA:a/2^(i+1)=A at*
 generalize hE:a/2^i%2=e at*
 have hbit:ibits .and .u32 (Int.fdiv (List.getD (limbs 6 a) (i/32) 0) (2^(min (i%32) 32))) 1=(e:Int):=by
  rw[limbs_getD 6 a _ (by omega),Nat.min_eq_left (by omega),shr32,bit1,bit_of hi,hE]
 obtain⟨x0,x1,x2,x3,x4,x5,q1,q2,q3⟩:=shifted hrl he
 have htop:List.getD (limbs 6 (A%b)) 5 0=(x5:Int):=by rw[q1];rfl
 simp only[g100l0,g100l0b,g100l2M]
 rw[decide_eq_true (show(i:Int)≥0 by omega),cond_true,htop,q3,q1,g100sh,div32 hi,mod32]
 simp only[Int.toNat_natCast]
 rw[if_pos (by omega),if_pos (by omega),wrapU64N,Nat.mod_eq_of_lt (show i%32<18446744073709551616 by omega)]
 simp only[Int.toNat_natCast]
 rw[if_neg (by omega),hbit,show List.getD [(x0:Int),S1 x1 x0,S1 x2 x1,S1 x3 x2,S1 x4 x3,S1 x5 x4] 0 0=(x0:Int) from rfl,q2,wrapI64 (x:=(i:Int)-1) (by omega) (by omega)]
 have hW:(W192:Nat)=2*2^191:=by decide
 have hset:=set_bit (Q:=A/b) hi (i/32) rfl
 have hmin:min (i%32) 32=i%32:=Nat.min_eq_left (by omega)
 by_cases hbig:2^191≤A%b
 ·have h1:A%b/2^191=1:=by
   have hlt:A%b<2*2^191:=by rw[←hW];exact hrl
   generalize (2:Nat)^191=P at*
   exact Nat.div_eq_of_lt_le (by omega) (by omega)
  have hle:b≤2*(A%b)+e:=by
   have:b<2*2^191:=by rw[←hW];exact hb
   omega
  rw[h1,show((((1:Nat):Int))==1)=true from rfl,cond_true,g102L n hle]
  rw[if_pos (by omega),if_pos (by omega),if_neg (by omega),if_pos (by omega),if_pos (by omega),hmin,hset,d1,d2,if_pos hle,if_pos hle]
  congr 2
  rw[Nat.pow_succ,Nat.add_mul,Nat.one_mul]
  congr 1
  rw[Nat.mul_comm 2,Nat.mul_assoc,Nat.mul_comm 2]
 ·have h1:A%b/2^191=0:=Nat.div_eq_of_lt (by omega)
  have htl:2*(A%b)+e<W192:=by rw[hW];omega
  rw[h1,show((((0:Nat):Int))==1)=false from rfl,cond_false,g105L n htl hb,cmpN_ge]
  by_cases hle:b≤2*(A%b)+e
  ·rw[decide_eq_true hle,cond_true,g102L n hle]
   rw[if_pos (by omega),if_pos (by omega),if_neg (by omega),if_pos (by omega),if_pos (by omega),hmin,hset,d1,d2,if_pos hle,if_pos hle]
   congr 2
   rw[Nat.pow_succ,Nat.add_mul,Nat.one_mul]
   congr 1
   rw[Nat.mul_comm 2,Nat.mul_assoc,Nat.mul_comm 2]
  ·rw[decide_eq_false hle,cond_false,d1,d2,if_neg hle,if_neg hle,Nat.add_zero,Nat.sub_zero]
   congr 2
   rw[Nat.pow_succ,Nat.add_zero,Nat.mul_comm 2 (A/b),Nat.mul_assoc,Nat.mul_comm 2 (2^i)]
theorem g100loop{α:Type}(n a b:Nat)(ha:a<W192)(hb0:0<b)(hb:b<W192)(z1 z2:List Int)(k:List Int→List Int→Option α):∀(i f:Nat),i≤192→i<f→
  g100l0 (g102 (n+7)) (g105 (n+7)) (g100l2M (n+7)) (limbs 6 a) (limbs 6 b) z1 z2 k f ((i:Int)-1) (limbs 6 (a/2^i/b*2^i)) (limbs 6 (a/2^i%b))=k (limbs 6 (a/b)) (limbs 6 (a%b))
 |0,f,hi,hf=>by
  obtain⟨f,rfl⟩:∃j,f=j+1:=⟨f-1,by omega⟩
  simp only[g100l0,g100l0b]
  rw[decide_eq_false (show¬((0:Nat):Int)-1≥0 by omega),cond_false,Nat.pow_zero,Nat.div_one,Nat.mul_one]
 |i+1,f,hi,hf=>by
  obtain⟨f,rfl⟩:∃j,f=j+1:=⟨f-1,by omega⟩
  rw[show((i+1:Nat):Int)-1=(i:Int) by omega,g100s n f i a b (by omega) ha hb0 hb]
  exact g100loop n a b ha hb0 hb z1 z2 k i f (by omega) (by omega)
theorem g100U{α:Type}(m:Nat)(la lb:List Int)(k:List Int→List Int→Option α):g100 m la lb k=g116 m la (fun x=>g100l0 (g102 m) (g105 m) (g100l2M m) la lb [0,0,0,0,0,0] [0,0,0,0,0,0] (fun l r=>k l r) m (IntKind.wrap .i64 (x-1)) [0,0,0,0,0,0] [0,0,0,0,0,0]):=by kernel_rfl
theorem g100L{α:Type}(n:Nat)(hn:200≤n){a b:Nat}(ha:a<W192)(hb0:0<b)(hb:b<W192)(k:List Int→List Int→Option α):g100 (n+40) (limbs 6 a) (limbs 6 b) k=k (limbs 6 (a/b)) (limbs 6 (a%b)):=by
 obtain⟨c,hc⟩:=len_of a
 have hc192:=len_le192 ha hc
 rw[g100U,g116L n ha hc,wrapI64 (by omega) (by omega)]
 have h0:a/2^c=0:=Nat.div_eq_of_lt (isLen_iff.1 hc).1
 have:=g100loop (n+33) a b ha hb0 hb [0,0,0,0,0,0] [0,0,0,0,0,0] (fun l r=>k l r) c (n+40) hc192 (by omega)
 rw[h0,Nat.zero_div,Nat.zero_mul,Nat.zero_mod] at this
 exact this
end Go.Proofs.Ytlmmgjngihlpeaa.Sx
/- Plain laws: division by a small number; the step of long division (impl). Our own work. -/
namespace Go.Proofs.Ytlmmgjngihlpeaa.Sx
open Go
set_option linter.unusedVariables false
set_option linter.unusedSimpArgs false
set_option maxRecDepth 100000
theorem or_top{x y:Nat}(hx:x<4294967296)(hy:y<4294967296):ibits .or .u64 (IntKind.wrap .u64 ((x:Int)*2^32)) (IntKind.wrap .u64 (y:Int))=((x*4294967296+y:Nat):Int):=by
 rw[show(2^32:Int)=((4294967296:Nat):Int) from rfl,←Int.natCast_mul,wrapU64N,wrapU64N,Nat.mod_eq_of_lt (by omega),Nat.mod_eq_of_lt (by omega),or64 (by omega) (by omega)]
 have:=or_is_add x y 32 hy
 rw[show(2:Nat)^32=4294967296 from rfl] at this
 rw[this]
theorem small_digit{A d x:Nat}(hd:0<d)(hx:x<4294967296):(A%d*4294967296+x)/d=(A*4294967296+x)/d%4294967296∧(A%d*4294967296+x)%d=(A*4294967296+x)%d:=by
 have h1:=Nat.div_add_mod A d
 have h2:=Nat.mod_lt A hd
 generalize A/d=Q at*
 generalize A%d=r at*
 have h3:A*4294967296+x=d*(Q*4294967296)+(r*4294967296+x):=by rw[←h1,Nat.add_mul,Nat.mul_assoc];omega
 have h4:(r*4294967296+x)/d<4294967296:=by
  apply Nat.div_lt_of_lt_mul
  have:(r+1)*4294967296≤d*4294967296:=Nat.mul_le_mul_right _ h2
  rw[Nat.add_mul] at this;omega
 rw[h3,Nat.mul_add_div hd,Nat.mul_add_mod]
 generalize (r*4294967296+x)/d=f at*
 exact⟨by omega,rfl⟩
theorem g122s{α:Type}(j v d ρ x:Nat)(hv:v<6)(hd:0<d)(hdB:d<4294967296)(hρ:ρ<d)(hx:x<4294967296)(z out:List Int)(ho:List.getD out v 0=(x:Int))(k:Int→List Int→Option α):
  g122l0 (d:Int) z k (j+1) (ρ:Int) (v:Int) out=g122l0 (d:Int) z k j (((ρ*4294967296+x)%d:Nat):Int) ((v:Int)-1) (List.set out v (((ρ*4294967296+x)/d:Nat):Int)):=by
 have hq:(ρ*4294967296+x)/d<4294967296:=by
  apply Nat.div_lt_of_lt_mul
  have:(ρ+1)*4294967296≤d*4294967296:=Nat.mul_le_mul_right _ hρ
  rw[Nat.add_mul] at this;omega
 simp only[g122l0,g122l0b]
 rw[decide_eq_true (show(v:Int)≥0 by omega),cond_true,if_pos (by omega),Int.toNat_natCast,if_pos hv,ho,or_top (by omega) hx,wrapU64N d,Nat.mod_eq_of_lt (show d<18446744073709551616 by omega),if_neg (by omega),if_pos (by omega),if_pos hv,if_neg (by omega),
  ←Int.ofNat_tmod,←Int.ofNat_tdiv,wrapU64N,Nat.mod_eq_of_lt (show(ρ*4294967296+x)/d<18446744073709551616 by omega),wrapU32,Nat.mod_eq_of_lt hq,wrapI64 (x:=(v:Int)-1) (by omega) (by omega)]
theorem g122loop{α:Type}(d a:Nat)(hd:0<d)(hdB:d<4294967296)(z:List Int)(k:Int→List Int→Option α):∀(w f:Nat),w≤6→w<f→
  g122l0 (d:Int) z k f ((a/4294967296^w%d:Nat):Int) ((w:Int)-1) (L6 (fun i=>if i<w then((dv i a%4294967296:Nat):Int) else((dv i (a/d)%4294967296:Nat):Int)))=k ((a%d:Nat):Int) (limbs 6 (a/d))
 |0,f,hw,hf=>by
  obtain⟨f,rfl⟩:∃j,f=j+1:=⟨f-1,by omega⟩
  simp only[g122l0,g122l0b]
  rw[decide_eq_false (show¬((0:Nat):Int)-1≥0 by omega),cond_false,Nat.pow_zero,Nat.div_one,limbs_L6]
  rfl
 |w+1,f,hw,hf=>by
  obtain⟨f,rfl⟩:∃j,f=j+1:=⟨f-1,by omega⟩
  have hx:dv w a%4294967296<4294967296:=Nat.mod_lt _ (by decide)
  have hget:List.getD (L6 (fun i=>if i<w+1 then((dv i a%4294967296:Nat):Int) else((dv i (a/d)%4294967296:Nat):Int))) w 0=((dv w a%4294967296:Nat):Int):=by
   rw[L6_getD _ (by omega),if_pos (by omega)]
  rw[show((w+1:Nat):Int)-1=(w:Int) by omega,g122s f w d _ _ (by omega) hd hdB (Nat.mod_lt _ hd) hx z _ hget k,L6_set _ (by omega)]
  obtain⟨e1,e2⟩:=small_digit (A:=a/4294967296^(w+1)) hd hx
  have e3:a/4294967296^(w+1)*4294967296+dv w a%4294967296=a/4294967296^w:=by
   rw[dv_eq,Nat.pow_succ,←Nat.div_div_eq_div_mul,Nat.mul_comm]
   exact Nat.div_add_mod _ _
  rw[e3] at e1 e2
  rw[e1,e2,←g122loop d a hd hdB z k w f (by omega) (by omega)]
  congr 1
  apply L6_congr
  intro i hi
  by_cases h:i=w
  ·subst h
   rw[if_pos rfl,if_neg (by omega),dv_eq,Nat.div_div_eq_div_mul,Nat.div_div_eq_div_mul,Nat.mul_comm d]
  ·rw[if_neg h]
   by_cases h2:i<w
   ·rw[if_pos h2,if_pos (by omega)]
   ·rw[if_neg h2,if_neg (by omega)]
theorem g122L{α:Type}(n:Nat){a d:Nat}(ha:a<W192)(hd:0<d)(hdB:d<4294967296)(k:List Int→Int→Option α):g122 (n+7) (limbs 6 a) (d:Int) k=k (limbs 6 (a/d)) ((a%d:Nat):Int):=by
 have h:g122 (n+7) (limbs 6 a) (d:Int) k=g122l0 (d:Int) [0,0,0,0,0,0] (fun x l=>k l (IntKind.wrap .u32 x)) (n+7) 0 5 (limbs 6 a):=rfl
 have h2:=g122loop (α:=α) d a hd hdB [0,0,0,0,0,0] (fun x l=>k l (IntKind.wrap .u32 x)) 6 (n+7) (by omega) (by omega)
 have h3:a/4294967296^6%d=0:=by
  rw[show(4294967296:Nat)^6=W192 from by decide,Nat.div_eq_of_lt ha,Nat.zero_mod]
 rw[h3] at h2
 have h4:L6 (fun i=>if i<6 then((dv i a%4294967296:Nat):Int) else((dv i (a/d)%4294967296:Nat):Int))=limbs 6 a:=by
  rw[limbs_L6];apply L6_congr;intro i hi;rw[if_pos hi]
 rw[h4] at h2
 rw[h]
 refine h2.trans ?_
 show k (limbs 6 (a/d)) (IntKind.wrap .u32 ((a%d:Nat):Int))=_
 have:a%d<d:=Nat.mod_lt _ hd
 rw[wrapU32,Nat.mod_eq_of_lt (by omega)]
theorem knuth_hi{B P V U v1 v2 vl u0 u1 u2 ul q:Nat}(hV:V=(v1*B+v2)*P+vl)(hU:U=((u0*B+u1)*B+u2)*P+ul)(hul:ul<P)(hu2:u2<B)(hq:q*V≤U):q*v1≤u0*B+u1:=by
 have h1:q*(v1*(B*P))≤q*V:=by
  apply Nat.mul_le_mul_left
  rw[hV,Nat.add_mul,Nat.mul_assoc];omega
 have h2:U<(u0*B+u1+1)*(B*P):=by
  have h3:(u2+1)*P≤B*P:=Nat.mul_le_mul_right P hu2
  rw[hU]
  simp only[Nat.add_mul,Nat.mul_assoc,Nat.one_mul] at h3⊢
  omega
 have h4:(q*v1)*(B*P)<(u0*B+u1+1)*(B*P):=by
  rw[Nat.mul_assoc];omega
 have:=Nat.lt_of_mul_lt_mul_right h4
 omega
theorem knuth_test{B P V U v1 v2 vl u0 u1 u2 ul q r Q:Nat}(hV:V=(v1*B+v2)*P+vl)(hU:U=((u0*B+u1)*B+u2)*P+ul)(hul:ul<P)
  (hr:q*v1+r=u0*B+u1) (hQ:Q*V≤U) (ht:r*B+u2<q*v2):Q<q:=by
 have h1:((u0*B+u1)*B+u2+1)≤q*(v1*B+v2):=by
  rw[←hr,Nat.mul_add,←Nat.mul_assoc,Nat.add_mul];omega
 have h2:=Nat.mul_le_mul_right P h1
 rw[Nat.add_mul _ 1,Nat.one_mul] at h2
 have h3:U<q*V:=by
  rw[hV,Nat.mul_add q,←Nat.mul_assoc q]
  omega
 have h4:Q*V<q*V:=by omega
 exact Nat.lt_of_mul_lt_mul_right h4
theorem knuth_lo{B P V U v1 v2 vl u0 u1 u2 ul q r:Nat}(hV:V=(v1*B+v2)*P+vl)(hU:U=((u0*B+u1)*B+u2)*P+ul)(hvl:vl<P)(hv1:0<v1)(hB:0<B)(hq:q≤B)
  (hr:q*v1+r=u0*B+u1) (ht:q*v2≤r*B+u2):q*V<U+V:=by
 have h1:q*(v1*B+v2)≤(u0*B+u1)*B+u2:=by
  rw[←hr,Nat.mul_add,←Nat.mul_assoc,Nat.add_mul];omega
 have h2:=Nat.mul_le_mul_right P h1
 have h3:q*vl≤B*vl:=Nat.mul_le_mul_right vl hq
 have h4:B*P≤v1*B*P:=by
  rw[Nat.mul_assoc];exact Nat.le_mul_of_pos_left _ hv1
 have h5:B*vl<B*P:=Nat.mul_lt_mul_of_pos_left hvl hB
 have h6:q*V=q*(v1*B+v2)*P+q*vl:=by rw[hV,Nat.mul_add,Nat.mul_assoc]
 have h7:V=v1*B*P+v2*P+vl:=by rw[hV,Nat.add_mul]
 omega
theorem shr32n(x:Nat):Int.fdiv (x:Int) (2^32)=((x/4294967296:Nat):Int):=fdivNat x 4294967296
theorem u64_nat{x:Nat}(h:x<18446744073709551616):IntKind.wrap .u64 (x:Int)=(x:Int):=by rw[wrapU64N,Nat.mod_eq_of_lt h]
theorem nz_dec(x:Nat):(((x/4294967296:Nat):Int) !=0)=decide (4294967296≤x):=by
 by_cases h:4294967296≤x
 ·rw[decide_eq_true h]
  have:0<x/4294967296:=Nat.div_pos h (by decide)
  simp;omega
 ·rw[decide_eq_false h,Nat.div_eq_of_lt (by omega)];rfl
theorem g124e{α:Type}(j n f q r v1 v2 u2:Nat)(hn:2≤n)(hj:j+n≤6)(hq:q≤4294967299)(hr:r<4294967296)(hv1:v1<4294967296)(hv2:v2<4294967296)(hu2:u2<4294967296)(hq0:0<q∨(q<4294967296∧¬r*4294967296+u2<q*v2))
  (lu lv:List Int) (g1:List.getD lv (n-1) 0=(v1:Int)) (g2:List.getD lv (n-2) 0=(v2:Int)) (g3:List.getD lu (j+(n-2)) 0=(u2:Int)) (k:Int→Option α):
  g124l0 j (n+1) (7-j) 0 n 6 (n:Int) lu lv k (f+1) (q:Int) (r:Int)=
   cond (decide (4294967296≤q)||decide (r*4294967296+u2<q*v2)) (cond (decide (4294967296≤r+v1)) (k ((q-1:Nat):Int)) (g124l0 j (n+1) (7-j) 0 n 6 (n:Int) lu lv k f ((q-1:Nat):Int) ((r+v1:Nat):Int))) (k (q:Int)):=by
 have hn6:n≤6:=by omega
 simp only[g124l0,g124l0b]
 rw[shr32n,nz_dec]
 have w1:IntKind.wrap .i64 ((n:Int)-1)=((n-1:Nat):Int):=by rw[wrapI64 (by omega) (by omega)];omega
 have w2:IntKind.wrap .i64 ((n:Int)-2)=((n-2:Nat):Int):=by rw[wrapI64 (by omega) (by omega)];omega
 rw[w1,w2]
 simp only[Int.toNat_natCast,Nat.zero_add]
 rw[g1,g2,g3,u64_nat (show v1<18446744073709551616 by omega),u64_nat (show v2<18446744073709551616 by omega)]
 have hrv:IntKind.wrap .u64 ((r:Int)+(v1:Int))=((r+v1:Nat):Int):=by rw[←Int.natCast_add,u64_nat (by omega)]
 have dec:0<q→IntKind.wrap .u64 ((q:Int)-1)=((q-1:Nat):Int):=fun h=>by rw[show(q:Int)-1=((q-1:Nat):Int) by omega,u64_nat (by omega)]
 rw[hrv,shr32n,nz_dec]
 by_cases c1:4294967296≤q
 ·rw[decide_eq_true c1,cond_true,Bool.true_or,cond_true,if_pos (by omega),if_pos (by omega),dec (by omega)]
 ·rw[decide_eq_false c1,cond_false,Bool.false_or,if_pos (by omega),if_pos (by omega),if_pos (by omega),if_pos (by omega)]
  have hqv:=mul_le (show q<4294967296 by omega) hv2
  rw[←Int.natCast_mul,u64_nat (by omega),or_top hr hu2]
  by_cases c2:r*4294967296+u2<q*v2
  ·rw[decide_eq_true (show((q*v2:Nat):Int)>((r*4294967296+u2:Nat):Int) by omega),decide_eq_true c2,cond_true,cond_true,if_pos (by omega),if_pos (by omega)]
   have hq1:0<q:=by
    rcases Nat.eq_zero_or_pos q with rfl|h
    ·rw[Nat.zero_mul] at c2;omega
    ·exact h
   rw[dec hq1]
  ·rw[decide_eq_false (show¬((q*v2:Nat):Int)>((r*4294967296+u2:Nat):Int) by omega),decide_eq_false c2,cond_false,cond_false]
theorem knuth_est(j n v1 v2 vl u0 u1 u2 ul P V X:Nat)(hn:2≤n)(hj:j+n≤6)(hv1:v1<4294967296)(hv1':2147483648≤v1)(hv2:v2<4294967296)(hu1:u1<4294967296)(hu2:u2<4294967296)(hvl:vl<P)(hul:ul<P)
  (hV:V=(v1*4294967296+v2)*P+vl) (hX:X=((u0*4294967296+u1)*4294967296+u2)*P+ul) (hXV:X<V*4294967296) (hu0:u0≤v1)
  (lu lv:List Int) (g1:List.getD lv (n-1) 0=(v1:Int)) (g2:List.getD lv (n-2) 0=(v2:Int)) (g3:List.getD lu (j+(n-2)) 0=(u2:Int)):
  ∀(f q r:Nat),r<4294967296→4294967296≤r+f*v1→q*v1+r=u0*4294967296+u1→X/V≤q→
  ∃Q:Nat,(∀{α:Type} (k:Int→Option α),g124l0 j (n+1) (7-j) 0 n 6 (n:Int) lu lv k f (q:Int) (r:Int)=k (Q:Int))∧X/V≤Q∧Q<4294967296∧Q*V<X+V
 |0,q,r,hr,hf,hqr,hQ=>by rw[Nat.zero_mul] at hf;omega
 |f+1,q,r,hr,hf,hqr,hQ=>by
  have hVpos:0<V:=by
   rcases Nat.eq_zero_or_pos V with h|h
   ·rw[h,Nat.zero_mul] at hXV;omega
   ·exact h
  have hXQ:X/V*V≤X:=Nat.div_mul_le_self _ _
  have hqb:q≤4294967299:=by
   have h1:q*2147483648≤q*v1:=Nat.mul_le_mul_left _ hv1'
   have h2:u0*4294967296≤v1*4294967296:=Nat.mul_le_mul_right _ hu0
   by_cases hq:q≤4294967299
   ·exact hq
   ·exfalso
    have h3:4294967300*v1≤q*v1:=Nat.mul_le_mul_right _ (by omega)
    omega
  have hXB:X/V<4294967296:=Nat.div_lt_of_lt_mul hXV
  have hpos:(4294967296≤q∨r*4294967296+u2<q*v2)→X/V<q:=by
   rintro (h|h)
   ·omega
   ·exact knuth_test hV hX hul hqr hXQ h
  have hq0:0<q∨(q<4294967296∧¬r*4294967296+u2<q*v2):=by
   rcases Nat.eq_zero_or_pos q with rfl|h
   ·exact .inr ⟨by decide,by rw[Nat.zero_mul];omega⟩
   ·exact .inl h
  have hE:=fun{α:Type} (k:Int→Option α)=>g124e j n f q r v1 v2 u2 hn hj hqb hr hv1 hv2 hu2 hq0 lu lv g1 g2 g3 k
  by_cases c:4294967296≤q∨r*4294967296+u2<q*v2
  ·have hlt:=hpos c
   have hc:(decide (4294967296≤q)||decide (r*4294967296+u2<q*v2))=true:=by simpa using c
   have hqr':(q-1)*v1+(r+v1)=u0*4294967296+u1:=by
    rw[←hqr]
    obtain⟨p,rfl⟩:∃p,q=p+1:=⟨q-1,by omega⟩
    rw[Nat.add_sub_cancel,Nat.add_mul];omega
   by_cases c2:4294967296≤r+v1
   ·have hB:q-1<4294967296:=by
     have h2:u0*4294967296≤v1*4294967296:=Nat.mul_le_mul_right _ hu0
     by_cases h:q-1<4294967296
     ·exact h
     ·exfalso
      have h3:4294967296*v1≤(q-1)*v1:=Nat.mul_le_mul_right _ (by omega)
      omega
    refine⟨q-1,fun k=>by rw[hE,hc,cond_true,decide_eq_true c2,cond_true],by omega,hB, ?_⟩
    refine knuth_lo hV hX hvl (by omega) (by decide) (by omega) hqr' ?_
    have h4:=Nat.mul_le_mul (show q-1≤4294967296 by omega) (show v2≤4294967296 by omega)
    have h5:4294967296*4294967296≤(r+v1)*4294967296:=Nat.mul_le_mul_right _ c2
    omega
   ·obtain⟨Q,e,h⟩:=knuth_est j n v1 v2 vl u0 u1 u2 ul P V X hn hj hv1 hv1' hv2 hu1 hu2 hvl hul hV hX hXV hu0 lu lv g1 g2 g3 f (q-1) (r+v1) (by omega) (by rw[Nat.add_mul] at hf;omega) hqr' (by omega)
    exact⟨Q,fun k=>by rw[hE,hc,cond_true,decide_eq_false c2,cond_false,e],h⟩
  ·have hc:(decide (4294967296≤q)||decide (r*4294967296+u2<q*v2))=false:=by
    simp only[not_or] at c
    rw[decide_eq_false c.1,decide_eq_false c.2];rfl
   simp only[not_or] at c
   exact⟨q,fun k=>by rw[hE,hc,cond_false],hQ,by omega,knuth_lo hV hX hvl (by omega) (by decide) (by omega) hqr (by omega)⟩
end Go.Proofs.Ytlmmgjngihlpeaa.Sx
/- Plain laws: the step of long division (impl), the whole. Our own work. -/
namespace Go.Proofs.Ytlmmgjngihlpeaa.Sx
open Go
set_option linter.unusedVariables false
set_option linter.unusedSimpArgs false
set_option maxRecDepth 100000
theorem limbs_snoc{i N y:Nat}(hN:N<4294967296^i)(hy:y<4294967296)(R:List Int):limbs i N++((y:Int)::R)=limbs (i+1) (N+4294967296^i*y)++R:=by
 rw[limbs_add i 1,limbs_mod,Nat.add_mul_div_left _ _ (Nat.pow_pos (by decide)),Nat.div_eq_of_lt hN,Nat.zero_add]
 simp only[limbs,Nat.mod_eq_of_lt hy,List.append_assoc,List.cons_append,List.nil_append]
theorem limbs_cons{k:Nat}(hk:0<k)(M:Nat):limbs k M=((M%4294967296:Nat):Int)::limbs (k-1) (M/4294967296):=by
 obtain⟨k,rfl⟩:∃j,k=j+1:=⟨k-1,by omega⟩
 rfl
def sg(j U i N X:Nat):List Int:=limbs j U++(limbs i N++limbs (7-j-i) (X/4294967296^i))
theorem div_pow_succ(X i:Nat):X/4294967296^i/4294967296=X/4294967296^(i+1):=by rw[Nat.div_div_eq_div_mul,Nat.pow_succ]
theorem sg_get{j U i N X:Nat}(h:j+i<7):List.getD (sg j U i N X) (j+i) 0=((X/4294967296^i%4294967296:Nat):Int):=by
 unfold sg
 rw[limbs_cons (by omega) (X/4294967296^i),List.getD_eq_getElem?_getD,List.getElem?_append_right (by rw[limbs_length];omega),limbs_length,show j+i-j=i by omega,List.getElem?_append_right (by rw[limbs_length];exact Nat.le_refl _),limbs_length,Nat.sub_self]
 rfl
theorem sg_set{j U i N X y:Nat}(h:j+i<7)(hN:N<4294967296^i)(hy:y<4294967296):List.set (sg j U i N X) (j+i) (y:Int)=sg j U (i+1) (N+4294967296^i*y) X:=by
 unfold sg
 rw[limbs_cons (by omega) (X/4294967296^i),List.set_append_right _ _ (by rw[limbs_length];omega),limbs_length,show j+i-j=i by omega,List.set_append_right _ _ (by rw[limbs_length];exact Nat.le_refl _),limbs_length,Nat.sub_self,List.set_cons_zero,
  limbs_snoc hN hy,div_pow_succ,show 7-j-i-1=7-j-(i+1) by omega]
theorem sg_zero(j U:Nat)(hj:j≤7):sg j U 0 0 (U/4294967296^j)=limbs 7 U:=by
 unfold sg
 rw[Nat.pow_zero,Nat.div_one,Nat.sub_zero]
 show limbs j U++limbs (7-j) _=_
 rw[←limbs_add,show j+(7-j)=7 by omega]
theorem sg_end{j U i N X:Nat}(hi:j+i≤7)(hN:N<4294967296^i)(hX:X<4294967296^i):sg j U i N X=sg j U 0 0 N:=by
 unfold sg
 rw[Nat.div_eq_of_lt hX,Nat.pow_zero,Nat.div_one,Nat.sub_zero]
 congr 1
 show _=limbs (7-j) N
 have:=limbs_add i (7-j-i) N
 rw[show i+(7-j-i)=7-j by omega,Nat.div_eq_of_lt hN] at this
 exact this.symm
theorem get6{V i:Nat}(hi:i<6):List.getD (limbs 6 V) i 0=((V/4294967296^i%4294967296:Nat):Int):=by rw[limbs_getD 6 V i hi,dv_eq]
theorem mod_succ(X i:Nat):X%4294967296^(i+1)=X%4294967296^i+4294967296^i*(X/4294967296^i%4294967296):=by rw[Nat.pow_succ,Nat.mod_mul]
theorem sub_limb{x lo c:Nat}(hx:x<4294967296)(hlo:lo<4294967296)(hc:c≤1):∃y c':Nat,y<4294967296∧c'≤1∧x+4294967296*c'=y+lo+c∧
  IntKind.wrap .u32 (IntKind.wrap .u64 ((IntKind.wrap .u64 ((x:Int)-(lo:Int)))-(c:Int)))=(y:Int)∧Int.fdiv (IntKind.wrap .u64 ((IntKind.wrap .u64 ((x:Int)-(lo:Int)))-(c:Int))) (2^63)=(c':Int):=by
 have hw:IntKind.wrap .u64 ((IntKind.wrap .u64 ((x:Int)-(lo:Int)))-(c:Int))=if lo+c≤x then((x-lo-c:Nat):Int) else((18446744073709551616+x-lo-c:Nat):Int):=by
  unfold IntKind.wrap
  simp only[IntKind.signed,IntKind.bits]
  simp
  split<;>omega
 rw[hw]
 by_cases h:lo+c≤x
 ·rw[if_pos h]
  refine⟨x-lo-c,0,by omega,by omega,by omega, ?_, ?_⟩
  ·rw[wrapU32,Nat.mod_eq_of_lt (by omega)]
  ·rw[show(2^63:Int)=((9223372036854775808:Nat):Int) from rfl,fdivNat,Nat.div_eq_of_lt (by omega)]
 ·rw[if_neg h]
  refine⟨x+4294967296-lo-c,1,by omega,by omega,by omega, ?_, ?_⟩
  ·rw[wrapU32];congr 1;omega
  ·rw[show(2^63:Int)=((9223372036854775808:Nat):Int) from rfl,fdivNat];congr 1;omega
theorem pow_lt7(i:Nat){N y:Nat}(hN:N<4294967296^i)(hy:y<4294967296):N+4294967296^i*y<4294967296^(i+1):=by
 rw[Nat.pow_succ]
 have:4294967296^i*(y+1)≤4294967296^i*4294967296:=Nat.mul_le_mul_left _ hy
 rw[Nat.mul_add] at this
 omega
theorem mulsub(j n q U V X:Nat)(hjn:j+n≤6)(hq:q<4294967296):∀(d i f c K N:Nat),i+d=n→d<f→c≤1→K<4294967296→N<4294967296^i→
  X%4294967296^i+4294967296^i*(c+K)=N+q*(V%4294967296^i)→
  ∃c' K' N':Nat,(∀{α:Type} (k:Int→Int→List Int→Option α),g124l2 j (n+1) (7-j) 0 n 6 (n:Int) (q:Int) (n:Int) (limbs 6 V) k f (c:Int) (K:Int) (i:Int) (sg j U i N X)=k (c':Int) (K':Int) (sg j U n N' X))∧c'≤1∧K'<4294967296∧N'<4294967296^n∧
   X%4294967296^n+4294967296^n*(c'+K')=N'+q*(V%4294967296^n)
 |0,i,f,c,K,N,hd,hf,hc,hK,hN,hI=>by
  obtain⟨f,rfl⟩:∃j,f=j+1:=⟨f-1,by omega⟩
  obtain rfl:i=n:=by omega
  refine⟨c,K,N,fun k=> ?_,hc,hK,hN,hI⟩
  simp only[g124l2,g124l2b]
  rw[decide_eq_false (show¬(i:Int)<(i:Int) by omega),cond_false]
 |d+1,i,f,c,K,N,hd,hf,hc,hK,hN,hI=>by
  obtain⟨f,rfl⟩:∃j,f=j+1:=⟨f-1,by omega⟩
  have hv:V/4294967296^i%4294967296<4294967296:=Nat.mod_lt _ (by decide)
  have hx:X/4294967296^i%4294967296<4294967296:=Nat.mod_lt _ (by decide)
  have hqv:=mul_le hq hv
  have mX:=mod_succ X i
  have mV:=mod_succ V i
  generalize hvv:V/4294967296^i%4294967296=v at*
  generalize hxx:X/4294967296^i%4294967296=x at*
  obtain⟨y,c',hy,hc',hyc,e1,e2⟩:=sub_limb hx (show(K+q*v)%4294967296<4294967296 from Nat.mod_lt _ (by decide)) hc
  have hstep:∀{α:Type} (k:Int→Int→List Int→Option α),g124l2 j (n+1) (7-j) 0 n 6 (n:Int) (q:Int) (n:Int) (limbs 6 V) k (f+1) (c:Int) (K:Int) (i:Int) (sg j U i N X)=
    g124l2 j (n+1) (7-j) 0 n 6 (n:Int) (q:Int) (n:Int) (limbs 6 V) k f (c':Int) (((K+q*v)/4294967296:Nat):Int) ((i+1:Nat):Int) (sg j U (i+1) (N+4294967296^i*y) X):=by
   intro α k
   simp only[g124l2,g124l2b]
   rw[decide_eq_true (show(i:Int)<(n:Int) by omega),cond_true]
   simp only[Int.toNat_natCast,Nat.zero_add]
   rw[if_pos (by omega),if_pos (by omega),get6 (show i<6 by omega),hvv,u64_nat (show v<18446744073709551616 by omega),←Int.natCast_mul,u64_nat (show q*v<18446744073709551616 by omega),←Int.natCast_add,u64_nat (show K+q*v<18446744073709551616 by omega),
    if_pos (by omega),if_pos (by omega),sg_get (by omega),hxx,u64_nat (show x<18446744073709551616 by omega),and64 (show K+q*v<18446744073709551616 by omega),if_pos (by omega),if_pos (by omega),e1,e2,shr32n,sg_set (by omega) hN hy,
    wrapI64 (x:=(i:Int)+1) (by omega) (by omega),show(i:Int)+1=((i+1:Nat):Int) by omega]
  suffices hs:X%4294967296^(i+1)+4294967296^(i+1)*(c'+(K+q*v)/4294967296)=(N+4294967296^i*y)+q*(V%4294967296^(i+1)) by
   obtain⟨c2,K2,N2,e,h⟩:=mulsub j n q U V X hjn hq d (i+1) f c' _ _ (by omega) (by omega) hc' (Nat.div_lt_of_lt_mul (by omega)) (pow_lt7 i hN hy) hs
   exact⟨c2,K2,N2,fun k=>by rw[hstep,e],h⟩
  have hK2:=Nat.div_add_mod (K+q*v) 4294967296
  generalize (K+q*v)/4294967296=K2 at*
  generalize (K+q*v)%4294967296=lo at*
  rw[mX,mV,Nat.pow_succ]
  generalize 4294967296^i=P at*
  have h1:P*x+P*(4294967296*c')=P*y+P*lo+P*c:=by rw[←Nat.mul_add,←Nat.mul_add,←Nat.mul_add,hyc]
  have h2:P*(4294967296*K2)+P*lo=P*K+P*(q*v):=by rw[←Nat.mul_add,←Nat.mul_add,hK2]
  have h3:q*(V%P+P*v)=q*(V%P)+P*(q*v):=by rw[Nat.mul_add,Nat.mul_left_comm]
  rw[h3]
  simp only[Nat.mul_add,Nat.mul_assoc] at hI h1 h2⊢
  omega
theorem addback(j n q U V Z:Nat)(hjn:j+n≤6):∀(d i f c M:Nat),i+d=n→d<f→c≤1→M<4294967296^i→
  Z%4294967296^i+V%4294967296^i=M+4294967296^i*c→
  ∃c' M':Nat,(∀{α:Type} (k:Int→List Int→Option α),g124l4 j (n+1) (7-j) 0 n 6 (n:Int) (q:Int) (n:Int) (limbs 6 V) k f (c:Int) (i:Int) (sg j U i M Z)=k (c':Int) (sg j U n M' Z))∧c'≤1∧M'<4294967296^n∧
   Z%4294967296^n+V%4294967296^n=M'+4294967296^n*c'
 |0,i,f,c,M,hd,hf,hc,hM,hI=>by
  obtain⟨f,rfl⟩:∃j,f=j+1:=⟨f-1,by omega⟩
  obtain rfl:i=n:=by omega
  refine⟨c,M,fun k=> ?_,hc,hM,hI⟩
  simp only[g124l4,g124l4b]
  rw[decide_eq_false (show¬(i:Int)<(i:Int) by omega),cond_false]
 |d+1,i,f,c,M,hd,hf,hc,hM,hI=>by
  obtain⟨f,rfl⟩:∃j,f=j+1:=⟨f-1,by omega⟩
  have hv:V/4294967296^i%4294967296<4294967296:=Nat.mod_lt _ (by decide)
  have hx:Z/4294967296^i%4294967296<4294967296:=Nat.mod_lt _ (by decide)
  have mX:=mod_succ Z i
  have mV:=mod_succ V i
  generalize hvv:V/4294967296^i%4294967296=v at*
  generalize hxx:Z/4294967296^i%4294967296=x at*
  have hy:(c+(x+v))%4294967296<4294967296:=Nat.mod_lt _ (by decide)
  have hstep:∀{α:Type} (k:Int→List Int→Option α),g124l4 j (n+1) (7-j) 0 n 6 (n:Int) (q:Int) (n:Int) (limbs 6 V) k (f+1) (c:Int) (i:Int) (sg j U i M Z)=
    g124l4 j (n+1) (7-j) 0 n 6 (n:Int) (q:Int) (n:Int) (limbs 6 V) k f (((c+(x+v))/4294967296:Nat):Int) ((i+1:Nat):Int) (sg j U (i+1) (M+4294967296^i*((c+(x+v))%4294967296)) Z):=by
   intro α k
   simp only[g124l4,g124l4b]
   rw[decide_eq_true (show(i:Int)<(n:Int) by omega),cond_true]
   simp only[Int.toNat_natCast,Nat.zero_add]
   rw[if_pos (by omega),if_pos (by omega),if_pos (by omega),if_pos (by omega),get6 (show i<6 by omega),hvv,u64_nat (show v<18446744073709551616 by omega),sg_get (by omega),hxx,u64_nat (show x<18446744073709551616 by omega),←Int.natCast_add,u64_nat (show x+v<18446744073709551616 by omega),
    ←Int.natCast_add,u64_nat (show c+(x+v)<18446744073709551616 by omega),if_pos (by omega),if_pos (by omega),shr32n,wrapU32,sg_set (by omega) hM hy,wrapI64 (x:=(i:Int)+1) (by omega) (by omega),show(i:Int)+1=((i+1:Nat):Int) by omega]
  suffices hs:Z%4294967296^(i+1)+V%4294967296^(i+1)=(M+4294967296^i*((c+(x+v))%4294967296))+4294967296^(i+1)*((c+(x+v))/4294967296) by
   obtain⟨c2,M2,e,h⟩:=addback j n q U V Z hjn d (i+1) f _ _ (by omega) (by omega) (by omega) (pow_lt7 i hM hy) hs
   exact⟨c2,M2,fun k=>by rw[hstep,e],h⟩
  have hK2:=Nat.div_add_mod (c+(x+v)) 4294967296
  generalize (c+(x+v))/4294967296=K2 at*
  generalize (c+(x+v))%4294967296=lo at*
  rw[mX,mV,Nat.pow_succ]
  generalize 4294967296^i=P at*
  have h2:P*(4294967296*K2)+P*lo=P*c+(P*x+P*v):=by rw[←Nat.mul_add,←Nat.mul_add,←Nat.mul_add,hK2]
  simp only[Nat.mul_assoc] at hI h2⊢
  omega
end Go.Proofs.Ytlmmgjngihlpeaa.Sx
/- Plain laws: long division (impl). Our own work. -/
namespace Go.Proofs.Ytlmmgjngihlpeaa.Sx
open Go
set_option linter.unusedVariables false
set_option linter.unusedSimpArgs false
set_option maxRecDepth 100000
theorem sg_split{j U X i:Nat}(hi:j+i≤7):sg j U 0 0 X=sg j U i (X%4294967296^i) X:=by
 unfold sg
 rw[Nat.pow_zero,Nat.div_one,Nat.sub_zero,limbs_modEq,←limbs_add,show i+(7-j-i)=7-j by omega]
 rfl
theorem sg_get0{j U X i:Nat}(h:j+i<7):List.getD (sg j U 0 0 X) (j+i) 0=((X/4294967296^i%4294967296:Nat):Int):=by
 rw[sg_split (i:=i) (by omega),sg_get h]
theorem pow_nat(p:Nat):4294967296^(p+1)=4294967296^p*4294967296:=Nat.pow_succ ..
theorem g124L{α:Type}(m j p U V:Nat)(hm:10≤m)(hjn:j+(p+2)≤6)(hlo:4294967296^(p+2)≤2*V)(hhi:V<4294967296^(p+2))(hX:U/4294967296^j<V*4294967296)(k:Int→List Int→Option α):
  g124 m j (p+3) (7-j) 0 (p+2) 6 (limbs 7 U) (limbs 6 V) k=k ((U/4294967296^j/V:Nat):Int) (sg j U 0 0 (U/4294967296^j%V)):=by
 rw[←sg_zero j U (by omega)]
 generalize hXX:U/4294967296^j=X at*
 have hP:0<4294967296^p:=Nat.pow_pos (by decide)
 have hp1:=pow_nat p
 have hp2:4294967296^(p+2)=4294967296^p*4294967296*4294967296:=by rw[pow_nat (p+1),hp1]
 have hp3:4294967296^(p+3)=4294967296^(p+2)*4294967296:=pow_nat (p+2)
 have hVpos:0<V:=by have:0<4294967296^(p+2):=Nat.pow_pos (by decide);omega
 -- the limbs
 have ev1:V/4294967296^(p+1)<4294967296:=by rw[hp1];exact Nat.div_lt_of_lt_mul (by rw[←hp2];exact hhi)
 have ev2:V/4294967296^p%4294967296<4294967296:=Nat.mod_lt _ (by decide)
 have evl:V%4294967296^p<4294967296^p:=Nat.mod_lt _ hP
 have eu1:X/4294967296^(p+1)%4294967296<4294967296:=Nat.mod_lt _ (by decide)
 have eu2:X/4294967296^p%4294967296<4294967296:=Nat.mod_lt _ (by decide)
 have eul:X%4294967296^p<4294967296^p:=Nat.mod_lt _ hP
 have dV:V=(V/4294967296^(p+1)*4294967296+V/4294967296^p%4294967296)*4294967296^p+V%4294967296^p:=by
  have h1:=Nat.div_add_mod V (4294967296^p)
  have h2:=Nat.div_add_mod (V/4294967296^p) 4294967296
  rw[div_pow_succ] at h2
  rw[Nat.mul_comm (V/4294967296^(p+1)),h2,Nat.mul_comm];exact h1.symm
 have dX:X=((X/4294967296^(p+2)*4294967296+X/4294967296^(p+1)%4294967296)*4294967296+X/4294967296^p%4294967296)*4294967296^p+X%4294967296^p:=by
  have h1:=Nat.div_add_mod X (4294967296^p)
  have h2:=Nat.div_add_mod (X/4294967296^p) 4294967296
  have h3:=Nat.div_add_mod (X/4294967296^(p+1)) 4294967296
  rw[div_pow_succ] at h2 h3
  rw[Nat.mul_comm (X/4294967296^(p+2)),h3,Nat.mul_comm (X/4294967296^(p+1)),h2,Nat.mul_comm];exact h1.symm
 have hv1':2147483648≤V/4294967296^(p+1):=by
  rw[Nat.le_div_iff_mul_le (Nat.pow_pos (by decide)),hp1]
  rw[hp2] at hlo;omega
 have hu0:X/4294967296^(p+2)≤V/4294967296^(p+1):=by
  apply Nat.le_of_lt_succ
  rw[Nat.div_lt_iff_lt_mul (Nat.pow_pos (by decide))]
  have h1:V<(V/4294967296^(p+1)+1)*4294967296^(p+1):=by
   have h2:=Nat.div_add_mod V (4294967296^(p+1))
   have h3:=Nat.mod_lt V (show 0<4294967296^(p+1) from Nat.pow_pos (by decide))
   rw[Nat.add_mul,Nat.one_mul,Nat.mul_comm];omega
  have h4:V*4294967296<(V/4294967296^(p+1)+1)*4294967296^(p+1)*4294967296:=Nat.mul_lt_mul_of_pos_right h1 (by decide)
  rw[Nat.succ_eq_add_one,pow_nat (p+1),←Nat.mul_assoc]
  exact Nat.lt_trans hX h4
 have gV1:List.getD (limbs 6 V) (p+2-1) 0=((V/4294967296^(p+1):Nat):Int):=by
  rw[show p+2-1=p+1 by omega,get6 (by omega),Nat.mod_eq_of_lt ev1]
 have gV2:List.getD (limbs 6 V) (p+2-2) 0=((V/4294967296^p%4294967296:Nat):Int):=by
  rw[show p+2-2=p by omega,get6 (by omega)]
 have gX2:List.getD (sg j U 0 0 X) (j+(p+2-2)) 0=((X/4294967296^p%4294967296:Nat):Int):=by
  rw[show p+2-2=p by omega,sg_get0 (by omega)]
 have gX1:List.getD (sg j U 0 0 X) (j+(p+2-1)) 0=((X/4294967296^(p+1)%4294967296:Nat):Int):=by
  rw[show p+2-1=p+1 by omega,sg_get0 (by omega)]
 have eu0:X/4294967296^(p+2)<4294967296:=by omega
 have gX0:List.getD (sg j U 0 0 X) (j+(p+2)) 0=((X/4294967296^(p+2):Nat):Int):=by
  rw[sg_get0 (by omega),Nat.mod_eq_of_lt eu0]
 have hXB:X/V<4294967296:=Nat.div_lt_of_lt_mul hX
 have hXQ:X/V*V≤X:=Nat.div_mul_le_self _ _
 have hX3:X<4294967296^(p+3):=by
  rw[hp3]
  exact Nat.lt_trans hX (Nat.mul_lt_mul_of_pos_right hhi (by decide))
 have hQ0:=knuth_hi dV dX eul eu2 hXQ
 generalize hv1e:V/4294967296^(p+1)=v1 at*
 generalize hu0e:X/4294967296^(p+2)=u0 at*
 generalize hu1e:X/4294967296^(p+1)%4294967296=u1 at*
 have htop:u0*4294967296+u1<18446744073709551616:=by omega
 have htd:=Nat.div_add_mod (u0*4294967296+u1) v1
 have htm:=Nat.mod_lt (u0*4294967296+u1) (show 0<v1 by omega)
 have hq0:X/V≤(u0*4294967296+u1)/v1:=by rw[Nat.le_div_iff_mul_le (by omega)];exact hQ0
 obtain⟨Q,hQe,hQ1,hQ2,hQ3⟩:=knuth_est j (p+2) v1 _ _ u0 u1 _ _ _ V X (by omega) hjn ev1 hv1' ev2 eu1 eu2 evl eul dV dX hX hu0 (sg j U 0 0 X) (limbs 6 V) gV1 gV2 gX2 m ((u0*4294967296+u1)/v1) ((u0*4294967296+u1)%v1)
  (by omega) (by
   have:2*v1≤m*v1:=Nat.mul_le_mul_right _ (by omega)
   omega) (by rw[Nat.mul_comm];exact htd) hq0
 obtain⟨c',K',N',hMe,hc',hK',hN',hI⟩:=mulsub j (p+2) Q U V X hjn hQ2 (p+2) 0 m 0 0 0 (by omega) (by omega) (by omega) (by omega) (by simp) (by simp[Nat.mod_one])
 have hVm:V%4294967296^(p+2)=V:=Nat.mod_eq_of_lt hhi
 have hXd:=Nat.div_add_mod X (4294967296^(p+2))
 rw[hu0e] at hXd
 rw[hVm] at hI
 obtain⟨y,c2,hy,hc2,hyc,e1,e2⟩:=sub_limb eu0 hK' hc'
 have hZ:=pow_lt7 (p+2) hN' hy
 have hI2:X+4294967296^(p+2)*(4294967296*c2)=(N'+4294967296^(p+2)*y)+Q*V:=by
  have h1:4294967296^(p+2)*u0+4294967296^(p+2)*(4294967296*c2)=4294967296^(p+2)*y+4294967296^(p+2)*K'+4294967296^(p+2)*c':=by rw[←Nat.mul_add,hyc,Nat.mul_add,Nat.mul_add]
  rw[Nat.mul_add] at hI
  omega
 have gtop:List.getD (sg j U (p+2) N' X) (j+(p+2)) 0=(u0:Int):=by rw[sg_get (by omega),hu0e,Nat.mod_eq_of_lt eu0]
 have w1:IntKind.wrap .i64 (((p+2:Nat):Int)-1)=((p+2-1:Nat):Int):=by rw[wrapI64 (by omega) (by omega)];omega
 simp only[g124,g124b,g124l0M,g124l2M,g124l4M]
 rw[w1]
 simp only[Int.toNat_natCast,Nat.zero_add]
 rw[if_pos (by omega),if_pos (by omega),if_pos (by omega),if_pos (by omega),if_pos (by omega),if_pos (by omega),gX0,gX1,gV1,u64_nat (show u0<18446744073709551616 by omega),or_top eu0 eu1,u64_nat (show v1<18446744073709551616 by omega),if_neg (by omega),
  if_pos (by omega),if_pos (by omega),if_neg (by omega),←Int.ofNat_tdiv,←Int.ofNat_tmod,u64_nat (Nat.lt_of_le_of_lt (Nat.div_le_self _ _) htop),hQe]
 have hMe0:∀{α:Type} (k:Int→Int→List Int→Option α),g124l2 j (p+2+1) (7-j) 0 (p+2) 6 ((p+2:Nat):Int) (Q:Int) ((p+2:Nat):Int) (limbs 6 V) k m 0 0 0 (sg j U 0 0 X)=k (c':Int) (K':Int) (sg j U (p+2) N' X):=fun k=>hMe k
 rw[hMe0,if_pos (by omega),if_pos (by omega),if_pos (by omega),if_pos (by omega),gtop,u64_nat (show u0<18446744073709551616 by omega),e1,e2,sg_set (by omega) hN' hy,sg_end (i:=p+2+1) (by omega) hZ hX3]
 generalize hZZ:N'+4294967296^(p+2)*y=Z at*
 have hQpos:∀q:Nat,q*V≤X→X<(q+1)*V→X/V=q∧X%V=X-q*V:=by
  intro q h1 h2
  have h3:X/V=q:=Nat.div_eq_of_lt_le h1 h2
  have h4:=Nat.div_add_mod X V
  rw[h3,Nat.mul_comm] at h4
  exact⟨h3,by omega⟩
 rcases(show c2=0∨c2=1 by omega) with rfl|rfl
 · -- it was enough
  rw[show((((0:Nat):Int))==0)=true from rfl,cond_true,wrapU32,Nat.mod_eq_of_lt hQ2]
  have hQX:Q*V≤X:=by omega
  have hQe2:Q≤X/V:=by rw[Nat.le_div_iff_mul_le hVpos];exact hQX
  have hQq:X/V=Q:=by omega
  have h4:=Nat.div_add_mod X V
  rw[hQq,Nat.mul_comm] at h4
  rw[hQq,show X%V=Z by omega]
 · -- one too many
  rw[show((((1:Nat):Int))==0)=false from rfl,cond_false]
  obtain⟨c3,M',hAe,hc3,hM',hJ⟩:=addback j (p+2) Q U V Z hjn (p+2) 0 m 0 0 (by omega) (by omega) (by omega) (by simp) (by simp[Nat.mod_one])
  have hAe0:∀{α:Type} (k:Int→List Int→Option α),g124l4 j (p+2+1) (7-j) 0 (p+2) 6 ((p+2:Nat):Int) (Q:Int) ((p+2:Nat):Int) (limbs 6 V) k m 0 0 (sg j U 0 0 Z)=k (c3:Int) (sg j U (p+2) M' Z):=fun k=>hAe k
  have hZy:Z/4294967296^(p+2)=y:=by
   rw[←hZZ,Nat.add_mul_div_left _ _ (Nat.pow_pos (by decide)),Nat.div_eq_of_lt hN',Nat.zero_add]
  have hZm:Z%4294967296^(p+2)=N':=by
   rw[←hZZ,Nat.add_mul_mod_self_left,Nat.mod_eq_of_lt hN']
  rw[hZm,hVm] at hJ
  have hQ1':1≤Q:=by
   rcases Nat.eq_zero_or_pos Q with rfl|h
   ·rw[Nat.zero_mul] at hI2;omega
   ·exact h
  obtain⟨Q',rfl⟩:∃Q',Q=Q'+1:=⟨Q-1,by omega⟩
  have hQV:(Q'+1)*V=Q'*V+V:=by rw[Nat.add_mul,Nat.one_mul]
  rw[hQV] at hI2 hQ3
  have hlt:X<(Q'+1)*V:=by rw[hQV];omega
  obtain⟨r1,r2⟩:=hQpos Q' (by omega) hlt
  -- the top limb comes to nothing
  have hsum:M'+4294967296^(p+2)*(y+c3)=(X-Q'*V)+4294967296^(p+2)*4294967296:=by
   rw[Nat.mul_add];omega
  have hW:X-Q'*V<4294967296^(p+2):=by omega
  have hyc3:y+c3=4294967296∧M'=X-Q'*V:=by
   have hA:=congrArg (fun t=>t/4294967296^(p+2)) hsum
   have hBm:=congrArg (fun t=>t%4294967296^(p+2)) hsum
   simp only[Nat.add_mul_div_left _ _ (show 0<4294967296^(p+2) from Nat.pow_pos (by decide)),Nat.div_eq_of_lt hM',Nat.div_eq_of_lt hW,Nat.zero_add] at hA
   simp only[Nat.add_mul_mod_self_left,Nat.mod_eq_of_lt hM',Nat.mod_eq_of_lt hW] at hBm
   exact⟨hA,hBm⟩
  have gt2:List.getD (sg j U (p+2) M' Z) (j+(p+2)) 0=(y:Int):=by rw[sg_get (by omega),hZy,Nat.mod_eq_of_lt hy]
  have hsgs:=sg_set (j:=j) (U:=U) (X:=Z) (y:=0) (show j+(p+2)<7 by omega) hM' (by decide)
  rw[Nat.mul_zero,Nat.add_zero] at hsgs
  rw[hAe0,if_pos (by omega),if_pos (by omega),if_pos (by omega),if_pos (by omega),gt2,wrapU32 c3,Nat.mod_eq_of_lt (by omega),←Int.natCast_add,wrapU32,hyc3.1,Nat.mod_self,hsgs,Nat.add_zero M',
   sg_end (i:=p+2+1) (by omega) (Nat.lt_trans hM' (Nat.pow_lt_pow_right (by decide) (by omega))) hZ,hyc3.2,r1,r2,
   show((Q'+1:Nat):Int)-1=(Q':Int) by omega,u64_nat (by omega),wrapU32,Nat.mod_eq_of_lt (by omega)]
end Go.Proofs.Ytlmmgjngihlpeaa.Sx
