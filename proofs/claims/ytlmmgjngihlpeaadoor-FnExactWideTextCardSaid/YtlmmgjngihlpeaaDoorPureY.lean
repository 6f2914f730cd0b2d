import Derived.Test.YtlmmgjngihlpeaaDoorPureU
/- Plain laws: long division bit by bit (the reference). Our own work. -/
namespace Go.Proofs.YtlmmgjngihlpeaaDoor.Sx
open Go
set_option linter.unusedVariables false
set_option linter.unusedSimpArgs false
set_option maxRecDepth 100000
theorem div_step{A b e:Nat}(hb:0<b)(he:e≤1):(2*A+e)/b=2*(A/b)+(if b≤2*(A%b)+e then 1 else 0)∧(2*A+e)%b=2*(A%b)+e-(if b≤2*(A%b)+e then b else 0):=by
 have h1:=Nat.div_add_mod A b
 have h2:=Nat.mod_lt A hb
 generalize A/b=q at*
 generalize A%b=r at*
 have h3:2*A+e=b*(2*q)+(2*r+e):=by rw[←h1,Nat.mul_add,Nat.mul_left_comm];omega
 by_cases h:b≤2*r+e
 ·rw[if_pos h,if_pos h]
  have h4:2*A+e=b*(2*q+1)+(2*r+e-b):=by rw[h3,Nat.mul_add b,Nat.mul_one];omega
  have h5:2*r+e-b<b:=by omega
  rw[h4]
  exact⟨by rw[Nat.mul_add_div hb,Nat.div_eq_of_lt h5,Nat.add_zero],by rw[Nat.mul_add_mod,Nat.mod_eq_of_lt h5]⟩
 ·rw[if_neg h,if_neg h]
  have h5:2*r+e<b:=by omega
  rw[h3]
  exact⟨by rw[Nat.mul_add_div hb,Nat.div_eq_of_lt h5],by rw[Nat.mul_add_mod,Nat.mod_eq_of_lt h5];rfl⟩
theorem up_six1{r c x0 x1 x2 x3 x4 x5:Nat}(hr:r≤32)(hc:c<2^r)(h0:x0<4294967296)(h1:x1<4294967296)(h2:x2<4294967296)(h3:x3<4294967296)(h4:x4<4294967296){N:Nat}
  (hN:N=(x0+4294967296*x1+18446744073709551616*x2+79228162514264337593543950336*x3+340282366920938463463374607431768211456*x4+1461501637330902918203684832716283019655932542976*x5)):
  limbs 6 (N*2^r+c)=[((x0*2^r%4294967296+c:Nat):Int),((x1*2^r%4294967296+x0*2^r/4294967296:Nat):Int),((x2*2^r%4294967296+x1*2^r/4294967296:Nat):Int),
   ((x3*2^r%4294967296+x2*2^r/4294967296:Nat):Int),((x4*2^r%4294967296+x3*2^r/4294967296:Nat):Int),((x5*2^r%4294967296+x4*2^r/4294967296:Nat):Int)]:=by
 have e:N*2^r+c=x0*2^r+c+4294967296*(x1*2^r+4294967296*(x2*2^r+4294967296*(x3*2^r+4294967296*(x4*2^r+4294967296*(x5*2^r+4294967296*0))))):=by
  subst hN
  generalize 2^r=P
  simp only[Nat.add_mul,Nat.mul_assoc]
  omega
 rw[e,up_step hr _ _ _ _ hc]
 rw[show∀u v w:Nat,u+(v+4294967296*w)=v+u+4294967296*w from fun u v w=>by omega,up_step hr _ _ _ _ (carry_up h0)]
 rw[show∀u v w:Nat,u+(v+4294967296*w)=v+u+4294967296*w from fun u v w=>by omega,up_step hr _ _ _ _ (carry_up h1)]
 rw[show∀u v w:Nat,u+(v+4294967296*w)=v+u+4294967296*w from fun u v w=>by omega,up_step hr _ _ _ _ (carry_up h2)]
 rw[show∀u v w:Nat,u+(v+4294967296*w)=v+u+4294967296*w from fun u v w=>by omega,up_step hr _ _ _ _ (carry_up h3)]
 rw[show∀u v w:Nat,u+(v+4294967296*w)=v+u+4294967296*w from fun u v w=>by omega,up_step hr _ _ _ _ (carry_up h4)]
 rfl
def S1(x p:Int):Int:=ibits .or .u32 (IntKind.wrap .u32 (x*2^1)) (Int.fdiv p (2^31))
theorem S1_nat{x p:Nat}(hx:x<4294967296)(hp:p<4294967296):S1 x p=((x*2^1%4294967296+p*2^1/4294967296:Nat):Int):=by
 unfold S1
 have hc:=carry_up (r:=1) hp
 have hu:=up_lt (r:=1) (by decide) x _ hc
 rw[shl32,shr32,show(31:Nat)=32-1 from rfl,shr_up (by decide),or32 (Nat.mod_lt _ (by decide)) (by omega),up_or (by decide) _ _ hc]
theorem g85sh{α:Type}(n:Nat)(v t x0 x1 x2 x3 x4 x5:Int)(a b c d q:List Int)(K:List Int→Option α):g85l2 v t a b c d q K (n+7) 5 [x0,x1,x2,x3,x4,x5]=K [x0,S1 x1 x0,S1 x2 x1,S1 x3 x2,S1 x4 x3,S1 x5 x4]:=by kernel_rfl
theorem bit1(x:Nat):ibits .and .u32 (x:Int) 1=((x%2:Nat):Int):=by
 have hx:∀y:Nat,y<2→IntKind.wrap .u32 (y:Int)=(y:Int):=fun y hy=>by rw[wrapU32,Nat.mod_eq_of_lt (by omega)]
 show IntKind.wrap .u32 ((BitVec.ofInt 32 (x:Int)&&&BitVec.ofInt 32 ((1:Nat):Int)).toNat:Int)=_
 rw[BitVec.toNat_and,ofInt_nat,ofInt_nat,Nat.mod_eq_of_lt (show 1<2^32 by decide),Nat.and_one_is_mod,hx _ (Nat.mod_lt _ (by decide))]
 congr 1
 omega
theorem set_bit{Q i:Nat}(hi:i<192)(j:Nat)(hj:j=i/32):List.set (limbs 6 (Q*2^(i+1))) j (ibits .or .u32 (List.getD (limbs 6 (Q*2^(i+1))) j 0) (IntKind.wrap .u32 (1*2^(i%32))))=
  limbs 6 (Q*2^(i+1)+2^i):=by
 subst hj
 have hw:i/32<6:=by omega
 obtain⟨t,ht⟩:∃t,6-i/32=t+1:=⟨5-i/32,by omega⟩
 have h6:i/32+(t+1)=6:=by omega
 have hi2:2^i=4294967296^(i/32)*2^(i%32):=by
  rw[show(4294967296:Nat)=2^32 from rfl,←Nat.pow_mul,←Nat.pow_add]
  congr 1;omega
 have hq:Q*2^(i+1)=4294967296^(i/32)*(Q*2^(i%32+1)):=by
  rw[Nat.pow_succ,hi2,Nat.pow_succ]
  simp only[Nat.mul_assoc,Nat.mul_left_comm]
 have hs:i%32+1≤32:=by omega
 have hc:2^(i%32)<2^(i%32+1):=Nat.pow_lt_pow_right (by decide) (by omega)
 have hul:=up_lt hs Q _ hc
 rw[limbs_getD 6 _ _ hw,dv_eq]
 have hdiv:Q*2^(i+1)/4294967296^(i/32)=Q*2^(i%32+1):=by rw[hq,Nat.mul_div_cancel_left _ (Nat.pow_pos (by decide))]
 have hdiv2:(Q*2^(i+1)+2^i)/4294967296^(i/32)=Q*2^(i%32+1)+2^(i%32):=by rw[hq,hi2,←Nat.mul_add,Nat.mul_div_cancel_left _ (Nat.pow_pos (by decide))]
 have hone:IntKind.wrap .u32 (1*2^(i%32))=((2^(i%32):Nat):Int):=by
  have:=shl32 1 (i%32)
  rw[show((1:Nat):Int)=1 from rfl] at this
  rw[this,Nat.one_mul,Nat.mod_eq_of_lt (by omega)]
 rw[hdiv,hone,or32 (Nat.mod_lt _ (by decide)) (by omega),up_or hs _ _ hc]
 have e1:limbs 6 (Q*2^(i+1))=limbs (i/32) (Q*2^(i+1))++limbs (t+1) (Q*2^(i%32+1)):=by
  rw[←hdiv,←limbs_add,h6]
 have e2:limbs 6 (Q*2^(i+1)+2^i)=limbs (i/32) (Q*2^(i+1))++limbs (t+1) (Q*2^(i%32+1)+2^(i%32)):=by
  rw[←hdiv2,←h6,limbs_add]
  congr 1
  rw[hi2,limbs_mod]
 rw[e1,e2,List.set_append_right _ _ (by rw[limbs_length];exact Nat.le_refl _),limbs_length,Nat.sub_self]
 congr 1
 generalize hM:Q*2^(i%32+1)=M at*
 generalize 2^(i%32)=c at*
 simp only[limbs,List.set_cons_zero]
 rw[show(M+c)%4294967296=M%4294967296+c by omega,show(M+c)/4294967296=M/4294967296 by omega]
theorem cmpN_ge(a b:Nat):decide (cmpN a b≥0)=decide (b≤a):=by
 unfold cmpN
 by_cases h1:a<b
 ·rw[if_pos h1,decide_eq_false (show¬b≤a by omega)];rfl
 ·by_cases h2:b<a
  ·rw[if_neg h1,if_pos h2,decide_eq_true (show b≤a by omega)];rfl
  ·rw[if_neg h1,if_neg h2,decide_eq_true (show b≤a by omega)];rfl
theorem bit_of{a i:Nat}(hi:i<192):dv (i/32) a%4294967296/2^(i%32)%2=a/2^i%2:=by
 rw[dv_eq]
 have hi2:2^i=4294967296^(i/32)*2^(i%32):=by
  rw[show(4294967296:Nat)=2^32 from rfl,←Nat.pow_mul,←Nat.pow_add]
  congr 1;omega
 rw[hi2,←Nat.div_div_eq_div_mul]
 generalize a/4294967296^(i/32)=M
 have hs:4294967296=2^(i%32)*(2*2^(31-i%32)):=by
  rw[Nat.mul_left_comm,←Nat.pow_add,show i%32+(31-i%32)=31 by omega]
 conv=>lhs;rw[hs,Nat.mod_mul_right_div_self,Nat.mod_mul_right_mod]
theorem step_val{a b i:Nat}(hb:0<b):a/2^i=2*(a/2^(i+1))+a/2^i%2:=by
 have:a/2^(i+1)=a/2^i/2:=by rw[Nat.pow_succ,Nat.div_div_eq_div_mul]
 rw[this];omega
theorem shifted{N e:Nat}(hN:N<W192)(he:e≤1):∃x0 x1 x2 x3 x4 x5:Nat,limbs 6 N=[(x0:Int),(x1:Int),(x2:Int),(x3:Int),(x4:Int),(x5:Int)]∧
  List.set [(x0:Int),S1 x1 x0,S1 x2 x1,S1 x3 x2,S1 x4 x3,S1 x5 x4] 0 (ibits .or .u32 (IntKind.wrap .u32 ((x0:Int)*2^1)) (e:Int))=limbs 6 (2*N+e)∧Int.fdiv (x5:Int) (2^31)=((N/2^191:Nat):Int):=by
 obtain⟨x0,x1,x2,x3,x4,x5,p0,p1,p2,p3,p4,p5,e1,e2⟩:=six_split N hN
 refine⟨x0,x1,x2,x3,x4,x5,e1, ?_, ?_⟩
 ·have hc:e<2^1:=by omega
  have hu:=up_lt (r:=1) (by decide) x0 e hc
  have:=up_six1 (r:=1) (by decide) hc p0 p1 p2 p3 p4 e2
  rw[show 2*N+e=N*2^1+e by omega,this,S1_nat p1 p0,S1_nat p2 p1,S1_nat p3 p2,S1_nat p4 p3,S1_nat p5 p4,shl32,or32 (Nat.mod_lt _ (by decide)) (by omega),up_or (by decide) _ _ hc]
  rfl
 ·rw[shr32]
  congr 1
  have:(2:Nat)^191=3138550867693340381917894711603833208051177722232017256448:=by decide
  rw[this,e2];omega
theorem g85s{α:Type}(n f i a b:Nat)(hi:i<192)(ha:a<W192)(hb0:0<b)(hb:b<W192)(z1 z2:List Int)(k:List Int→List Int→Option α):
  g85l0 (g100 (n+7)) (g99 (n+7)) (g85l2M (n+7)) (limbs 6 a) (limbs 6 b) z1 z2 k (f+1) (i:Int) (limbs 6 (a/2^(i+1)/b*2^(i+1))) (limbs 6 (a/2^(i+1)%b))=
  g85l0 (g100 (n+7)) (g99 (n+7)) (g85l2M (n+7)) (limbs 6 a) (limbs 6 b) z1 z2 k f ((i:Int)-1) (limbs 6 (a/2^i/b*2^i)) (limbs 6 (a/2^i%b)):=by
 have hrb:a/2^(i+1)%b<b:=Nat.mod_lt _ hb0
 have hrl:a/2^(i+1)%b<W192:=Nat.lt_trans hrb hb
 have he:a/2^i%2≤1:=by have:=Nat.mod_lt (a/2^i) (show 0<2 by decide);omega
 obtain⟨d1,d2⟩:=div_step (A:=a/2^(i+1)) hb0 he
 rw[←step_val (a:=a) (i:=i) hb0] at d1 d2
 generalize hA:a/2^(i+1)=A at*
 generalize hE:a/2^i%2=e at*
 have hbit:ibits .and .u32 (Int.fdiv (List.getD (limbs 6 a) (i/32) 0) (2^(min (i%32) 32))) 1=(e:Int):=by
  rw[limbs_getD 6 a _ (by omega),Nat.min_eq_left (by omega),shr32,bit1,bit_of hi,hE]
 obtain⟨x0,x1,x2,x3,x4,x5,q1,q2,q3⟩:=shifted hrl he
 have htop:List.getD (limbs 6 (A%b)) 5 0=(x5:Int):=by rw[q1];rfl
 simp only[g85l0,g85l0b,g85l2M]
 rw[decide_eq_true (show(i:Int)≥0 by omega),cond_true,htop,q3,q1,g85sh,div32 hi,mod32]
 simp only[Int.toNat_natCast]
 rw[if_pos (by omega),if_pos (by omega),wrapU64N,Nat.mod_eq_of_lt (show i%32<18446744073709551616 by omega)]
 simp only[Int.toNat_natCast]
 rw[if_neg (by omega),hbit,show List.getD [(x0:Int),S1 x1 x0,S1 x2 x1,S1 x3 x2,S1 x4 x3,S1 x5 x4] 0 0=(x0:Int) from rfl,q2,wrapI64 (x:=(i:Int)-1) (by omega) (by omega)]
 have hW:(W192:Nat)=2*2^191:=by decide
 have hset:=set_bit (Q:=A/b) hi (i/32) rfl
 have hmin:min (i%32) 32=i%32:=Nat.min_eq_left (by omega)
 by_cases hbig:2^191≤A%b
 ·have h1:A%b/2^191=1:=by
   have hlt:A%b<2*2^191:=by rw[←hW];exact hrl
   generalize (2:Nat)^191=P at*
   exact Nat.div_eq_of_lt_le (by omega) (by omega)
  have hle:b≤2*(A%b)+e:=by
   have:b<2*2^191:=by rw[←hW];exact hb
   omega
  rw[h1,show((((1:Nat):Int))==1)=true from rfl,cond_true,g100L n hle]
  rw[if_pos (by omega),if_pos (by omega),if_neg (by omega),if_pos (by omega),if_pos (by omega),hmin,hset,d1,d2,if_pos hle,if_pos hle]
  congr 2
  rw[Nat.pow_succ,Nat.add_mul,Nat.one_mul]
  congr 1
  rw[Nat.mul_comm 2,Nat.mul_assoc,Nat.mul_comm 2]
 ·have h1:A%b/2^191=0:=Nat.div_eq_of_lt (by omega)
  have htl:2*(A%b)+e<W192:=by rw[hW];omega
  rw[h1,show((((0:Nat):Int))==1)=false from rfl,cond_false,g99L n htl hb,cmpN_ge]
  by_cases hle:b≤2*(A%b)+e
  ·rw[decide_eq_true hle,cond_true,g100L n hle]
   rw[if_pos (by omega),if_pos (by omega),if_neg (by omega),if_pos (by omega),if_pos (by omega),hmin,hset,d1,d2,if_pos hle,if_pos hle]
   congr 2
   rw[Nat.pow_succ,Nat.add_mul,Nat.one_mul]
   congr 1
   rw[Nat.mul_comm 2,Nat.mul_assoc,Nat.mul_comm 2]
  ·rw[decide_eq_false hle,cond_false,d1,d2,if_neg hle,if_neg hle,Nat.add_zero,Nat.sub_zero]
   congr 2
   rw[Nat.pow_succ,Nat.add_zero,Nat.mul_comm 2 (A/b),Nat.mul_assoc,Nat.mul_comm 2 (2^i)]
theorem g85loop{α:Type}(n a b:Nat)(ha:a<W192)(hb0:0<b)(hb:b<W192)(z1 z2:List Int)(k:List Int→List Int→Option α):∀(i f:Nat),i≤192→i<f→
  g85l0 (g100 (n+7)) (g99 (n+7)) (g85l2M (n+7)) (limbs 6 a) (limbs 6 b) z1 z2 k f ((i:Int)-1) (limbs 6 (a/2^i/b*2^i)) (limbs 6 (a/2^i%b))=k (limbs 6 (a/b)) (limbs 6 (a%b))
 |0,f,hi,hf=>by
  obtain⟨f,rfl⟩:∃j,f=j+1:=⟨f-1,by omega⟩
  simp only[g85l0,g85l0b]
  rw[decide_eq_false (show¬((0:Nat):Int)-1≥0 by omega),cond_false,Nat.pow_zero,Nat.div_one,Nat.mul_one]
 |i+1,f,hi,hf=>by
  obtain⟨f,rfl⟩:∃j,f=j+1:=⟨f-1,by omega⟩
  rw[show((i+1:Nat):Int)-1=(i:Int) by omega,g85s n f i a b (by omega) ha hb0 hb]
  exact g85loop n a b ha hb0 hb z1 z2 k i f (by omega) (by omega)
theorem g85U{α:Type}(m:Nat)(la lb:List Int)(k:List Int→List Int→Option α):g85 m la lb k=g115 m la (fun x=>g85l0 (g100 m) (g99 m) (g85l2M m) la lb [0,0,0,0,0,0] [0,0,0,0,0,0] (fun l r=>k l r) m (IntKind.wrap .i64 (x-1)) [0,0,0,0,0,0] [0,0,0,0,0,0]):=by kernel_rfl
theorem g85L{α:Type}(n:Nat)(hn:200≤n){a b:Nat}(ha:a<W192)(hb0:0<b)(hb:b<W192)(k:List Int→List Int→Option α):g85 (n+40) (limbs 6 a) (limbs 6 b) k=k (limbs 6 (a/b)) (limbs 6 (a%b)):=by
 obtain⟨c,hc⟩:=len_of a
 have hc192:=len_le192 ha hc
 rw[g85U,g115L n ha hc,wrapI64 (by omega) (by omega)]
 have h0:a/2^c=0:=Nat.div_eq_of_lt (isLen_iff.1 hc).1
 have:=g85loop (n+33) a b ha hb0 hb [0,0,0,0,0,0] [0,0,0,0,0,0] (fun l r=>k l r) c (n+40) hc192 (by omega)
 rw[h0,Nat.zero_div,Nat.zero_mul,Nat.zero_mod] at this
 exact this
end Go.Proofs.YtlmmgjngihlpeaaDoor.Sx
/- Plain laws: division by a small number; the step of long division (impl). Our own work. -/
namespace Go.Proofs.YtlmmgjngihlpeaaDoor.Sx
open Go
set_option linter.unusedVariables false
set_option linter.unusedSimpArgs false
set_option maxRecDepth 100000
theorem or_top{x y:Nat}(hx:x<4294967296)(hy:y<4294967296):ibits .or .u64 (IntKind.wrap .u64 ((x:Int)*2^32)) (IntKind.wrap .u64 (y:Int))=((x*4294967296+y:Nat):Int):=by
 rw[show(2^32:Int)=((4294967296:Nat):Int) from rfl,←Int.natCast_mul,wrapU64N,wrapU64N,Nat.mod_eq_of_lt (by omega),Nat.mod_eq_of_lt (by omega),or64 (by omega) (by omega)]
 have:=or_is_add x y 32 hy
 rw[show(2:Nat)^32=4294967296 from rfl] at this
 rw[this]
theorem small_digit{A d x:Nat}(hd:0<d)(hx:x<4294967296):(A%d*4294967296+x)/d=(A*4294967296+x)/d%4294967296∧(A%d*4294967296+x)%d=(A*4294967296+x)%d:=by
 have h1:=Nat.div_add_mod A d
 have h2:=Nat.mod_lt A hd
 generalize A/d=Q at*
 generalize A%d=r at*
 have h3:A*4294967296+x=d*(Q*4294967296)+(r*4294967296+x):=by rw[←h1,Nat.add_mul,Nat.mul_assoc];omega
 have h4:(r*4294967296+x)/d<4294967296:=by
  apply Nat.div_lt_of_lt_mul
  have:(r+1)*4294967296≤d*4294967296:=Nat.mul_le_mul_right _ h2
  rw[Nat.add_mul] at this;omega
 rw[h3,Nat.mul_add_div hd,Nat.mul_add_mod]
 generalize (r*4294967296+x)/d=f at*
 exact⟨by omega,rfl⟩
theorem g49s{α:Type}(j v d ρ x:Nat)(hv:v<6)(hd:0<d)(hdB:d<4294967296)(hρ:ρ<d)(hx:x<4294967296)(z out:List Int)(ho:List.getD out v 0=(x:Int))(k:Int→List Int→Option α):
  g49l0 (d:Int) z k (j+1) (ρ:Int) (v:Int) out=g49l0 (d:Int) z k j (((ρ*4294967296+x)%d:Nat):Int) ((v:Int)-1) (List.set out v (((ρ*4294967296+x)/d:Nat):Int)):=by
 have hq:(ρ*4294967296+x)/d<4294967296:=by
  apply Nat.div_lt_of_lt_mul
  have:(ρ+1)*4294967296≤d*4294967296:=Nat.mul_le_mul_right _ hρ
  rw[Nat.add_mul] at this;omega
 simp only[g49l0,g49l0b]
 rw[decide_eq_true (show(v:Int)≥0 by omega),cond_true,if_pos (by omega),Int.toNat_natCast,if_pos hv,ho,or_top (by omega) hx,wrapU64N d,Nat.mod_eq_of_lt (show d<18446744073709551616 by omega),if_neg (by omega),if_pos (by omega),if_pos hv,if_neg (by omega),
  ←Int.ofNat_tmod,←Int.ofNat_tdiv,wrapU64N,Nat.mod_eq_of_lt (show(ρ*4294967296+x)/d<18446744073709551616 by omega),wrapU32,Nat.mod_eq_of_lt hq,wrapI64 (x:=(v:Int)-1) (by omega) (by omega)]
theorem g49loop{α:Type}(d a:Nat)(hd:0<d)(hdB:d<4294967296)(z:List Int)(k:Int→List Int→Option α):∀(w f:Nat),w≤6→w<f→
  g49l0 (d:Int) z k f ((a/4294967296^w%d:Nat):Int) ((w:Int)-1) (L6 (fun i=>if i<w then((dv i a%4294967296:Nat):Int) else((dv i (a/d)%4294967296:Nat):Int)))=k ((a%d:Nat):Int) (limbs 6 (a/d))
 |0,f,hw,hf=>by
  obtain⟨f,rfl⟩:∃j,f=j+1:=⟨f-1,by omega⟩
  simp only[g49l0,g49l0b]
  rw[decide_eq_false (show¬((0:Nat):Int)-1≥0 by omega),cond_false,Nat.pow_zero,Nat.div_one,limbs_L6]
  rfl
 |w+1,f,hw,hf=>by
  obtain⟨f,rfl⟩:∃j,f=j+1:=⟨f-1,by omega⟩
  have hx:dv w a%4294967296<4294967296:=Nat.mod_lt _ (by decide)
  have hget:List.getD (L6 (fun i=>if i<w+1 then((dv i a%4294967296:Nat):Int) else((dv i (a/d)%4294967296:Nat):Int))) w 0=((dv w a%4294967296:Nat):Int):=by
   rw[L6_getD _ (by omega),if_pos (by omega)]
  rw[show((w+1:Nat):Int)-1=(w:Int) by omega,g49s f w d _ _ (by omega) hd hdB (Nat.mod_lt _ hd) hx z _ hget k,L6_set _ (by omega)]
  obtain⟨e1,e2⟩:=small_digit (A:=a/4294967296^(w+1)) hd hx
  have e3:a/4294967296^(w+1)*4294967296+dv w a%4294967296=a/4294967296^w:=by
   rw[dv_eq,Nat.pow_succ,←Nat.div_div_eq_div_mul,Nat.mul_comm]
   exact Nat.div_add_mod _ _
  rw[e3] at e1 e2
  rw[e1,e2,←g49loop d a hd hdB z k w f (by omega) (by omega)]
  congr 1
  apply L6_congr
  intro i hi
  by_cases h:i=w
  ·subst h
   rw[if_pos rfl,if_neg (by omega),dv_eq,Nat.div_div_eq_div_mul,Nat.div_div_eq_div_mul,Nat.mul_comm d]
  ·rw[if_neg h]
   by_cases h2:i<w
   ·rw[if_pos h2,if_pos (by omega)]
   ·rw[if_neg h2,if_neg (by omega)]
theorem g49L{α:Type}(n:Nat){a d:Nat}(ha:a<W192)(hd:0<d)(hdB:d<4294967296)(k:List Int→Int→Option α):g49 (n+7) (limbs 6 a) (d:Int) k=k (limbs 6 (a/d)) ((a%d:Nat):Int):=by
 have h:g49 (n+7) (limbs 6 a) (d:Int) k=g49l0 (d:Int) [0,0,0,0,0,0] (fun x l=>k l (IntKind.wrap .u32 x)) (n+7) 0 5 (limbs 6 a):=rfl
 have h2:=g49loop (α:=α) d a hd hdB [0,0,0,0,0,0] (fun x l=>k l (IntKind.wrap .u32 x)) 6 (n+7) (by omega) (by omega)
 have h3:a/4294967296^6%d=0:=by
  rw[show(4294967296:Nat)^6=W192 from by decide,Nat.div_eq_of_lt ha,Nat.zero_mod]
 rw[h3] at h2
 have h4:L6 (fun i=>if i<6 then((dv i a%4294967296:Nat):Int) else((dv i (a/d)%4294967296:Nat):Int))=limbs 6 a:=by
  rw[limbs_L6];apply L6_congr;intro i hi;rw[if_pos hi]
 rw[h4] at h2
 rw[h]
 refine h2.trans ?_
 show k (limbs 6 (a/d)) (IntKind.wrap .u32 ((a%d:Nat):Int))=_
 have:a%d<d:=Nat.mod_lt _ hd
 rw[wrapU32,Nat.mod_eq_of_lt (by omega)]
end Go.Proofs.YtlmmgjngihlpeaaDoor.Sx
/- Plain laws: the step of long division (impl), the whole. Our own work. -/
namespace Go.Proofs.YtlmmgjngihlpeaaDoor.Sx
open Go
set_option linter.unusedVariables false
set_option linter.unusedSimpArgs false
set_option maxRecDepth 100000
def sg(j U i N X:Nat):List Int:=limbs j U++(limbs i N++limbs (7-j-i) (X/4294967296^i))
end Go.Proofs.YtlmmgjngihlpeaaDoor.Sx
/- Plain laws: long division (impl). Our own work. -/
namespace Go.Proofs.YtlmmgjngihlpeaaDoor.Sx
open Go
set_option linter.unusedVariables false
set_option linter.unusedSimpArgs false
set_option maxRecDepth 100000
end Go.Proofs.YtlmmgjngihlpeaaDoor.Sx
