import Derived.Test.YtlmmgjngihlpeaaPureY
import Derived.Test.YtlmmgjngihlpeaaPureU
/- Plain laws: division (impl), the whole. Our own work. -/
namespace Go.Proofs.Ytlmmgjngihlpeaa.Sx
open Go
set_option linter.unusedVariables false
set_option linter.unusedSimpArgs false
set_option maxRecDepth 100000
theorem sg_as(j U W:Nat)(hj:j≤7):sg j U 0 0 W=limbs 7 (U%4294967296^j+4294967296^j*W):=by
 have h:=limbs_add j (7-j) (U%4294967296^j+4294967296^j*W)
 rw[show j+(7-j)=7 by omega,limbs_mod,limbs_modEq,Nat.add_mul_div_left _ _ (Nat.pow_pos (by decide)),Nat.div_eq_of_lt (Nat.mod_lt _ (Nat.pow_pos (by decide))),Nat.zero_add] at h
 rw[h]
 unfold sg
 rw[Nat.pow_zero,Nat.div_one,Nat.sub_zero]
 rfl
theorem set_digit{T j x:Nat}(hj:j<6)(hx:x<4294967296):List.set (limbs 6 (T*4294967296^(j+1))) j (x:Int)=limbs 6 ((T*4294967296+x)*4294967296^j):=by
 have hP:0<4294967296^j:=Nat.pow_pos (by decide)
 have e1:=limbs_add j (6-j) (T*4294967296^(j+1))
 have e2:=limbs_add j (6-j) ((T*4294967296+x)*4294967296^j)
 have d1:T*4294967296^(j+1)=4294967296^j*(T*4294967296):=by rw[Nat.pow_succ,Nat.mul_left_comm]
 have d2:(T*4294967296+x)*4294967296^j=4294967296^j*(T*4294967296+x):=Nat.mul_comm _ _
 rw[show j+(6-j)=6 by omega,d1,Nat.mul_div_cancel_left _ hP] at e1
 rw[show j+(6-j)=6 by omega,d2,Nat.mul_div_cancel_left _ hP] at e2
 have z1:=limbs_mod j 0 (T*4294967296)
 have z2:=limbs_mod j 0 (T*4294967296+x)
 rw[Nat.zero_add] at z1 z2
 rw[d1,d2,e1,e2,z1,z2,List.set_append_right _ _ (by rw[limbs_length];exact Nat.le_refl _),limbs_length,Nat.sub_self]
 congr 1
 rw[limbs_cons (by omega) (T*4294967296),limbs_cons (by omega) (T*4294967296+x),List.set_cons_zero,show(T*4294967296+x)%4294967296=x by omega,show(T*4294967296+x)/4294967296=T by omega,show T*4294967296/4294967296=T by omega]
theorem beq7{j:Nat}(h:j<7):Nat.beq 7 j=false:=by
 cases hb:Nat.beq 7 j with
 |false=>rfl
 |true=>have:=Nat.eq_of_beq_eq_true hb;omega
theorem g96s{α:Type}(m j p U V:Nat)(hm:10≤m)(hjn:j+(p+2)≤6)(hlo:4294967296^(p+2)≤2*V)(hhi:V<4294967296^(p+2))(hX:U/4294967296^j<V*4294967296)(s:Int)(z1 z2 q:List Int)(k:List Int→List Int→Option α)(f:Nat):
  g96l0 (g124 m) ((p+2:Nat):Int) s z1 z2 (limbs 6 V) k (f+1) (j:Int) (limbs 7 U) q=
   g96l0 (g124 m) ((p+2:Nat):Int) s z1 z2 (limbs 6 V) k f ((j:Int)-1) (sg j U 0 0 (U/4294967296^j%V)) (List.set q j ((U/4294967296^j/V:Nat):Int)):=by
 simp only[g96l0,g96l0b]
 rw[decide_eq_true (show(j:Int)≥0 by omega),cond_true,wrapI64 (x:=(j:Int)+((p+2:Nat):Int)) (by omega) (by omega),wrapI64 (x:=(j:Int)+((p+2:Nat):Int)+1) (by omega) (by omega),show(j:Int)+((p+2:Nat):Int)+1=((j+(p+3):Nat):Int) by omega,
  wrapI64 (x:=(j:Int)-1) (by omega) (by omega)]
 simp only[Int.toNat_natCast]
 rw[if_pos (by omega),if_pos (by omega),beq7 (by omega),cond_false,Nat.add_sub_cancel_left,Nat.sub_zero,g124L m j p U V hm hjn hlo hhi hX,if_pos (by omega),if_pos (by omega)]
theorem g96loop{α:Type}(m p U0 V:Nat)(hm:10≤m)(hlo:4294967296^(p+2)≤2*V)(hhi:V<4294967296^(p+2))(s:Int)(z1 z2:List Int)(k:List Int→List Int→Option α):∀(w f:Nat),w+(p+2)≤7→w<f→
  g96l0 (g124 m) ((p+2:Nat):Int) s z1 z2 (limbs 6 V) k f ((w:Int)-1) (limbs 7 (U0%(V*4294967296^w))) (limbs 6 (U0/(V*4294967296^w)*4294967296^w))=k (limbs 7 (U0%V)) (limbs 6 (U0/V))
 |0,f,hw,hf=>by
  obtain⟨f,rfl⟩:∃j,f=j+1:=⟨f-1,by omega⟩
  simp only[g96l0,g96l0b]
  rw[decide_eq_false (show¬((0:Nat):Int)-1≥0 by omega),cond_false,Nat.pow_zero,Nat.mul_one,Nat.mul_one]
 |w+1,f,hw,hf=>by
  obtain⟨f,rfl⟩:∃j,f=j+1:=⟨f-1,by omega⟩
  have hP:0<4294967296^w:=Nat.pow_pos (by decide)
  have hVpos:0<V:=by have:0<4294967296^(p+2):=Nat.pow_pos (by decide);omega
  have hVP:0<V*4294967296^w:=Nat.mul_pos hVpos hP
  have hD:V*4294967296^(w+1)=V*4294967296^w*4294967296:=by rw[Nat.pow_succ,Nat.mul_assoc]
  have hUlt:U0%(V*4294967296^(w+1))<V*4294967296^(w+1):=Nat.mod_lt _ (by rw[hD];omega)
  have hX:U0%(V*4294967296^(w+1))/4294967296^w<V*4294967296:=by
   apply Nat.div_lt_of_lt_mul
   rw[show 4294967296^w*(V*4294967296)=V*4294967296^(w+1) by rw[Nat.pow_succ,Nat.mul_left_comm]]
   exact hUlt
  have hdig:U0%(V*4294967296^(w+1))/4294967296^w/V<4294967296:=Nat.div_lt_of_lt_mul hX
  rw[show((w+1:Nat):Int)-1=(w:Int) by omega,g96s m w p _ V hm (by omega) hlo hhi hX,set_digit (by omega) hdig,sg_as w _ _ (by omega),←Nat.mod_mul,←g96loop m p U0 V hm hlo hhi s z1 z2 k w f (by omega) (by omega)]
  congr 2
  ·rw[Nat.mul_comm (4294967296^w) V,Nat.mod_mod_of_dvd _ ⟨4294967296,hD⟩]
  ·congr 1
   rw[Nat.div_div_eq_div_mul,Nat.mul_comm (4294967296^w) V,hD]
   have h1:=Nat.div_add_mod U0 (V*4294967296^w*4294967296)
   generalize V*4294967296^w=D at*
   generalize hT:U0/(D*4294967296)=T at*
   generalize hR:U0%(D*4294967296)=R at*
   rw[←h1,Nat.mul_assoc,Nat.mul_add_div hVP,Nat.mul_comm 4294967296]
theorem cmpN_lt(a b:Nat):decide (cmpN a b<0)=decide (a<b):=by
 unfold cmpN
 by_cases h1:a<b
 ·rw[if_pos h1,decide_eq_true h1];rfl
 ·by_cases h2:b<a
  ·rw[if_neg h1,if_pos h2,decide_eq_false h1];rfl
  ·rw[if_neg h1,if_neg h2,decide_eq_false h1];rfl
theorem g123L{α:Type}(m t l:Nat)(ht:t<4294967296)(hl:isLen t l=true)(k:Int→Option α):g123 m (t:Int) k=k ((32-l:Nat):Int):=by
 have h:g123 m (t:Int) k=g125 m (t:Int) (fun x=>k (IntKind.wrap .i64 (32-x))):=by kernel_rfl
 have hl32:=isLen_le hl (c:=32) ht
 rw[h,g125Eq m ht hl,wrapI64 (by omega) (by omega)]
 congr 1;omega
theorem seven(N:Nat)(y:Int):List.set (List.take 0 [0,0,0,0,0,0,0]++(List.take 6 (List.drop 0 (limbs 6 N))++List.drop (0+6) [0,0,0,0,0,0,0])) 6 y=limbs 6 N++[y]:=rfl
theorem seven0(N:Nat):(List.take 0 [0,0,0,0,0,0,0]++(List.take 6 (List.drop 0 (limbs 6 N))++List.drop (0+6) [0,0,0,0,0,0,0]):List Int)=limbs 6 N++[0]:=rfl
theorem back6(M:Nat):(List.take 0 [0,0,0,0,0,0]++(List.take 6 (List.drop 0 (limbs 7 M))++List.drop (0+6) [0,0,0,0,0,0]):List Int)=limbs 6 M:=rfl
theorem limbs7{N:Nat}(h:N/W192<4294967296):limbs 7 N=limbs 6 N++[((N/W192:Nat):Int)]:=by
 rw[limbs_add 6 1,show(4294967296:Nat)^6=W192 from by decide]
 simp only[limbs,Nat.mod_eq_of_lt h]
theorem pow_bits(n:Nat):4294967296^n=2^(32*n):=by rw[Nat.pow_mul]
theorem g96L{α:Type}(n:Nat){a b:Nat}(ha:a<W192)(hb0:0<b)(hb:b<W192)(k:List Int→List Int→Option α):g96 (n+3+7) (limbs 6 a) (limbs 6 b) k=k (limbs 6 (a/b)) (limbs 6 (a%b)):=by
 obtain⟨c,hc⟩:=len_of b
 have hc192:=len_le192 hb hc
 have hcpos:=isLen_pos hc hb0
 have hc':=isLen_iff.1 hc
 simp only[g96,g96b,g96l0M,g107L (n+3) hb hc]
 have hn:IntKind.wrap .i64 (Int.tdiv (IntKind.wrap .i64 ((c:Int)+31)) 32)=(((c+31)/32:Nat):Int):=by
  rw[wrapI64 (x:=(c:Int)+31) (by omega) (by omega),show(c:Int)+31=((c+31:Nat):Int) by omega,show(32:Int)=((32:Nat):Int) from rfl,←Int.ofNat_tdiv,wrapI64 (by omega) (by omega)]
 rw[hn]
 by_cases h1:(c+31)/32=1
 · -- one limb
  have hb32:b<4294967296:=Nat.lt_of_lt_of_le hc'.1 (Nat.pow_le_pow_right (n:=2) (by decide) (show c≤32 by omega))
  rw[h1,show((((1:Nat):Int))==1)=true from rfl,cond_true,limbs_getD 6 b 0 (by decide),show dv 0 b%4294967296=b from Nat.mod_eq_of_lt hb32,g122L (n+3) ha hb0 hb32]
  congr 1
  have hr:a%b<b:=Nat.mod_lt _ hb0
  simp only[limbs,Nat.mod_eq_of_lt (show a%b<4294967296 by omega),Nat.div_eq_of_lt (show a%b<4294967296 by omega)]
  rfl
 ·obtain⟨p,hp⟩:∃p,(c+31)/32=p+2:=⟨(c+31)/32-2,by omega⟩
  have hp4:p≤4:=by omega
  rw[hp,show((((p+2:Nat):Int))==1)=false from beq_false_of_ne (by omega),cond_false,g89L (n+3) ha hb,cmpN_lt]
  by_cases hab:a<b
  ·rw[decide_eq_true hab,cond_true,Nat.div_eq_of_lt hab,Nat.mod_eq_of_lt hab];rfl
  ·rw[decide_eq_false hab,cond_false,wrapI64 (x:=((p+2:Nat):Int)-1) (by omega) (by omega),show((p+2:Nat):Int)-1=((p+1:Nat):Int) by omega]
   simp only[Int.toNat_natCast]
   -- the highest limb
   have hbn:b<4294967296^(p+2):=by rw[pow_bits];exact Nat.lt_of_lt_of_le hc'.1 (Nat.pow_le_pow_right (by decide) (by omega))
   have htop:b/4294967296^(p+1)<4294967296:=by
    apply Nat.div_lt_of_lt_mul;rw[←Nat.pow_succ];exact hbn
   have hlow:2^(c-1)≤b:=by
    rcases hc'.2 with h|h
    ·omega
    ·exact h
   have hlen:isLen (b/4294967296^(p+1)) (c-32*(p+1))=true:=by
    rw[isLen_iff,pow_bits]
    refine⟨?_, .inr ?_⟩
    ·apply Nat.div_lt_of_lt_mul
     rw[←Nat.pow_add,show 32*(p+1)+(c-32*(p+1))=c by omega];exact hc'.1
    ·rw[Nat.le_div_iff_mul_le (Nat.two_pow_pos _),←Nat.pow_add,show c-32*(p+1)-1+32*(p+1)=c-1 by omega];exact hlow
   rw[if_pos (by omega),if_pos (by omega),limbs_getD 6 b (p+1) (by omega),dv_eq,Nat.mod_eq_of_lt htop,g123L _ _ _ htop hlen]
   generalize hs:32-(c-32*(p+1))=s at*
   have hs31:s≤31:=by omega
   rw[g108L (n+3) s (by omega) hb,g108L (n+3) s (by omega) ha]
   -- what is divided
   have hV2:b*2^s<4294967296^(p+2):=by
    have h2:b*2^s<2^c*2^s:=Nat.mul_lt_mul_of_pos_right hc'.1 (Nat.two_pow_pos s)
    rw[←Nat.pow_add] at h2
    rw[pow_bits]
    exact Nat.lt_of_lt_of_le h2 (Nat.pow_le_pow_right (by decide) (by omega))
   have hV1:4294967296^(p+2)≤2*(b*2^s):=by
    have h2:2^(c-1)*2^s≤b*2^s:=Nat.mul_le_mul_right _ hlow
    rw[←Nat.pow_add] at h2
    have h3:2*2^(c-1+s)=2^(32*(p+2)):=by
     rw[Nat.mul_comm,←Nat.pow_succ];congr 1;omega
    rw[pow_bits,←h3];omega
   have hN2:2*(a*2^s)<4294967296^7:=by
    have h2:2^s≤2^31:=Nat.pow_le_pow_right (by decide) hs31
    have h3:=Nat.mul_le_mul (show a≤6277101735386680763835789423207666416102355444464034512895 from by have:a<6277101735386680763835789423207666416102355444464034512896:=ha;omega) h2
    rw[show(2:Nat)^31=2147483648 from rfl] at h3
    rw[show(4294967296:Nat)^7=26959946667150639794667015087019630673637144422540572481103610249216 from by decide]
    omega
   have hNW:a*2^s/W192<4294967296:=by
    apply Nat.div_lt_of_lt_mul
    rw[show(4294967296:Nat)^7=W192*4294967296 from by decide] at hN2
    omega
   have hstart:a*2^s<b*2^s*4294967296^(5-p):=by
    have h2:4294967296^(p+2)*4294967296^(5-p)≤2*(b*2^s)*4294967296^(5-p):=Nat.mul_le_mul_right _ hV1
    rw[←Nat.pow_add,show p+2+(5-p)=7 by omega,Nat.mul_assoc 2] at h2
    omega
   have hVW:a*2^s%(b*2^s)<W192:=by
    have h2:a*2^s%(b*2^s)<b*2^s:=Nat.mod_lt _ (Nat.mul_pos hb0 (Nat.two_pow_pos s))
    have h3:4294967296^(p+2)≤4294967296^6:=Nat.pow_le_pow_right (by decide) (by omega)
    rw[show(4294967296:Nat)^6=W192 from by decide] at h3
    omega
   have hloop:=fun(K:List Int→List Int→Option α)=>g96loop (n+3+7) p (a*2^s) (b*2^s) (by omega) hV1 hV2 (s:Int) [0,0,0,0,0,0] [0,0,0,0,0,0] K (5-p) (n+3+7) (by omega) (by omega)
   rw[Nat.mod_eq_of_lt hstart,Nat.div_eq_of_lt hstart,Nat.zero_mul,limbs7 hNW,Nat.mul_mod_mul_right,Nat.mul_div_mul_right _ _ (Nat.two_pow_pos s)] at hloop
   rw[Nat.mul_mod_mul_right] at hVW
   have hj:IntKind.wrap .i64 (6-((p+2:Nat):Int))=((5-p:Nat):Int)-1:=by rw[wrapI64 (by omega) (by omega)];omega
   have hfin:g109 (n+3+7) (List.take 0 [0,0,0,0,0,0]++(List.take 6 (List.drop 0 (limbs 7 (a%b*2^s)))++List.drop (0+6) [0,0,0,0,0,0])) (s:Int) (fun l=>k (limbs 6 (a/b)) l)=k (limbs 6 (a/b)) (limbs 6 (a%b)):=by
    rw[back6,g109L (n+3) s (by omega) hVW,Nat.mul_div_cancel _ (Nat.two_pow_pos s)]
   have hz:limbs 6 0=[0,0,0,0,0,0]:=rfl
   rw[hz] at hloop
   by_cases hs0:s=0
   ·rw[decide_eq_false (show¬(s:Int)>0 by omega),cond_false,seven0,hj]
    have h7:limbs 6 (a*2^s)++([0]:List Int)=limbs 6 (a*2^s)++[((a*2^s/W192:Nat):Int)]:=by
     have h9:a*2^s/W192=0:=by rw[hs0,Nat.pow_zero,Nat.mul_one,Nat.div_eq_of_lt ha]
     rw[h9];rfl
    rw[h7]
    rw[hloop]
    exact hfin
   ·rw[decide_eq_true (show(s:Int)>0 by omega),cond_true,wrapI64 (x:=32-(s:Int)) (by omega) (by omega),show 32-(s:Int)=((32-s:Nat):Int) by omega]
    simp only[Int.toNat_natCast]
    have h5:dv 5 a%4294967296/2^(32-s)=a*2^s/W192:=by
     have h6:dv 5 a<4294967296:=by
      rw[dv_eq];apply Nat.div_lt_of_lt_mul
      rw[show(4294967296:Nat)^5*4294967296=W192 from by decide];exact ha
     have h8:W192=4294967296^5*2^(32-s)*2^s:=by
      rw[Nat.mul_assoc,←Nat.pow_add,show 32-s+s=32 by omega]
     rw[Nat.mod_eq_of_lt h6,dv_eq,Nat.div_div_eq_div_mul,h8,Nat.mul_div_mul_right _ _ (Nat.two_pow_pos s)]
    rw[if_neg (by omega),limbs_getD 6 a 5 (by decide),Nat.min_eq_left (show 32-s≤32 by omega),shr32,h5,seven,hj]
    rw[hloop]
    exact hfin
end Go.Proofs.Ytlmmgjngihlpeaa.Sx
/- Plain laws: CommonWide, DivWides, DivNear. Our own work. -/
namespace Go.Proofs.Ytlmmgjngihlpeaa.Sx
open Go
set_option linter.unusedVariables false
set_option linter.unusedSimpArgs false
set_option maxRecDepth 100000
section
variable {α:Type} {m:Nat} {a b:Nat}
theorem g96M(hm:10≤m)(ha:a<W192)(hb0:0<b)(hb:b<W192)(k:List Int→List Int→Option α):g96 m (limbs 6 a) (limbs 6 b) k=k (limbs 6 (a/b)) (limbs 6 (a%b)):=by
 obtain⟨n,rfl⟩:∃n,m=n+3+7:=⟨m-10,by omega⟩
 exact g96L n ha hb0 hb k
theorem g100M(hm:240≤m)(ha:a<W192)(hb0:0<b)(hb:b<W192)(k:List Int→List Int→Option α):g100 m (limbs 6 a) (limbs 6 b) k=k (limbs 6 (a/b)) (limbs 6 (a%b)):=by
 obtain⟨n,rfl⟩:∃n,m=n+40:=⟨m-40,by omega⟩
 exact g100L n (by omega) ha hb0 hb k
theorem g101M(hm:7≤m)(ha:a<W192)(hb:b<W192)(k:List Int→Bool→Option α):g101 m (limbs 6 a) (limbs 6 b) k=k (limbs 6 (a+b)) (decide (a+b<W192)):=by
 obtain⟨n,rfl⟩:∃n,m=n+7:=⟨m-7,by omega⟩
 exact g101L n ha hb k
theorem g97M(hm:7≤m)(ha:a<W192)(hb:b<W192)(k:List Int→Bool→Option α):g97 m (limbs 6 a) (limbs 6 b) k=k (limbs 6 (a+b)) (!(decide (a+b<W192))):=by
 obtain⟨n,rfl⟩:∃n,m=n+7:=⟨m-7,by omega⟩
 exact g97L n ha hb k
theorem g102M(hm:7≤m)(h:b≤a)(k:List Int→Option α):g102 m (limbs 6 a) (limbs 6 b) k=k (limbs 6 (a-b)):=by
 obtain⟨n,rfl⟩:∃n,m=n+7:=⟨m-7,by omega⟩
 exact g102L n h k
theorem g99M(hm:7≤m)(h:b≤a)(k:List Int→Option α):g99 m (limbs 6 a) (limbs 6 b) k=k (limbs 6 (a-b)):=by
 obtain⟨n,rfl⟩:∃n,m=n+7:=⟨m-7,by omega⟩
 exact g99L n h k
end
def ups(s t:Bool)(a b:Nat):Bool:=(!(s==t))&& !(decide (a%b=0))
def dQ(s t:Bool)(a b:Nat):Nat:=cond (ups s t a b) (a/b+1) (a/b)
def dR(s t:Bool)(a b:Nat):Nat:=cond (ups s t a b) (b-a%b) (a%b)
theorem dQ_lt{s t:Bool}{a b:Nat}(ha:a<W192)(hb0:0<b):dQ s t a b<W192∧(2≤b→dQ s t a b+1<W192):=by
 have ha':a<6277101735386680763835789423207666416102355444464034512896:=ha
 have hW:(W192:Nat)=6277101735386680763835789423207666416102355444464034512896:=rfl
 have h2:2≤b→a/b≤a/2:=fun h=>Nat.div_le_div_left h (by decide)
 have h1:a/b≤a:=Nat.div_le_self _ _
 unfold dQ
 by_cases hb1:b=1
 ·subst hb1
  have:ups s t a 1=false:=by unfold ups;simp[Nat.mod_one]
  rw[this,cond_false]
  exact⟨by omega,fun h=>by omega⟩
 ·have:=h2 (by omega)
  cases ups s t a b<;>simp only[cond_true,cond_false]<;>exact⟨by omega,fun _=>by omega⟩
theorem dR_lt{s t:Bool}{a b:Nat}(hb0:0<b)(hb:b<W192):dR s t a b<W192∧dR s t a b≤b:=by
 have hr:a%b<b:=Nat.mod_lt _ hb0
 unfold dR
 cases ups s t a b<;>simp only[cond_true,cond_false]<;>exact⟨by omega,by omega⟩
theorem g60U{α:Type}(m:Nat)(s:Bool)(la:List Int)(t:Bool)(lb:List Int)(k:Bool→List Int→Bool→List Int→Option α):g60 m s la t lb k=g100 m la lb (fun q r=>cond (!(s==t)) (g95 m r (fun z=>cond (!z)
  (g101 m q [1,0,0,0,0,0] (fun q1 _=>g102 m lb r (fun r1=>g52 m (!(s==t)) q1 (fun x=>g52 m t r1 (fun y=>k x q1 y r1))))) (g52 m (!(s==t)) q (fun x=>g52 m t r (fun y=>k x q y r))))) (g52 m (!(s==t)) q (fun x=>g52 m t r (fun y=>k x q y r)))):=by kernel_rfl
theorem g55U{α:Type}(m:Nat)(s:Bool)(la:List Int)(t:Bool)(lb:List Int)(k:Bool→List Int→Bool→List Int→Option α):g55 m s la t lb k=g96 m la lb (fun q r=>cond (!(s==t)) (cond (!(eqLI r [0,0,0,0,0,0]))
  (g98 m (fun one=>g97 m q one (fun q1 _=>g99 m lb r (fun r1=>g64 m (!(s==t)) q1 (fun x=>g64 m t r1 (fun y=>k x q1 y r1)))))) (g64 m (!(s==t)) q (fun x=>g64 m t r (fun y=>k x q y r)))) (g64 m (!(s==t)) q (fun x=>g64 m t r (fun y=>k x q y r)))):=by kernel_rfl
theorem g60L{α:Type}(m:Nat)(hm:240≤m)(s t:Bool){a b:Nat}(ha:a<W192)(hb0:0<b)(hb:b<W192)(k:Bool→List Int→Bool→List Int→Option α):g60 m s (limbs 6 a) t (limbs 6 b) k=
  k ((!(s==t))&& !(decide (dQ s t a b=0))) (limbs 6 (dQ s t a b)) (t&& !(decide (dR s t a b=0))) (limbs 6 (dR s t a b)):=by
 have hr:a%b<b:=Nat.mod_lt _ hb0
 have hrW:a%b<W192:=Nat.lt_trans hr hb
 have hqW:a/b<W192:=Nat.lt_of_le_of_lt (Nat.div_le_self _ _) ha
 have hQ:=(dQ_lt (s:=s) (t:=t) ha hb0).1
 have hR:=(dR_lt (s:=s) (t:=t) (a:=a) hb0 hb).1
 rw[g60U,g100M hm ha hb0 hb,g95L m hrW]
 unfold dQ dR ups at*
 cases hst:(!(s==t))
 ·simp only[Bool.false_and,cond_false]
  rw[g52L m _ hqW,g52L m t hrW,Bool.false_and]
 ·simp only[Bool.true_and,cond_true]
  cases hz:decide (a%b=0)
  ·rw[hst,hz] at hQ hR
   simp only[Bool.not_false,Bool.and_true,Bool.true_and,cond_true] at hQ hR⊢
   rw[show([1,0,0,0,0,0]:List Int)=limbs 6 1 from rfl,g101M (by omega) hqW (by decide),g102M (by omega) (by omega),g52L m _ hQ,g52L m t hR,Bool.true_and]
  ·simp only[Bool.not_true,cond_false]
   rw[g52L m _ hqW,g52L m t hrW,Bool.true_and]
theorem g55L{α:Type}(m:Nat)(hm:240≤m)(s t:Bool){a b:Nat}(ha:a<W192)(hb0:0<b)(hb:b<W192)(k:Bool→List Int→Bool→List Int→Option α):g55 m s (limbs 6 a) t (limbs 6 b) k=
  k ((!(s==t))&& !(decide (dQ s t a b=0))) (limbs 6 (dQ s t a b)) (t&& !(decide (dR s t a b=0))) (limbs 6 (dR s t a b)):=by
 have hr:a%b<b:=Nat.mod_lt _ hb0
 have hrW:a%b<W192:=Nat.lt_trans hr hb
 have hqW:a/b<W192:=Nat.lt_of_le_of_lt (Nat.div_le_self _ _) ha
 have hQ:=(dQ_lt (s:=s) (t:=t) ha hb0).1
 have hR:=(dR_lt (s:=s) (t:=t) (a:=a) hb0 hb).1
 rw[g55U,g96M (by omega) ha hb0 hb,eqLI_zero hrW]
 unfold dQ dR ups at*
 cases hst:(!(s==t))
 ·simp only[Bool.false_and,cond_false]
  rw[g64L m _ hqW,g64L m t hrW,Bool.false_and]
 ·simp only[Bool.true_and,cond_true]
  cases hz:decide (a%b=0)
  ·rw[hst,hz] at hQ hR
   simp only[Bool.not_false,Bool.and_true,Bool.true_and,cond_true] at hQ hR⊢
   rw[g98L,g97M (by omega) hqW (by decide),g99M (by omega) (by omega),g64L m _ hQ,g64L m t hR,Bool.true_and]
  ·simp only[Bool.not_true,cond_false]
   rw[g64L m _ hqW,g64L m t hrW,Bool.true_and]
theorem g59L{α:Type}(m:Nat)(t:Bool){b:Nat}(hb:b<W192)(k:Int→Option α):g59 m t (limbs 6 b) k=k (cond t (-1) (cond (decide (b=0)) 0 1)):=by
 simp only[g59,g59b,eqLI_zero hb]
 cases t<;>cases decide (b=0)<;>rfl
theorem g54L{α:Type}(m:Nat)(t:Bool){b:Nat}(hb:b<W192)(k:Int→Option α):g54 m t (limbs 6 b) k=k (cond t (-1) (cond (decide (b=0)) 0 1)):=by
 simp only[g54,g54b,eqLI_zero hb]
 cases t<;>cases decide (b=0)<;>rfl
end Go.Proofs.Ytlmmgjngihlpeaa.Sx
/- Plain laws: DivNear. Our own work. -/
namespace Go.Proofs.Ytlmmgjngihlpeaa.Sx
open Go
set_option linter.unusedVariables false
set_option linter.unusedSimpArgs false
set_option maxRecDepth 100000
theorem g71U{α:Type}(m:Nat)(s:Bool)(la:List Int)(t:Bool)(lb:List Int)(k:Bool→List Int→Option α):g71 m s la t lb k=g60 m s la t lb (fun c q d r=>g102 m lb r (fun e=>g105 m r e (fun x=>cond (decide (x≥0))
  (g110 m 1 (fun b l=>g65 m c q b l (fun b l _=>k b l))) (k c q)))):=by kernel_rfl
theorem g57U{α:Type}(m:Nat)(s:Bool)(la:List Int)(t:Bool)(lb:List Int)(o:Bool)(k:Bool→List Int→Bool→Option α):g57 m s la t lb o k=g55 m s la t lb (fun c q d r=>g99 m lb r (fun e=>g89 m r e (fun x=>cond (decide (x<0)) (k c q o)
  (g19 m 1 (fun b l=>g62 m c q b l o (fun b l o=>k b l o)))))):=by kernel_rfl
end Go.Proofs.Ytlmmgjngihlpeaa.Sx
