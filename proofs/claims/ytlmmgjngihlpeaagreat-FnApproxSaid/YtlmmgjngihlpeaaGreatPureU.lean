import Derived.Test.YtlmmgjngihlpeaaGreatPureQ
/- Plain laws: ShiftNear. Our own work. -/
namespace Go.Proofs.YtlmmgjngihlpeaaGreat.Sx
open Go
set_option linter.unusedVariables false
set_option linter.unusedSimpArgs false
set_option maxRecDepth 100000
theorem half_bit{a p:Nat}(hp:0<p):a/2^(p-1)%2=1↔2^(p-1)≤a%2^p:=by
 obtain⟨s,rfl⟩:∃s,p=s+1:=⟨p-1,by omega⟩
 rw[Nat.add_sub_cancel,Nat.pow_succ,Nat.mod_mul]
 have h1:a%2^s<2^s:=Nat.mod_lt _ (Nat.two_pow_pos s)
 have h2:a/2^s%2<2:=Nat.mod_lt _ (by decide)
 generalize a/2^s%2=t at*
 generalize 2^s=P at*
 rcases(show t=0∨t=1 by omega) with rfl|rfl
 ·simp;omega
 ·simp
def nearN(q:Bool)(a p:Nat):Nat:=cond (cond q (decide (2^(p-1)<a%2^p)) (decide (2^(p-1)≤a%2^p))) (a/2^p+1) (a/2^p)
theorem down_lt{a p:Nat}(hp:0<p)(ha:a<W192):a/2^p+1<W192:=by
 obtain⟨s,rfl⟩:∃s,p=s+1:=⟨p-1,by omega⟩
 have h1:a/2^(s+1)≤a/2:=by
  rw[Nat.pow_succ,Nat.mul_comm,←Nat.div_div_eq_div_mul]
  exact Nat.div_le_self _ _
 have ha':a<6277101735386680763835789423207666416102355444464034512896:=ha
 show _<6277101735386680763835789423207666416102355444464034512896
 omega
theorem one_up{s:Nat}(hs:s<192):1*2^s<W192:=by
 rw[Nat.one_mul,←pow192];exact Nat.pow_lt_pow_right (by decide) hs
theorem limbs_one:limbs 6 1=[1,0,0,0,0,0]:=rfl
theorem odd_limb(h:Nat):((Int.tmod (List.getD (limbs 6 h) 0 0) 2)==1)=decide (h%2=1):=by
 rw[limbs_getD 6 h 0 (by decide),show(2:Int)=((2:Nat):Int) from rfl,←Int.ofNat_tmod]
 have:dv 0 h%4294967296%2=h%2:=by show h%4294967296%2=h%2;omega
 rw[this]
 by_cases hh:h%2=1
 ·rw[hh];rfl
 ·rw[show h%2=0 by omega];rfl
theorem g76L{α:Type}(n p:Nat)(q:Bool){a:Nat}(h0:0<p)(hp:p<192)(ha:a<W192)(k:Bool→List Int→Option α):
  g76 (n+40) q (limbs 6 a) (p:Int) k=k (q&& !(decide (nearN q a p=0))) (limbs 6 (nearN q a p)):=by
 have hD:a/2^p<W192:=Nat.lt_of_le_of_lt (Nat.div_le_self _ _) ha
 have hH:a/2^(p-1)<W192:=Nat.lt_of_le_of_lt (Nat.div_le_self _ _) ha
 have hback:a/2^p*2^p≤a:=Nat.div_mul_le_self _ _
 have hbl:a/2^p*2^p<W192:=Nat.lt_of_le_of_lt hback ha
 have hrest:a-a/2^p*2^p=a%2^p:=by
  have:=Nat.div_add_mod a (2^p)
  rw[Nat.mul_comm] at this;omega
 have hpow:=one_up (show p-1<192 by omega)
 rw[Nat.one_mul] at hpow
 have hrl:a%2^p<W192:=Nat.lt_of_le_of_lt (Nat.mod_le _ _) ha
 have hD1:=down_lt h0 ha
 have e1:IntKind.wrap .i64 ((p:Int)-1)=((p-1:Nat):Int):=by rw[wrapI64 (by omega) (by omega)];omega
 have hz:((p:Int)==0)=false:=by simpa using(show(p:Int)≠0 by omega)
 unfold g76 g76b
 rw[hz,e1]
 simp only[cond_false,←limbs_one,g106L (n+33) p hp ha,g106L (n+33) (p-1) (show p-1<192 by omega) ha,g107L n p hp hD,decide_eq_true hbl,cond_true,g108L (n+33) hback,hrest,
  g107L n (p-1) (show p-1<192 by omega) (show 1<W192 by decide),Nat.one_mul,decide_eq_true hpow,odd_limb,eqLI_limbs hrl hpow,g109L (n+33) hD (show 1<W192 by decide),g110L (n+40) q hD,g110L (n+40) q hD1]
 have hb:=half_bit (a:=a) h0
 unfold nearN
 by_cases c1:2^(p-1)≤a%2^p
 ·rw[decide_eq_true (hb.2 c1),decide_eq_true c1]
  cases q
  ·rfl
  ·by_cases c2:a%2^p=2^(p-1)
   ·rw[decide_eq_true c2,decide_eq_false (show¬2^(p-1)<a%2^p by omega)];rfl
   ·rw[decide_eq_false c2,decide_eq_true (show 2^(p-1)<a%2^p by omega)];rfl
 ·rw[decide_eq_false (fun h=>c1 (hb.1 h)),decide_eq_false c1]
  cases q
  ·rfl
  ·rw[decide_eq_false (show¬a%2^p=2^(p-1) by omega),decide_eq_false (show¬2^(p-1)<a%2^p by omega)];rfl
theorem cmpN_gt(a b:Nat):decide (cmpN a b>0)=decide (b<a):=by
 unfold cmpN
 by_cases h1:a<b
 ·rw[if_pos h1,decide_eq_false (show¬b<a by omega)];rfl
 ·by_cases h2:b<a
  ·rw[if_neg h1,if_pos h2,decide_eq_true h2];rfl
  ·rw[if_neg h1,if_neg h2,decide_eq_false h2];rfl
theorem cmpN_zero(a b:Nat):(cmpN a b==0)=decide (a=b):=by
 unfold cmpN
 by_cases h1:a<b
 ·rw[if_pos h1,decide_eq_false (show¬a=b by omega)];rfl
 ·by_cases h2:b<a
  ·rw[if_neg h1,if_pos h2,decide_eq_false (show¬a=b by omega)];rfl
  ·rw[if_neg h1,if_neg h2,decide_eq_true (show a=b by omega)];rfl
theorem cmpN_le(a b:Nat):decide (cmpN a b≤0)=decide (a≤b):=by
 unfold cmpN
 by_cases h1:a<b
 ·rw[if_pos h1,decide_eq_true (show a≤b by omega)];rfl
 ·by_cases h2:b<a
  ·rw[if_neg h1,if_pos h2,decide_eq_false (show¬a≤b by omega)];rfl
  ·rw[if_neg h1,if_neg h2,decide_eq_true (show a≤b by omega)];rfl
theorem g43L{α:Type}(m:Nat)(k:List Int→Option α):g43 m k=k (limbs 6 1):=rfl
theorem g74L{α:Type}(n p:Nat)(q o:Bool){a:Nat}(h0:0<p)(hp:p<192)(ha:a<W192)(k:Bool→List Int→Bool→Option α):
  g74 (n+7) q (limbs 6 a) (p:Int) o k=k (q&& !(decide (nearN q a p=0))) (limbs 6 (nearN q a p)) o:=by
 have hD:a/2^p<W192:=Nat.lt_of_le_of_lt (Nat.div_le_self _ _) ha
 have hback:a/2^p*2^p≤a:=Nat.div_mul_le_self _ _
 have hrest:a-a/2^p*2^p=a%2^p:=by
  have:=Nat.div_add_mod a (2^p)
  rw[Nat.mul_comm] at this;omega
 have hpow:=one_up (show p-1<192 by omega)
 rw[Nat.one_mul] at hpow
 have hrl:a%2^p<W192:=Nat.lt_of_le_of_lt (Nat.mod_le _ _) ha
 have hD1:=down_lt h0 ha
 have e1:IntKind.wrap .i64 ((p:Int)-1)=((p-1:Nat):Int):=by rw[wrapI64 (by omega) (by omega)];omega
 have hz:((p:Int)==0)=false:=by simpa using(show(p:Int)≠0 by omega)
 unfold g74 g74b
 rw[hz,e1,decide_eq_false (show¬(p:Int)>191 by omega)]
 simp only[cond_false,g105L n p hp ha,g43L,g44L n (p-1) (show p-1<192 by omega) (show 1<W192 by decide),Nat.one_mul,g44L n p hp hD,g84L n hback,hrest,g46L n hrl hpow,cmpN_gt,cmpN_zero,g45L n hD (show 1<W192 by decide),g73L (n+7) q hD,g73L (n+7) q hD1]
 unfold nearN
 by_cases c1:2^(p-1)<a%2^p
 ·rw[decide_eq_true c1,decide_eq_true (show 2^(p-1)≤a%2^p by omega)]
  cases q<;>rfl
 ·rw[decide_eq_false c1]
  by_cases c2:a%2^p=2^(p-1)
  ·rw[decide_eq_true c2,decide_eq_true (show 2^(p-1)≤a%2^p by omega)]
   cases q<;>rfl
  ·rw[decide_eq_false c2,decide_eq_false (show¬2^(p-1)≤a%2^p by omega)]
   cases q<;>rfl
theorem z191:decide (((0:Nat):Int)>191)=false:=rfl
theorem zz0:(((0:Nat):Int)==0)=true:=rfl
theorem g74U(m:Nat)(q o:Bool)(l:List Int)(p:Int){α:Type}(k:Bool→List Int→Bool→Option α):∃F:List Int→Option α,g74 m q l p o k=cond (decide (p>191)) (k false [0,0,0,0,0,0] true) (g105 m l p (fun d=>cond (p==0) (k q l o) (F d))):=by
 unfold g74 g74b
 exact⟨_,rfl⟩
theorem g74Z{α:Type}(n:Nat)(q o:Bool){a:Nat}(ha:a<W192)(k:Bool→List Int→Bool→Option α):g74 (n+7) q (limbs 6 a) ((0:Nat):Int) o k=k q (limbs 6 a) o:=by
 obtain⟨F,h⟩:=g74U (n+7) q o (limbs 6 a) ((0:Nat):Int) k
 rw[h,z191,cond_false,g105L n 0 (by decide) ha,zz0,cond_true]
end Go.Proofs.YtlmmgjngihlpeaaGreat.Sx
/- Plain laws: RootWide. Our own work. -/
namespace Go.Proofs.YtlmmgjngihlpeaaGreat.Sx
open Go
set_option linter.unusedVariables false
set_option linter.unusedSimpArgs false
set_option maxRecDepth 100000
theorem g78L{α:Type}(n:Nat){a b:Nat}(ha:a<W192)(hb:b<W192)(hs:a+b<W192)(k:Bool→List Int→Int→Option α):
  g78 (n+7) false (limbs 6 a) false (limbs 6 b) k=k false (limbs 6 (a+b)) 0:=by
 simp only[g78,g78b,g109L n ha hb,beq_self_eq_true,cond_true,eq_true hs,decide_true,Bool.not_true,cond_false,g110L (n+7) false hs,Bool.false_and]
theorem g81L{α:Type}(n:Nat){a b:Nat}(ha:a<W192)(hb:b<W192)(k:Int→Option α):g81 (n+7) false (limbs 6 a) false (limbs 6 b) k=k (cmpN a b):=by
 have h:g81 (n+7) false (limbs 6 a) false (limbs 6 b) k=g111 (n+7) (limbs 6 a) (limbs 6 b) (fun x=>k x):=by kernel_rfl
 rw[h,g111L n ha hb]
def rootStep(a i R:Nat):Nat:=cond (decide ((R+2^i)*(R+2^i)≤a)) (R+2^i) R
theorem g101U{α:Type}(m:Nat)(la z:List Int)(k:Bool→List Int→Option α)(f:Nat)(i:Int)(s:Bool)(l:List Int):
  g101l0 (g80 m) (g77 m) (g78 m) (g119 m) (g81 m) false la false z k (f+1) i s l=cond (decide (i≥0)) (g80 m 1 (fun b1 l1=>g77 m b1 l1 i (fun b2 l2 x2=>g78 m s l b2 l2 (fun b3 l3 x3=>
   cond (x2 !=0) (g101l0 (g80 m) (g77 m) (g78 m) (g119 m) (g81 m) false la false z k f (IntKind.wrap .i64 (i-1)) s l) (cond (x3 !=0) (g101l0 (g80 m) (g77 m) (g78 m) (g119 m) (g81 m) false la false z k f (IntKind.wrap .i64 (i-1)) s l)
    (g119 m b3 l3 b3 l3 (fun b4 l4 x4=>cond (x4==0) (g81 m b4 l4 false la (fun x=>cond (decide (x≤0)) (g101l0 (g80 m) (g77 m) (g78 m) (g119 m) (g81 m) false la false z k f (IntKind.wrap .i64 (i-1)) b3 l3)
     (g101l0 (g80 m) (g77 m) (g78 m) (g119 m) (g81 m) false la false z k f (IntKind.wrap .i64 (i-1)) s l))) (g101l0 (g80 m) (g77 m) (g78 m) (g119 m) (g81 m) false la false z k f (IntKind.wrap .i64 (i-1)) s l)))))))) (k s l):=by kernel_rfl
theorem g92U{α:Type}(m:Nat)(la z:List Int)(k:List Int→Option α)(f:Nat)(i:Int)(l:List Int):
  g92l0 (g43 m) (g44 m) (g45 m) (g85 m) (g46 m) la z k (f+1) i l=cond (decide (i≥0)) (g43 m (fun l1=>g44 m l1 i (fun l2=>g45 m l l2 (fun l3 b3=>g85 m l3 l3 (fun l4 b4=>
   cond (!b4) (g46 m l4 la (fun x=>cond (decide (x≤0)) (g92l0 (g43 m) (g44 m) (g45 m) (g85 m) (g46 m) la z k f (IntKind.wrap .i64 (i-1)) l3) (g92l0 (g43 m) (g44 m) (g45 m) (g85 m) (g46 m) la z k f (IntKind.wrap .i64 (i-1)) l)))
    (g92l0 (g43 m) (g44 m) (g45 m) (g85 m) (g46 m) la z k f (IntKind.wrap .i64 (i-1)) l)))))) (k l):=by kernel_rfl
theorem sq_lt{x a:Nat}(h:x*x≤a)(ha:a<W192):x*x<W192:=Nat.lt_of_le_of_lt h ha
theorem g101s{α:Type}(n f i R:Nat){a:Nat}(hi:i<192)(ha:a<W192)(hR:R+2^i<W192)(z:List Int)(k:Bool→List Int→Option α):
  g101l0 (g80 (n+40)) (g77 (n+40)) (g78 (n+40)) (g119 (n+40)) (g81 (n+40)) false (limbs 6 a) false z k (f+1) (i:Int) false (limbs 6 R)=
   g101l0 (g80 (n+40)) (g77 (n+40)) (g78 (n+40)) (g119 (n+40)) (g81 (n+40)) false (limbs 6 a) false z k f ((i:Int)-1) false (limbs 6 (rootStep a i R)):=by
 have hp:2^i<W192:=Nat.lt_of_le_of_lt (Nat.le_add_left _ _) hR
 have hRl:R<W192:=Nat.lt_of_le_of_lt (Nat.le_add_right _ _) hR
 have h1:1*2^i<W192:=by rw[Nat.one_mul];exact hp
 rw[g101U,decide_eq_true (show(i:Int)≥0 by omega),cond_true,g80one,g77L n i false hi (show 1<W192 by decide),decide_eq_true h1,cond_true,Bool.false_and,Nat.one_mul,g78L (n+33) hRl hp hR,bne_self_eq_false,cond_false,cond_false,
  g119L (n+33) hR hR,wrapI64 (x:=(i:Int)-1) (by omega) (by omega)]
 unfold rootStep
 by_cases hs:(R+2^i)*(R+2^i)<W192
 ·rw[decide_eq_true hs,cond_true,beq_self_eq_true,beq_self_eq_true,Bool.not_true,Bool.false_and,cond_true,g81L (n+33) hs ha,cmpN_le]
  cases decide ((R+2^i)*(R+2^i)≤a)<;>rfl
 ·rw[decide_eq_false hs,cond_false,decide_eq_false (fun h=>hs (sq_lt h ha))];rfl
theorem g92s{α:Type}(n f i R:Nat){a:Nat}(hi:i<192)(ha:a<W192)(hR:R+2^i<W192)(z:List Int)(k:List Int→Option α):
  g92l0 (g43 (n+40)) (g44 (n+40)) (g45 (n+40)) (g85 (n+40)) (g46 (n+40)) (limbs 6 a) z k (f+1) (i:Int) (limbs 6 R)=
   g92l0 (g43 (n+40)) (g44 (n+40)) (g45 (n+40)) (g85 (n+40)) (g46 (n+40)) (limbs 6 a) z k f ((i:Int)-1) (limbs 6 (rootStep a i R)):=by
 have hp:2^i<W192:=Nat.lt_of_le_of_lt (Nat.le_add_left _ _) hR
 have hRl:R<W192:=Nat.lt_of_le_of_lt (Nat.le_add_right _ _) hR
 rw[g92U,decide_eq_true (show(i:Int)≥0 by omega),cond_true,g43L,g44L (n+33) i hi (show 1<W192 by decide),Nat.one_mul,g45L (n+33) hRl hp,g85L (n+33) hR hR,wrapI64 (x:=(i:Int)-1) (by omega) (by omega)]
 unfold rootStep
 by_cases hs:(R+2^i)*(R+2^i)<W192
 ·rw[decide_eq_true hs,cond_true,Bool.not_false,cond_true,g46L (n+33) hs ha,cmpN_le]
  cases decide ((R+2^i)*(R+2^i)≤a)<;>rfl
 ·rw[decide_eq_false hs,cond_false,decide_eq_false (fun h=>hs (sq_lt h ha))];rfl
def rootN(a:Nat):Nat→Nat→Nat
 |0,R=>rootStep a 0 R
 |i+1,R=>rootN a i (rootStep a (i+1) R)
theorem rootStep_le(a i R:Nat):rootStep a i R≤R+2^i:=by
 unfold rootStep
 cases decide ((R+2^i)*(R+2^i)≤a)
 ·exact Nat.le_add_right _ _
 ·exact Nat.le_refl _
theorem pow98:(2:Nat)^98<W192:=by decide
theorem root_in{i R:Nat}(h:R+2^(i+1)≤2^98):R+2^i<W192:=by
 have:=pow98
 rw[Nat.pow_succ] at h
 omega
theorem root_next{a i R:Nat}(h:R+2^(i+2)≤2^98):rootStep a (i+1) R+2^(i+1)≤2^98:=by
 have h1:=rootStep_le a (i+1) R
 have h2:2^(i+2)=2^(i+1)*2:=Nat.pow_succ ..
 omega
theorem g101loop{α:Type}(n:Nat){a:Nat}(ha:a<W192)(z:List Int)(k:Bool→List Int→Option α):∀(i f R:Nat),i<192→i+1<f→R+2^(i+1)≤2^98→
  g101l0 (g80 (n+40)) (g77 (n+40)) (g78 (n+40)) (g119 (n+40)) (g81 (n+40)) false (limbs 6 a) false z k f (i:Int) false (limbs 6 R)=k false (limbs 6 (rootN a i R))
 |0,f,R,hi,hf,hR=>by
  obtain⟨f,rfl⟩:∃j,f=j+2:=⟨f-2,by omega⟩
  rw[g101s n (f+1) 0 R hi ha (root_in hR),g101U,decide_eq_false (show¬((0:Nat):Int)-1≥0 by omega)];rfl
 |i+1,f,R,hi,hf,hR=>by
  obtain⟨f,rfl⟩:∃j,f=j+1:=⟨f-1,by omega⟩
  rw[g101s n f (i+1) R hi ha (root_in hR),show((i+1:Nat):Int)-1=(i:Int) by omega]
  exact g101loop n ha z k i f _ (by omega) (by omega) (root_next hR)
theorem g92loop{α:Type}(n:Nat){a:Nat}(ha:a<W192)(z:List Int)(k:List Int→Option α):∀(i f R:Nat),i<192→i+1<f→R+2^(i+1)≤2^98→
  g92l0 (g43 (n+40)) (g44 (n+40)) (g45 (n+40)) (g85 (n+40)) (g46 (n+40)) (limbs 6 a) z k f (i:Int) (limbs 6 R)=k (limbs 6 (rootN a i R))
 |0,f,R,hi,hf,hR=>by
  obtain⟨f,rfl⟩:∃j,f=j+2:=⟨f-2,by omega⟩
  rw[g92s n (f+1) 0 R hi ha (root_in hR),g92U,decide_eq_false (show¬((0:Nat):Int)-1≥0 by omega)];rfl
 |i+1,f,R,hi,hf,hR=>by
  obtain⟨f,rfl⟩:∃j,f=j+1:=⟨f-1,by omega⟩
  rw[g92s n f (i+1) R hi ha (root_in hR),show((i+1:Nat):Int)-1=(i:Int) by omega]
  exact g92loop n ha z k i f _ (by omega) (by omega) (root_next hR)
theorem half_start{b:Nat}(hb:b≤192):IntKind.wrap .i64 (Int.tdiv (IntKind.wrap .i64 ((b:Int)+1)) 2)=(((b+1)/2:Nat):Int):=by
 rw[wrapI64 (x:=(b:Int)+1) (by omega) (by omega),show(b:Int)+1=((b+1:Nat):Int) by omega,show(2:Int)=((2:Nat):Int) from rfl,←Int.ofNat_tdiv,wrapI64 (by omega) (by omega)]
theorem start_ok{b:Nat}(hb:b≤192):0+2^((b+1)/2+1)≤2^98:=by
 rw[Nat.zero_add];exact Nat.pow_le_pow_right (by decide) (by omega)
theorem g101M{α:Type}(m:Nat)(l:List Int)(k:Bool→List Int→Option α):g101 m false l k=g122 m l (fun x=>g101l0 (g80 m) (g77 m) (g78 m) (g119 m) (g81 m) false l false [0,0,0,0,0,0] (fun b l=>k b l) m (IntKind.wrap .i64 (Int.tdiv (IntKind.wrap .i64 (x+1)) 2)) false [0,0,0,0,0,0]):=by kernel_rfl
theorem g92M{α:Type}(m:Nat)(l:List Int)(k:List Int→Option α):g92 m l k=g72 m l (fun x=>g92l0 (g43 m) (g44 m) (g45 m) (g85 m) (g46 m) l [0,0,0,0,0,0] (fun l=>k l) m (IntKind.wrap .i64 (Int.tdiv (IntKind.wrap .i64 (x+1)) 2)) [0,0,0,0,0,0]):=by kernel_rfl
end Go.Proofs.YtlmmgjngihlpeaaGreat.Sx
/- Plain laws: ReadWide. Our own work. -/
namespace Go.Proofs.YtlmmgjngihlpeaaGreat.Sx
open Go
set_option linter.unusedVariables false
set_option linter.unusedSimpArgs false
set_option maxRecDepth 100000
end Go.Proofs.YtlmmgjngihlpeaaGreat.Sx
/- Plain laws: ReadWide, the whole. Our own work. -/
namespace Go.Proofs.YtlmmgjngihlpeaaGreat.Sx
open Go
set_option linter.unusedVariables false
set_option linter.unusedSimpArgs false
set_option maxRecDepth 100000
end Go.Proofs.YtlmmgjngihlpeaaGreat.Sx
