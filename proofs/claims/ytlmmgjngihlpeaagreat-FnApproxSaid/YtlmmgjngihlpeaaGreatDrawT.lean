import Derived.Test.YtlmmgjngihlpeaaGreatZedD
import Derived.Test.YtlmmgjngihlpeaaGreatGskW
namespace Go.Proofs.YtlmmgjngihlpeaaGreat.Sx
open Go
set_option linter.unusedVariables false
set_option linter.unusedSimpArgs false
set_option maxRecDepth 100000
def Byt(u:List Int):Prop:=∀x∈u,0≤x∧x≤255
theorem byt_at{u:List Int}(h:Byt u)(i:Nat):0≤List.getD u i 0∧List.getD u i 0≤255:=by
 by_cases hi:i<u.length
 ·rw[getD_at u 0 hi];exact h _ (List.getElem_mem hi)
 ·rw[List.getD_eq_getElem?_getD,List.getElem?_eq_none (by omega)];decide
theorem lit_u8{x:Int}(h:(Lit.int .u8 x).wf=true):0≤x∧x≤255:=by
 have:decide (IntKind.u8.min≤x∧x≤IntKind.u8.max)=true:=by simpa[Lit.wf] using h
 simpa[IntKind.min,IntKind.max,IntKind.bits,IntKind.signed] using this
theorem and255(x:Nat):ibits .and .u64 (x:Int) 255=((x%18446744073709551616%256:Nat):Int):=by
 have hx:∀y:Nat,y<256→IntKind.wrap .u64 (y:Int)=(y:Int):=fun y hy=>by rw[wrapU64N,Nat.mod_eq_of_lt (by omega)]
 show IntKind.wrap .u64 ((BitVec.ofInt 64 (x:Int)&&&BitVec.ofInt 64 ((255:Nat):Int)).toNat:Int)=_
 have e:∀y:Nat,y&&&255=y%256:=fun y=>Nat.and_two_pow_sub_one_eq_mod y 8
 rw[BitVec.toNat_and,ofInt_nat,ofInt_nat,Nat.mod_eq_of_lt (show 255<2^64 by decide),e,hx _ (Nat.mod_lt _ (by decide))]
theorem wrapU64_nat(x:Int):∃y:Nat,IntKind.wrap .u64 x=(y:Int):=by
 have e:IntKind.wrap .u64 x=x%18446744073709551616:=by simp[IntKind.wrap,IntKind.bits,IntKind.signed]
 exact⟨(x%18446744073709551616).toNat,by rw[e];omega⟩
theorem low_byte(x:Int):∃y:Int,0≤y∧y≤255∧IntKind.wrap .i64 (ibits .and .u64 (Int.fdiv (IntKind.wrap .u64 x) (2^40)) 255)=y:=by
 obtain⟨y,hy⟩:=wrapU64_nat x
 rw[hy,show(2:Int)^40=((1099511627776:Nat):Int) from rfl,fdivNat,and255]
 generalize y/1099511627776%18446744073709551616=z
 have:z%256<256:=Nat.mod_lt _ (by decide)
 exact⟨((z%256:Nat):Int),by omega,by omega,by rw[wrapI64 (by omega) (by omega)]⟩
theorem next_res(m cap:Nat){u:List Int}(hu:Byt u){at':Nat}(ha:at'≤1000000000)(s:Int):∃x s':Int,0≤x∧x≤255∧
  ∀{α:Type} (k:Int→Int→Int→Option α),g63 m 0 u.length cap (at':Int) s u.length u k=k x ((at'+1:Nat):Int) s':=by
 by_cases h:at'<u.length
 ·obtain⟨b1,b2⟩:=byt_at hu at'
  obtain⟨y,y1,y2,y3⟩:=low_byte ((IntKind.wrap .u64 ((IntKind.wrap .u64 (s*6364136223846793005))+(IntKind.wrap .u64 (List.getD u at' 0))))+1442695040888963407)
  refine⟨List.getD u at' 0,IntKind.wrap .u64 ((IntKind.wrap .u64 ((IntKind.wrap .u64 (s*6364136223846793005))+(IntKind.wrap .u64 (List.getD u at' 0))))+1442695040888963407),b1,b2,fun{α} k=> ?_⟩
  rw[g63_o,dT (by omega),cond_true,if_pos (cast_lt h),Int.toNat_natCast,Nat.zero_add,if_pos h]
  dsimp only
  rw[wrapI (x:=List.getD u at' 0) (by omega) (by omega),wrapS (by omega),dT (by omega),cond_true]
 ·obtain⟨y,y1,y2,y3⟩:=low_byte ((IntKind.wrap .u64 ((IntKind.wrap .u64 (s*6364136223846793005))+0))+1442695040888963407)
  refine⟨y,IntKind.wrap .u64 ((IntKind.wrap .u64 ((IntKind.wrap .u64 (s*6364136223846793005))+0))+1442695040888963407),y1,y2,fun{α} k=> ?_⟩
  rw[g63_o,dF (by omega),cond_false]
  dsimp only
  rw[wrapS (by omega),dF (by omega),cond_false,y3]
theorem pick_res(m cap:Nat){u:List Int}(hu:Byt u){at':Nat}(ha:at'+2≤1000000000)(s n:Int)(hn:n≤1000000):∃(x s':Int) (b:Nat),0≤x∧(1<n→x<n)∧(n≤1→x=0)∧at'≤b∧b≤at'+2∧
  ∀{α:Type} (k:Int→Int→Int→Option α),g30 m n 0 u.length cap (at':Int) s u.length u k=k x (b:Int) s':=by
 by_cases h1:n≤1
 ·exact⟨0,s,at',by omega,fun h=>by omega,fun _=>rfl,by omega,by omega,fun{α} k=>by rw[g30_o,dT h1,cond_true]⟩
 ·obtain⟨x,s1,x1,x2,hx⟩:=next_res m cap hu (show at'≤1000000000 by omega) s
  by_cases h2:n>200
  ·obtain⟨y,s2,y1,y2,hy⟩:=next_res m cap hu (show at'+1≤1000000000 by omega) s1
   have e:IntKind.wrap .i64 (IntKind.wrap .i64 (x*256)+y)=x*256+y:=by rw[wrapI (x:=x*256) (by omega) (by omega),wrapI (by omega) (by omega)]
   refine⟨(x*256+y)%n,s2,at'+2,Int.emod_nonneg _ (by omega),fun h=>Int.emod_lt_of_pos _ (by omega),fun h=>by omega,by omega,by omega,fun{α} k=> ?_⟩
   rw[g30_o,dF h1,cond_false,hx,dT h2,cond_true,hy,e,if_neg (by omega),Int.tmod_eq_emod_of_nonneg (by omega)]
  ·refine⟨x%n,s1,at'+1,Int.emod_nonneg _ (by omega),fun h=>Int.emod_lt_of_pos _ (by omega),fun h=>by omega,by omega,by omega,fun{α} k=> ?_⟩
   rw[g30_o,dF h1,cond_false,hx,dF h2,cond_false,if_neg (by omega),Int.tmod_eq_emod_of_nonneg (by omega)]
theorem P6Pick_res(m cap:Nat){u:List Int}(hu:Byt u)(n:Int)(hn:n≤1000000):∃x:Int,0≤x∧(1<n→x<n)∧(n≤1→x=0)∧
  ∀{α:Type} (k:Int→Option α),g7 m 0 u.length cap n u.length u k=k x:=by
 obtain⟨x,s,b,h1,h2,h3,_,_,h⟩:=pick_res m cap hu (at':=0) (by omega) 0 n hn
 exact⟨x,h1,h2,h3,fun{α} k=>by rw[g7_o,g29_o];exact h _⟩
theorem next_resV(m:Nat){u:List Int}(hu:Byt u){at':Nat}(ha:at'≤1000000000)(s:Int):∃x s':Int,0≤x∧x≤255∧
  ∀{α:Type} (k:Int→Int→Int→Option α),g63v1 m (at':Int) s u k=k x ((at'+1:Nat):Int) s':=by
 by_cases h:at'<u.length
 ·obtain⟨b1,b2⟩:=byt_at hu at'
  obtain⟨y,y1,y2,y3⟩:=low_byte ((IntKind.wrap .u64 ((IntKind.wrap .u64 (s*6364136223846793005))+(IntKind.wrap .u64 (List.getD u at' 0))))+1442695040888963407)
  refine⟨List.getD u at' 0,IntKind.wrap .u64 ((IntKind.wrap .u64 ((IntKind.wrap .u64 (s*6364136223846793005))+(IntKind.wrap .u64 (List.getD u at' 0))))+1442695040888963407),b1,b2,fun{α} k=> ?_⟩
  rw[g63v1_o,dT (by omega),cond_true,if_pos (cast_lt h),Int.toNat_natCast,if_pos h]
  dsimp only
  rw[wrapI (x:=List.getD u at' 0) (by omega) (by omega),wrapS (by omega),dT (by omega),cond_true]
 ·obtain⟨y,y1,y2,y3⟩:=low_byte ((IntKind.wrap .u64 ((IntKind.wrap .u64 (s*6364136223846793005))+0))+1442695040888963407)
  refine⟨y,IntKind.wrap .u64 ((IntKind.wrap .u64 ((IntKind.wrap .u64 (s*6364136223846793005))+0))+1442695040888963407),y1,y2,fun{α} k=> ?_⟩
  rw[g63v1_o,dF (by omega),cond_false]
  dsimp only
  rw[wrapS (by omega),dF (by omega),cond_false,y3]
theorem pick_resV(m:Nat){u:List Int}(hu:Byt u){at':Nat}(ha:at'+2≤1000000000)(s n:Int)(hn:n≤1000000):∃(x s':Int) (b:Nat),0≤x∧(1<n→x<n)∧(n≤1→x=0)∧at'≤b∧b≤at'+2∧
  ∀{α:Type} (k:Int→Int→Int→Option α),g30v1 m n (at':Int) s u k=k x (b:Int) s':=by
 by_cases h1:n≤1
 ·exact⟨0,s,at',by omega,fun h=>by omega,fun _=>rfl,by omega,by omega,fun{α} k=>by rw[g30v1_o,dT h1,cond_true]⟩
 ·obtain⟨x,s1,x1,x2,hx⟩:=next_resV m hu (show at'≤1000000000 by omega) s
  by_cases h2:n>200
  ·obtain⟨y,s2,y1,y2,hy⟩:=next_resV m hu (show at'+1≤1000000000 by omega) s1
   have e:IntKind.wrap .i64 (IntKind.wrap .i64 (x*256)+y)=x*256+y:=by rw[wrapI (x:=x*256) (by omega) (by omega),wrapI (by omega) (by omega)]
   refine⟨(x*256+y)%n,s2,at'+2,Int.emod_nonneg _ (by omega),fun h=>Int.emod_lt_of_pos _ (by omega),fun h=>by omega,by omega,by omega,fun{α} k=> ?_⟩
   rw[g30v1_o,dF h1,cond_false,hx,dT h2,cond_true,hy,e,if_neg (by omega),Int.tmod_eq_emod_of_nonneg (by omega)]
  ·refine⟨x%n,s1,at'+1,Int.emod_nonneg _ (by omega),fun h=>Int.emod_lt_of_pos _ (by omega),fun h=>by omega,by omega,by omega,fun{α} k=> ?_⟩
   rw[g30v1_o,dF h1,cond_false,hx,dF h2,cond_false,if_neg (by omega),Int.tmod_eq_emod_of_nonneg (by omega)]
def LeafOk(kd p q:Int):Prop:=(kd=1∧-1000000000≤p∧p≤1000000000∧1≤q∧q≤1000000000)∨((kd=11∨kd=12)∧p=0∧q=0)
theorem leaf_res(m cap:Nat){u:List Int}(hu:Byt u){at':Nat}(ha:at'+8≤1000000000)(s:Int):∃(kd p q s':Int) (b:Nat),LeafOk kd p q∧at'≤b∧b≤at'+8∧
  ∀{α:Type} (k:Int→Int→Int→Int→Int→Option α),g61 m 0 u.length cap (at':Int) s u.length u k=k kd p q (b:Int) s':=by
 obtain⟨x,s1,b1,p1,p2,p3,p4,p5,hx⟩:=pick_res m cap hu (at':=at') (by omega) s 8 (by omega)
 have hx8:=p2 (by omega)
 by_cases x0:x=0
 ·refine⟨11,0,0,s1,b1, .inr ⟨.inl rfl,rfl,rfl⟩,p4,by omega,fun{α} k=> ?_⟩
  rw[g61_o,hx,x0];rfl
 by_cases x1:x=1
 ·refine⟨12,0,0,s1,b1, .inr ⟨.inr rfl,rfl,rfl⟩,p4,by omega,fun{α} k=> ?_⟩
  rw[g61_o,hx,x1];rfl
 by_cases x2:x=2
 ·obtain⟨y,s2,b2,q1,q2,q3,q4,q5,hy⟩:=pick_res m cap hu (at':=b1) (by omega) s1 ((4:Nat):Int) (by omega)
  obtain⟨w,s3,b3,r1,r2,r3,r4,r5,hw⟩:=pick_res m cap hu (at':=b2) (by omega) s2 ((3:Nat):Int) (by omega)
  have hy4:=q2 (by omega)
  have hw3:=r2 (by omega)
  refine⟨1,List.getD [1000000000,-1000000000,1,0] (0+y.toNat) 0,List.getD [1,1000000000,999999937] (0+w.toNat) 0,s3,b3, .inl ⟨rfl, ?_⟩,by omega,by omega,fun{α} k=> ?_⟩
  ·have hy':y=0∨y=1∨y=2∨y=3:=by omega
   have hw':w=0∨w=1∨w=2:=by omega
   rcases hy' with rfl|rfl|rfl|rfl<;>rcases hw' with rfl|rfl|rfl<;>decide
  ·rw[g61_o,hx,show(x==0)=false by simpa using x0,cond_false,show(x==1)=false by simpa using x1,cond_false,x2,beq_self_eq_true,cond_true,g86_o,hy,if_pos ⟨by omega,by omega⟩,if_pos (by omega),g86v1_o,hw,if_pos ⟨by omega,by omega⟩,if_pos (by omega)]
 ·obtain⟨y,s2,b2,q1,q2,q3,q4,q5,hy⟩:=pick_res m cap hu (at':=b1) (by omega) s1 41 (by omega)
  obtain⟨w,s3,b3,r1,r2,r3,r4,r5,hw⟩:=pick_res m cap hu (at':=b2) (by omega) s2 20 (by omega)
  have hy4:=q2 (by omega)
  have hw3:=r2 (by omega)
  refine⟨1,y-20,1+w,s3,b3, .inl ⟨rfl,by omega,by omega,by omega,by omega⟩,by omega,by omega,fun{α} k=> ?_⟩
  rw[g61_o,hx,show(x==0)=false by simpa using x0,cond_false,show(x==1)=false by simpa using x1,cond_false,show(x==2)=false by simpa using x2,cond_false,hy,hw,wrapI (x:=y-20) (by omega) (by omega),wrapI (x:=1+w) (by omega) (by omega)]
def TermOk(t:List (List Int)):Prop:=∀i,i<t.length→∃kd a b p q:Int,List.getD t i []=[kd,a,b,p,q]∧OkN kd a b p q i
theorem TermOk.snoc{t:List (List Int)}(h:TermOk t){kd a b p q:Int}(hx:OkN kd a b p q t.length):TermOk (t++[[kd,a,b,p,q]]):=by
 intro i hi
 rw[List.length_append,List.length_singleton] at hi
 by_cases h1:i<t.length
 ·obtain⟨kd',a',b',p',q',e,ho⟩:=h i h1
  exact⟨kd',a',b',p',q',by rw[←e];simp[List.getD,List.getElem?_append_left h1],ho⟩
 ·obtain rfl:i=t.length:=by omega
  exact⟨kd,a,b,p,q,by simp[List.getD],hx⟩
theorem leaf_ok{kd p q:Int}(h:LeafOk kd p q)(v:Int):OkN kd 0 0 p q v:=by
 rcases h with⟨h1,h2⟩|⟨h1,h2,h3⟩
 ·exact .inl ⟨h1,rfl,rfl,h2⟩
 ·exact .inr (.inr (.inr ⟨h1,rfl,rfl,h2,h3⟩))
theorem wrap8D{x:Int}(h1:-128≤x)(h2:x≤127):IntKind.wrap .i8 x=x:=by simp[IntKind.wrap,IntKind.bits,IntKind.signed];omega
theorem wrap16D{x:Int}(h1:-32768≤x)(h2:x≤32767):IntKind.wrap .i16 x=x:=by simp[IntKind.wrap,IntKind.bits,IntKind.signed];omega
theorem term_loop(q cap:Nat){u:List Int}(hu:Byt u):∀(d F at':Nat) (s:Int) (t:List (List Int)),d<F→at'+100*d≤1000000→TermOk t→t.length+d≤100→
  ∃(t':List (List Int)) (b:Nat) (s':Int),TermOk t'∧t'.length=t.length+d∧b≤at'+100*d∧
   ∀{α:Type} (k:Int→Int→List (List Int)→Option α),g28l0 (g61 q) (g60 q) (g30 q) (g62 q) 0 u.length cap u.length u k F (d:Int) (at':Int) s t=k (b:Int) s' t'
 |0,F,at',s,t,hF,ha,ht,hl=>by
  obtain⟨F,rfl⟩:∃g,F=g+1:=⟨F-1,by omega⟩
  exact⟨t,at',s,ht,by omega,by omega,fun{α} k=>by rw[g28l0_s,dF (by omega),cond_false]⟩
 |d+1,F,at',s,t,hF,ha,ht,hl=>by
  obtain⟨F,rfl⟩:∃g,F=g+1:=⟨F-1,by omega⟩
  have hw:IntKind.wrap .i64 (((d+1:Nat):Int)-1)=(d:Int):=by rw[wrapI (by omega) (by omega)];omega
  have next:∀(x:List Int) (at2:Nat) (s2:Int),at2≤at'+100→TermOk (t++[x])→∃(t':List (List Int)) (b:Nat) (s':Int),TermOk t'∧t'.length=t.length+(d+1)∧b≤at'+100*(d+1)∧
    ∀{α:Type} (k:Int→Int→List (List Int)→Option α),g28l0 (g61 q) (g60 q) (g30 q) (g62 q) 0 u.length cap u.length u k F (d:Int) (at2:Int) s2 (t++[x])=k (b:Int) s' t':=by
   intro x at2 s2 h1 h2
   obtain⟨t',b,s',e1,e2,e3,e4⟩:=term_loop q cap hu d F at2 s2 (t++[x]) (by omega) (by omega) h2 (by rw[List.length_append,List.length_singleton];omega)
   rw[List.length_append,List.length_singleton] at e2
   exact⟨t',b,s',e1,by omega,by omega,e4⟩
  by_cases h0:t.length=0
  ·obtain⟨kd,p,r,s1,b1,hk,l1,l2,hlf⟩:=leaf_res q cap hu (at':=at') (by omega) s
   obtain⟨t',b,s',e1,e2,e3,e4⟩:=next [kd,0,0,p,r] b1 s1 (by omega) (ht.snoc (leaf_ok hk _))
   refine⟨t',b,s',e1,e2,e3,fun{α} k=> ?_⟩
   rw[g28l0_s,dT (by omega),cond_true,show(((t.length:Nat):Int)==0)=true from dT (p:=((t.length:Nat):Int)=0) (by omega),cond_true,hlf,if_pos (by omega),hw,e4]
  ·have hc0:(((t.length:Nat):Int)==0)=false:=dF (p:=((t.length:Nat):Int)=0) (by omega)
   obtain⟨o,s0,b0,o1,o2,o3,o4,o5,ho⟩:=pick_res q cap hu (at':=at') (by omega) s 3 (by omega)
   by_cases ho0:o=0
   ·obtain⟨kd,p,r,s1,b1,hk,l1,l2,hlf⟩:=leaf_res q cap hu (at':=b0) (by omega) s0
    obtain⟨t',b,s',e1,e2,e3,e4⟩:=next [kd,0,0,p,r] b1 s1 (by omega) (ht.snoc (leaf_ok hk _))
    refine⟨t',b,s',e1,e2,e3,fun{α} k=> ?_⟩
    rw[g28l0_s,dT (by omega),cond_true,hc0,cond_false,g60_o,ho,ho0,beq_self_eq_true,cond_true,hlf,if_pos (by omega),hw,e4]
   ·have hof:(o==0)=false:=by simpa using ho0
    obtain⟨x,s1,b1,p1,p2,p3,p4,p5,hx⟩:=pick_res q cap hu (at':=b0) (by omega) s0 9 (by omega)
    have hx9:=p2 (by omega)
    obtain⟨a,s2,b2,q1,q2,q3,q4,q5,hy⟩:=pick_res q cap hu (at':=b1) (by omega) s1 ((t.length:Nat):Int) (by omega)
    have ha1:a<(t.length:Int):=by
     by_cases h:(1:Int)<(t.length:Int)
     ·exact q2 h
     ·have:=q3 (by omega);omega
    have hkd:IntKind.wrap .i8 (IntKind.wrap .i64 ((2:Int)+x))=2+x:=by rw[wrapI (x:=2+x) (by omega) (by omega),wrap8D (by omega) (by omega)]
    by_cases h2:two (2+x)=true
    ·obtain⟨c,s3,b3,r1,r2,r3,r4,r5,hz⟩:=pick_res q cap hu (at':=b2) (by omega) s2 ((t.length:Nat):Int) (by omega)
     have hc1:c<(t.length:Int):=by
      by_cases h:(1:Int)<(t.length:Int)
      ·exact r2 h
      ·have:=r3 (by omega);omega
     have h2':=of_decide_eq_true h2
     obtain⟨t',b,s',e1,e2,e3,e4⟩:=next [2+x,a,c,0,0] b3 s3 (by omega) (ht.snoc (.inr (.inl ⟨h2',q1,ha1,r1,hc1,rfl,rfl⟩)))
     refine⟨t',b,s',e1,e2,e3,fun{α} k=> ?_⟩
     rw[g28l0_s,dT (by omega),cond_true,hc0,cond_false,g60_o,ho,hof,cond_false,hx]
     dsimp only
     rw[hy,hkd,g62L,h2,cond_true,hz,if_pos (by omega),hw,wrap16D (by omega) (by omega),wrap16D (by omega) (by omega),e4]
    ·have h2':¬(2≤2+x∧2+x≤5∨2+x=8∨2+x=9):=fun h=>h2 (decide_eq_true h)
     obtain⟨t',b,s',e1,e2,e3,e4⟩:=next [2+x,a,0,0,0] b2 s2 (by omega) (ht.snoc (.inr (.inr (.inl ⟨by omega,q1,ha1,rfl,rfl,rfl⟩))))
     refine⟨t',b,s',e1,e2,e3,fun{α} k=> ?_⟩
     rw[g28l0_s,dT (by omega),cond_true,hc0,cond_false,g60_o,ho,hof,cond_false,hx]
     dsimp only
     rw[hy,hkd,g62L,show two (2+x)=false by simpa using h2,cond_false,if_pos (by omega),hw,wrap16D (by omega) (by omega),e4]
theorem P6Term_res(m cap:Nat)(hm:10≤m){u:List Int}(hu:Byt u):∃t:List (List Int),TermOk t∧1≤t.length∧t.length≤7∧
  ∀{α:Type} (k:List (List Int)→Option α),g6 m 0 u.length cap u.length u k=k t:=by
 obtain⟨x,s1,b1,p1,p2,p3,p4,p5,hx⟩:=pick_res m cap hu (at':=0) (by omega) 0 7 (by omega)
 have hx7:=p2 (by omega)
 obtain⟨d,rfl⟩:∃d:Nat,x=d:=⟨x.toNat,by omega⟩
 obtain⟨t',b,s',e1,e2,e3,e4⟩:=term_loop m cap hu (1+d) m b1 s1 [] (by omega) (by omega) (fun i hi=>absurd hi (by simp)) (by simp;omega)
 rw[List.length_nil] at e2
 refine⟨t',e1,by omega,by omega,fun{α} k=> ?_⟩
 rw[g6_o,g29_o,g28_o]
 refine(hx _).trans ?_
 rw[wrapI (by omega) (by omega),show(1:Int)+(d:Int)=((1+d:Nat):Int) by omega]
 exact e4 _
theorem TermOk.rowN{t:List (List Int)}(h:TermOk t)(hl:t.length≤100):RowN t:=by
 have part:∀x∈t,∃(i:Nat) (kd a b p q:Int),i<t.length∧x=[kd,a,b,p,q]∧OkN kd a b p q i:=by
  intro x hx
  obtain⟨i,hi,rfl⟩:=List.getElem_of_mem hx
  obtain⟨kd,a,b,p,q,e,ho⟩:=h i hi
  exact⟨i,kd,a,b,p,q,hi,by rw[←e];simp[List.getD,hi],ho⟩
 refine⟨⟨by omega,fun x hx=> ?_⟩,fun x hx=> ?_⟩
 ·obtain⟨i,kd,a,b,p,q,hi,rfl,ho⟩:=part x hx;rfl
 ·obtain⟨i,kd,a,b,p,q,hi,rfl,ho⟩:=part x hx
  refine⟨kd,a,b,p,q,rfl, ?_⟩
  rcases ho with ho|ho|ho|ho<;>omega
theorem TermOk.okFrom{t:List (List Int)}(h:TermOk t):OkFrom t 0:=by
 intro j _ hj
 obtain⟨kd,a,b,p,q,e,ho⟩:=h j hj
 rw[e];exact ho
end Go.Proofs.YtlmmgjngihlpeaaGreat.Sx
