import Derived.Test.YtlmmgjngihlpeaaGreatAskN
namespace Go.Proofs.YtlmmgjngihlpeaaGreat.Sx
open Go
set_option linter.unusedVariables false
set_option linter.unusedSimpArgs false
set_option maxRecDepth 100000
def tabOk1(F:Nat→Int):Bool:=(List.range 161).all fun n=>decide ((F n*2^(400-n)-F 400).natAbs≤2^(400-n))
theorem near_tab{F:Nat→Int}(h:tabOk1 F=true){n:Nat}(hn:n≤160):Near1 ((F 400:Rat)/2^400) n (F n):=by
 have h1:=(List.all_eq_true.1 h) n (List.mem_range.2 (by omega))
 simp only[decide_eq_true_eq] at h1
 have c:((2^(400-n):Nat):Int)=2^(400-n):=by norm_cast
 have h2:F n*2^(400-n)-F 400≤2^(400-n):=by omega
 have h3:F 400-F n*2^(400-n)≤2^(400-n):=by omega
 have g1:=Rat.intCast_le_intCast.2 h2
 have g2:=Rat.intCast_le_intCast.2 h3
 simp only[Rat.intCast_sub,Rat.intCast_mul,pow2Q_cast] at g1 g2
 have e:(2:Rat)^400=2^(400-n)*2^n:=by rw[←pow2Q_add];congr 1;omega
 unfold Near1
 rw[e]
 have hp:=pow2Q_pos (400-n)
 have hq:=pow2Q_pos n
 generalize (2:Rat)^(400-n)=P at*
 generalize (2:Rat)^n=Q at*
 have e1:(F 400:Rat)/(P*Q)*Q*P=(F 400:Rat):=by grind
 constructor
 ·rw[←mul_le_iff hp];grind
 ·rw[←mul_le_iff hp];grind
theorem pi_tab:tabOk1 piZ=true:=by decide+kernel
theorem eul_tab:tabOk1 eulZ=true:=by decide+kernel
theorem near_pi{n:Nat}(hn:n≤160):Near1 piQ n (piZ n):=near_tab pi_tab hn
theorem near_eul{n:Nat}(hn:n≤160):Near1 eulQ n (eulZ n):=near_tab eul_tab hn
theorem sqQ_lt{a b:Rat}(ha:0≤a)(hb:0≤b)(h:a*a<b*b):a<b:=by
 by_cases hc:a<b
 ·exact hc
 ·have:=Rat.mul_nonneg (show 0≤a-b by grind) (show 0≤a+b by grind)
  grind
theorem sqrtQ_spec{x:Rat}(hx:0≤x):0≤sqrtQ x∧sqrtQ x*sqrtQ x≤x∧x<(sqrtQ x+1/2^400)*(sqrtQ x+1/2^400):=by
 unfold sqrtQ
 rw[if_neg (by grind)]
 have hp:=pow2Q_pos 400
 have e800:(2:Rat)^800=2^400*2^400:=pow2Q_add 400 400
 have hxp:0≤x*2^800:=Rat.mul_nonneg hx (by rw[e800];exact Rat.mul_nonneg (by grind) (by grind))
 have f1:=Rat.floor_le (x*2^800)
 have f2:=Rat.lt_floor_add_one (x*2^800)
 have f0:0≤(x*2^800).floor:=Rat.le_floor_iff.2 (by simpa using hxp)
 obtain⟨m,hm⟩:∃m:Nat,(x*2^800).floor=((m:Nat):Int):=⟨(x*2^800).floor.toNat,by omega⟩
 rw[hm] at f1 f2⊢
 rw[Int.toNat_natCast]
 obtain⟨s1,s2⟩:=isq_spec m
 generalize isq m=s at*
 have g1:((s:Int):Rat)*((s:Int):Rat)≤((m:Int):Rat):=by
  rw[←Rat.intCast_mul];exact_mod_cast s1
 have g2:(((m:Int)+1:Int):Rat)≤(((s:Int)+1:Int):Rat)*(((s:Int)+1:Int):Rat):=by
  rw[←Rat.intCast_mul]
  apply Rat.intCast_le_intCast.2
  have:m+1≤(s+1)*(s+1):=s2
  exact_mod_cast this
 rw[Rat.intCast_add] at g2
 rw[Rat.intCast_add] at f2
 simp only[Rat.intCast_add,show((1:Int):Rat)=1 from rfl] at g2 f2
 have hs0:(0:Rat)≤((s:Int):Rat):=by exact_mod_cast (show(0:Int)≤s by omega)
 have ecast:((s:Nat):Rat)=((s:Int):Rat):=rfl
 rw[ecast]
 generalize ((s:Int):Rat)=S at*
 generalize ((m:Int):Rat)=M at*
 rw[e800] at f1 f2
 generalize (2:Rat)^400=T at*
 have hT:T≠0:=by grind
 have hTT:(0:Rat)<T*T:=Rat.mul_pos hp hp
 refine⟨?_, ?_, ?_⟩
 ·rw[←mul_le_iff hp]
  have:S/T*T=S:=by grind
  grind
 ·rw[←mul_le_iff hTT]
  have:S/T*(S/T)*(T*T)=S*S:=by grind
  grind
 ·have h1:(S/T+1/T)*(S/T+1/T)*(T*T)=(S+1)*(S+1):=by grind
  by_cases hc:x<(S/T+1/T)*(S/T+1/T)
  ·exact hc
  ·have:=(mul_le_iff hTT).2 (show(S/T+1/T)*(S/T+1/T)≤x by grind)
   grind
theorem near_root{x:Rat}{n:Nat}{a:Int}(hn:n≤160)(ha:Near1 x (2*n+6) a):Near1 (sqrtQ x) n (if a<0 then 0 else nearZ (isq a.natAbs:Int) 3):=by
 obtain⟨a1,a2⟩:=ha
 rw[show 2*n+6=(n+3)+(n+3) by omega,pow2Q_add] at a1 a2
 have hW:=pow2Q_pos (n+3)
 by_cases hneg:a<0
 ·rw[if_pos hneg]
  have h1:a≤(-1:Int):=by omega
  have g1:=Rat.intCast_le_intCast.2 h1
  rw[show((-1:Int):Rat)=-1 by decide] at g1
  have hx:x≤0:=by
   by_cases hc:x≤0
   ·exact hc
   ·have:=Rat.mul_pos (show 0<x by grind) (Rat.mul_pos hW hW);grind
  have hv:sqrtQ x=0:=by
   by_cases hx0:x<0
   ·unfold sqrtQ;rw[if_pos hx0]
   ·have:x=0:=by grind
    subst this
    decide+kernel
  rw[hv]
  unfold Near1
  rw[show((0:Int):Rat)=0 from rfl]
  constructor<;>grind
 ·rw[if_neg hneg]
  obtain⟨r1,r2⟩:=isq_spec a.natAbs
  generalize isq a.natAbs=r at*
  obtain⟨z1,z2⟩:=nearZ_Q (r:Int) (p:=3) (by decide)
  rw[show(2:Rat)^3=8 by decide] at z1 z2
  have ea:a=(a.natAbs:Int):=by omega
  have g1:((r:Int):Rat)*((r:Int):Rat)≤(a:Rat):=by
   rw[←Rat.intCast_mul];apply Rat.intCast_le_intCast.2
   rw[ea];exact_mod_cast r1
  have g2:(a:Rat)+1≤(((r:Int):Rat)+1)*(((r:Int):Rat)+1):=by
   have h:a+1≤((r:Int)+1)*((r:Int)+1):=by
    have:a.natAbs+1≤(r+1)*(r+1):=r2
    rw[ea];exact_mod_cast this
   have:=Rat.intCast_le_intCast.2 h
   simpa only[Rat.intCast_add,Rat.intCast_mul,show((1:Int):Rat)=1 from rfl] using this
  have hr0:(0:Rat)≤((r:Int):Rat):=by exact_mod_cast (show(0:Int)≤r by omega)
  -- what the root stands for
  have hv:∃V e:Rat,0≤V∧0≤e∧e≤1/4∧V=sqrtQ x*2^(n+3)∧V*V≤(a:Rat)+1∧(a:Rat)-1<(V+e)*(V+e):=by
   refine⟨sqrtQ x*2^(n+3),2^(n+3)/2^400, ?_, ?_, ?_,rfl, ?_⟩
   ·by_cases hx:x<0
    ·unfold sqrtQ;rw[if_pos hx];grind
    ·exact Rat.mul_nonneg (sqrtQ_spec (by grind)).1 (by grind)
   ·have:=pow2Q_pos 400
    rw[←mul_le_iff this]
    have:(2:Rat)^(n+3)/2^400*2^400=2^(n+3):=by grind
    grind
   ·have hp:=pow2Q_pos 400
    rw[←mul_le_iff hp]
    have e1:(2:Rat)^(n+3)/2^400*2^400=2^(n+3):=by grind
    rw[e1]
    have e2:(2:Rat)^400=2^(n+3)*2^(400-(n+3)):=by rw[←pow2Q_add];congr 1;omega
    have e3:(2:Rat)^(400-(n+3))=4*2^(400-(n+3)-2):=by
     rw[show(4:Rat)=2^2 by decide,←pow2Q_add];congr 1;omega
    have h1:=pow2Q_ge1 (400-(n+3)-2)
    rw[e2,e3]
    have:=Rat.mul_nonneg (show(0:Rat)≤2^(n+3) by grind) (show(0:Rat)≤2^(400-(n+3)-2)-1 by grind)
    grind
   ·have ha0:(0:Rat)≤(a:Rat):=by exact_mod_cast (show 0≤a by omega)
    by_cases hx:x<0
    ·have hz:sqrtQ x=0:=by unfold sqrtQ;rw[if_pos hx]
     have hxW:=Rat.mul_pos (show 0< -x by grind) (Rat.mul_pos hW hW)
     rw[hz]
     have he:0<(2:Rat)^(n+3)/2^400:=by
      have hp:=pow2Q_pos 400
      by_cases hc:0<(2:Rat)^(n+3)/2^400
      ·exact hc
      ·have:=(mul_le_iff hp).2 (show(2:Rat)^(n+3)/2^400≤0 by grind)
       have:(2:Rat)^(n+3)/2^400*2^400=2^(n+3):=by grind
       grind
     have:=Rat.mul_pos he he
     constructor<;>grind
    ·obtain⟨s0,s1,s2⟩:=sqrtQ_spec (x:=x) (by grind)
     generalize sqrtQ x=v at*
     have hp:=pow2Q_pos 400
     have hWW:=Rat.mul_pos hW hW
     have m1:=Rat.mul_le_mul_of_nonneg_right s1 (show(0:Rat)≤2^(n+3)*2^(n+3) by grind)
     have m2:=Rat.mul_lt_mul_of_pos_right s2 hWW
     generalize (2:Rat)^(n+3)=W at*
     generalize (2:Rat)^400=T at*
     constructor<;>grind
  obtain⟨V,e,hV0,he0,he1,hVe,hV1,hV2⟩:=hv
  generalize ((r:Int):Rat)=R at*
  have h1:V<R+2:=sqQ_lt hV0 (by grind) (by grind)
  have h2:R-1<V+e:=by
   by_cases hR:R<1
   ·grind
   ·exact sqQ_lt (by grind) (by grind) (by grind)
  unfold Near1
  rw[show n+3=3+n by omega,pow2Q_add,show(2:Rat)^3=8 by decide] at hVe
  constructor<;>grind
def B190:Nat:=1569275433846670190958947355801916604025588861116008628224
theorem b190:(2:Nat)^190=B190:=by decide
theorem w192_lit:W192=4*B190:=by decide
def usA(k:Int):Prop:=2≤k∧k≤10
def usB(k:Int):Prop:=(2≤k∧k≤5)∨k=8∨k=9
structure NdOk (x:List Int) (i:Nat):Prop where
 k1:kd x=1→(xp x).natAbs≤1000000000∧1≤xq x∧xq x≤1000000000
 a:usA (kd x)→xa x<i
 b:usB (kd x)→xb x<i
structure InvS (len:Nat) (v:Nat→Rat) (b:Nat) (s:MS):Prop where
 ent:∀e∈s.1,e.1<len∧e.2.1≤160∧Near1 (v e.1) e.2.1 e.2.2∧e.2.2.natAbs≤B190
 nod:s.2.Nodup
 log:∀p∈s.2,p.1<len∧p.2≤160
 don:∀p∈s.2,p.1<b→∃z,(p.1,p.2,z)∈s.1
 inl:∀e∈s.1,(e.1,e.2.1)∈s.2
 cnt:s.1.length≤s.2.length
def ExtS(b:Nat)(s s':MS):Prop:=∃d l,s'.1=s.1++d∧s'.2=s.2++l∧(∀e∈d,e.1<b)∧(∀p∈l,p.1<b)∧d.length≤l.length
theorem ExtS.refl(b:Nat)(s:MS):ExtS b s s:=⟨[],[],by simp,by simp,by simp,by simp,by simp⟩
theorem ExtS.trans{b:Nat}{s s1 s2:MS}(h1:ExtS b s s1)(h2:ExtS b s1 s2):ExtS b s s2:=by
 obtain⟨d1,l1,a1,a2,a3,a4,a5⟩:=h1
 obtain⟨d2,l2,b1,b2,b3,b4,b5⟩:=h2
 refine⟨d1++d2,l1++l2,by rw[b1,a1,List.append_assoc],by rw[b2,a2,List.append_assoc],fun e he=> ?_,fun p hp=> ?_,by rw[List.length_append,List.length_append];omega⟩
 ·rcases List.mem_append.1 he with he|he
  ·exact a3 e he
  ·exact b3 e he
 ·rcases List.mem_append.1 hp with hp|hp
  ·exact a4 p hp
  ·exact b4 p hp
theorem ExtS.mono{b b':Nat}{s s1:MS}(h1:ExtS b s s1)(h:b≤b'):ExtS b' s s1:=by
 obtain⟨d1,l1,a1,a2,a3,a4,a5⟩:=h1
 exact⟨d1,l1,a1,a2,fun e he=>Nat.lt_of_lt_of_le (a3 e he) h,fun p hp=>Nat.lt_of_lt_of_le (a4 p hp) h,a5⟩
theorem InvS.mono{len:Nat}{v:Nat→Rat}{b b':Nat}{s:MS}(h:InvS len v b s)(hb:b'≤b):InvS len v b' s:=
 ⟨h.ent,h.nod,h.log,fun p hp hl=>h.don p hp (by omega),h.inl,h.cnt⟩
section
variable {β γ:Type}
def OkR(P:β→MS→Prop)(r:Except Int (β×MS)):Prop:=match r with
 | .ok (x,s)=>P x s
 | .error c=>c=3∨c=7
theorem OkR.bind{P:β→MS→Prop}{Q:γ→MS→Prop}{f:MR β}{g:β→MR γ}{s:MS}(h:OkR P (f s))(hg:∀x s',P x s'→OkR Q (g x s')):OkR Q (mbind f g s):=by
 unfold mbind
 cases hf:f s with
 |ok r=>obtain⟨x,s'⟩:=r;rw[hf] at h;exact hg x s' h
 |error c=>rw[hf] at h;exact h
theorem OkR.mono{P Q:β→MS→Prop}{r:Except Int (β×MS)}(h:OkR P r)(hpq:∀x s,P x s→Q x s):OkR Q r:=by
 cases r with
 |ok r=>obtain⟨x,s'⟩:=r;exact hpq x s' h
 |error c=>exact h
theorem fitM_ok(z:Int)(s:MS):OkR (fun z' s'=>z'=z∧s'=s∧z.natAbs<W192) (fitM z s):=by
 unfold fitM
 cases h:fitZ z with
 |true=>exact⟨rfl,rfl,fitZ_iff.1 h⟩
 |false=>exact .inl rfl
theorem upM_ok(z:Int)(n:Nat)(s:MS):OkR (fun z' s'=>z'=z*2^n∧s'=s∧(z*2^n).natAbs<W192) (upM z n s):=by
 unfold upM
 by_cases h:n≤191
 ·rw[if_pos h];exact fitM_ok _ s
 ·rw[if_neg h];exact .inl rfl
theorem nearM_ok(z:Int)(n:Nat)(s:MS):OkR (fun z' s'=>z'=nearZ z n∧s'=s) (nearM z n s):=by
 unfold nearM
 by_cases h:n≤191
 ·rw[if_pos h];exact⟨rfl,rfl⟩
 ·rw[if_neg h];exact .inl rfl
end
theorem lookM_some{M:List (Nat×Nat×Int)}{i n:Nat}{z:Int}(h:lookM M i n=some z):(i,n,z)∈M:=by
 induction M with
 |nil=>cases h
 |cons e r ih=>
  simp only[lookM] at h
  split at h
  ·rename_i he
   obtain⟨e1,e2,e3⟩:=e
   simp only[Option.some.injEq] at h
   obtain⟨rfl,rfl⟩:=he
   subst h;simp
  ·exact List.mem_cons_of_mem _ (ih h)
theorem lookM_none{M:List (Nat×Nat×Int)}{i n:Nat}(h:lookM M i n=none):∀z,(i,n,z)∉M:=by
 induction M with
 |nil=>intro z hz;cases hz
 |cons e r ih=>
  simp only[lookM] at h
  split at h
  ·cases h
  ·rename_i he
   intro z hz
   rcases List.mem_cons.1 hz with hz|hz
   ·exact he (by rw[←hz];exact⟨rfl,rfl⟩)
   ·exact ih h z hz
theorem near_bound{x:Int}{p:Nat}(hp:0<p):2*(nearZ x p).natAbs*2^p≤2*x.natAbs+2^p:=by
 obtain⟨h1,h2⟩:=nearZ_spec x hp
 generalize nearZ x p=z at*
 have c:(2:Int)^p=((2^p:Nat):Int):=by norm_cast
 rw[c] at h1 h2
 have e:(z*((2^p:Nat):Int)).natAbs=z.natAbs*2^p:=by rw[Int.natAbs_mul];rfl
 have e2:2*z.natAbs*2^p=2*(z*((2^p:Nat):Int)).natAbs:=by rw[e,Nat.mul_assoc]
 rw[e2]
 generalize z*((2^p:Nat):Int)=zz at*
 generalize (2^p:Nat)=W at*
 omega
theorem dn_bound{x y:Int}(hy:y≠0):2*(dnZ x y).natAbs*y.natAbs≤2*x.natAbs+y.natAbs:=by
 have h:=dnZ_spec x hy
 generalize dnZ x y=z at*
 have e:(z*y).natAbs=z.natAbs*y.natAbs:=Int.natAbs_mul z y
 have e2:2*z.natAbs*y.natAbs=2*(z*y).natAbs:=by rw[e,Nat.mul_assoc]
 rw[e2]
 generalize z*y=zz at*
 omega
theorem ge_mul{z W c K:Nat}(hW:c≤W)(h:2*z*W≤2*K+W)(h0:1≤z):(2*z-1)*c≤2*K:=by
 have h1:(2*z-1)*W≤2*K:=by
  rw[Nat.sub_mul,Nat.one_mul];omega
 exact Nat.le_trans (Nat.mul_le_mul_left _ hW) h1
theorem near4_bound{x:Int}(hx:x.natAbs≤2*B190):(nearZ x 2).natAbs≤B190:=by
 have:=near_bound (x:=x) (p:=2) (by decide)
 unfold B190 at*
 omega
theorem near8_bound{x:Int}(hx:x.natAbs≤B190):(nearZ x 3).natAbs≤B190:=by
 have:=near_bound (x:=x) (p:=3) (by decide)
 unfold B190 at*
 omega
theorem nearm_bound{x:Int}{m:Nat}(hm:6≤m)(hx:x.natAbs<W192):(nearZ x m).natAbs≤B190:=by
 have h:=near_bound (x:=x) (p:=m) (by omega)
 rcases Nat.eq_zero_or_pos (nearZ x m).natAbs with h0|h0
 ·omega
 ·have h1:64≤2^m:=by
   have:=Nat.pow_le_pow_right (show 0<2 by decide) hm
   simpa using this
  have:=ge_mul h1 h h0
  rw[w192_lit] at hx
  unfold B190 at*
  omega
theorem dnq_bound{x y:Int}(hy:15≤y.natAbs)(hx:x.natAbs<W192):(dnZ x y).natAbs≤B190:=by
 have h:=dn_bound (x:=x) (y:=y) (by omega)
 rcases Nat.eq_zero_or_pos (dnZ x y).natAbs with h0|h0
 ·omega
 ·have:=ge_mul hy h h0
  rw[w192_lit] at hx
  unfold B190 at*
  omega
theorem dnr_bound{x y:Int}(hy:1≤y)(hx:x.natAbs≤B190-1):(dnZ x y).natAbs≤B190:=by
 have h:=dn_bound (x:=x) (y:=y) (by omega)
 rcases Nat.eq_zero_or_pos (dnZ x y).natAbs with h0|h0
 ·omega
 ·have:=ge_mul (show 1≤y.natAbs by omega) h h0
  unfold B190 at*
  omega
theorem ratio_bound{P:Int}{n:Nat}(hP:P.natAbs≤1000000000)(hn:n≤160):(P*2^n).natAbs≤B190-1:=by
 rw[Int.natAbs_mul,Int.natAbs_pow]
 have h1:(2:Int).natAbs^n≤2^160:=Nat.pow_le_pow_right (by decide) hn
 have h2:=Nat.mul_le_mul hP h1
 refine Nat.le_trans h2 (by decide)
def tabB1(F:Nat→Int):Bool:=(List.range 161).all fun n=>decide ((F n).natAbs≤B190)
theorem tabB_bound{F:Nat→Int}(h:tabB1 F=true){n:Nat}(hn:n≤160):(F n).natAbs≤B190:=by
 have h1:=(List.all_eq_true.1 h) n (List.mem_range.2 (by omega))
 simpa using h1
theorem pi_bound{n:Nat}(hn:n≤160):(piZ n).natAbs≤B190:=tabB_bound (by decide+kernel) hn
theorem eul_bound{n:Nat}(hn:n≤160):(eulZ n).natAbs≤B190:=tabB_bound (by decide+kernel) hn
section
variable {len:Nat} {v:Nat→Rat} {A:Nat→Nat→MR Int} {i:Nat}
def GoodA(len:Nat)(v:Nat→Rat)(A:Nat→Nat→MR Int)(i:Nat):Prop:=
 ∀j,j<i→∀n s,InvS len v i s→OkR (fun z s'=>Near1 (v j) n z∧z.natAbs≤B190∧n≤160∧InvS len v i s'∧ExtS i s s') (A j n s)
theorem growM_ok(hA:GoodA len v A i){j:Nat}(hj:j<i){s:MS}(hs:InvS len v i s):
  OkR (fun g s'=>(∃a0,Near1 (v j) 0 a0∧g=lenZ a0∧a0.natAbs≤B190)∧InvS len v i s'∧ExtS i s s') (growM A j s):=by
 unfold growM
 refine(hA j hj 0 s hs).bind fun a s' ⟨h1,h2,_,h3,h4⟩=> ?_
 exact⟨⟨a,h1,rfl,h2⟩,h3,h4⟩
theorem awayM_ok(hA:GoodA len v A i){j:Nat}(hj:j<i):∀(d k:Nat) {s:MS} (hs:InvS len v i s),
  OkR (fun k s'=>1≤absQ (v j)*2^k∧InvS len v i s'∧ExtS i s s') (awayM A j d k s)
 |0,k,s,hs=> .inr rfl
 |d+1,k,s,hs=>by
  unfold awayM
  refine(hA j hj (k+2) s hs).bind fun a s' ⟨h1,h2,_,h3,h4⟩=> ?_
  by_cases h5:5≤a.natAbs
  ·rw[if_pos h5];exact⟨quot_far h1 h5,h3,h4⟩
  ·rw[if_neg h5]
   exact(awayM_ok hA hj d (k+1) h3).mono fun k' s2 ⟨g1,g2,g3⟩=>⟨g1,g2,h4.trans g3⟩
theorem ruleM_ok(hA:GoodA len v A i){x:List Int}(hx:NdOk x i)(hv:v i=valR v x){n:Nat}(hn:n≤160){s:MS}(hs:InvS len v i s):
  OkR (fun z s'=>Near1 (v i) n z∧z.natAbs≤B190∧InvS len v i s'∧ExtS i s s') (ruleM A x n s):=by
 rw[hv]
 unfold ruleM valR
 by_cases k1:kd x=1
 ·obtain⟨p1,p2,p3⟩:=hx.k1 k1
  rw[if_pos k1,if_pos k1]
  refine(upM_ok _ _ s).bind fun z s' ⟨h1,h2,h3⟩=> ?_
  subst h1;subst h2
  exact⟨near_ratio _ (by omega) n,dnr_bound p2 (ratio_bound p1 hn),hs, .refl _ _⟩
 rw[if_neg k1,if_neg k1]
 have usa:∀k:Int,kd x=k→2≤k→k≤10→xa x<i:=fun k e h1 h2=>hx.a ⟨by omega,by omega⟩
 have usb:usB (kd x)→xb x<i:=hx.b
 by_cases k2:kd x=2
 ·rw[if_pos k2,if_pos k2]
  refine(hA _ (usa 2 k2 (by omega) (by omega)) (n+2) s hs).bind fun a s1 ⟨a1,a2,a3,a4,a5⟩=> ?_
  refine(hA _ (usb (.inl (by omega))) (n+2) s1 a4).bind fun b s2 ⟨b1,b2,b3,b4,b5⟩=> ?_
  refine(fitM_ok _ s2).bind fun z s3 ⟨h1,h2,h3⟩=> ?_
  subst h1;subst h2
  exact⟨near_sum a1 b1,near4_bound (by omega),b4,a5.trans b5⟩
 rw[if_neg k2,if_neg k2]
 by_cases k3:kd x=3
 ·rw[if_pos k3,if_pos k3]
  refine(hA _ (usa 3 k3 (by omega) (by omega)) (n+2) s hs).bind fun a s1 ⟨a1,a2,a3,a4,a5⟩=> ?_
  refine(hA _ (usb (.inl (by omega))) (n+2) s1 a4).bind fun b s2 ⟨b1,b2,b3,b4,b5⟩=> ?_
  refine(fitM_ok _ s2).bind fun z s3 ⟨h1,h2,h3⟩=> ?_
  subst h1;subst h2
  exact⟨near_diff a1 b1,near4_bound (by omega),b4,a5.trans b5⟩
 rw[if_neg k3,if_neg k3]
 by_cases k4:kd x=4
 ·rw[if_pos k4,if_pos k4]
  have ha:=usa 4 k4 (by omega) (by omega)
  have hb:=usb (.inl (by omega))
  refine(growM_ok hA ha hs).bind fun ga s1 ⟨⟨a0,g1,g2,g3⟩,g4,g5⟩=> ?_
  refine(growM_ok hA hb g4).bind fun gb s2 ⟨⟨b0,h1,h2,h3⟩,h4,h5⟩=> ?_
  refine(hA _ ha (n+gb+3) s2 h4).bind fun p s3 ⟨p1,p2,p3,p4,p5⟩=> ?_
  refine(hA _ hb (n+ga+3) s3 p4).bind fun q s4 ⟨q1,q2,q3,q4,q5⟩=> ?_
  refine(fitM_ok _ s4).bind fun z s5 ⟨e1,e2,e3⟩=> ?_
  subst e1;subst e2
  refine(nearM_ok _ _ _).mono fun z s6 ⟨f1,f2⟩=> ?_
  subst f1;subst f2
  exact⟨near_prod g1 g2 h1 h2 p1 q1,nearm_bound (by omega) e3,q4,((g5.trans h5).trans p5).trans q5⟩
 rw[if_neg k4,if_neg k4]
 by_cases k5:kd x=5
 ·rw[if_pos k5,if_pos k5]
  have ha:=usa 5 k5 (by omega) (by omega)
  have hb:=usb (.inl (by omega))
  refine(awayM_ok hA hb 41 0 hs).bind fun k s1 ⟨w1,w2,w3⟩=> ?_
  refine(growM_ok hA ha w2).bind fun ga s2 ⟨⟨a0,g1,g2,g3⟩,g4,g5⟩=> ?_
  refine(hA _ ha (n+k+3) s2 g4).bind fun p s3 ⟨p1,p2,p3,p4,p5⟩=> ?_
  refine(hA _ hb (n+ga+2*k+4) s3 p4).bind fun q s4 ⟨q1,q2,q3,q4,q5⟩=> ?_
  refine(upM_ok _ _ s4).bind fun z s5 ⟨e1,e2,e3⟩=> ?_
  subst e1;subst e2
  exact⟨near_quot g1 g2 w1 p1 q1,dnq_bound (quot_big w1 q1) e3,q4,((w3.trans g5).trans p5).trans q5⟩
 rw[if_neg k5,if_neg k5]
 by_cases k6:kd x=6
 ·rw[if_pos k6,if_pos k6]
  refine(hA _ (usa 6 k6 (by omega) (by omega)) n s hs).bind fun a s1 ⟨a1,a2,a3,a4,a5⟩=> ?_
  exact⟨near_neg a1,by rw[Int.natAbs_neg];exact a2,a4,a5⟩
 rw[if_neg k6,if_neg k6]
 by_cases k7:kd x=7
 ·rw[if_pos k7,if_pos k7]
  refine(hA _ (usa 7 k7 (by omega) (by omega)) n s hs).bind fun a s1 ⟨a1,a2,a3,a4,a5⟩=> ?_
  exact⟨near_abs a1,by rw[Int.natAbs_natCast];exact a2,a4,a5⟩
 rw[if_neg k7,if_neg k7]
 by_cases k8:kd x=8
 ·rw[if_pos k8,if_pos k8]
  refine(hA _ (usa 8 k8 (by omega) (by omega)) n s hs).bind fun a s1 ⟨a1,a2,a3,a4,a5⟩=> ?_
  refine(hA _ (usb (.inr (.inl k8))) n s1 a4).bind fun b s2 ⟨b1,b2,b3,b4,b5⟩=> ?_
  exact⟨near_min a1 b1,by omega,b4,a5.trans b5⟩
 rw[if_neg k8,if_neg k8]
 by_cases k9:kd x=9
 ·rw[if_pos k9,if_pos k9]
  refine(hA _ (usa 9 k9 (by omega) (by omega)) n s hs).bind fun a s1 ⟨a1,a2,a3,a4,a5⟩=> ?_
  refine(hA _ (usb (.inr (.inr k9))) n s1 a4).bind fun b s2 ⟨b1,b2,b3,b4,b5⟩=> ?_
  exact⟨near_max a1 b1,by omega,b4,a5.trans b5⟩
 rw[if_neg k9,if_neg k9]
 by_cases k10:kd x=10
 ·rw[if_pos k10,if_pos k10]
  refine(hA _ (usa 10 k10 (by omega) (by omega)) (2*n+6) s hs).bind fun a s1 ⟨a1,a2,a3,a4,a5⟩=> ?_
  refine⟨near_root hn a1, ?_,a4,a5⟩
  split
  ·decide
  ·refine near8_bound ?_
   have:=isq_le a.natAbs
   rw[Int.natAbs_natCast];omega
 rw[if_neg k10,if_neg k10]
 by_cases k11:kd x=11
 ·rw[if_pos k11,if_pos k11]
  exact⟨near_pi hn,pi_bound hn,hs, .refl _ _⟩
 ·rw[if_neg k11,if_neg k11]
  exact⟨near_eul hn,eul_bound hn,hs, .refl _ _⟩
end
theorem askM_ok{len:Nat}{v:Nat→Rat}{X:Nat→List Int}(hX:∀i,i<len→NdOk (X i) i)(hv:∀i,i<len→v i=valR v (X i)):∀(f i:Nat),i<f→i<len→∀(b n:Nat) (s:MS),i<b→InvS len v b s→
  OkR (fun z s'=>Near1 (v i) n z∧z.natAbs≤B190∧n≤160∧InvS len v b s'∧ExtS (i+1) s s'∧(i,n,z)∈s'.1) (askM X f i n s)
 |0,i,hf,_,_,_,_,_,_=>by omega
 |f+1,i,hf,hl,b,n,s,hb,hs=>by
  unfold askM
  cases hk:lookM s.1 i n with
  |some z=>
   have hm:=lookM_some hk
   obtain⟨_,h2,h3,h4⟩:=hs.ent _ hm
   exact⟨h3,h4,h2,hs, .refl _ _,hm⟩
  |none=>
   have hno:=lookM_none hk
   by_cases hn:160<n
   ·rw[if_pos hn];exact .inl rfl
   rw[if_neg hn]
   have hpn:(i,n)∉s.2:=fun hp=>by
    obtain⟨z,hz⟩:=hs.don _ hp hb
    exact hno z hz
   have hs1:InvS len v i (s.1,s.2++[(i,n)]):=by
    refine⟨hs.ent, ?_,fun p hp=> ?_,fun p hp hl=> ?_,fun e he=>List.mem_append_left _ (hs.inl e he),by have:=hs.cnt;dsimp only;rw[List.length_append];omega⟩
    ·refine List.nodup_append.2 ⟨hs.nod,by simp,fun p hp q hq e=> ?_⟩
     simp only[List.mem_singleton] at hq
     subst hq;subst e;exact hpn hp
    ·rcases List.mem_append.1 hp with hp|hp
     ·exact hs.log p hp
     ·simp only[List.mem_singleton] at hp;subst hp;exact⟨hl,by dsimp only;omega⟩
    ·rcases List.mem_append.1 hp with hp|hp
     ·exact hs.don p hp (by omega)
     ·simp only[List.mem_singleton] at hp;subst hp;dsimp only at hl;omega
   have hA:GoodA len v (askM X f) i:=fun j hj n s hs=>(askM_ok hX hv f j (by omega) (by omega) i n s hj hs).mono fun z s' ⟨h1,h2,h3,h4,h5,_⟩=>⟨h1,h2,h3,h4,h5.mono (by omega)⟩
   have hr:=ruleM_ok hA (hX i hl) (hv i hl) (show n≤160 by omega) hs1
   cases hres:ruleM (askM X f) (X i) n (s.1,s.2++[(i,n)]) with
   |error c=>rw[hres] at hr;exact hr
   |ok r=>
    obtain⟨z,s'⟩:=r
    rw[hres] at hr
    obtain⟨r1,r2,r3,d,l,r4,r5,r6,r7,r8⟩:=hr
    dsimp only at r4 r5
    refine⟨r1,r2,by omega,⟨fun e he=> ?_,r3.nod,r3.log,fun p hp hlt=> ?_,fun e he=> ?_, ?_⟩,⟨d++[(i,n,z)],[(i,n)]++l,by dsimp only;rw[r4,List.append_assoc],by dsimp only;rw[r5,List.append_assoc],fun e he=> ?_,fun p hp=> ?_,by simp only[List.length_append,List.length_cons,List.length_nil];omega⟩,by simp⟩
    ·rcases List.mem_append.1 he with he|he
     ·exact r3.ent e he
     ·simp only[List.mem_singleton] at he;subst he;exact⟨hl,by dsimp only;omega,r1,r2⟩
    ·dsimp only at hp⊢
     rw[r5] at hp
     rcases List.mem_append.1 hp with hp|hp
     ·rcases List.mem_append.1 hp with hp|hp
      ·obtain⟨y,hy⟩:=hs.don p hp hlt
       exact⟨y,List.mem_append_left _ (by rw[r4];exact List.mem_append_left _ hy)⟩
      ·simp only[List.mem_singleton] at hp;subst hp;exact⟨z,by simp⟩
     ·obtain⟨y,hy⟩:=r3.don p (by rw[r5];exact List.mem_append_right _ hp) (r7 p hp)
      exact⟨y,List.mem_append_left _ hy⟩
    ·dsimp only
     rcases List.mem_append.1 he with he|he
     ·exact r3.inl e he
     ·simp only[List.mem_singleton] at he;subst he
      rw[r5];simp
    ·have:=hs.cnt
     dsimp only
     rw[r4,r5]
     simp only[List.length_append,List.length_cons,List.length_nil]
     omega
    ·rcases List.mem_append.1 he with he|he
     ·have:=r6 e he;omega
     ·simp only[List.mem_singleton] at he;subst he;simp
    ·rcases List.mem_append.1 hp with hp|hp
     ·simp only[List.mem_singleton] at hp;subst hp;simp
     ·have:=r7 p hp;omega
def liftP(A:Nat→Nat→Except Int Int):Nat→Nat→MR Int:=fun i n s=>match A i n with
 | .ok z=> .ok (z,s)
 | .error c=> .error c
def resOf(r:Except Int (Int×MS)):Except Int Int:=match r with
 | .ok p=> .ok p.1
 | .error c=> .error c
def askP(X:Nat→List Int):Nat→Nat→Nat→Except Int Int
 |0,_,_=> .error 3
 |f+1,i,n=>if 160<n then .error 3 else resOf (ruleM (liftP (askP X f)) (X i) n ([],[]))
section
variable {A B:Nat→Nat→MR Int} {i j:Nat}
theorem growM_congr(h:A i=B j):growM A i=growM B j:=by unfold growM;rw[h]
theorem awayM_congr(h:A i=B j):∀d k,awayM A i d k=awayM B j d k
 |0,k=>rfl
 |d+1,k=>by
  unfold awayM
  rw[h]
  congr 1
  funext a
  rw[awayM_congr h d (k+1)]
theorem ruleM_congr{x y:List Int}(hk:kd x=kd y)(hp:xp x=xp y)(hq:xq x=xq y)(ha:usA (kd x)→A (xa x)=B (xa y))(hb:usB (kd x)→A (xb x)=B (xb y))(n:Nat):ruleM A x n=ruleM B y n:=by
 unfold ruleM
 unfold usA at ha
 unfold usB at hb
 rw[←hk,←hp,←hq]
 by_cases k1:kd x=1
 ·rw[if_pos k1,if_pos k1]
 rw[if_neg k1,if_neg k1]
 by_cases k2:kd x=2
 ·rw[if_pos k2,if_pos k2,ha (by omega),hb (by omega)]
 rw[if_neg k2,if_neg k2]
 by_cases k3:kd x=3
 ·rw[if_pos k3,if_pos k3,ha (by omega),hb (by omega)]
 rw[if_neg k3,if_neg k3]
 by_cases k4:kd x=4
 ·rw[if_pos k4,if_pos k4,growM_congr (ha (by omega)),growM_congr (hb (by omega)),ha (by omega),hb (by omega)]
 rw[if_neg k4,if_neg k4]
 by_cases k5:kd x=5
 ·rw[if_pos k5,if_pos k5,growM_congr (ha (by omega)),awayM_congr (hb (by omega)),ha (by omega),hb (by omega)]
 rw[if_neg k5,if_neg k5]
 by_cases k6:kd x=6
 ·rw[if_pos k6,if_pos k6,ha (by omega)]
 rw[if_neg k6,if_neg k6]
 by_cases k7:kd x=7
 ·rw[if_pos k7,if_pos k7,ha (by omega)]
 rw[if_neg k7,if_neg k7]
 by_cases k8:kd x=8
 ·rw[if_pos k8,if_pos k8,ha (by omega),hb (by omega)]
 rw[if_neg k8,if_neg k8]
 by_cases k9:kd x=9
 ·rw[if_pos k9,if_pos k9,ha (by omega),hb (by omega)]
 rw[if_neg k9,if_neg k9]
 by_cases k10:kd x=10
 ·rw[if_pos k10,if_pos k10,ha (by omega)]
 rw[if_neg k10,if_neg k10]
end
theorem lift_congr{P Q:Nat→Nat→Except Int Int}{i j:Nat}(h:∀n,P i n=Q j n):liftP P i=liftP Q j:=by
 funext n s
 unfold liftP
 rw[h]
theorem askP_fuel{X:Nat→List Int}{len:Nat}(hX:∀i,i<len→NdOk (X i) i):∀(f g i n:Nat),i<len→i<f→i<g→askP X f i n=askP X g i n
 |0,_,i,n,_,h,_=>by omega
 |_+1,0,i,n,_,_,h=>by omega
 |f+1,g+1,i,n,hl,hf,hg=>by
  have hx:=hX i hl
  unfold askP
  rw[ruleM_congr (x:=X i) (y:=X i) rfl rfl rfl (fun h=>lift_congr fun n=>askP_fuel hX f g _ n (by have:=hx.a h;omega) (by have:=hx.a h;omega) (by have:=hx.a h;omega))
   (fun h=>lift_congr fun n=>askP_fuel hX f g _ n (by have:=hx.b h;omega) (by have:=hx.b h;omega) (by have:=hx.b h;omega))]
section
variable {β γ:Type} {M:MS→Prop}
def Sm(M:MS→Prop)(f g:MR β)(s:MS):Prop:=match f s with
 | .ok (x,s')=>M s'∧g ([],[])= .ok (x,([],[]))
 | .error c=>g ([],[])= .error c
theorem Sm.bind{f f':MR β}{g g':β→MR γ}{s:MS}(h:Sm M f f' s)(hg:∀x s',M s'→Sm M (g x) (g' x) s'):Sm M (mbind f g) (mbind f' g') s:=by
 unfold Sm at h
 show Sm M (mbind f g) (mbind f' g') s
 unfold Sm mbind
 cases hf:f s with
 |ok r=>
  obtain⟨x,s'⟩:=r
  rw[hf] at h
  obtain⟨h1,h2⟩:=h
  have:=hg x s' h1
  unfold Sm at this
  rw[h2]
  exact this
 |error c=>
  rw[hf] at h
  dsimp only at h⊢
  rw[h]
theorem Sm.pure{x:β}{s:MS}(h:M s):Sm M (mpure x) (mpure x) s:=⟨h,rfl⟩
theorem Sm.fit{z:Int}{s:MS}(h:M s):Sm M (fitM z) (fitM z) s:=by
 unfold fitM
 cases fitZ z with
 |true=>exact⟨h,rfl⟩
 |false=>exact rfl
theorem Sm.up{z:Int}{n:Nat}{s:MS}(h:M s):Sm M (upM z n) (upM z n) s:=by
 unfold upM
 split
 ·exact Sm.fit h
 ·exact rfl
theorem Sm.near{z:Int}{n:Nat}{s:MS}(h:M s):Sm M (nearM z n) (nearM z n) s:=by
 unfold nearM
 split
 ·exact⟨h,rfl⟩
 ·exact rfl
end
section
variable {A B:Nat→Nat→MR Int} {M:MS→Prop} {i:Nat}
def SmA(M:MS→Prop)(A B:Nat→Nat→MR Int)(i:Nat):Prop:=∀n s,M s→Sm M (A i n) (B i n) s
theorem Sm.grow(h:SmA M A B i){s:MS}(hs:M s):Sm M (growM A i) (growM B i) s:=(h 0 s hs).bind fun _ _ h=>Sm.pure h
theorem Sm.away(h:SmA M A B i):∀(d k:Nat) {s:MS},M s→Sm M (awayM A i d k) (awayM B i d k) s
 |0,k,s,hs=>rfl
 |d+1,k,s,hs=>by
  unfold awayM
  refine(h (k+2) s hs).bind fun a s' h'=> ?_
  split
  ·exact Sm.pure h'
  ·exact Sm.away h d (k+1) h'
theorem Sm.rule{x:List Int}(ha:usA (kd x)→SmA M A B (xa x))(hb:usB (kd x)→SmA M A B (xb x))(n:Nat){s:MS}(hs:M s):Sm M (ruleM A x n) (ruleM B x n) s:=by
 unfold ruleM
 unfold usA at ha
 unfold usB at hb
 by_cases k1:kd x=1
 ·rw[if_pos k1,if_pos k1]
  exact(Sm.up hs).bind fun _ _ h=>Sm.pure h
 rw[if_neg k1,if_neg k1]
 by_cases k2:kd x=2
 ·rw[if_pos k2,if_pos k2]
  exact(ha (by omega) _ _ hs).bind fun _ _ h=>(hb (by omega) _ _ h).bind fun _ _ h=>(Sm.fit h).bind fun _ _ h=>Sm.pure h
 rw[if_neg k2,if_neg k2]
 by_cases k3:kd x=3
 ·rw[if_pos k3,if_pos k3]
  exact(ha (by omega) _ _ hs).bind fun _ _ h=>(hb (by omega) _ _ h).bind fun _ _ h=>(Sm.fit h).bind fun _ _ h=>Sm.pure h
 rw[if_neg k3,if_neg k3]
 by_cases k4:kd x=4
 ·rw[if_pos k4,if_pos k4]
  exact(Sm.grow (ha (by omega)) hs).bind fun _ _ h=>(Sm.grow (hb (by omega)) h).bind fun _ _ h=>(ha (by omega) _ _ h).bind fun _ _ h=>(hb (by omega) _ _ h).bind fun _ _ h=>(Sm.fit h).bind fun _ _ h=>Sm.near h
 rw[if_neg k4,if_neg k4]
 by_cases k5:kd x=5
 ·rw[if_pos k5,if_pos k5]
  exact(Sm.away (hb (by omega)) _ _ hs).bind fun _ _ h=>(Sm.grow (ha (by omega)) h).bind fun _ _ h=>(ha (by omega) _ _ h).bind fun _ _ h=>(hb (by omega) _ _ h).bind fun _ _ h=>(Sm.up h).bind fun _ _ h=>Sm.pure h
 rw[if_neg k5,if_neg k5]
 by_cases k6:kd x=6
 ·rw[if_pos k6,if_pos k6]
  exact(ha (by omega) _ _ hs).bind fun _ _ h=>Sm.pure h
 rw[if_neg k6,if_neg k6]
 by_cases k7:kd x=7
 ·rw[if_pos k7,if_pos k7]
  exact(ha (by omega) _ _ hs).bind fun _ _ h=>Sm.pure h
 rw[if_neg k7,if_neg k7]
 by_cases k8:kd x=8
 ·rw[if_pos k8,if_pos k8]
  exact(ha (by omega) _ _ hs).bind fun _ _ h=>(hb (by omega) _ _ h).bind fun _ _ h=>Sm.pure h
 rw[if_neg k8,if_neg k8]
 by_cases k9:kd x=9
 ·rw[if_pos k9,if_pos k9]
  exact(ha (by omega) _ _ hs).bind fun _ _ h=>(hb (by omega) _ _ h).bind fun _ _ h=>Sm.pure h
 rw[if_neg k9,if_neg k9]
 by_cases k10:kd x=10
 ·rw[if_pos k10,if_pos k10]
  exact(ha (by omega) _ _ hs).bind fun _ _ h=>Sm.pure h
 rw[if_neg k10,if_neg k10]
 split
 ·exact Sm.pure hs
 ·exact Sm.pure hs
end
def KeptOk(X:Nat→List Int)(len:Nat)(s:MS):Prop:=∀e∈s.1,e.1<len→askP X (e.1+1) e.1 e.2.1= .ok e.2.2
theorem keptOk0(X:Nat→List Int)(len:Nat):KeptOk X len ([],[]):=fun e he=>by cases he
theorem askM_sim{X:Nat→List Int}{len:Nat}(hX:∀i,i<len→NdOk (X i) i):∀(f i n:Nat) (s:MS),i<f→i<len→KeptOk X len s→Sm (KeptOk X len) (askM X f i n) (liftP (askP X f) i n) s
 |0,i,n,s,h,_,_=>by omega
 |f+1,i,n,s,hf,hl,hs=>by
  have hx:=hX i hl
  unfold Sm
  have ef:askP X (f+1) i n=askP X (i+1) i n:=askP_fuel hX _ _ _ _ hl hf (by omega)
  unfold askM
  cases hk:lookM s.1 i n with
  |some z=>
   refine⟨hs, ?_⟩
   have h:=hs _ (lookM_some hk) hl
   dsimp only at h
   unfold liftP
   rw[ef,h]
  |none=>
   dsimp only
   by_cases hn:160<n
   ·rw[if_pos hn]
    show liftP (askP X (f+1)) i n ([],[])= .error 3
    unfold liftP askP
    rw[if_pos hn]
   rw[if_neg hn]
   have hr:=Sm.rule (A:=askM X f) (B:=liftP (askP X f)) (M:=KeptOk X len) (x:=X i) (fun h n s hs=>askM_sim hX f _ n s (by have:=hx.a h;omega) (by have:=hx.a h;omega) hs) (fun h n s hs=>askM_sim hX f _ n s (by have:=hx.b h;omega) (by have:=hx.b h;omega) hs) n (s:=(s.1,s.2++[(i,n)])) (fun e he=>hs e he)
   unfold Sm at hr
   cases hres:ruleM (askM X f) (X i) n (s.1,s.2++[(i,n)]) with
   |error c=>
    rw[hres] at hr
    dsimp only at hr⊢
    unfold liftP
    unfold askP
    rw[if_neg hn,hr];rfl
   |ok r=>
    obtain⟨z,s'⟩:=r
    rw[hres] at hr
    obtain⟨h1,h2⟩:=hr
    have e:askP X (f+1) i n= .ok z:=by
     unfold askP
     rw[if_neg hn,h2];rfl
    refine⟨fun y hy hlt=> ?_, ?_⟩
    ·rcases List.mem_append.1 hy with hy|hy
     ·exact h1 y hy hlt
     ·simp only[List.mem_singleton] at hy
      subst hy
      dsimp only
      rw[←ef];exact e
    ·unfold liftP
     rw[e]
theorem askM_ok_iff{X:Nat→List Int}{len:Nat}(hX:∀i,i<len→NdOk (X i) i){f i n:Nat}(hf:i<f)(hl:i<len){s:MS}(hs:KeptOk X len s){z:Int}:
  (∃s',askM X f i n s= .ok (z,s')∧KeptOk X len s')↔askP X (i+1) i n= .ok z:=by
 have h:=askM_sim hX f i n s hf hl hs
 have ef:askP X f i n=askP X (i+1) i n:=askP_fuel hX _ _ _ _ hl hf (by omega)
 unfold Sm liftP at h
 rw[ef] at h
 constructor
 ·rintro ⟨s',h1,h2⟩
  rw[h1] at h
  obtain⟨_,h⟩:=h
  cases hp:askP X (i+1) i n with
  |ok y=>
   rw[hp] at h
   simp only[Except.ok.injEq,Prod.mk.injEq,and_true] at h
   rw[h]
  |error c=>rw[hp] at h;cases h
 ·intro hp
  rw[hp] at h
  cases hm:askM X f i n s with
  |ok r=>
   obtain⟨y,s'⟩:=r
   rw[hm] at h
   obtain⟨h1,h⟩:=h
   simp only[Except.ok.injEq,Prod.mk.injEq,and_true] at h
   rw[←h]
   exact⟨s',rfl,h1⟩
  |error c=>rw[hm] at h;cases h
theorem askM_err_iff{X:Nat→List Int}{len:Nat}(hX:∀i,i<len→NdOk (X i) i){f i n:Nat}(hf:i<f)(hl:i<len){s:MS}(hs:KeptOk X len s){c:Int}:
  askM X f i n s= .error c↔askP X (i+1) i n= .error c:=by
 have h:=askM_sim hX f i n s hf hl hs
 have ef:askP X f i n=askP X (i+1) i n:=askP_fuel hX _ _ _ _ hl hf (by omega)
 unfold Sm liftP at h
 rw[ef] at h
 cases hm:askM X f i n s with
 |ok r=>
  obtain⟨y,s'⟩:=r
  rw[hm] at h
  obtain⟨h1,h⟩:=h
  constructor
  ·intro h2;cases h2
  ·intro h2;rw[h2] at h;cases h
 |error c'=>
  rw[hm] at h
  dsimp only at h
  cases hp:askP X (i+1) i n with
  |ok y=>rw[hp] at h;cases h
  |error c2=>
   rw[hp] at h
   simp only[Except.error.injEq] at h
   rw[h]
   constructor<;>intro h3<;>cases h3<;>rfl
theorem near_half{r:Rat}{m k:Nat}{p p':Int}(h:Near1 r (m+(k+1)) p)(h':Near1 r m p'):2*p'.natAbs≤p.natAbs+3:=by
 obtain⟨h1,h2⟩:=h
 obtain⟨g1,g2⟩:=h'
 have e2:r*2^(m+(k+1))=2*((r*2^m)*2^k):=by
  rw[pow2Q_add,Rat.pow_succ]
  generalize (2:Rat)^m=a
  generalize (2:Rat)^k=b
  grind
 have hk:=pow2Q_ge1 k
 rw[e2] at h1 h2
 generalize r*2^m=y at*
 generalize (2:Rat)^k=c at*
 have a1:0≤y→y≤y*c:=fun hy=>by
  have:=Rat.mul_le_mul_of_nonneg_left hk hy
  grind
 have a2:y≤0→y*c≤y:=fun hy=>by
  have:=Rat.mul_le_mul_of_nonneg_left hk (show 0≤-y by grind)
  grind
 rcases Rat.le_total (a:=0) (b:=y) with hy|hy
 ·have b1:=a1 hy
  have c1:((2*p':Int):Rat)≤((p+3:Int):Rat):=by rw[Rat.intCast_mul,Rat.intCast_add];grind
  have c2:((-p':Int):Rat)≤((1:Int):Rat):=by rw[Rat.intCast_neg];grind
  have c3:((-p:Int):Rat)≤((1:Int):Rat):=by rw[Rat.intCast_neg];grind
  have d1:=Rat.intCast_le_intCast.1 c1
  have d2:=Rat.intCast_le_intCast.1 c2
  have d3:=Rat.intCast_le_intCast.1 c3
  omega
 ·have b1:=a2 hy
  have c1:((p-3:Int):Rat)≤((2*p':Int):Rat):=by rw[Rat.intCast_mul,Rat.intCast_sub];grind
  have c2:((p':Int):Rat)≤((1:Int):Rat):=by grind
  have c3:((p:Int):Rat)≤((1:Int):Rat):=by grind
  have d1:=Rat.intCast_le_intCast.1 c1
  have d2:=Rat.intCast_le_intCast.1 c2
  have d3:=Rat.intCast_le_intCast.1 c3
  omega
section
variable {β γ:Type}
theorem bind_ok{f:MR β}{g:β→MR γ}{s:MS}{r:γ×MS}(h:mbind f g s= .ok r):∃x s',f s= .ok (x,s')∧g x s'= .ok r:=by
 unfold mbind at h
 cases hf:f s with
 |ok q=>obtain⟨x,s'⟩:=q;rw[hf] at h;exact⟨x,s',rfl,h⟩
 |error c=>rw[hf] at h;cases h
theorem bind_mk{f:MR β}{g:β→MR γ}{s s':MS}{x:β}(h1:f s= .ok (x,s'))(h2:∃r,g x s'= .ok r):∃r,mbind f g s= .ok r:=by
 unfold mbind
 rw[h1];exact h2
end
theorem lift_ok{P:Nat→Nat→Except Int Int}{i n:Nat}{s s':MS}{z:Int}(h:liftP P i n s= .ok (z,s')):P i n= .ok z∧s'=s:=by
 unfold liftP at h
 cases hp:P i n with
 |ok y=>rw[hp] at h;simp only[Except.ok.injEq,Prod.mk.injEq] at h;exact⟨by rw[h.1],h.2.symm⟩
 |error c=>rw[hp] at h;cases h
theorem lift_mk{P:Nat→Nat→Except Int Int}{i n:Nat}{s:MS}{z:Int}(h:P i n= .ok z):liftP P i n s= .ok (z,s):=by
 unfold liftP;rw[h]
theorem fitM_mk{z:Int}{s:MS}(h:z.natAbs<W192):fitM z s= .ok (z,s):=by
 unfold fitM
 rw[fitZ_iff.2 h];rfl
theorem upM_mk{z:Int}{n:Nat}{s:MS}(hn:n≤191)(h:(z*2^n).natAbs<W192):upM z n s= .ok (z*2^n,s):=by
 unfold upM
 rw[if_pos hn];exact fitM_mk h
theorem fitM_get{z y:Int}{s s':MS}(h:fitM z s= .ok (y,s')):y=z∧s'=s∧z.natAbs<W192:=by
 have:=fitM_ok z s
 rw[h] at this;exact this
theorem upM_get{z y:Int}{n:Nat}{s s':MS}(h:upM z n s= .ok (y,s')):n≤191∧y=z*2^n∧s'=s∧(z*2^n).natAbs<W192:=by
 have h2:=upM_ok z n s
 rw[h] at h2
 refine⟨?_,h2⟩
 unfold upM at h
 split at h
 ·assumption
 ·cases h
theorem nearM_get{z y:Int}{n:Nat}{s s':MS}(h:nearM z n s= .ok (y,s')):n≤191:=by
 unfold nearM at h
 split at h
 ·assumption
 ·cases h
theorem away_keep{P:Nat→Nat→Except Int Int}{i:Nat}:∀{d k:Nat} {s s':MS} {x:Nat},awayM (liftP P) i d k s= .ok (x,s')→s'=s
 |0,k,s,s',x,h=>by cases h
 |d+1,k,s,s',x,h=>by
  unfold awayM at h
  replace h:=bind_ok h
  obtain⟨a,s1,h1,h2⟩:=h
  replace h1:=lift_ok h1
  obtain⟨_,rfl⟩:=h1
  split at h2
  ·unfold mpure at h2
   simp only[Except.ok.injEq,Prod.mk.injEq] at h2
   exact h2.2.symm
  ·exact away_keep h2
theorem grow_get{P:Nat→Nat→Except Int Int}{i g:Nat}{s s':MS}(h:growM (liftP P) i s= .ok (g,s')):∃a0,P i 0= .ok a0∧g=lenZ a0∧s'=s:=by
 unfold growM at h
 replace h:=bind_ok h
 obtain⟨a0,s1,h1,h2⟩:=h
 replace h1:=lift_ok h1
 obtain⟨h1,rfl⟩:=h1
 unfold mpure at h2
 simp only[Except.ok.injEq,Prod.mk.injEq] at h2
 exact⟨a0,h1,h2.1.symm,h2.2.symm⟩
theorem grow_mk{P:Nat→Nat→Except Int Int}{i:Nat}{s:MS}{a0:Int}(h:P i 0= .ok a0):growM (liftP P) i s= .ok (lenZ a0,s):=by
 unfold growM mbind
 rw[lift_mk h];rfl
theorem prod_fit{p q p' q':Int}(h:(p*q).natAbs<W192)(hp:2*p'.natAbs≤p.natAbs+3)(hq:2*q'.natAbs≤q.natAbs+3)(bp:p.natAbs≤B190)(bq:q.natAbs≤B190):(p'*q').natAbs<W192:=by
 rw[Int.natAbs_mul] at*
 generalize p.natAbs=a at*
 generalize q.natAbs=b at*
 generalize p'.natAbs=a' at*
 generalize q'.natAbs=b' at*
 have h1:=Nat.mul_le_mul hp hq
 have e1:2*a'*(2*b')=4*(a'*b'):=by
  rw[Nat.mul_mul_mul_comm]
 have e2:(a+3)*(b+3)=a*b+3*a+3*b+9:=by
  rw[Nat.add_mul,Nat.mul_add,Nat.mul_add];omega
 rw[e1,e2] at h1
 rw[w192_lit] at*
 unfold B190 at*
 omega
theorem up_fit{p p':Int}{e e':Nat}(h:(p*2^e).natAbs<W192)(he:e≤191)(hp:2*p'.natAbs≤p.natAbs+3)(hee:e'<e):(p'*2^e').natAbs<W192:=by
 obtain⟨k,rfl⟩:∃k,e=e'+1+k:=⟨e-e'-1,by omega⟩
 have h1:(p'*2^e').natAbs=p'.natAbs*2^e':=by rw[Int.natAbs_mul,Int.natAbs_pow];rfl
 have h2:(p*2^(e'+1+k)).natAbs=p.natAbs*(2*2^e'*2^k):=by
  rw[Int.natAbs_mul,Int.natAbs_pow]
  congr 1
  show 2^(e'+1+k)=_
  rw[Nat.pow_add,Nat.pow_succ,Nat.mul_comm 2]
 rw[h1]
 rw[h2] at h
 have hk:1≤2^k:=Nat.one_le_two_pow
 have he2:2^e'≤B190:=by rw[←b190];exact Nat.pow_le_pow_right (by decide) (by omega)
 generalize p.natAbs=a at*
 generalize p'.natAbs=a' at*
 generalize 2^k=c at*
 generalize 2^e'=W at*
 have h3:a*(2*W)≤a*(2*W*c):=Nat.mul_le_mul_left _ (Nat.le_mul_of_pos_right _ hk)
 have h4:2*a'*W≤(a+3)*W:=Nat.mul_le_mul_right _ hp
 have e1:2*a'*W=2*(a'*W):=Nat.mul_assoc _ _ _
 have e2:(a+3)*W=a*W+3*W:=Nat.add_mul _ _ _
 have e3:a*(2*W)=2*(a*W):=by rw[Nat.mul_left_comm]
 rw[e1,e2] at h4
 rw[e3] at h3
 rw[w192_lit] at*
 omega
section
variable {v:Nat→Rat} {P:Nat→Nat→Except Int Int}
structure GoodP (v:Nat→Rat) (P:Nat→Nat→Except Int Int) (i:Nat):Prop where
 near:∀n z,P i n= .ok z→Near1 (v i) n z∧z.natAbs≤B190
 mono:∀n n',n'≤n→(∃z,P i n= .ok z)→∃z,P i n'= .ok z
theorem rule_mono{x:List Int}{s:MS}(k1':kd x=1→(xp x).natAbs≤1000000000)(ha:usA (kd x)→GoodP v P (xa x))(hb:usB (kd x)→GoodP v P (xb x)){n n':Nat}(hn:n'≤n)(h160:n≤160){r:Int×MS}(h:ruleM (liftP P) x n s= .ok r):
  ∃r',ruleM (liftP P) x n' s= .ok r':=by
 rcases Nat.eq_or_lt_of_le hn with rfl|hlt
 ·exact⟨r,h⟩
 obtain⟨k,rfl⟩:∃k,n=n'+(k+1):=⟨n-n'-1,by omega⟩
 unfold ruleM at*
 unfold usA at ha
 unfold usB at hb
 by_cases k1:kd x=1
 ·rw[if_pos k1]
  refine bind_mk (s':=s) (x:=xp x*2^n') ?_ ⟨_,rfl⟩
  unfold upM
  rw[if_pos (by omega)]
  refine fitM_mk ?_
  have:=ratio_bound (k1' k1) (show n'≤160 by omega)
  rw[w192_lit]
  unfold B190 at*
  omega
 rw[if_neg k1] at*
 by_cases k2:kd x=2
 ·rw[if_pos k2] at*
  have hA:=ha (by omega)
  have hB:=hb (by omega)
  replace h:=bind_ok h
  obtain⟨a,s1,h1,h⟩:=h
  replace h1:=lift_ok h1
  obtain⟨h1,rfl⟩:=h1
  replace h:=bind_ok h
  obtain⟨b,s2,h2,h⟩:=h
  replace h2:=lift_ok h2
  obtain⟨h2,rfl⟩:=h2
  obtain⟨a',e1⟩:=hA.mono _ (n'+2) (by omega) ⟨a,h1⟩
  obtain⟨b',e2⟩:=hB.mono _ (n'+2) (by omega) ⟨b,h2⟩
  refine bind_mk (lift_mk e1) (bind_mk (lift_mk e2) (bind_mk (fitM_mk ?_) ⟨_,rfl⟩))
  have g1:=(hA.near _ _ e1).2
  have g2:=(hB.near _ _ e2).2
  rw[w192_lit]
  unfold B190 at*
  omega
 rw[if_neg k2] at*
 by_cases k3:kd x=3
 ·rw[if_pos k3] at*
  have hA:=ha (by omega)
  have hB:=hb (by omega)
  replace h:=bind_ok h
  obtain⟨a,s1,h1,h⟩:=h
  replace h1:=lift_ok h1
  obtain⟨h1,rfl⟩:=h1
  replace h:=bind_ok h
  obtain⟨b,s2,h2,h⟩:=h
  replace h2:=lift_ok h2
  obtain⟨h2,rfl⟩:=h2
  obtain⟨a',e1⟩:=hA.mono _ (n'+2) (by omega) ⟨a,h1⟩
  obtain⟨b',e2⟩:=hB.mono _ (n'+2) (by omega) ⟨b,h2⟩
  refine bind_mk (lift_mk e1) (bind_mk (lift_mk e2) (bind_mk (fitM_mk ?_) ⟨_,rfl⟩))
  have g1:=(hA.near _ _ e1).2
  have g2:=(hB.near _ _ e2).2
  rw[w192_lit]
  unfold B190 at*
  omega
 rw[if_neg k3] at*
 by_cases k4:kd x=4
 ·rw[if_pos k4] at*
  have hA:=ha (by omega)
  have hB:=hb (by omega)
  replace h:=bind_ok h
  obtain⟨ga,s1,h1,h⟩:=h
  replace h1:=grow_get h1
  obtain⟨a0,h1,rfl,rfl⟩:=h1
  replace h:=bind_ok h
  obtain⟨gb,s2,h2,h⟩:=h
  replace h2:=grow_get h2
  obtain⟨b0,h2,rfl,rfl⟩:=h2
  replace h:=bind_ok h
  obtain⟨p,s3,h3,h⟩:=h
  replace h3:=lift_ok h3
  obtain⟨h3,rfl⟩:=h3
  replace h:=bind_ok h
  obtain⟨q,s4,h4,h⟩:=h
  replace h4:=lift_ok h4
  obtain⟨h4,rfl⟩:=h4
  replace h:=bind_ok h
  obtain⟨z,s5,h5,h⟩:=h
  replace h5:=fitM_get h5
  obtain⟨rfl,rfl,h5⟩:=h5
  obtain⟨y,s6⟩:=r
  have h6:=nearM_get h
  obtain⟨p',e3⟩:=hA.mono _ (n'+lenZ b0+3) (by omega) ⟨p,h3⟩
  obtain⟨q',e4⟩:=hB.mono _ (n'+lenZ a0+3) (by omega) ⟨q,h4⟩
  refine bind_mk (grow_mk h1) (bind_mk (grow_mk h2) (bind_mk (lift_mk e3) (bind_mk (lift_mk e4) (bind_mk (fitM_mk ?_) ?_))))
  ·have m1:=hA.near _ _ h3
   have m2:=hA.near _ _ e3
   have m3:=hB.near _ _ h4
   have m4:=hB.near _ _ e4
   rw[show n'+(k+1)+lenZ b0+3=n'+lenZ b0+3+(k+1) by omega] at m1
   rw[show n'+(k+1)+lenZ a0+3=n'+lenZ a0+3+(k+1) by omega] at m3
   exact prod_fit h5 (near_half m1.1 m2.1) (near_half m3.1 m4.1) m1.2 m3.2
  ·unfold nearM
   rw[if_pos (by omega)]
   exact⟨_,rfl⟩
 rw[if_neg k4] at*
 by_cases k5:kd x=5
 ·rw[if_pos k5] at*
  have hA:=ha (by omega)
  have hB:=hb (by omega)
  replace h:=bind_ok h
  obtain⟨w,s0,h0,h⟩:=h
  obtain rfl:=away_keep h0
  replace h:=bind_ok h
  obtain⟨ga,s1,h1,h⟩:=h
  replace h1:=grow_get h1
  obtain⟨a0,h1,rfl,rfl⟩:=h1
  replace h:=bind_ok h
  obtain⟨p,s3,h3,h⟩:=h
  replace h3:=lift_ok h3
  obtain⟨h3,rfl⟩:=h3
  replace h:=bind_ok h
  obtain⟨q,s4,h4,h⟩:=h
  replace h4:=lift_ok h4
  obtain⟨h4,rfl⟩:=h4
  replace h:=bind_ok h
  obtain⟨z,s5,h5,h⟩:=h
  replace h5:=upM_get h5
  obtain⟨h6,rfl,rfl,h5⟩:=h5
  obtain⟨p',e3⟩:=hA.mono _ (n'+w+3) (by omega) ⟨p,h3⟩
  obtain⟨q',e4⟩:=hB.mono _ (n'+lenZ a0+2*w+4) (by omega) ⟨q,h4⟩
  refine bind_mk h0 (bind_mk (grow_mk h1) (bind_mk (lift_mk e3) (bind_mk (lift_mk e4) (bind_mk (upM_mk (by omega) ?_) ⟨_,rfl⟩))))
  have m1:=hA.near _ _ h3
  have m2:=hA.near _ _ e3
  rw[show n'+(k+1)+w+3=n'+w+3+(k+1) by omega] at m1
  exact up_fit h5 h6 (near_half m1.1 m2.1) (by omega)
 rw[if_neg k5] at*
 by_cases k6:kd x=6
 ·rw[if_pos k6] at*
  replace h:=bind_ok h
  obtain⟨a,s1,h1,h⟩:=h
  replace h1:=lift_ok h1
  obtain⟨h1,rfl⟩:=h1
  obtain⟨a',e1⟩:=(ha (by omega)).mono _ n' (by omega) ⟨a,h1⟩
  exact bind_mk (lift_mk e1) ⟨_,rfl⟩
 rw[if_neg k6] at*
 by_cases k7:kd x=7
 ·rw[if_pos k7] at*
  replace h:=bind_ok h
  obtain⟨a,s1,h1,h⟩:=h
  replace h1:=lift_ok h1
  obtain⟨h1,rfl⟩:=h1
  obtain⟨a',e1⟩:=(ha (by omega)).mono _ n' (by omega) ⟨a,h1⟩
  exact bind_mk (lift_mk e1) ⟨_,rfl⟩
 rw[if_neg k7] at*
 by_cases k8:kd x=8
 ·rw[if_pos k8] at*
  replace h:=bind_ok h
  obtain⟨a,s1,h1,h⟩:=h
  replace h1:=lift_ok h1
  obtain⟨h1,rfl⟩:=h1
  replace h:=bind_ok h
  obtain⟨b,s2,h2,h⟩:=h
  replace h2:=lift_ok h2
  obtain⟨h2,rfl⟩:=h2
  obtain⟨a',e1⟩:=(ha (by omega)).mono _ n' (by omega) ⟨a,h1⟩
  obtain⟨b',e2⟩:=(hb (by omega)).mono _ n' (by omega) ⟨b,h2⟩
  exact bind_mk (lift_mk e1) (bind_mk (lift_mk e2) ⟨_,rfl⟩)
 rw[if_neg k8] at*
 by_cases k9:kd x=9
 ·rw[if_pos k9] at*
  replace h:=bind_ok h
  obtain⟨a,s1,h1,h⟩:=h
  replace h1:=lift_ok h1
  obtain⟨h1,rfl⟩:=h1
  replace h:=bind_ok h
  obtain⟨b,s2,h2,h⟩:=h
  replace h2:=lift_ok h2
  obtain⟨h2,rfl⟩:=h2
  obtain⟨a',e1⟩:=(ha (by omega)).mono _ n' (by omega) ⟨a,h1⟩
  obtain⟨b',e2⟩:=(hb (by omega)).mono _ n' (by omega) ⟨b,h2⟩
  exact bind_mk (lift_mk e1) (bind_mk (lift_mk e2) ⟨_,rfl⟩)
 rw[if_neg k9] at*
 by_cases k10:kd x=10
 ·rw[if_pos k10] at*
  replace h:=bind_ok h
  obtain⟨a,s1,h1,h⟩:=h
  replace h1:=lift_ok h1
  obtain⟨h1,rfl⟩:=h1
  obtain⟨a',e1⟩:=(ha (by omega)).mono _ (2*n'+6) (by omega) ⟨a,h1⟩
  exact bind_mk (lift_mk e1) ⟨_,rfl⟩
 rw[if_neg k10] at*
 split
 ·exact⟨_,rfl⟩
 ·exact⟨_,rfl⟩
end
theorem askP_good{len:Nat}{v:Nat→Rat}{X:Nat→List Int}(hX:∀i,i<len→NdOk (X i) i)(hv:∀i,i<len→v i=valR v (X i))(h0:InvS len v len ([],[])):
  ∀(f i:Nat),i<f→i<len→GoodP v (askP X f) i
 |0,i,h,_=>by omega
 |f+1,i,hf,hl=>by
  have hx:=hX i hl
  refine⟨fun n z h=> ?_,fun n n' hn ⟨z,h⟩=> ?_⟩
  ·rw[askP_fuel hX _ (i+1) _ _ hl hf (by omega)] at h
   obtain⟨s',h1,h2⟩:=(askM_ok_iff hX (f:=i+1) (by omega) hl (keptOk0 X len)).2 h
   have:=askM_ok hX hv (i+1) i (by omega) hl len n ([],[]) hl h0
   rw[h1] at this
   exact⟨this.1,this.2.1⟩
  ·unfold askP at h⊢
   by_cases h160:160<n
   ·rw[if_pos h160] at h;cases h
   rw[if_neg h160] at h
   rw[if_neg (by omega)]
   cases hr:ruleM (liftP (askP X f)) (X i) n ([],[]) with
   |error c=>rw[hr] at h;cases h
   |ok r=>
    obtain⟨r',e⟩:=rule_mono (v:=v) (fun k=>(hx.k1 k).1) (fun k=>askP_good hX hv h0 f _ (by have:=hx.a k;omega) (by have:=hx.a k;omega)) (fun k=>askP_good hX hv h0 f _ (by have:=hx.b k;omega) (by have:=hx.b k;omega)) hn (by omega) hr
    rw[e]
    exact⟨_,rfl⟩
theorem askM_head{len:Nat}{v:Nat→Rat}{X:Nat→List Int}(hX:∀i,i<len→NdOk (X i) i)(hv:∀i,i<len→v i=valR v (X i))(h0:InvS len v len ([],[])){f i n:Nat}(hf:i<f)(hl:i<len){z:Int}{s':MS}(h:askM X f i n ([],[])= .ok (z,s')):
  ∃l,s'.2=(i,n)::l:=by
 obtain⟨f,rfl⟩:∃g,f=g+1:=⟨f-1,by omega⟩
 unfold askM at h
 rw[show lookM (([],[]):MS).1 i n=none from rfl] at h
 dsimp only at h
 by_cases hn:160<n
 ·rw[if_pos hn] at h;cases h
 rw[if_neg hn] at h
 have hs1:InvS len v i (([]:List (Nat×Nat×Int)),[]++[(i,n)]):=by
  refine⟨by simp,by simp, ?_, ?_,by simp,by simp⟩
  ·intro p hp
   simp only[List.nil_append,List.mem_singleton] at hp
   subst hp
   exact⟨hl,by dsimp only;omega⟩
  ·intro p hp hlt
   simp only[List.nil_append,List.mem_singleton] at hp
   subst hp
   dsimp only at hlt;omega
 have hA:GoodA len v (askM X f) i:=fun j hj n s hs=>(askM_ok hX hv f j (by omega) (by omega) i n s hj hs).mono fun z s' ⟨h1,h2,h3,h4,h5,_⟩=>⟨h1,h2,h3,h4,h5.mono (by omega)⟩
 have hr:=ruleM_ok hA (hX i hl) (hv i hl) (show n≤160 by omega) hs1
 cases hres:ruleM (askM X f) (X i) n ([],[]++[(i,n)]) with
 |error c=>rw[hres] at h;cases h
 |ok r=>
  obtain⟨y,s1⟩:=r
  rw[hres] at hr h
  obtain⟨_,_,_,d,l,_,r5,_⟩:=hr
  simp only[Except.ok.injEq,Prod.mk.injEq] at h
  refine⟨l, ?_⟩
  rw[←h.2]
  exact r5
end Go.Proofs.YtlmmgjngihlpeaaGreat.Sx
