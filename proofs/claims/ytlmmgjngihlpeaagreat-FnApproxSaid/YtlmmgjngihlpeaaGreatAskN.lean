import Derived.Test.YtlmmgjngihlpeaaGreatZedD
namespace Go.Proofs.YtlmmgjngihlpeaaGreat.Sx
open Go
set_option linter.unusedVariables false
set_option linter.unusedSimpArgs false
set_option maxRecDepth 100000
def kd(x:List Int):Int:=x.headD 0
def xa(x:List Int):Nat:=(x.tail.headD 0).toNat
def xb(x:List Int):Nat:=(x.tail.tail.headD 0).toNat
def xp(x:List Int):Int:=x.tail.tail.tail.headD 0
def xq(x:List Int):Int:=x.tail.tail.tail.tail.headD 0
abbrev MS:=List (Nat×Nat×Int)×List (Nat×Nat)
abbrev MR(β:Type):=MS→Except Int (β×MS)
section
variable {β γ:Type}
def mpure(x:β):MR β:=fun s=> .ok (x,s)
def merr(c:Int):MR β:=fun _=> .error c
def mbind(f:MR β)(g:β→MR γ):MR γ:=fun s=>match f s with
 | .ok (x,s')=>g x s'
 | .error c=> .error c
end
def fitM(z:Int):MR Int:=cond (fitZ z) (mpure z) (merr 3)
def upM(z:Int)(n:Nat):MR Int:=if n≤191 then fitM (z*2^n) else merr 3
def nearM(z:Int)(n:Nat):MR Int:=if n≤191 then mpure (nearZ z n) else merr 3
def lenZ(z:Int):Nat:=if z=0 then 0 else Nat.log2 z.natAbs+1
def growM(A:Nat→Nat→MR Int)(i:Nat):MR Nat:=mbind (A i 0) fun a=>mpure (lenZ a)
def awayM(A:Nat→Nat→MR Int)(i:Nat):Nat→Nat→MR Nat
 |0,_=>merr 7
 |d+1,k=>mbind (A i (k+2)) fun a=>if 5≤a.natAbs then mpure k else awayM A i d (k+1)
def arcN(d:Nat):Nat→Nat→Nat→Int
 |0,_,_=>0
 |f+1,i,p=>if p=0 then 0 else(if i%2=1 then-((p/(2*i+1):Nat):Int) else((p/(2*i+1):Nat):Int))+arcN d f (i+1) (p/(d*d))
def arcZ(d n:Nat):Int:=arcN d 200 0 (2^(n+16)/d)
def piZ(n:Nat):Int:=nearZ (16*arcZ 5 n-4*arcZ 239 n) 16
def eulN:Nat→Nat→Nat→Nat
 |0,_,_=>0
 |f+1,i,p=>if p=0 then 0 else p+eulN f (i+1) (p/i)
def eulZ(n:Nat):Int:=nearZ (eulN 200 1 (2^(n+16)):Int) 16
def ruleM(A:Nat→Nat→MR Int)(x:List Int)(n:Nat):MR Int:=
 if kd x=1 then mbind (upM (xp x) n) fun z=>mpure (dnZ z (xq x))
 else if kd x=2 then mbind (A (xa x) (n+2)) fun a=>mbind (A (xb x) (n+2)) fun b=>mbind (fitM (a+b)) fun z=>mpure (nearZ z 2)
 else if kd x=3 then mbind (A (xa x) (n+2)) fun a=>mbind (A (xb x) (n+2)) fun b=>mbind (fitM (a-b)) fun z=>mpure (nearZ z 2)
 else if kd x=4 then mbind (growM A (xa x)) fun ga=>mbind (growM A (xb x)) fun gb=>mbind (A (xa x) (n+gb+3)) fun p=>mbind (A (xb x) (n+ga+3)) fun q=>
  mbind (fitM (p*q)) fun z=>nearM z (n+ga+gb+6)
 else if kd x=5 then mbind (awayM A (xb x) 41 0) fun k=>mbind (growM A (xa x)) fun ga=>mbind (A (xa x) (n+k+3)) fun p=>mbind (A (xb x) (n+ga+2*k+4)) fun q=>
  mbind (upM p (n+ga+k+1)) fun z=>mpure (dnZ z q)
 else if kd x=6 then mbind (A (xa x) n) fun a=>mpure (-a)
 else if kd x=7 then mbind (A (xa x) n) fun a=>mpure (a.natAbs:Int)
 else if kd x=8 then mbind (A (xa x) n) fun a=>mbind (A (xb x) n) fun b=>mpure (min a b)
 else if kd x=9 then mbind (A (xa x) n) fun a=>mbind (A (xb x) n) fun b=>mpure (max a b)
 else if kd x=10 then mbind (A (xa x) (2*n+6)) fun a=>mpure (if a<0 then 0 else nearZ (isq a.natAbs:Int) 3)
 else if kd x=11 then mpure (piZ n)
 else mpure (eulZ n)
def lookM:List (Nat×Nat×Int)→Nat→Nat→Option Int
 |[],_,_=>none
 |e::r,i,n=>if e.1=i∧e.2.1=n then some e.2.2 else lookM r i n
def askM(X:Nat→List Int):Nat→Nat→Nat→MR Int
 |0,_,_=>merr 3
 |f+1,i,n=>fun s=>match lookM s.1 i n with
  |some z=> .ok (z,s)
  |none=>if 160<n then .error 3 else match ruleM (askM X f) (X i) n (s.1,s.2++[(i,n)]) with
   | .ok (z,s')=> .ok (z,(s'.1++[(i,n,z)],s'.2))
   | .error c=> .error c
def sqrtQ(r:Rat):Rat:=if r<0 then 0 else(isq (r*2^800).floor.toNat:Rat)/2^400
def piQ:Rat:=(piZ 400:Rat)/2^400
def eulQ:Rat:=(eulZ 400:Rat)/2^400
def absQ(x:Rat):Rat:=if x<0 then-x else x
def valR(v:Nat→Rat)(x:List Int):Rat:=
 if kd x=1 then(xp x:Rat)/(xq x:Rat)
 else if kd x=2 then v (xa x)+v (xb x)
 else if kd x=3 then v (xa x)-v (xb x)
 else if kd x=4 then v (xa x)*v (xb x)
 else if kd x=5 then v (xa x)/v (xb x)
 else if kd x=6 then-v (xa x)
 else if kd x=7 then absQ (v (xa x))
 else if kd x=8 then(if v (xa x)≤v (xb x) then v (xa x) else v (xb x))
 else if kd x=9 then(if v (xa x)≤v (xb x) then v (xb x) else v (xa x))
 else if kd x=10 then sqrtQ (v (xa x))
 else if kd x=11 then piQ
 else eulQ
def valF(X:Nat→List Int):Nat→Nat→Rat
 |0,_=>0
 |f+1,i=>valR (valF X f) (X i)
def Near1(r:Rat)(n:Nat)(z:Int):Prop:=(z:Rat)-r*2^n≤1∧r*2^n-(z:Rat)≤1
theorem pow2Q_pos(n:Nat):(0:Rat)<2^n:=Rat.pow_pos (by decide)
theorem pow2Q_ge1(n:Nat):(1:Rat)≤2^n:=by
 induction n with
 |zero=>simp
 |succ n ih=>rw[Rat.pow_succ];grind
theorem pow2Q_add(m n:Nat):(2:Rat)^(m+n)=2^m*2^n:=by
 induction n with
 |zero=>simp
 |succ n ih=>rw[←Nat.add_assoc,Rat.pow_succ,ih,Rat.pow_succ];grind
theorem pow2Q_cast(n:Nat):(((2:Int)^n:Int):Rat)=2^n:=by
 induction n with
 |zero=>rfl
 |succ n ih=>rw[Int.pow_succ,Rat.intCast_mul,ih,Rat.pow_succ];rfl
theorem nearZ_spec(x:Int){p:Nat}(hp:0<p):2*(nearZ x p*2^p)-2*x≤2^p∧2*x-2*(nearZ x p*2^p)≤2^p:=by
 unfold nearZ
 rw[decide_eq_false (by omega),cond_false]
 have h2:(2:Int)^p=2*2^(p-1):=by rw[←Int.pow_succ'];congr 1;omega
 have h0:(0:Int)<2^(p-1):=Int.pow_pos (by decide)
 have e1:=Int.mul_ediv_add_emod (x+2^(p-1)) (2^p)
 have e2:=Int.emod_nonneg (x+2^(p-1)) (show(2:Int)^p≠0 by omega)
 have e3:=Int.emod_lt_of_pos (x+2^(p-1)) (show(0:Int)<2^p by omega)
 have e4:(2:Int)^p*((x+2^(p-1))/2^p)=((x+2^(p-1))/2^p)*2^p:=Int.mul_comm _ _
 omega
theorem nearZ_Q(x:Int){p:Nat}(hp:0<p):2*((nearZ x p:Rat)*2^p)-2*(x:Rat)≤2^p∧2*(x:Rat)-2*((nearZ x p:Rat)*2^p)≤2^p:=by
 obtain⟨h1,h2⟩:=nearZ_spec x hp
 have g1:=Rat.intCast_le_intCast.2 h1
 have g2:=Rat.intCast_le_intCast.2 h2
 simp only[Rat.intCast_sub,Rat.intCast_mul,pow2Q_cast] at g1 g2
 exact⟨g1,g2⟩
theorem dnZ_spec(x:Int){y:Int}(hy:y≠0):(2*(dnZ x y*y-x)).natAbs≤y.natAbs:=by
 have e:=Int.mul_fdiv_add_fmod x y
 have hb:(0<y→0≤x.fmod y∧x.fmod y<y)∧(y<0→y<x.fmod y∧x.fmod y≤0):=
  ⟨fun h=>⟨Int.fmod_nonneg_of_pos _ h,Int.fmod_lt_of_pos _ h⟩,fun h=>by
   have h1:=Int.neg_fmod_neg (-x) (-y)
   simp only[Int.neg_neg] at h1
   have h2:=Int.fmod_nonneg_of_pos (-x) (show 0< -y by omega)
   have h3:=Int.fmod_lt_of_pos (-x) (show 0< -y by omega)
   have h4:x.fmod y=-((-x).fmod (-y)):=by
    rw[←h1]
   omega⟩
 have e2:y*x.fdiv y=x.fdiv y*y:=Int.mul_comm _ _
 unfold dnZ
 by_cases h:y.natAbs≤2*(x.fmod y).natAbs
 ·rw[decide_eq_true h,cond_true]
  have e3:(x.fdiv y+1)*y=x.fdiv y*y+y:=by rw[Int.add_mul];omega
  omega
 ·rw[decide_eq_false h,cond_false]
  omega
theorem castAdd(a b:Int):((a+b:Int):Rat)=(a:Rat)+(b:Rat):=Rat.intCast_add a b
theorem near_sum{x y:Rat}{n:Nat}{a b:Int}(ha:Near1 x (n+2) a)(hb:Near1 y (n+2) b):Near1 (x+y) n (nearZ (a+b) 2):=by
 obtain⟨a1,a2⟩:=ha
 obtain⟨b1,b2⟩:=hb
 obtain⟨z1,z2⟩:=nearZ_Q (a+b) (p:=2) (by decide)
 rw[Rat.intCast_add] at z1 z2
 rw[pow2Q_add] at a1 a2 b1 b2
 rw[show(2:Rat)^2=4 by decide] at*
 unfold Near1
 constructor<;>grind
theorem near_diff{x y:Rat}{n:Nat}{a b:Int}(ha:Near1 x (n+2) a)(hb:Near1 y (n+2) b):Near1 (x-y) n (nearZ (a-b) 2):=by
 obtain⟨a1,a2⟩:=ha
 obtain⟨b1,b2⟩:=hb
 obtain⟨z1,z2⟩:=nearZ_Q (a-b) (p:=2) (by decide)
 rw[Rat.intCast_sub] at z1 z2
 rw[pow2Q_add] at a1 a2 b1 b2
 rw[show(2:Rat)^2=4 by decide] at*
 unfold Near1
 constructor<;>grind
theorem near_neg{x:Rat}{n:Nat}{a:Int}(ha:Near1 x n a):Near1 (-x) n (-a):=by
 obtain⟨a1,a2⟩:=ha
 unfold Near1
 rw[Rat.intCast_neg]
 constructor<;>grind
theorem natAbs_Q(a:Int):((a.natAbs:Int):Rat)=if(a:Rat)<0 then-(a:Rat) else(a:Rat):=by
 by_cases h:a<0
 ·rw[if_pos (by exact_mod_cast h),←Rat.intCast_neg]
  congr 1;omega
 ·rw[if_neg (by
   have:(0:Rat)≤(a:Rat):=by exact_mod_cast (show 0≤a by omega)
   grind)]
  congr 1;omega
theorem near_abs{x:Rat}{n:Nat}{a:Int}(ha:Near1 x n a):Near1 (absQ x) n (a.natAbs:Int):=by
 obtain⟨a1,a2⟩:=ha
 have hp:=pow2Q_pos n
 unfold Near1 absQ
 rw[natAbs_Q]
 by_cases hx:x<0
 ·have h1:x*2^n<0:=by
   have:=Rat.mul_lt_mul_of_pos_right hx hp
   grind
  rw[if_pos hx]
  split<;>constructor<;>grind
 ·have h1:0≤x*2^n:=Rat.mul_nonneg (by grind) (by grind)
  rw[if_neg hx]
  split<;>constructor<;>grind
theorem mul_le_iff{x y w:Rat}(hw:0<w):x*w≤y*w↔x≤y:=by
 constructor
 ·intro h
  by_cases hc:x≤y
  ·exact hc
  ·have:=Rat.mul_lt_mul_of_pos_right (show y<x by grind) hw
   grind
 ·intro h;exact Rat.mul_le_mul_of_nonneg_right h (by grind)
theorem near_min{x y:Rat}{n:Nat}{a b:Int}(ha:Near1 x n a)(hb:Near1 y n b):Near1 (if x≤y then x else y) n (min a b):=by
 obtain⟨a1,a2⟩:=ha
 obtain⟨b1,b2⟩:=hb
 have hp:=pow2Q_pos n
 unfold Near1
 have hm:((min a b:Int):Rat)=if(a:Rat)≤(b:Rat) then(a:Rat) else(b:Rat):=by
  by_cases h:a≤b
  ·rw[Int.min_eq_left h,if_pos (by exact_mod_cast h)]
  ·rw[Int.min_eq_right (by omega),if_neg (by
    have:(b:Rat)<(a:Rat):=by exact_mod_cast (show b<a by omega)
    grind)]
 rw[hm]
 by_cases hxy:x≤y
 ·have:=(mul_le_iff hp).2 hxy
  rw[if_pos hxy]
  split<;>constructor<;>grind
 ·have:=(mul_le_iff hp).2 (show y≤x by grind)
  rw[if_neg hxy]
  split<;>constructor<;>grind
theorem near_max{x y:Rat}{n:Nat}{a b:Int}(ha:Near1 x n a)(hb:Near1 y n b):Near1 (if x≤y then y else x) n (max a b):=by
 obtain⟨a1,a2⟩:=ha
 obtain⟨b1,b2⟩:=hb
 have hp:=pow2Q_pos n
 unfold Near1
 have hm:((max a b:Int):Rat)=if(a:Rat)≤(b:Rat) then(b:Rat) else(a:Rat):=by
  by_cases h:a≤b
  ·rw[Int.max_eq_right h,if_pos (by exact_mod_cast h)]
  ·rw[Int.max_eq_left (by omega),if_neg (by
    have:(b:Rat)<(a:Rat):=by exact_mod_cast (show b<a by omega)
    grind)]
 rw[hm]
 by_cases hxy:x≤y
 ·have:=(mul_le_iff hp).2 hxy
  rw[if_pos hxy]
  split<;>constructor<;>grind
 ·have:=(mul_le_iff hp).2 (show y≤x by grind)
  rw[if_neg hxy]
  split<;>constructor<;>grind
theorem near_ratio(P:Int){Q:Int}(hQ:0<Q)(n:Nat):Near1 ((P:Rat)/(Q:Rat)) n (dnZ (P*2^n) Q):=by
 have h:=dnZ_spec (P*2^n) (show Q≠0 by omega)
 generalize dnZ (P*2^n) Q=z at h
 have h1:2*(z*Q-P*2^n)≤Q:=by omega
 have h2:2*(P*2^n-z*Q)≤Q:=by omega
 have g1:=Rat.intCast_le_intCast.2 h1
 have g2:=Rat.intCast_le_intCast.2 h2
 simp only[Rat.intCast_sub,Rat.intCast_mul,pow2Q_cast] at g1 g2
 have hq:(0:Rat)<(Q:Rat):=by exact_mod_cast hQ
 have hd:(P:Rat)/(Q:Rat)*(Q:Rat)=(P:Rat):=by grind
 unfold Near1
 have e:(P:Rat)/(Q:Rat)*2^n*(Q:Rat)=(P:Rat)*2^n:=by grind
 constructor
 ·rw[←mul_le_iff hq];grind
 ·rw[←mul_le_iff hq];grind
theorem lenZ_lt(z:Int):z.natAbs+1≤2^lenZ z:=by
 unfold lenZ
 by_cases h:z=0
 ·subst h;decide
 ·rw[if_neg h];exact Nat.lt_log2_self
theorem natCast_pow2(n:Nat):(((2^n:Nat):Int):Rat)=2^n:=by
 rw[Int.natCast_pow];exact pow2Q_cast n
theorem near_len{x:Rat}{a:Int}(h:Near1 x 0 a):x≤2^lenZ a∧-x≤2^lenZ a:=by
 obtain⟨h1,h2⟩:=h
 have h3:=lenZ_lt a
 have h4:a+1≤((2^lenZ a:Nat):Int):=by omega
 have h5:-a+1≤((2^lenZ a:Nat):Int):=by omega
 have g1:=Rat.intCast_le_intCast.2 h4
 have g2:=Rat.intCast_le_intCast.2 h5
 simp only[Rat.intCast_add,Rat.intCast_neg,natCast_pow2] at g1 g2
 rw[show(2:Rat)^0=1 by decide] at h1 h2
 have e1:((1:Int):Rat)=1:=rfl
 rw[e1] at g1 g2
 constructor<;>grind
theorem mulQ_bound{x y A B:Rat}(h1:x≤A)(h2:-x≤A)(h3:y≤B)(h4:-y≤B):x*y≤A*B∧-(x*y)≤A*B:=by
 have hA:0≤A:=by grind
 have hB:0≤B:=by grind
 have m1:=Rat.mul_nonneg (show 0≤A-x by grind) (show 0≤B+y by grind)
 have m2:=Rat.mul_nonneg (show 0≤A+x by grind) (show 0≤B-y by grind)
 have m3:=Rat.mul_nonneg (show 0≤A-x by grind) (show 0≤B-y by grind)
 have m4:=Rat.mul_nonneg (show 0≤A+x by grind) (show 0≤B+y by grind)
 constructor<;>grind
theorem near_prod{x y:Rat}{n ga gb:Nat}{a0 b0 p q:Int}(ha0:Near1 x 0 a0)(hga:ga=lenZ a0)(hb0:Near1 y 0 b0)(hgb:gb=lenZ b0)
  (hp:Near1 x (n+gb+3) p) (hq:Near1 y (n+ga+3) q):Near1 (x*y) n (nearZ (p*q) (n+ga+gb+6)):=by
 obtain⟨xa,xb⟩:=near_len ha0
 obtain⟨ya,yb⟩:=near_len hb0
 rw[←hga] at xa xb
 rw[←hgb] at ya yb
 obtain⟨p1,p2⟩:=hp
 obtain⟨q1,q2⟩:=hq
 obtain⟨z1,z2⟩:=nearZ_Q (p*q) (p:=n+ga+gb+6) (by omega)
 unfold Near1
 generalize hz:nearZ (p*q) (n+ga+gb+6)=z at*
 rw[Rat.intCast_mul] at z1 z2
 simp only[pow2Q_add,show(2:Rat)^3=8 by decide,show(2:Rat)^6=64 by decide] at*
 have hW:=pow2Q_ge1 n
 have hA:=pow2Q_ge1 ga
 have hB:=pow2Q_ge1 gb
 generalize (2:Rat)^n=W at*
 generalize (2:Rat)^ga=A at*
 generalize (2:Rat)^gb=B at*
 -- the sizes of what is multiplied
 have hWB:0≤W*B:=Rat.mul_nonneg (by grind) (by grind)
 have hWA:0≤W*A:=Rat.mul_nonneg (by grind) (by grind)
 have hX1:x*(W*B*8)≤A*(W*B*8):=Rat.mul_le_mul_of_nonneg_right xa (by grind)
 have hX2:-x*(W*B*8)≤A*(W*B*8):=Rat.mul_le_mul_of_nonneg_right xb (by grind)
 have hY1:y*(W*A*8)≤B*(W*A*8):=Rat.mul_le_mul_of_nonneg_right ya (by grind)
 have hY2:-y*(W*A*8)≤B*(W*A*8):=Rat.mul_le_mul_of_nonneg_right yb (by grind)
 -- (p-X) q+X (q-Y)
 have hq1:(q:Rat)≤A*B*W*8+1:=by grind
 have hq2:-(q:Rat)≤A*B*W*8+1:=by grind
 obtain⟨m1,m2⟩:=mulQ_bound (x:=(p:Rat)-x*(W*B*8)) (y:=(q:Rat)) (A:=1) (B:=A*B*W*8+1) (by grind) (by grind) hq1 hq2
 obtain⟨m3,m4⟩:=mulQ_bound (x:=x*(W*B*8)) (y:=(q:Rat)-y*(W*A*8)) (A:=A*B*W*8) (B:=1) (by grind) (by grind) (by grind) (by grind)
 have hAB:1≤A*B:=by
  have:=Rat.mul_nonneg (show 0≤A-1 by grind) (show 0≤B-1 by grind);grind
 have hABW:1≤A*B*W:=by
  have:=Rat.mul_nonneg (show 0≤A*B-1 by grind) (show 0≤W-1 by grind);grind
 have hpos:(0:Rat)<W*A*B*64:=by grind
 have key:(p:Rat)*(q:Rat)-x*y*W*(W*A*B*64)=((p:Rat)-x*(W*B*8))*(q:Rat)+x*(W*B*8)*((q:Rat)-y*(W*A*8)):=by grind
 constructor
 ·rw[←mul_le_iff hpos];grind
 ·rw[←mul_le_iff hpos];grind
theorem quot_far{y:Rat}{k:Nat}{b:Int}(hb:Near1 y (k+2) b)(h5:5≤b.natAbs):1≤absQ y*2^k:=by
 obtain⟨b1,b2⟩:=hb
 rw[pow2Q_add,show(2:Rat)^2=4 by decide] at b1 b2
 have hK:=pow2Q_pos k
 generalize (2:Rat)^k=K at*
 unfold absQ
 rcases Int.le_total 0 b with h|h
 ·have h1:(5:Int)≤b:=by omega
  have g1:(5:Rat)≤(b:Rat):=by exact_mod_cast h1
  have:¬y<0:=fun hy=>by
   have:=Rat.mul_lt_mul_of_pos_right hy hK
   grind
  rw[if_neg this];grind
 ·have h1:b≤(-5:Int):=by omega
  have g1:(b:Rat)≤(-5:Rat):=by
   have:=Rat.intCast_le_intCast.2 h1
   rwa[show((-5:Int):Rat)=-5 by decide] at this
  have:y<0:=by
   by_cases hy:y<0
   ·exact hy
   ·have:=Rat.mul_nonneg (show 0≤y by grind) (show 0≤K by grind)
    grind
  rw[if_pos this];grind
theorem absQ_cases(y:Rat):(0≤y∧absQ y=y)∨(y<0∧absQ y=-y):=by
 unfold absQ
 by_cases h:y<0
 ·exact .inr ⟨h,if_pos h⟩
 ·exact .inl ⟨by grind,if_neg h⟩
theorem quot_big{y:Rat}{n ga k:Nat}{q:Int}(hy:1≤absQ y*2^k)(hq:Near1 y (n+ga+2*k+4) q):15≤q.natAbs:=by
 obtain⟨q1,q2⟩:=hq
 rw[show n+ga+2*k+4=(n+ga+k+4)+k by omega,pow2Q_add] at q1 q2
 have hE:(16:Rat)≤2^(n+ga+k+4):=by
  rw[pow2Q_add,show(2:Rat)^4=16 by decide]
  have:=pow2Q_ge1 (n+ga+k)
  grind
 have hK:=pow2Q_pos k
 generalize (2:Rat)^(n+ga+k+4)=E at*
 generalize (2:Rat)^k=K at*
 have m:=Rat.mul_nonneg (show 0≤absQ y*K-1 by grind) (show 0≤E by grind)
 rcases absQ_cases y with⟨h1,h2⟩|⟨h1,h2⟩
 ·rw[h2] at m hy
  have:(15:Rat)≤(q:Rat):=by grind
  have:(15:Int)≤q:=by exact_mod_cast this
  omega
 ·rw[h2] at m hy
  have:(q:Rat)≤(-15:Rat):=by grind
  have:q≤(-15:Int):=Rat.intCast_le_intCast.1 (by rwa[show((-15:Int):Rat)=-15 by decide])
  omega
theorem near_quot{x y:Rat}{n ga k:Nat}{a0 p q:Int}(ha0:Near1 x 0 a0)(hga:ga=lenZ a0)(hy:1≤absQ y*2^k)
  (hp:Near1 x (n+k+3) p) (hq:Near1 y (n+ga+2*k+4) q):Near1 (x/y) n (dnZ (p*2^(n+ga+k+1)) q):=by
 obtain⟨xa,xb⟩:=near_len ha0
 rw[←hga] at xa xb
 have hq15:=quot_big hy hq
 obtain⟨p1,p2⟩:=hp
 obtain⟨q1,q2⟩:=hq
 have hd:=dnZ_spec (p*2^(n+ga+k+1)) (y:=q) (by omega)
 unfold Near1
 generalize dnZ (p*2^(n+ga+k+1)) q=z at*
 -- the quotient's number
 have hy0:y≠0:=by
  rintro rfl
  rw[show absQ 0=0 by decide] at hy
  grind
 generalize hr:x/y=r
 have hxr:x=r*y:=by rw[←hr];grind
 -- a number s of q's sign,of size|q|
 have hs:∃s:Rat,0<s*(q:Rat)∧(s=1∨s=-1):=by
  rcases Int.lt_or_le q 0 with h|h
  ·exact⟨-1,(by have:(q:Rat)<0:=(by exact_mod_cast h);grind), .inr rfl⟩
  ·exact⟨1,(by have:(0:Rat)<(q:Rat):=(by exact_mod_cast (show 0<q by omega));grind), .inl rfl⟩
 obtain⟨s,hs0,hs1⟩:=hs
 have hqa:((q.natAbs:Int):Rat)=s*(q:Rat):=by
  rw[natAbs_Q]
  rcases hs1 with rfl|rfl
  ·rw[if_neg (by grind)];grind
  ·rw[if_pos (by grind)];grind
 have h15:(15:Rat)≤s*(q:Rat):=by
  rw[←hqa];exact_mod_cast hq15
 -- 2|z q-p 2^e|<=|q|
 have hd1:2*(z*q-p*2^(n+ga+k+1))≤q.natAbs:=by omega
 have hd2:2*(p*2^(n+ga+k+1)-z*q)≤q.natAbs:=by omega
 have g1:=Rat.intCast_le_intCast.2 hd1
 have g2:=Rat.intCast_le_intCast.2 hd2
 simp only[Rat.intCast_sub,Rat.intCast_mul,pow2Q_cast,hqa] at g1 g2
 have e2:((2:Int):Rat)=2:=rfl
 rw[e2] at g1 g2
 rw[show n+ga+2*k+4=(n+ga+k+1)+k+3 by omega] at q1 q2
 simp only[pow2Q_add,show(2:Rat)^3=8 by decide,show(2:Rat)^1=2 by decide] at*
 have hW:=pow2Q_ge1 n
 have hA:=pow2Q_ge1 ga
 have hK:=pow2Q_ge1 k
 generalize (2:Rat)^n=W at*
 generalize (2:Rat)^ga=A at*
 generalize (2:Rat)^k=K at*
 -- Y=y*E with E=16 W A K K;X=x*8 W K
 have hWK:1≤W*K:=by have:=Rat.mul_nonneg (show 0≤W-1 by grind) (show 0≤K-1 by grind);grind
 have hWAK:1≤W*A*K:=by have:=Rat.mul_nonneg (show 0≤W*K-1 by grind) (show 0≤A-1 by grind);grind
 have hmain:(z:Rat)*(q:Rat)-r*W*(q:Rat)=((z:Rat)*(q:Rat)-(p:Rat)*(W*A*K*2))+(((p:Rat)-x*(W*K*8))*(W*A*K*2)-r*W*((q:Rat)-y*(W*A*K*2*K*8))):=by
  rw[hxr];grind
 -- |r|W<=A K W
 have hr1:r*y≤A∧-(r*y)≤A:=by rw[←hxr];exact⟨xa,xb⟩
 have hrb:r≤A*K∧-r≤A*K:=by
  rcases absQ_cases y with⟨h1,h2⟩|⟨h1,h2⟩
  ·rw[h2] at hy
   constructor
   ·by_cases h0:r≤0
    ·have:=Rat.mul_nonneg (show 0≤A by grind) (show 0≤K by grind);grind
    ·have:=Rat.mul_nonneg (show 0≤r by grind) (show 0≤y*K-1 by grind)
     have:=Rat.mul_nonneg (show 0≤A-r*y by grind) (show 0≤K by grind)
     grind
   ·by_cases h0:0≤r
    ·have:=Rat.mul_nonneg (show 0≤A by grind) (show 0≤K by grind);grind
    ·have:=Rat.mul_nonneg (show 0≤-r by grind) (show 0≤y*K-1 by grind)
     have:=Rat.mul_nonneg (show 0≤A+r*y by grind) (show 0≤K by grind)
     grind
  ·rw[h2] at hy
   constructor
   ·by_cases h0:r≤0
    ·have:=Rat.mul_nonneg (show 0≤A by grind) (show 0≤K by grind);grind
    ·have:=Rat.mul_nonneg (show 0≤r by grind) (show 0≤-y*K-1 by grind)
     have:=Rat.mul_nonneg (show 0≤A+r*y by grind) (show 0≤K by grind)
     grind
   ·by_cases h0:0≤r
    ·have:=Rat.mul_nonneg (show 0≤A by grind) (show 0≤K by grind);grind
    ·have:=Rat.mul_nonneg (show 0≤-r by grind) (show 0≤-y*K-1 by grind)
     have:=Rat.mul_nonneg (show 0≤A-r*y by grind) (show 0≤K by grind)
     grind
 have hrW1:r*W≤A*K*W:=Rat.mul_le_mul_of_nonneg_right hrb.1 (by grind)
 have hrW2:-r*W≤A*K*W:=Rat.mul_le_mul_of_nonneg_right hrb.2 (by grind)
 obtain⟨m1,m2⟩:=mulQ_bound (x:=(p:Rat)-x*(W*K*8)) (y:=W*A*K*2) (A:=1) (B:=W*A*K*2) (by grind) (by grind) (by grind) (by grind)
 obtain⟨m3,m4⟩:=mulQ_bound (x:=r*W) (y:=(q:Rat)-y*(W*A*K*2*K*8)) (A:=A*K*W) (B:=1) (by grind) (by grind) (by grind) (by grind)
 -- |q| >=|Y| -1>=16 W A K-1
 have hqY:16*(W*A*K)-1≤s*(q:Rat):=by
  have m:=Rat.mul_nonneg (show 0≤absQ y*K-1 by grind) (show 0≤W*A*K by grind)
  rcases absQ_cases y with⟨h1,h2⟩|⟨h1,h2⟩
  ·rw[h2] at m
   have hpos:0<(q:Rat):=by grind
   rcases hs1 with rfl|rfl<;>grind
  ·rw[h2] at m
   have hneg:(q:Rat)<0:=by grind
   rcases hs1 with rfl|rfl<;>grind
 rcases hs1 with rfl|rfl
 ·have hq0:(0:Rat)<(q:Rat):=by grind
  constructor
  ·rw[←mul_le_iff hq0];grind
  ·rw[←mul_le_iff hq0];grind
 ·have hq0:(0:Rat)< -(q:Rat):=by grind
  constructor
  ·rw[←mul_le_iff hq0];grind
  ·rw[←mul_le_iff hq0];grind
end Go.Proofs.YtlmmgjngihlpeaaGreat.Sx
