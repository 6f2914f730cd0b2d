import Derived.Test.YtlmmgjngihlpeaaGreatAskW
namespace Go.Proofs.YtlmmgjngihlpeaaGreat.Sx
open Go
set_option linter.unusedVariables false
set_option linter.unusedSimpArgs false
set_option maxRecDepth 100000
theorem valR_congr{v w:Nat→Rat}{x:List Int}(ha:usA (kd x)→v (xa x)=w (xa x))(hb:usB (kd x)→v (xb x)=w (xb x)):valR v x=valR w x:=by
 unfold valR
 unfold usA at ha
 unfold usB at hb
 by_cases k1:kd x=1
 ·rw[if_pos k1,if_pos k1]
 rw[if_neg k1,if_neg k1]
 by_cases k2:kd x=2
 ·rw[if_pos k2,if_pos k2,ha (by omega),hb (by omega)]
 rw[if_neg k2,if_neg k2]
 by_cases k3:kd x=3
 ·rw[if_pos k3,if_pos k3,ha (by omega),hb (by omega)]
 rw[if_neg k3,if_neg k3]
 by_cases k4:kd x=4
 ·rw[if_pos k4,if_pos k4,ha (by omega),hb (by omega)]
 rw[if_neg k4,if_neg k4]
 by_cases k5:kd x=5
 ·rw[if_pos k5,if_pos k5,ha (by omega),hb (by omega)]
 rw[if_neg k5,if_neg k5]
 by_cases k6:kd x=6
 ·rw[if_pos k6,if_pos k6,ha (by omega)]
 rw[if_neg k6,if_neg k6]
 by_cases k7:kd x=7
 ·rw[if_pos k7,if_pos k7,ha (by omega)]
 rw[if_neg k7,if_neg k7]
 by_cases k8:kd x=8
 ·rw[if_pos k8,if_pos k8,ha (by omega),hb (by omega)]
 rw[if_neg k8,if_neg k8]
 by_cases k9:kd x=9
 ·rw[if_pos k9,if_pos k9,ha (by omega),hb (by omega)]
 rw[if_neg k9,if_neg k9]
 by_cases k10:kd x=10
 ·rw[if_pos k10,if_pos k10,ha (by omega)]
 rw[if_neg k10,if_neg k10]
theorem valF_eq{X:Nat→List Int}{N:Nat}(hX:∀i,i<N→NdOk (X i) i):∀(f g i:Nat),i<N→i<f→i<g→valF X f i=valF X g i
 |0,_,i,_,h,_=>by omega
 |_+1,0,i,_,_,h=>by omega
 |f+1,g+1,i,hi,hf,hg=>by
  have hx:=hX i hi
  exact valR_congr (fun h=>valF_eq hX f g _ (by have:=hx.a h;omega) (by have:=hx.a h;omega) (by have:=hx.a h;omega)) (fun h=>valF_eq hX f g _ (by have:=hx.b h;omega) (by have:=hx.b h;omega) (by have:=hx.b h;omega))
theorem nds_of{u:Ty0}(h40:u.length≤40)(hu:OkFrom u 0):Nds u.length (fun i=>valF (nd u) (i+1) i) u:=by
 have ok:∀i,i<u.length→NdR (nd u i) i:=fun i hi=>by
  have h:OkN (kd (nd u i)) ((nd u i).tail.headD 0) ((nd u i).tail.tail.headD 0) (xp (nd u i)) (xq (nd u i)) i:=hu i (by omega) hi
  unfold OkN at h
  have ea:xa (nd u i)=((nd u i).tail.headD 0).toNat:=rfl
  have eb:xb (nd u i)=((nd u i).tail.tail.headD 0).toNat:=rfl
  refine⟨⟨fun h1=> ?_,fun h1=> ?_,fun h1=> ?_⟩, ?_,fun h1=> ?_,fun h1=> ?_⟩<;>(try unfold usA at h1)<;>(try unfold usB at h1)<;>omega
 refine⟨h40,ok,fun i hi=> ?_⟩
 have hx:=(ok i hi).toNdOk
 have hX:∀i,i<u.length→NdOk (nd u i) i:=fun i hi=>(ok i hi).toNdOk
 exact valR_congr (fun h=>valF_eq hX _ _ _ (by have:=hx.a h;omega) (by have:=hx.a h;omega) (by omega)) (fun h=>valF_eq hX _ _ _ (by have:=hx.b h;omega) (by have:=hx.b h;omega) (by omega))
def Okd(u:Ty0):Prop:=(1≤u.length∧u.length≤40)∧OkFrom u 0
open Classical in
theorem askedS{α:Type}(m a:Nat){u:Ty0}(hu:RowN u)(hm:1048576<m)(p q:Int)(k:Int→Option α):
  g34 m 0 u.length a p q u.length u k=if Okd u then(if(0≤p∧p<u.length)∧0≤q∧q≤64 then k 0 else k 2) else k 1:=by
 have h2:=hu.len
 rw[g34_o,g67L m a hu (by omega)]
 by_cases hu0:Okd u
 ·have hu1:(1≤u.length∧u.length≤40)∧OkFrom u 0:=hu0
  rw[dT hu1,if_pos hu0,Bool.not_true,cond_false,g68_o,g95L,wrapI (by omega) (by omega)]
  by_cases hp:0≤p∧p<u.length
  ·rw[dT (by omega),Bool.not_true,cond_false,g69_o,g95L]
   by_cases hq:0≤q∧q≤64
   ·rw[dT hq,Bool.not_true,cond_false,if_pos ⟨hp,hq⟩]
   ·rw[dF hq,if_neg (fun h=>hq h.2)];rfl
  ·rw[dF (by omega),if_neg (fun h=>hp h.1)];rfl
 ·have hu1:¬((1≤u.length∧u.length≤40)∧OkFrom u 0):=hu0
  rw[dF hu1,if_neg hu0];rfl
open Classical in
theorem begunI{α:Type}(m a:Nat){u:Ty0}(hu:RowN u)(hm:1048576<m)(p q w:Int)(k1:Int→Option α)(k:Ty4→Ty0→Option α):
  g31 m 0 u.length a q w 0 1 1 u.length u [p] k1 k=if Okd u then(if(0≤p∧p<u.length)∧0≤q∧q≤w then k [] [] else k1 2) else k1 1:=by
 have h2:=hu.len
 obtain⟨f,rfl⟩:∃f,m=f+2:=⟨m-2,by omega⟩
 rw[g31_o,g10L (f+2) a hu (by omega)]
 by_cases hu0:Okd u
 ·have hu1:(1≤u.length∧u.length≤40)∧OkFrom u 0:=hu0
  rw[dT hu1,if_pos hu0,Bool.not_true,cond_false,g64_o,show f+2=(f+1)+1 from rfl,g64l0_s,dT (by omega),cond_true,if_pos (by omega),if_pos (by decide),g40L,wrapI (x:=((u.length:Nat):Int)-1) (by omega) (by omega)]
  by_cases hp:0≤p∧p<u.length
  ·rw[dT (show 0≤List.getD [p] (0+(0:Int).toNat) 0∧List.getD [p] (0+(0:Int).toNat) 0≤((u.length:Nat):Int)-1 by
     show 0≤p∧p≤((u.length:Nat):Int)-1;omega),Bool.not_true,cond_false,g64l0_s,show IntKind.wrap .i64 ((0:Int)+1)=1 from by decide,dF (by omega),cond_false,cond_false,g40L]
   by_cases hq:0≤q∧q≤w
   ·rw[dT hq,Bool.not_true,cond_false,g65_o,if_pos ⟨hp,hq⟩]
   ·rw[dF hq,if_neg (fun h=>hq h.2)];rfl
  ·rw[dF (show¬(0≤List.getD [p] (0+(0:Int).toNat) 0∧List.getD [p] (0+(0:Int).toNat) 0≤((u.length:Nat):Int)-1) by
     show¬(0≤p∧p≤((u.length:Nat):Int)-1);omega),if_neg (fun h=>hp h.1)];rfl
 ·have hu1:¬((1≤u.length∧u.length≤40)∧OkFrom u 0):=hu0
  rw[dF hu1,if_neg hu0];rfl
theorem rows_nil(N:Nat):(List.replicate N []:Ty1)=rowsOf N ([]:List (Nat×Nat×Int)):=by
 unfold rowsOf
 refine List.ext_getElem (by simp) fun i h1 h2=> ?_
 simp
abbrev ms0:MS:=([],[])
theorem begS{α:Type}(m n a N:Nat)(u:Ty0)(h:N≤40)(k:Ty1→Ty0→Option α):g35 m n N a N u k=k (rowsOf N ms0.1) (logOf ms0.2):=by
 rw[g35_o,if_pos ⟨rfl,by omega,by omega⟩,rows_nil];rfl
theorem inv0(N:Nat)(v:Nat→Rat)(b:Nat):InvS N v b ms0:=⟨by simp,by simp,by simp,by simp,by simp,by simp⟩
theorem err_nz{β:Type}{P:β→MS→Prop}{r:Except Int (β×MS)}{c:Int}(ho:OkR P r)(hr:r= .error c):c≠0:=by
 subst hr
 have ho:c=3∨c=7:=ho
 omega
section
variable {u:Ty0} {m:Nat}
end
def SNear(x:Rat)(i:Nat)(S:Int):Prop:=4*(x*2^i)-4*(S:Rat)≤3∧4*(S:Rat)-4*(x*2^i)≤3
def dgt(e:Int):Int:=if 2<e then 1 else if e< -2 then-1 else 0
theorem dgt_le(e:Int):-1≤dgt e∧dgt e≤1:=by
 unfold dgt
 split
 ·omega
 ·split<;>omega
theorem sNear0{x:Rat}{a:Int}(h:Near1 x 2 a):SNear x 0 (nearZ a 2):=by
 obtain⟨h1,h2⟩:=h
 obtain⟨g1,g2⟩:=nearZ_Q a (p:=2) (by decide)
 rw[show(2:Rat)^2=4 by decide] at*
 unfold SNear
 rw[show(2:Rat)^0=1 by decide]
 constructor<;>grind
theorem sNear1{x:Rat}{i:Nat}{S a:Int}(h:SNear x i S)(ha:Near1 x (i+3) a):SNear x (i+1) (2*S+dgt (a-8*S)):=by
 obtain⟨h1,h2⟩:=h
 obtain⟨g1,g2⟩:=ha
 rw[pow2Q_add,show(2:Rat)^3=8 by decide] at*
 unfold SNear
 rw[pow2Q_add,show(2:Rat)^1=2 by decide,castAdd,Rat.intCast_mul]
 have e0:x*(2^i*2)=2*(x*2^i):=by generalize (2:Rat)^i=w;grind
 have e1:x*(2^i*8)=8*(x*2^i):=by generalize (2:Rat)^i=w;grind
 rw[e0]
 rw[e1] at g1 g2
 generalize x*2^i=y at*
 unfold dgt
 by_cases c1:2<a-8*S
 ·rw[if_pos c1]
  have c2:((8*S+3:Int):Rat)≤(a:Rat):=Rat.intCast_le_intCast.2 (by omega)
  rw[castAdd,Rat.intCast_mul] at c2
  constructor<;>grind
 ·rw[if_neg c1]
  have c2:(a:Rat)≤((8*S+2:Int):Rat):=Rat.intCast_le_intCast.2 (by omega)
  rw[castAdd,Rat.intCast_mul] at c2
  by_cases c3:a-8*S< -2
  ·rw[if_pos c3]
   have c4:(a:Rat)≤((8*S+(-3):Int):Rat):=Rat.intCast_le_intCast.2 (by omega)
   rw[castAdd,Rat.intCast_mul] at c4
   constructor<;>grind
  ·rw[if_neg c3]
   have c4:((8*S+(-2):Int):Rat)≤(a:Rat):=Rat.intCast_le_intCast.2 (by omega)
   rw[castAdd,Rat.intCast_mul] at c4
   constructor<;>grind
theorem sNear_abs{x:Rat}{i:Nat}{S a:Int}(h:SNear x i S)(ha:Near1 x (i+2) a):(4*S-a).natAbs≤4:=by
 obtain⟨h1,h2⟩:=h
 obtain⟨g1,g2⟩:=ha
 rw[pow2Q_add,show(2:Rat)^2=4 by decide] at*
 have e1:x*(2^i*4)=4*(x*2^i):=by generalize (2:Rat)^i=w;grind
 rw[e1] at g1 g2
 generalize x*2^i=y at*
 have c1:((4*S:Int):Rat)≤((a+4:Int):Rat):=by rw[castAdd,Rat.intCast_mul];grind
 have c2:((a:Int):Rat)≤((4*S+4:Int):Rat):=by rw[castAdd,Rat.intCast_mul];grind
 have d1:=Rat.intCast_le_intCast.1 c1
 have d2:=Rat.intCast_le_intCast.1 c2
 omega
def digV(W:Int)(L:List Int):Int:=L.foldl (fun s d=>2*s+d) W
theorem digV_snoc(W:Int)(L:List Int)(d:Int):digV W (L++[d])=2*digV W L+d:=by simp[digV,List.foldl_append]
section
variable {α:Type} {m:Nat}
theorem up3S(hm:300≤m){x:Int}(hx:x.natAbs<W192)(h8:(8*x).natAbs<W192)(k:Bool→List Int→Int→Option α):g77 m (zs x) (zl x) 3 k=k (zs (8*x)) (zl (8*x)) 0:=by
 obtain⟨n,rfl⟩:∃n,m=n+40:=⟨m-40,by omega⟩
 have e:x*2^3=8*x:=by omega
 have h:=g77Z (n:=n) 3 (by decide) hx k
 rw[e,fitZ_iff.2 h8,cond_true] at h
 exact h
theorem nextS(hm:300≤m){S:Int}(hS:(2*S).natAbs+1<W192){d:Int}(hd:-1≤d∧d≤1)(k:Bool→List Int→Int→Option α):g82 m (zs S) (zl S) d k=k (zs (2*S+d)) (zl (2*S+d)) 0:=by
 have hW:(1000:Nat)<W192:=by decide
 rw[g82_o,addS hm (by omega) (by omega),show S+S=2*S by omega,fitZ_iff.2 (by omega),cond_true,zc,ofS (by omega) (by omega),addS hm (by omega) (by omega),fitZ_iff.2 (by omega),cond_true]
theorem cmpI_gt2(e:Int):decide (cmpI e 2>0)=decide (2<e):=by
 unfold cmpI
 by_cases h:2<e
 ·rw[if_neg (by omega),if_pos h,dT h];rfl
 ·rw[dF h]
  split
  ·rfl
  ·rfl
theorem cmpI_lt2(e:Int):decide (cmpI e (-2)<0)=decide (e< -2):=by
 unfold cmpI
 by_cases h:e< -2
 ·rw[if_pos h,dT h];rfl
 ·rw[if_neg h,dF h]
  split<;>rfl
theorem cmpN_gt0(a b:Nat):decide (cmpN a b>0)=decide (b<a):=by
 unfold cmpN
 by_cases h:b<a
 ·rw[if_neg (by omega),if_pos h,dT h];rfl
 ·rw[dF h]
  split
  ·rfl
  ·rfl
theorem wrap8{x:Int}(h1:-128≤x)(h2:x≤127):IntKind.wrap .i8 x=x:=by
 unfold IntKind.wrap
 simp[IntKind.signed,IntKind.bits]
 omega
theorem addV(hm:300≤m){x y:Int}(hx:x.natAbs<W192)(hy:y.natAbs<W192)(hxy:(x+y).natAbs<W192)(a b c:Nat)(d:Int)(e:Nat)(g:Ty0)(M:Ty4)(L:Ty0)(k:Bool→List Int→Bool→Option α):
  g53v1 m (zs x) (zl x) (zs y) (zl y) false a b c d e g M L k=k (zs (x+y)) (zl (x+y)) false:=by
 rw[add1,addI hm hx hy,zt_of hxy,fitZ_iff.2 hxy];rfl
theorem subV(hm:300≤m){x y:Int}(hx:x.natAbs<W192)(hy:y.natAbs<W192)(hxy:(x-y).natAbs<W192)(a b c:Nat)(d:Int)(e:Nat)(g:Ty0)(M:Ty4)(L:Ty0)(k:Bool→List Int→Bool→Option α):
  g41v1 m (zs x) (zl x) (zs y) (zl y) false a b c d e g M L k=k (zs (x-y)) (zl (x-y)) false:=by
 rw[sub1,subI hm hx hy,zt_of hxy,fitZ_iff.2 hxy];rfl
theorem mulV(hm:300≤m){x y:Int}(hx:x.natAbs<W192)(hy:y.natAbs<W192)(hxy:(x*y).natAbs<W192)(a b c:Nat)(d:Int)(e:Nat)(g:Ty0)(M:Ty4)(L:Ty0)(k:Bool→List Int→Bool→Option α):
  g54v1 m (zs x) (zl x) (zs y) (zl y) false a b c d e g M L k=k (zs (x*y)) (zl (x*y)) false:=by
 rw[mul1,mulI hm hx hy,fitZ_iff.2 hxy];rfl
theorem dgt_big{e:Int}(h:2<e.natAbs):dgt e=e.sign:=by
 unfold dgt
 by_cases h1:2<e
 ·rw[if_pos h1,Int.sign_eq_one_of_pos (by omega)]
 ·rw[if_neg h1,if_pos (by omega),Int.sign_eq_neg_one_of_neg (by omega)]
theorem dgt_small{e:Int}(h:¬2<e.natAbs):dgt e=0:=by
 unfold dgt
 rw[if_neg (by omega),if_neg (by omega)]
end
section
variable {N:Nat} {v:Nat→Rat} {u:Ty0} {m:Nat}
theorem useEx2{K β ρ σ:Type}{F:K→β}{G:K→ρ→σ→β}(h:∀k,∃R L,F k=G k R L){k:K}{y:β}(hy:∀R L,G k R L=y):F k=y:=by
 obtain⟨R,L,e⟩:=h k
 exact e.trans (hy R L)
theorem useEx3{K β ρ σ τ:Type}{F:K→β}{G:K→ρ→σ→τ→β}(h:∀k,∃R L M,F k=G k R L M){k:K}{y:β}(hy:∀R L M,G k R L M=y):F k=y:=by
 obtain⟨R,L,M,e⟩:=h k
 exact e.trans (hy R L M)
theorem compareN2(hm:300≤m){x:Int}(hx:x.natAbs<W192){c:Nat}(hc:c<W192){α:Type}(k:Int→Option α):g46 m (zl x) (limbs 6 c) k=k (cmpN x.natAbs c):=by
 obtain⟨n,rfl⟩:∃n,m=n+7:=⟨m-7,by omega⟩
 exact g46L n hx hc k
def DRes{α:Type}(k1:Int→Option α)(k2:List Int→Option α):Except Int (List Int)→Option α
 | .ok L=>k2 L
 | .error c=>k1 c
structure DigOk (x:Rat) (q:Nat) (W:Int) (L:List Int):Prop where
 len:L.length=q
 one:∀d∈L,-1≤d∧d≤1
 near:SNear x q (digV W L)
noncomputable abbrev specDigL{α:Type}(m j q N:Nat)(u:Ty0)(kk:Bool→List Int→Int→List Int→Option α)(b:Bool)(l:List Int)(F w:Nat)(s:MS)(S:Int)(L:List Int):Option α:=
 g49l0 (g36 m) (g77 m) (g79 m) (g78 m) (g80 m) (g81 m) (g82 m) (j:Int) (q:Int) N u false [0,0,0,0,0,0] b l
  (fun x n1 n2 n3 n4 n5 n6 R z d L'=>kk false z x d) (fun n1 n2 n3 n4 n5 n6 R d L'=>kk b l 0 d) F (w:Int) 0 N N 0 N N (rowsOf N s.1) (zs S) (zl S) L (logOf s.2)
noncomputable abbrev implDigL{α:Type}(m j q N:Nat)(u:Ty0)(k1:Int→Option α)(k2:List Int→Option α)(k3:List Int→Option α)(b:Bool)(l:List Int)(F w:Nat)(s:MS)(S:Int)(L:List Int):Option α:=
 g47l0 (g48 m) (g33 m) (g55 m) (g54v1 m) (g41v1 m) (g46 m) (g75 m) (g53v1 m) (q:Int) (j:Int) N u false [0,0,0,0,0,0] b l
  (fun b n1 n2 n3 c M d L=>g33 m b n1 n2 n3 c N u M L (fun b x=>cond b (k1 x) (k3 d))) (fun b n1 n2 n3 c M d L=>g33 m b n1 n2 n3 c N u M L (fun b x=>cond b (k1 x) (k2 d)))
  F (w:Int) false 0 N N 0 (mapOf s.1) (zs S) (zl S) L (logOf s.2)
theorem dig_loop(hn:Nds N v u)(hm:1048576<m){j:Nat}(hj:j<N)(q:Nat)(hq:q≤64)(W:Int):∀(dd w F:Nat) (s:MS) (L:List Int),w+dd=q→dd<F→InvS N v N s→L.length=w→(∀d∈L,-1≤d∧d≤1)→SNear (v j) w (digV W L)→4*(digV W L).natAbs≤B190+4→
  ∃r:Except Int (List Int),(match r with| .ok L'=>DigOk (v j) q W L'| .error c=>c=3∨c=7)∧
  (∀{α:Type} (kk:Bool→List Int→Int→List Int→Option α) (b:Bool) (l:List Int),specDigL m j q N u kk b l F (w+1) s (digV W L) L=DRes (fun c=>kk false [0,0,0,0,0,0] c []) (fun L=>kk b l 0 L) r)∧
  (∀{α:Type} (k1:Int→Option α) (k2 k3:List Int→Option α) (b:Bool) (l:List Int),implDigL m j q N u k1 k2 k3 b l F (w+1) s (digV W L) L=DRes k1 k2 r)
 |0,w,F,s,L,hw,hF,hs,hL,h1,hS,hB=>by
  obtain⟨F,rfl⟩:∃n,F=n+1:=⟨F-1,by omega⟩
  refine⟨.ok L,⟨by omega,h1,by rw[show q=w by omega];exact hS⟩,fun kk b l=> ?_,fun k1 k2 k3 b l=> ?_⟩
  ·unfold specDigL
   rw[g49l0_s,dF (by omega),cond_false];rfl
  ·unfold implDigL
   rw[g47l0_s,dF (by omega),cond_false]
   exact failLive _ _ _
 |dd+1,w,F,s,L,hw,hF,hs,hL,h1,hS,hB=>by
  obtain⟨F,rfl⟩:∃n,F=n+1:=⟨F-1,by omega⟩
  have h40:=hn.n40
  have hWB:=b190W
  have hB0:=b190_pos
  have h1000:(1000:Nat)<W192:=by decide
  have hbig:(1000:Nat)<B190:=by decide
  have ho:=hn.good (f:=N) (n:=w+1+2) hj hj hj hs
  have hSk:=fun{α:Type} (k:Bool→List Int→Int→Nat→Nat→Nat→Nat→Nat→Nat→Nat→Ty0→Ty1→Ty0→Option α)=>(specAsk hn N m N (by omega) (Nat.le_refl _) (Nat.le_refl _)) j (w+1+2) s hj (by omega) hs k
  have hIk:=fun{α:Type} (k:Bool→List Int→Bool→Nat→Nat→Nat→Int→Nat→Ty0→Ty4→Ty0→Option α)=>(implAsk hn N m N (by omega) (Nat.le_refl _) (Nat.le_refl _)) j (w+1+2) s hj (by omega) hs k
  cases hr:askM (nd u) N j (w+1+2) s with
  |ok r=>
   obtain⟨a,s'⟩:=r
   rw[hr] at hSk hIk ho
   obtain⟨hna,hz,_,hs'⟩:=ho
   have hna3:Near1 (v j) (w+3) a:=by rw[show w+3=w+1+2 by omega];exact hna
   have hS':=sNear1 hS hna3
   have habs:=sNear_abs hS' (show Near1 (v j) (w+1+2) a from hna)
   have hd:=dgt_le (a-8*digV W L)
   have hV:digV W (L++[dgt (a-8*digV W L)])=2*digV W L+dgt (a-8*digV W L):=digV_snoc _ _ _
   obtain⟨r,hrk,e1,e2⟩:=dig_loop hn hm hj q hq W dd (w+1) F s' (L++[dgt (a-8*digV W L)]) (by omega) (by omega) hs' (by simp[hL]) (fun d hd'=>by
    rcases List.mem_append.1 hd' with h|h
    ·exact h1 d h
    ·simp only[List.mem_singleton] at h;subst h;exact hd) (by rw[hV];exact hS') (by rw[hV];omega)
   rw[hV] at e1 e2
   have hlen:L.length+1≤67108864:=by omega
   generalize hSe:digV W L=S at*
   generalize he:a-8*S=e at*
   have f8:(8*S).natAbs<W192:=by omega
   have fe:e.natAbs<W192:=by omega
   have fS:S.natAbs<W192:=by omega
   refine⟨r,hrk,fun kk b l=> ?_,fun k1 k2 k3 b l=> ?_⟩
   ·unfold specDigL at e1⊢
    rw[g49l0_s,dT (by omega),cond_true,wr2 (by omega)]
    refine(hSk _).trans ?_
    dsimp only
    rw[zc,up3S (by omega) fS f8,zc,g79Z m f8,←zl_neg (8*S),addS (by omega) (b190h hz) (by rw[Int.natAbs_neg];exact f8),←Int.sub_eq_add_neg,he,fitZ_iff.2 fe,cond_true,zc,ofS (by omega) (by omega),ofS (by omega) (by omega),cmpS (by omega) fe (by decide),cmpI_gt2]
    by_cases c1:2<e
    ·rw[dT c1,cond_true,nextS (by omega) (by omega) (by omega),zc,if_pos hlen,wrapS (by omega)]
     have ed:dgt e=1:=by unfold dgt;rw[if_pos c1]
     rw[ed] at e1
     exact e1 kk b l
    ·rw[dF c1,cond_false,cmpS (by omega) fe (by decide),cmpI_lt2]
     by_cases c2:e< -2
     ·rw[dT c2,cond_true,nextS (by omega) (by omega) (by omega),zc,if_pos hlen,wrapS (by omega)]
      have ed:dgt e=-1:=by unfold dgt;rw[if_neg c1,if_pos c2]
      rw[ed] at e1
      exact e1 kk b l
     ·rw[dF c2,cond_false,nextS (by omega) (by omega) (by omega),zc,if_pos hlen,wrapS (by omega)]
      have ed:dgt e=0:=by unfold dgt;rw[if_neg c1,if_neg c2]
      rw[ed] at e1
      exact e1 kk b l
   ·unfold implDigL at e2⊢
    rw[g47l0_s,dT (by omega),cond_true,wr2 (by omega),g48_o,wrap16N (by omega)]
    refine(hIk _).trans ?_
    dsimp only
    rw[failLive,cond_false,g55Z m (by omega) (by omega),mulV (by omega) (by decide) fS f8,subV (by omega) (b190h hz) f8 (by rw[he];exact fe),he,show([(2:Int),0,0,0,0,0]:List Int)=limbs 6 2 from rfl,compareN2 (by omega) fe (by decide),cmpN_gt0]
    by_cases c1:2<e.natAbs
    ·have ed:=dgt_big c1
     rw[ed] at e2
     have hs1:-1≤e.sign∧e.sign≤1:=by rw[←ed];exact dgt_le e
     rw[dT c1,cond_true,g75W m fe]
     obtain⟨hs2,hs3⟩:=hs1
     generalize e.sign=t at*
     rw[wrap8 (by omega) (by omega),if_pos hlen,g55Z m (by omega) (by omega),mulV (by omega) (by decide) fS (by omega),wrapI (by omega) (by omega),g55Z m (by omega) (by omega),addV (by omega) (by omega) (by omega) (by omega),failLive,cond_false,wrapS (by omega)]
     exact e2 k1 k2 k3 b l
    ·have ed:=dgt_small c1
     rw[ed] at e2
     rw[dF c1,cond_false,if_pos hlen,g55Z m (by omega) (by omega),mulV (by omega) (by decide) fS (by omega),g55Z m (by omega) (by omega),addV (by omega) (by omega) (by omega) (by omega),failLive,cond_false,wrapS (by omega)]
     exact e2 k1 k2 k3 b l
  |error c=>
   have hc:=err_nz ho hr
   rw[hr] at hSk hIk
   refine⟨.error c,by rw[hr] at ho;exact ho,fun kk b l=> ?_,fun k1 k2 k3 b l=> ?_⟩
   ·unfold specDigL
    rw[g49l0_s,dT (by omega),cond_true,wr2 (by omega)]
    refine useEx2 hSk fun R L'=> ?_
    dsimp only
    exact nzc hc _ _
   ·unfold implDigL
    rw[g47l0_s,dT (by omega),cond_true,wr2 (by omega),g48_o,wrap16N (by omega)]
    refine useEx3 hIk fun o M L'=> ?_
    dsimp only
    rw[failDead o hc,cond_true,failDead o hc];rfl
end
section
variable {u:Ty0} {m:Nat}
open Classical in
theorem dig_res(hU:RowN u)(hm:1048576<m)(p q:Int):
  (∃c:Int,c≠0∧(∀{α:Type} (k:Bool→List Int→Int→List Int→Option α),g17 m 0 u.length u.length p q u.length u k=k false [0,0,0,0,0,0] c [])∧
   (∀{α:Type} (k1:List Int→Int→Option α) (k2:Bool→List Int→List Int→Option α),g16 m 0 u.length u.length p q u.length u k1 k2=k1 [0,0,0,0,0,0] c)∧
   (Okd u→(0≤p∧p<u.length)∧0≤q∧q≤64→c=3∨c=7))∨
  ∃(j n:Nat) (W:Int) (L:List Int),p=j∧q=n∧j<u.length∧n≤64∧Okd u∧4*W.natAbs≤B190+4∧DigOk (valF (nd u) (j+1) j) n W L∧(∀{α:Type} (k:Bool→List Int→Int→List Int→Option α),g17 m 0 u.length u.length p q u.length u k=k (zs W) (zl W) 0 L)∧
   (∀{α:Type} (k1:List Int→Int→Option α) (k2:Bool→List Int→List Int→Option α),g16 m 0 u.length u.length p q u.length u k1 k2=k2 (zs W) (zl W) L):=by
 by_cases hok:Okd u
 ·by_cases hp:(0≤p∧p<u.length)∧0≤q∧q≤64
  ·obtain⟨j,rfl⟩:∃j:Nat,p=j:=⟨p.toNat,by omega⟩
   obtain⟨n,rfl⟩:∃n:Nat,q=n:=⟨q.toNat,by omega⟩
   have h40:=hok.1.2
   have hn:=nds_of hok.1.2 hok.2
   have hj:j<u.length:=by omega
   have ho:=hn.good (f:=u.length) (n:=2) hj hj hj (inv0 _ _ _)
   have hSk:=fun{α:Type} (k:Bool→List Int→Int→Nat→Nat→Nat→Nat→Nat→Nat→Nat→Ty0→Ty1→Ty0→Option α)=>(specAsk hn u.length m u.length (by omega) (Nat.le_refl _) (Nat.le_refl _)) j 2 ms0 hj (by omega) (inv0 _ _ _) k
   have hIk:=fun{α:Type} (k:Bool→List Int→Bool→Nat→Nat→Nat→Int→Nat→Ty0→Ty4→Ty0→Option α)=>(implAsk hn u.length m u.length (by omega) (Nat.le_refl _) (Nat.le_refl _)) j 2 ms0 hj (by omega) (inv0 _ _ _) k
   cases hr:askM (nd u) u.length j 2 ms0 with
   |ok r=>
    obtain⟨a,s'⟩:=r
    rw[hr] at hSk hIk ho
    obtain⟨hna,hz,_,hs'⟩:=ho
    have hS0:=sNear0 hna
    have habs:=sNear_abs hS0 (show Near1 _ (0+2) a from hna)
    have hW4:4*(nearZ a 2).natAbs≤B190+4:=by omega
    obtain⟨r,hrk,e1,e2⟩:=dig_loop hn hm hj n (by omega) (nearZ a 2) n 0 m s' [] (by omega) (by omega) hs' rfl (fun d hd=>nomatch hd) hS0 hW4
    have s0:∀{α:Type} (k:Bool→List Int→Int→List Int→Option α),g17 m 0 u.length u.length (j:Int) (n:Int) u.length u k=DRes (fun c=>k false [0,0,0,0,0,0] c []) (fun L=>k (zs (nearZ a 2)) (zl (nearZ a 2)) 0 L) r:=fun k=>by
     rw[g17_o,askedS m _ hU hm,if_pos hok,if_pos hp,zc,begS m 0 u.length u.length u h40,g49_o,show(2:Int)=((2:Nat):Int) from rfl]
     refine(hSk _).trans ?_
     dsimp only
     rw[zc,nearS (by omega) (by decide) (by decide) (b190h hz)]
     exact e1 k (zs (nearZ a 2)) (zl (nearZ a 2))
    have i0:∀{α:Type} (k1:List Int→Int→Option α) (k2:Bool→List Int→List Int→Option α),g16 m 0 u.length u.length (j:Int) (n:Int) u.length u k1 k2=DRes (fun c=>k1 [0,0,0,0,0,0] c) (fun L=>k2 (zs (nearZ a 2)) (zl (nearZ a 2)) L) r:=fun k1 k2=>by
     rw[g16_o,begunI m _ hU hm,if_pos hok,if_pos hp,g47_o,show(2:Int)=((2:Nat):Int) from rfl,g48_o,wrap16N (by omega)]
     refine(hIk _).trans ?_
     dsimp only
     rw[near1,nearI (by omega) _ (b190h hz),if_pos (by decide)]
     exact e2 (fun c=>k1 [0,0,0,0,0,0] c) (fun L=>k2 (zs (nearZ a 2)) (zl (nearZ a 2)) L) (fun d=>k1 d 0) (zs (nearZ a 2)) (zl (nearZ a 2))
    cases r with
    |ok L=>exact .inr ⟨j,n,nearZ a 2,L,rfl,rfl,hj,by omega,hok,hW4,hrk,s0,i0⟩
    |error c=>exact .inl ⟨c,by have hrk:c=3∨c=7:=hrk;omega,s0,i0,fun _ _=>hrk⟩
   |error c=>
    have hc:=err_nz ho hr
    rw[hr] at hSk hIk ho
    refine .inl ⟨c,hc,fun k=> ?_,fun k1 k2=> ?_,fun _ _=>ho⟩
    ·rw[g17_o,askedS m _ hU hm,if_pos hok,if_pos hp,zc,begS m 0 u.length u.length u h40,g49_o,show(2:Int)=((2:Nat):Int) from rfl]
     refine useEx2 hSk fun R L'=> ?_
     dsimp only
     exact nzc hc _ _
    ·rw[g16_o,begunI m _ hU hm,if_pos hok,if_pos hp,g47_o,show(2:Int)=((2:Nat):Int) from rfl,g48_o,wrap16N (by omega)]
     refine useEx3 hIk fun o M L'=> ?_
     dsimp only
     obtain⟨f,rfl⟩:∃f,m=f+1:=⟨m-1,by omega⟩
     rw[near1,nearI (by omega) _ (by decide),if_pos (by decide),g47l0_s]
     by_cases hn0:(1:Int)≤(n:Int)
     ·rw[dT hn0,cond_true,show IntKind.wrap .i64 ((1:Int)+2)=((3:Nat):Int) from by decide,g48_o,wrap16N (by omega)]
      refine((deadAsk f) _ _ _ _ _ _ hc _).trans ?_
      dsimp only
      rw[failDead _ hc,cond_true,failDead _ hc];rfl
     ·rw[dF hn0,cond_false,failDead _ hc];rfl
  ·refine .inl ⟨2,by decide,fun k=> ?_,fun k1 k2=> ?_,fun _ h=>absurd h hp⟩
   ·rw[g17_o,askedS m _ hU hm,if_pos hok,if_neg hp];rfl
   ·rw[g16_o,begunI m _ hU hm,if_pos hok,if_neg hp];rfl
 ·refine .inl ⟨1,by decide,fun k=> ?_,fun k1 k2=> ?_,fun h=>absurd h hok⟩
  ·rw[g17_o,askedS m _ hU hm,if_neg hok];rfl
  ·rw[g16_o,begunI m _ hU hm,if_neg hok];rfl
end
section
variable {α:Type}
theorem eqD0(m:Nat)(hm:0<m)(k:Bool→Option α):g23 m [] k=k true:=by
 obtain⟨m,rfl⟩:∃n,m=n+1:=⟨m-1,by omega⟩
 rw[g23_o,g23l0_s];rfl
theorem markD0(m:Nat)(hm:0<m)(p:Int)(k:Option α):g26 m p k=k:=by
 obtain⟨m,rfl⟩:∃n,m=n+1:=⟨m-1,by omega⟩
 rw[g26_o,g26l0_s];rfl
theorem heldD0(m:Nat)(hm:0<m)(p:Int)(k:Option α):g27 m p k=k:=by
 obtain⟨m,rfl⟩:∃n,m=n+1:=⟨m-1,by omega⟩
 rw[g27_o,g27l0_s];rfl
theorem eqDT(m:Nat)(u:List Int)(hn:u.length≤1048576)(hm:1048576<m)(k:Bool→Option α):g23v1 m u u k=k true:=by
 rw[g23v1_o,bne_self_eq_false,cond_false]
 have:=loopR (fun m' i=>g23v1l0 u u (k false) (k true) m' (i:Int)) (fun _=>k true) u.length (fun m'=> ?_) (fun m' i hi h=> ?_) u.length 0 m (by omega) (by omega)
 ·simpa using this
 ·rw[g23v1l0_s,dF (by omega),cond_false]
 ·rw[g23v1l0_s,dT (by omega),cond_true,if_pos (cast_lt hi),Int.toNat_natCast,if_pos hi,if_pos (cast_lt hi),if_pos hi,bne_self_eq_false,cond_false,wrapS (by omega),h]
def markD(p:Int)(i:Nat):Int:=IntKind.wrap .i8 (p+(i:Int))
def marksD(p:Int)(n:Nat):List Int:=(List.range n).map (markD p)
theorem marksD_length(p:Int)(n:Nat):(marksD p n).length=n:=by simp[marksD]
theorem marksD_at(p:Int){n i:Nat}(h:i<n):(marksD p n)[i]'(by rw[marksD_length];exact h)=markD p i:=by simp[marksD]
theorem markDL(m:Nat){u:List Int}(hlen:u.length≤1048576)(hm:1048576<m){p:Int}(h0:0≤p)(h1:p≤1099511627776)(k:Int→List Int→Option α):
  g26v1 m p u k=k (p+u.length) (marksD p u.length):=by
 rw[g26v1_o]
 have:=loopR (fun m i=>g26v1l0 (fun x l=>k x l) m (p+(i:Int)) (i:Int) ((marksD p u.length).take i++u.drop i)) (fun i=>k (p+u.length) (marksD p u.length)) u.length (fun m=> ?_) (fun m i hi h=> ?_) u.length 0 m (by omega) (by omega)
 ·simpa using this
 ·have hl:((marksD p u.length).take u.length++u.drop u.length).length=u.length:=by rw[List.length_append,List.length_take,List.length_drop,marksD_length];omega
  rw[g26v1l0_s,hl,dF (by omega),cond_false,List.drop_eq_nil_of_le (by omega),List.append_nil,List.take_of_length_le (by rw[marksD_length];omega)]
 ·have hl:((marksD p u.length).take i++u.drop i).length=u.length:=by rw[List.length_append,List.length_take,List.length_drop,marksD_length];omega
  have e:=marksD_at p hi
  rw[g26v1l0_s,hl,dT (by omega),cond_true,if_pos (cast_lt hi),Int.toNat_natCast,if_pos hi,wrapI (x:=p+(i:Int)+1) (by omega) (by omega),wrapS (by omega),show IntKind.wrap .i8 (p+(i:Int))=(marksD p u.length)[i]'(by rw[marksD_length];exact hi) from e.symm,
   set_over _ _ (by rw[marksD_length];exact hi) (by rw[marksD_length]),←h]
  congr 1
  omega
theorem heldDL(m n:Nat)(hlen:n≤1048576)(hm:1048576<m){p:Int}(h0:0≤p)(h1:p≤1099511627776)(k:Int→Option α):
  g27v1 m p (marksD p n) k=k (p+n):=by
 rw[g27v1_o]
 have:=loopR (fun m i=>g27v1l0 (marksD p n) (k (-1)) (fun x=>k x) m (p+(i:Int)) (i:Int)) (fun i=>k (p+n)) n (fun m=> ?_) (fun m i hi h=> ?_) n 0 m (by omega) (by omega)
 ·simpa using this
 ·rw[g27v1l0_s,marksD_length,dF (by omega),cond_false]
 ·have e:List.getD (marksD p n) i 0=markD p i:=by rw[getD_at _ _ (by rw[marksD_length];exact hi),marksD_at p hi]
  rw[g27v1l0_s,marksD_length,dT (by omega),cond_true,if_pos (cast_lt hi),Int.toNat_natCast,if_pos hi,e,show markD p i=IntKind.wrap .i8 (p+(i:Int)) from rfl,bne_self',cond_false,wrapI (x:=p+(i:Int)+1) (by omega) (by omega),wrapS (by omega),←h]
  congr 1
  omega
end
section
variable {u:Ty0}
theorem digLaw{α:Type}(m cap:Nat)(p q:Int){u:List (List Int)}(h5:EK.Ws (.rc [.i8, .i16, .i16, .i64, .i64]) u)(hu:u.length≤9223372036854775807)(hm:1048576<m)(k:Bool→Option α):
  g4 m 0 u.length cap p q u.length u k=k true:=by
 rw[g4_o,show(1048576:Int)=((1048576:Nat):Int) from rfl,g20L m 0 cap u (Nat.le_refl _) hu]
 by_cases hul:u.length≤1048576
 ·have hU:=rowN_of h5 hul
  have hm1:u.length<m:=by omega
  have m0:0<m:=by omega
  obtain⟨f,hf⟩:∃f,m=f+7:=⟨m-7,by omega⟩
  rw[if_pos hul,dF (by omega),cond_false,g21L m cap hU.toRow5 hm1]
  rcases dig_res hU hm p q with⟨c,hc,e1,e2,_⟩|⟨j,n,W,L,_,_,_,hn64,_,_,hdk,e1,e2⟩
  ·have ew:∀k:Bool→Option α,g22 m false [0,0,0,0,0,0] false [0,0,0,0,0,0] k=k true:=fun k=>by rw[hf];exact g22Eq f false rfl k
   rw[e1,g21L m cap hU.toRow5 hm1,e2,ew,Bool.not_true,cond_false,eqD0 m m0,Bool.not_true,cond_false,bne_self_eq_false,cond_false,g21L m cap hU.toRow5 hm1,g24T m _ _ _ _ hul hm,Bool.not_true,cond_false,
    g25L m _ _ rfl hul hm (by omega) (by omega),dF (by omega),cond_false,ew,Bool.not_true,cond_false,eqD0 m m0,Bool.not_true,cond_false,cond_false,markD0 m m0,heldD0 m m0,g21L m cap hU.toRow5 hm1,e2,ew,Bool.not_true,cond_false,eqD0 m m0,Bool.not_true,cond_false,bne_self_eq_false,cond_false,heldD0 m m0]
  ·have ew:∀k:Bool→Option α,g22 m (zs W) (zl W) (zs W) (zl W) k=k true:=fun k=>by rw[hf];exact g22Eq f (zs W) (zl_length W) k
   have hL:=hdk.len
   rw[e1,g21L m cap hU.toRow5 hm1,e2,ew,Bool.not_true,cond_false,eqDT m _ (by omega) hm,Bool.not_true,cond_false,bne_self_eq_false,cond_false,g21L m cap hU.toRow5 hm1,g24T m _ _ _ _ hul hm,Bool.not_true,cond_false,
    g25L m _ _ rfl hul hm (by omega) (by omega),dF (by omega),cond_false,ew,Bool.not_true,cond_false,eqDT m _ (by omega) hm,Bool.not_true,cond_false,cond_false,markDL m (by omega) hm (by omega) (by omega),heldDL m _ (by omega) hm (by omega) (by omega),dF (by omega),cond_false,bne_self_eq_false,cond_false,
    g21L m cap hU.toRow5 hm1,e2,ew,Bool.not_true,cond_false,eqDT m _ (by omega) hm,Bool.not_true,cond_false,cond_false,heldDL m _ (by omega) hm (by omega) (by omega),dF (by omega),cond_false,bne_self_eq_false,cond_false]
 ·rw[if_neg hul,dT (by omega),cond_true]
end
def apD:List AP:=[.sl (.rc [.i8, .i16, .i16, .i64, .i64]), .flat (.vl (.sv (.int .i64))), .flat (.vl (.sv (.int .i64)))]
theorem digLawm(m:Nat)(hm:1048576<m)(ls:List Lf)(hw:WA apD ls):g4K (g4 m) ls (fun v _ _=>saysTrue v)=some ():=by
 obtain⟨⟨a1,a2,a3,a4,a5,a6⟩,_⟩:=hw
 rw[maxLen_eq] at a4
 unfold g4K
 have e0:(lf ls 0).nat=0:=a1
 have e1:(lf ls 1).nat=((lf ls 6).lst (.rc [.i8, .i16, .i16, .i64, .i64])).length:=a5.symm
 have e3:(lf ls 5).nat=(lf ls 1).nat:=a2
 have c1:(lf ls 1).nat≤(lf ls 2).nat:=a3
 have c2:(lf ls 2).nat≤9223372036854775807:=a4
 have w1:EK.Ws (.rc [.i8, .i16, .i16, .i64, .i64]) ((lf ls 6).lst (.rc [.i8, .i16, .i16, .i64, .i64])):=a6
 rw[e3,e0,e1]
 exact digLaw m _ _ _ w1 (by omega) hm _
theorem digLaw'(ls:List Lf)(hw:WA apD ls):g4K (g4 1048577) ls (fun v _ _=>saysTrue v)=some ():=digLawm 1048577 (by omega) ls hw
end Go.Proofs.YtlmmgjngihlpeaaGreat.Sx
