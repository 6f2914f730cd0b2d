import Derived.Test.YtlmmgjngihlpeaaGreatGskX
namespace Go.Proofs.YtlmmgjngihlpeaaGreat.Sx
open Go
set_option linter.unusedVariables false
set_option linter.unusedSimpArgs false
set_option maxRecDepth 100000
def SNear(x:Rat)(i:Nat)(S:Int):Prop:=4*(x*2^i)-4*(S:Rat)≤3∧4*(S:Rat)-4*(x*2^i)≤3
def dgt(e:Int):Int:=if 2<e then 1 else if e< -2 then-1 else 0
theorem dgt_le(e:Int):-1≤dgt e∧dgt e≤1:=by
 unfold dgt
 split
 ·omega
 ·split<;>omega
theorem sNear0{x:Rat}{a:Int}(h:Near1 x 2 a):SNear x 0 (nearZ a 2):=by
 obtain⟨h1,h2⟩:=h
 obtain⟨g1,g2⟩:=nearZ_Q a (p:=2) (by decide)
 rw[show(2:Rat)^2=4 by decide] at*
 unfold SNear
 rw[show(2:Rat)^0=1 by decide]
 constructor<;>grind
theorem sNear1{x:Rat}{i:Nat}{S a:Int}(h:SNear x i S)(ha:Near1 x (i+3) a):SNear x (i+1) (2*S+dgt (a-8*S)):=by
 obtain⟨h1,h2⟩:=h
 obtain⟨g1,g2⟩:=ha
 rw[pow2Q_add,show(2:Rat)^3=8 by decide] at*
 unfold SNear
 rw[pow2Q_add,show(2:Rat)^1=2 by decide,castAdd,Rat.intCast_mul]
 have e0:x*(2^i*2)=2*(x*2^i):=by generalize (2:Rat)^i=w;grind
 have e1:x*(2^i*8)=8*(x*2^i):=by generalize (2:Rat)^i=w;grind
 rw[e0]
 rw[e1] at g1 g2
 generalize x*2^i=y at*
 unfold dgt
 by_cases c1:2<a-8*S
 ·rw[if_pos c1]
  have c2:((8*S+3:Int):Rat)≤(a:Rat):=Rat.intCast_le_intCast.2 (by omega)
  rw[castAdd,Rat.intCast_mul] at c2
  constructor<;>grind
 ·rw[if_neg c1]
  have c2:(a:Rat)≤((8*S+2:Int):Rat):=Rat.intCast_le_intCast.2 (by omega)
  rw[castAdd,Rat.intCast_mul] at c2
  by_cases c3:a-8*S< -2
  ·rw[if_pos c3]
   have c4:(a:Rat)≤((8*S+(-3):Int):Rat):=Rat.intCast_le_intCast.2 (by omega)
   rw[castAdd,Rat.intCast_mul] at c4
   constructor<;>grind
  ·rw[if_neg c3]
   have c4:((8*S+(-2):Int):Rat)≤(a:Rat):=Rat.intCast_le_intCast.2 (by omega)
   rw[castAdd,Rat.intCast_mul] at c4
   constructor<;>grind
theorem sNear_abs{x:Rat}{i:Nat}{S a:Int}(h:SNear x i S)(ha:Near1 x (i+2) a):(4*S-a).natAbs≤4:=by
 obtain⟨h1,h2⟩:=h
 obtain⟨g1,g2⟩:=ha
 rw[pow2Q_add,show(2:Rat)^2=4 by decide] at*
 have e1:x*(2^i*4)=4*(x*2^i):=by generalize (2:Rat)^i=w;grind
 rw[e1] at g1 g2
 generalize x*2^i=y at*
 have c1:((4*S:Int):Rat)≤((a+4:Int):Rat):=by rw[castAdd,Rat.intCast_mul];grind
 have c2:((a:Int):Rat)≤((4*S+4:Int):Rat):=by rw[castAdd,Rat.intCast_mul];grind
 have d1:=Rat.intCast_le_intCast.1 c1
 have d2:=Rat.intCast_le_intCast.1 c2
 omega
theorem sNear_val{x:Rat}{i:Nat}{S a:Int}(h:SNear x i S)(ha:Near1 x i a):(S-a).natAbs≤1:=by
 obtain⟨h1,h2⟩:=h
 obtain⟨g1,g2⟩:=ha
 generalize x*2^i=y at*
 have c1:((4*S:Int):Rat)≤((4*a+7:Int):Rat):=by rw[castAdd,Rat.intCast_mul,Rat.intCast_mul];grind
 have c2:((4*a:Int):Rat)≤((4*S+7:Int):Rat):=by rw[castAdd,Rat.intCast_mul,Rat.intCast_mul];grind
 have d1:=Rat.intCast_le_intCast.1 c1
 have d2:=Rat.intCast_le_intCast.1 c2
 omega
def digV(W:Int)(L:List Int):Int:=L.foldl (fun s d=>2*s+d) W
theorem digV_snoc(W:Int)(L:List Int)(d:Int):digV W (L++[d])=2*digV W L+d:=by simp[digV,List.foldl_append]
section
variable {α:Type} {m:Nat}
theorem up3S(hm:300≤m){x:Int}(hx:x.natAbs<W192)(h8:(8*x).natAbs<W192)(k:Bool→List Int→Int→Option α):g77 m (zs x) (zl x) 3 k=k (zs (8*x)) (zl (8*x)) 0:=by
 obtain⟨n,rfl⟩:∃n,m=n+40:=⟨m-40,by omega⟩
 have e:x*2^3=8*x:=by omega
 have h:=g77Z (n:=n) 3 (by decide) hx k
 rw[e,fitZ_iff.2 h8,cond_true] at h
 exact h
theorem nextS(hm:300≤m){S:Int}(hS:(2*S).natAbs+1<W192){d:Int}(hd:-1≤d∧d≤1)(k:Bool→List Int→Int→Option α):g82 m (zs S) (zl S) d k=k (zs (2*S+d)) (zl (2*S+d)) 0:=by
 have hW:(1000:Nat)<W192:=by decide
 rw[g82_o,addS hm (by omega) (by omega),show S+S=2*S by omega,fitZ_iff.2 (by omega),cond_true,zc,ofS (by omega) (by omega),addS hm (by omega) (by omega),fitZ_iff.2 (by omega),cond_true]
theorem cmpI_gt2(e:Int):decide (cmpI e 2>0)=decide (2<e):=by
 unfold cmpI
 by_cases h:2<e
 ·rw[if_neg (by omega),if_pos h,dT h];rfl
 ·rw[dF h]
  split
  ·rfl
  ·rfl
theorem cmpI_lt2(e:Int):decide (cmpI e (-2)<0)=decide (e< -2):=by
 unfold cmpI
 by_cases h:e< -2
 ·rw[if_pos h,dT h];rfl
 ·rw[if_neg h,dF h]
  split<;>rfl
theorem cmpN_gt0(a b:Nat):decide (cmpN a b>0)=decide (b<a):=by
 unfold cmpN
 by_cases h:b<a
 ·rw[if_neg (by omega),if_pos h,dT h];rfl
 ·rw[dF h]
  split
  ·rfl
  ·rfl
theorem wrap8{x:Int}(h1:-128≤x)(h2:x≤127):IntKind.wrap .i8 x=x:=by
 unfold IntKind.wrap
 simp[IntKind.signed,IntKind.bits]
 omega
theorem addV(hm:300≤m){x y:Int}(hx:x.natAbs<W192)(hy:y.natAbs<W192)(hxy:(x+y).natAbs<W192)(d:Int)(g:Ty0)(M:Ty1)(L:Ty0)(k:Bool→List Int→Bool→Option α):
  g53v1 m (zs x) (zl x) (zs y) (zl y) false d g M L k=k (zs (x+y)) (zl (x+y)) false:=by
 rw[add1,addI hm hx hy,zt_of hxy,fitZ_iff.2 hxy];rfl
theorem subV(hm:300≤m){x y:Int}(hx:x.natAbs<W192)(hy:y.natAbs<W192)(hxy:(x-y).natAbs<W192)(d:Int)(g:Ty0)(M:Ty1)(L:Ty0)(k:Bool→List Int→Bool→Option α):
  g41v1 m (zs x) (zl x) (zs y) (zl y) false d g M L k=k (zs (x-y)) (zl (x-y)) false:=by
 rw[sub1,subI hm hx hy,zt_of hxy,fitZ_iff.2 hxy];rfl
theorem mulV(hm:300≤m){x y:Int}(hx:x.natAbs<W192)(hy:y.natAbs<W192)(hxy:(x*y).natAbs<W192)(d:Int)(g:Ty0)(M:Ty1)(L:Ty0)(k:Bool→List Int→Bool→Option α):
  g54v1 m (zs x) (zl x) (zs y) (zl y) false d g M L k=k (zs (x*y)) (zl (x*y)) false:=by
 rw[mul1,mulI hm hx hy,fitZ_iff.2 hxy];rfl
theorem dgt_big{e:Int}(h:2<e.natAbs):dgt e=e.sign:=by
 unfold dgt
 by_cases h1:2<e
 ·rw[if_pos h1,Int.sign_eq_one_of_pos (by omega)]
 ·rw[if_neg h1,if_pos (by omega),Int.sign_eq_neg_one_of_neg (by omega)]
theorem dgt_small{e:Int}(h:¬2<e.natAbs):dgt e=0:=by
 unfold dgt
 rw[if_neg (by omega),if_neg (by omega)]
end
section
variable {N:Nat} {v:Nat→Rat} {u:Ty0} {m:Nat}
theorem useEx2{K β ρ σ:Type}{F:K→β}{G:K→ρ→σ→β}(h:∀k,∃R L,F k=G k R L){k:K}{y:β}(hy:∀R L,G k R L=y):F k=y:=by
 obtain⟨R,L,e⟩:=h k
 exact e.trans (hy R L)
theorem useEx3{K β ρ σ τ:Type}{F:K→β}{G:K→ρ→σ→τ→β}(h:∀k,∃R L M,F k=G k R L M){k:K}{y:β}(hy:∀R L M,G k R L M=y):F k=y:=by
 obtain⟨R,L,M,e⟩:=h k
 exact e.trans (hy R L M)
theorem compareN2(hm:300≤m){x:Int}(hx:x.natAbs<W192){c:Nat}(hc:c<W192){α:Type}(k:Int→Option α):g46 m (zl x) (limbs 6 c) k=k (cmpN x.natAbs c):=by
 obtain⟨n,rfl⟩:∃n,m=n+7:=⟨m-7,by omega⟩
 exact g46L n hx hc k
def DRes{α:Type}(k1:Int→Option α)(k2:List Int→Option α):Except Int (List Int)→Option α
 | .ok L=>k2 L
 | .error c=>k1 c
structure DigOk (x:Rat) (q:Nat) (W:Int) (L:List Int):Prop where
 len:L.length=q
 one:∀d∈L,-1≤d∧d≤1
 near:SNear x q (digV W L)
noncomputable abbrev specDigL{α:Type}(m j q N:Nat)(u:Ty0)(kk:Bool→List Int→Int→List Int→Option α)(b:Bool)(l:List Int)(F w:Nat)(s:MS)(S:Int)(L:List Int):Option α:=
 g49l0 (g36 m) (g77 m) (g79 m) (g78 m) (g80 m) (g81 m) (g82 m) (j:Int) (q:Int) u false [0,0,0,0,0,0] b l
  (fun x n1 n2 n3 R z d L'=>kk false z x d) (fun n1 n2 n3 R d L'=>kk b l 0 d) F (w:Int) 0 N N (rowsOf N s.1) (zs S) (zl S) L (logOf s.2)
noncomputable abbrev implDigL{α:Type}(m j q N:Nat)(u:Ty0)(k1:Int→Option α)(k2:List Int→Option α)(k3:List Int→Option α)(b:Bool)(l:List Int)(F w:Nat)(s:MS)(S:Int)(L:List Int):Option α:=
 g47l0 (g48 m) (g33 m) (g55 m) (g54v1 m) (g41v1 m) (g46 m) (g75 m) (g53v1 m) (q:Int) (j:Int) u false [0,0,0,0,0,0] b l
  (fun b c M d L=>g33 m b c u M L (fun b x=>cond b (k1 x) (k3 d))) (fun b c M d L=>g33 m b c u M L (fun b x=>cond b (k1 x) (k2 d)))
  F (w:Int) false 0 (mapOf s.1) (zs S) (zl S) L (logOf s.2)
theorem dig_loop(hn:Nds N v u)(hm:1048576<m){j:Nat}(hj:j<N)(q:Nat)(hq:q≤64)(W:Int):∀(dd w F:Nat) (s:MS) (L:List Int),w+dd=q→dd<F→InvS N v N s→L.length=w→(∀d∈L,-1≤d∧d≤1)→SNear (v j) w (digV W L)→4*(digV W L).natAbs≤B190+4→
  ∃r:Except Int (List Int),(match r with| .ok L'=>DigOk (v j) q W L'| .error c=>c=3∨c=7)∧
  (∀{α:Type} (kk:Bool→List Int→Int→List Int→Option α) (b:Bool) (l:List Int),specDigL m j q N u kk b l F (w+1) s (digV W L) L=DRes (fun c=>kk false [0,0,0,0,0,0] c []) (fun L=>kk b l 0 L) r)∧
  (∀{α:Type} (k1:Int→Option α) (k2 k3:List Int→Option α) (b:Bool) (l:List Int),implDigL m j q N u k1 k2 k3 b l F (w+1) s (digV W L) L=DRes k1 k2 r)
 |0,w,F,s,L,hw,hF,hs,hL,h1,hS,hB=>by
  obtain⟨F,rfl⟩:∃n,F=n+1:=⟨F-1,by omega⟩
  refine⟨.ok L,⟨by omega,h1,by rw[show q=w by omega];exact hS⟩,fun kk b l=> ?_,fun k1 k2 k3 b l=> ?_⟩
  ·unfold specDigL
   rw[g49l0_s,dF (by omega),cond_false];rfl
  ·unfold implDigL
   rw[g47l0_s,dF (by omega),cond_false]
   exact failLive _ _ _
 |dd+1,w,F,s,L,hw,hF,hs,hL,h1,hS,hB=>by
  obtain⟨F,rfl⟩:∃n,F=n+1:=⟨F-1,by omega⟩
  have h40:=hn.n40
  have hWB:=b190W
  have hB0:=b190_pos
  have h1000:(1000:Nat)<W192:=by decide
  have hbig:(1000:Nat)<B190:=by decide
  have ho:=hn.good (f:=N) (n:=w+1+2) hj hj hj hs
  have hSk:=fun{α:Type} (k:Bool→List Int→Int→Nat→Nat→Nat→Ty0→Ty3→Ty0→Option α)=>(specAsk hn N m N (by omega) (Nat.le_refl _) (Nat.le_refl _)) j (w+1+2) s hj (by omega) hs k
  have hIk:=fun{α:Type} (k:Bool→List Int→Bool→Int→Ty0→Ty1→Ty0→Option α)=>(implAsk hn N m N (by omega) (Nat.le_refl _) (Nat.le_refl _)) j (w+1+2) s hj (by omega) hs k
  cases hr:askM (nd u) N j (w+1+2) s with
  |ok r=>
   obtain⟨a,s'⟩:=r
   rw[hr] at hSk hIk ho
   obtain⟨hna,hz,_,hs'⟩:=ho
   have hna3:Near1 (v j) (w+3) a:=by rw[show w+3=w+1+2 by omega];exact hna
   have hS':=sNear1 hS hna3
   have habs:=sNear_abs hS' (show Near1 (v j) (w+1+2) a from hna)
   have hd:=dgt_le (a-8*digV W L)
   have hV:digV W (L++[dgt (a-8*digV W L)])=2*digV W L+dgt (a-8*digV W L):=digV_snoc _ _ _
   obtain⟨r,hrk,e1,e2⟩:=dig_loop hn hm hj q hq W dd (w+1) F s' (L++[dgt (a-8*digV W L)]) (by omega) (by omega) hs' (by simp[hL]) (fun d hd'=>by
    rcases List.mem_append.1 hd' with h|h
    ·exact h1 d h
    ·simp only[List.mem_singleton] at h;subst h;exact hd) (by rw[hV];exact hS') (by rw[hV];omega)
   rw[hV] at e1 e2
   have hlen:L.length+1≤67108864:=by omega
   generalize hSe:digV W L=S at*
   generalize he:a-8*S=e at*
   have f8:(8*S).natAbs<W192:=by omega
   have fe:e.natAbs<W192:=by omega
   have fS:S.natAbs<W192:=by omega
   refine⟨r,hrk,fun kk b l=> ?_,fun k1 k2 k3 b l=> ?_⟩
   ·unfold specDigL at e1⊢
    rw[g49l0_s,dT (by omega),cond_true,wr2 (by omega)]
    refine(hSk _).trans ?_
    dsimp only
    rw[zc,up3S (by omega) fS f8,zc,g79Z m f8,←zl_neg (8*S),addS (by omega) (b190h hz) (by rw[Int.natAbs_neg];exact f8),←Int.sub_eq_add_neg,he,fitZ_iff.2 fe,cond_true,zc,ofS (by omega) (by omega),ofS (by omega) (by omega),cmpS (by omega) fe (by decide),cmpI_gt2]
    by_cases c1:2<e
    ·rw[dT c1,cond_true,nextS (by omega) (by omega) (by omega),zc,if_pos hlen,wrapS (by omega)]
     have ed:dgt e=1:=by unfold dgt;rw[if_pos c1]
     rw[ed] at e1
     exact e1 kk b l
    ·rw[dF c1,cond_false,cmpS (by omega) fe (by decide),cmpI_lt2]
     by_cases c2:e< -2
     ·rw[dT c2,cond_true,nextS (by omega) (by omega) (by omega),zc,if_pos hlen,wrapS (by omega)]
      have ed:dgt e=-1:=by unfold dgt;rw[if_neg c1,if_pos c2]
      rw[ed] at e1
      exact e1 kk b l
     ·rw[dF c2,cond_false,nextS (by omega) (by omega) (by omega),zc,if_pos hlen,wrapS (by omega)]
      have ed:dgt e=0:=by unfold dgt;rw[if_neg c1,if_neg c2]
      rw[ed] at e1
      exact e1 kk b l
   ·unfold implDigL at e2⊢
    rw[g47l0_s,dT (by omega),cond_true,wr2 (by omega),g48_o,wrap16N (by omega)]
    refine(hIk _).trans ?_
    dsimp only
    rw[failLive,cond_false,g55Z m (by omega) (by omega),mulV (by omega) (by decide) fS f8,subV (by omega) (b190h hz) f8 (by rw[he];exact fe),he,show([(2:Int),0,0,0,0,0]:List Int)=limbs 6 2 from rfl,compareN2 (by omega) fe (by decide),cmpN_gt0]
    by_cases c1:2<e.natAbs
    ·have ed:=dgt_big c1
     rw[ed] at e2
     have hs1:-1≤e.sign∧e.sign≤1:=by rw[←ed];exact dgt_le e
     rw[dT c1,cond_true,g75W m fe]
     obtain⟨hs2,hs3⟩:=hs1
     generalize e.sign=t at*
     rw[wrap8 (by omega) (by omega),if_pos hlen,g55Z m (by omega) (by omega),mulV (by omega) (by decide) fS (by omega),wrapI (by omega) (by omega),g55Z m (by omega) (by omega),addV (by omega) (by omega) (by omega) (by omega),failLive,cond_false,wrapS (by omega)]
     exact e2 k1 k2 k3 b l
    ·have ed:=dgt_small c1
     rw[ed] at e2
     rw[dF c1,cond_false,if_pos hlen,g55Z m (by omega) (by omega),mulV (by omega) (by decide) fS (by omega),g55Z m (by omega) (by omega),addV (by omega) (by omega) (by omega) (by omega),failLive,cond_false,wrapS (by omega)]
     exact e2 k1 k2 k3 b l
  |error c=>
   have hc:=err_nz ho hr
   rw[hr] at hSk hIk
   refine⟨.error c,by rw[hr] at ho;exact ho,fun kk b l=> ?_,fun k1 k2 k3 b l=> ?_⟩
   ·unfold specDigL
    rw[g49l0_s,dT (by omega),cond_true,wr2 (by omega)]
    refine useEx2 hSk fun R L'=> ?_
    dsimp only
    exact nzc hc _ _
   ·unfold implDigL
    rw[g47l0_s,dT (by omega),cond_true,wr2 (by omega),g48_o,wrap16N (by omega)]
    refine useEx3 hIk fun o M L'=> ?_
    dsimp only
    rw[failDead o hc,cond_true,failDead o hc];rfl
end
section
variable {u:Ty0} {m:Nat}
open Classical in
theorem dig_res(hU:RowN u)(hm:1048576<m)(p q:Int):
  (∃c:Int,c≠0∧(∀{α:Type} (k:Bool→List Int→Int→List Int→Option α),g17 m p q u k=k false [0,0,0,0,0,0] c [])∧
   (∀{α:Type} (k1:List Int→Int→Option α) (k2:Bool→List Int→List Int→Option α),g16 m p q u k1 k2=k1 [0,0,0,0,0,0] c)∧
   (Okd u→(0≤p∧p<u.length)∧0≤q∧q≤64→c=3∨c=7))∨
  ∃(j n:Nat) (W:Int) (L:List Int),p=j∧q=n∧j<u.length∧n≤64∧Okd u∧4*W.natAbs≤B190+4∧DigOk (valF (nd u) (j+1) j) n W L∧(∀{α:Type} (k:Bool→List Int→Int→List Int→Option α),g17 m p q u k=k (zs W) (zl W) 0 L)∧
   (∀{α:Type} (k1:List Int→Int→Option α) (k2:Bool→List Int→List Int→Option α),g16 m p q u k1 k2=k2 (zs W) (zl W) L):=by
 by_cases hok:Okd u
 ·by_cases hp:(0≤p∧p<u.length)∧0≤q∧q≤64
  ·obtain⟨j,rfl⟩:∃j:Nat,p=j:=⟨p.toNat,by omega⟩
   obtain⟨n,rfl⟩:∃n:Nat,q=n:=⟨q.toNat,by omega⟩
   have h40:=hok.1.2
   have hn:=nds_of hok.1.2 hok.2
   have hj:j<u.length:=by omega
   have ho:=hn.good (f:=u.length) (n:=2) hj hj hj (inv0 _ _ _)
   have hSk:=fun{α:Type} (k:Bool→List Int→Int→Nat→Nat→Nat→Ty0→Ty3→Ty0→Option α)=>(specAsk hn u.length m u.length (by omega) (Nat.le_refl _) (Nat.le_refl _)) j 2 ms0 hj (by omega) (inv0 _ _ _) k
   have hIk:=fun{α:Type} (k:Bool→List Int→Bool→Int→Ty0→Ty1→Ty0→Option α)=>(implAsk hn u.length m u.length (by omega) (Nat.le_refl _) (Nat.le_refl _)) j 2 ms0 hj (by omega) (inv0 _ _ _) k
   cases hr:askM (nd u) u.length j 2 ms0 with
   |ok r=>
    obtain⟨a,s'⟩:=r
    rw[hr] at hSk hIk ho
    obtain⟨hna,hz,_,hs'⟩:=ho
    have hS0:=sNear0 hna
    have habs:=sNear_abs hS0 (show Near1 _ (0+2) a from hna)
    have hW4:4*(nearZ a 2).natAbs≤B190+4:=by omega
    obtain⟨r,hrk,e1,e2⟩:=dig_loop hn hm hj n (by omega) (nearZ a 2) n 0 m s' [] (by omega) (by omega) hs' rfl (fun d hd=>nomatch hd) hS0 hW4
    have s0:∀{α:Type} (k:Bool→List Int→Int→List Int→Option α),g17 m (j:Int) (n:Int) u k=DRes (fun c=>k false [0,0,0,0,0,0] c []) (fun L=>k (zs (nearZ a 2)) (zl (nearZ a 2)) 0 L) r:=fun k=>by
     rw[g17_o,askedS m hU hm,if_pos hok,if_pos hp,zc,begS m u h40,g49_o,show(2:Int)=((2:Nat):Int) from rfl]
     refine(hSk _).trans ?_
     dsimp only
     rw[zc,nearS (by omega) (by decide) (by decide) (b190h hz)]
     exact e1 k (zs (nearZ a 2)) (zl (nearZ a 2))
    have i0:∀{α:Type} (k1:List Int→Int→Option α) (k2:Bool→List Int→List Int→Option α),g16 m (j:Int) (n:Int) u k1 k2=DRes (fun c=>k1 [0,0,0,0,0,0] c) (fun L=>k2 (zs (nearZ a 2)) (zl (nearZ a 2)) L) r:=fun k1 k2=>by
     rw[g16_o,begunI m hU hm,if_pos hok,if_pos hp,g47_o,show(2:Int)=((2:Nat):Int) from rfl,g48_o,wrap16N (by omega)]
     refine(hIk _).trans ?_
     dsimp only
     rw[near1,nearI (by omega) _ (b190h hz),if_pos (by decide)]
     exact e2 (fun c=>k1 [0,0,0,0,0,0] c) (fun L=>k2 (zs (nearZ a 2)) (zl (nearZ a 2)) L) (fun d=>k1 d 0) (zs (nearZ a 2)) (zl (nearZ a 2))
    cases r with
    |ok L=>exact .inr ⟨j,n,nearZ a 2,L,rfl,rfl,hj,by omega,hok,hW4,hrk,s0,i0⟩
    |error c=>exact .inl ⟨c,by have hrk:c=3∨c=7:=hrk;omega,s0,i0,fun _ _=>hrk⟩
   |error c=>
    have hc:=err_nz ho hr
    rw[hr] at hSk hIk ho
    refine .inl ⟨c,hc,fun k=> ?_,fun k1 k2=> ?_,fun _ _=>ho⟩
    ·rw[g17_o,askedS m hU hm,if_pos hok,if_pos hp,zc,begS m u h40,g49_o,show(2:Int)=((2:Nat):Int) from rfl]
     refine useEx2 hSk fun R L'=> ?_
     dsimp only
     exact nzc hc _ _
    ·rw[g16_o,begunI m hU hm,if_pos hok,if_pos hp,g47_o,show(2:Int)=((2:Nat):Int) from rfl,g48_o,wrap16N (by omega)]
     refine useEx3 hIk fun o M L'=> ?_
     dsimp only
     obtain⟨f,rfl⟩:∃f,m=f+1:=⟨m-1,by omega⟩
     rw[near1,nearI (by omega) _ (by decide),if_pos (by decide),g47l0_s]
     by_cases hn0:(1:Int)≤(n:Int)
     ·rw[dT hn0,cond_true,show IntKind.wrap .i64 ((1:Int)+2)=((3:Nat):Int) from by decide,g48_o,wrap16N (by omega)]
      refine((deadAsk (N:=u.length) f) _ _ _ _ _ _ hc _).trans ?_
      dsimp only
      rw[failDead _ hc,cond_true,failDead _ hc];rfl
     ·rw[dF hn0,cond_false,failDead _ hc];rfl
  ·refine .inl ⟨2,by decide,fun k=> ?_,fun k1 k2=> ?_,fun _ h=>absurd h hp⟩
   ·rw[g17_o,askedS m hU hm,if_pos hok,if_neg hp];rfl
   ·rw[g16_o,begunI m hU hm,if_pos hok,if_neg hp];rfl
 ·refine .inl ⟨1,by decide,fun k=> ?_,fun k1 k2=> ?_,fun h=>absurd h hok⟩
  ·rw[g17_o,askedS m hU hm,if_neg hok];rfl
  ·rw[g16_o,begunI m hU hm,if_neg hok];rfl
end
end Go.Proofs.YtlmmgjngihlpeaaGreat.Sx
