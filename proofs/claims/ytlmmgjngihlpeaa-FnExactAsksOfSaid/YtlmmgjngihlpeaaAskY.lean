import Derived.Test.YtlmmgjngihlpeaaAskW
namespace Go.Proofs.Ytlmmgjngihlpeaa.Sx
open Go
set_option linter.unusedVariables false
set_option linter.unusedSimpArgs false
set_option maxRecDepth 100000
theorem valR_congr{v w:Nat→Rat}{x:List Int}(ha:usA (kd x)→v (xa x)=w (xa x))(hb:usB (kd x)→v (xb x)=w (xb x)):valR v x=valR w x:=by
 unfold valR
 unfold usA at ha
 unfold usB at hb
 by_cases k1:kd x=1
 ·rw[if_pos k1,if_pos k1]
 rw[if_neg k1,if_neg k1]
 by_cases k2:kd x=2
 ·rw[if_pos k2,if_pos k2,ha (by omega),hb (by omega)]
 rw[if_neg k2,if_neg k2]
 by_cases k3:kd x=3
 ·rw[if_pos k3,if_pos k3,ha (by omega),hb (by omega)]
 rw[if_neg k3,if_neg k3]
 by_cases k4:kd x=4
 ·rw[if_pos k4,if_pos k4,ha (by omega),hb (by omega)]
 rw[if_neg k4,if_neg k4]
 by_cases k5:kd x=5
 ·rw[if_pos k5,if_pos k5,ha (by omega),hb (by omega)]
 rw[if_neg k5,if_neg k5]
 by_cases k6:kd x=6
 ·rw[if_pos k6,if_pos k6,ha (by omega)]
 rw[if_neg k6,if_neg k6]
 by_cases k7:kd x=7
 ·rw[if_pos k7,if_pos k7,ha (by omega)]
 rw[if_neg k7,if_neg k7]
 by_cases k8:kd x=8
 ·rw[if_pos k8,if_pos k8,ha (by omega),hb (by omega)]
 rw[if_neg k8,if_neg k8]
 by_cases k9:kd x=9
 ·rw[if_pos k9,if_pos k9,ha (by omega),hb (by omega)]
 rw[if_neg k9,if_neg k9]
 by_cases k10:kd x=10
 ·rw[if_pos k10,if_pos k10,ha (by omega)]
 rw[if_neg k10,if_neg k10]
theorem valF_eq{X:Nat→List Int}{N:Nat}(hX:∀i,i<N→NdOk (X i) i):∀(f g i:Nat),i<N→i<f→i<g→valF X f i=valF X g i
 |0,_,i,_,h,_=>by omega
 |_+1,0,i,_,_,h=>by omega
 |f+1,g+1,i,hi,hf,hg=>by
  have hx:=hX i hi
  exact valR_congr (fun h=>valF_eq hX f g _ (by have:=hx.a h;omega) (by have:=hx.a h;omega) (by have:=hx.a h;omega)) (fun h=>valF_eq hX f g _ (by have:=hx.b h;omega) (by have:=hx.b h;omega) (by have:=hx.b h;omega))
theorem nds_of{u:Ty0}(h40:u.length≤40)(hu:OkFrom u 0):Nds u.length (fun i=>valF (nd u) (i+1) i) u:=by
 have ok:∀i,i<u.length→NdR (nd u i) i:=fun i hi=>by
  have h:OkN (kd (nd u i)) ((nd u i).tail.headD 0) ((nd u i).tail.tail.headD 0) (xp (nd u i)) (xq (nd u i)) i:=hu i (by omega) hi
  unfold OkN at h
  have ea:xa (nd u i)=((nd u i).tail.headD 0).toNat:=rfl
  have eb:xb (nd u i)=((nd u i).tail.tail.headD 0).toNat:=rfl
  refine⟨⟨fun h1=> ?_,fun h1=> ?_,fun h1=> ?_⟩, ?_,fun h1=> ?_,fun h1=> ?_⟩<;>(try unfold usA at h1)<;>(try unfold usB at h1)<;>omega
 refine⟨h40,ok,fun i hi=> ?_⟩
 have hx:=(ok i hi).toNdOk
 have hX:∀i,i<u.length→NdOk (nd u i) i:=fun i hi=>(ok i hi).toNdOk
 exact valR_congr (fun h=>valF_eq hX _ _ _ (by have:=hx.a h;omega) (by have:=hx.a h;omega) (by omega)) (fun h=>valF_eq hX _ _ _ (by have:=hx.b h;omega) (by have:=hx.b h;omega) (by omega))
def Okd(u:Ty0):Prop:=(1≤u.length∧u.length≤40)∧OkFrom u 0
open Classical in
theorem askedS{α:Type}(m a:Nat){u:Ty0}(hu:RowN u)(hm:1048576<m)(p q:Int)(k:Int→Option α):
  g75 m 0 u.length a p q u.length u k=if Okd u then(if(0≤p∧p<u.length)∧0≤q∧q≤64 then k 0 else k 2) else k 1:=by
 have h2:=hu.len
 rw[g75_o,g111L m a hu (by omega)]
 by_cases hu0:Okd u
 ·have hu1:(1≤u.length∧u.length≤40)∧OkFrom u 0:=hu0
  rw[dT hu1,if_pos hu0,Bool.not_true,cond_false,g90_o,g120L,wrapI (by omega) (by omega)]
  by_cases hp:0≤p∧p<u.length
  ·rw[dT (by omega),Bool.not_true,cond_false,g112_o,g120L]
   by_cases hq:0≤q∧q≤64
   ·rw[dT hq,Bool.not_true,cond_false,if_pos ⟨hp,hq⟩]
   ·rw[dF hq,if_neg (fun h=>hq h.2)];rfl
  ·rw[dF (by omega),if_neg (fun h=>hp h.1)];rfl
 ·have hu1:¬((1≤u.length∧u.length≤40)∧OkFrom u 0):=hu0
  rw[dF hu1,if_neg hu0];rfl
open Classical in
theorem begunI{α:Type}(m a:Nat){u:Ty0}(hu:RowN u)(hm:1048576<m)(p q w:Int)(k1:Int→Option α)(k:Ty4→Ty0→Option α):
  g79 m 0 u.length a q w 0 1 1 u.length u [p] k1 k=if Okd u then(if(0≤p∧p<u.length)∧0≤q∧q≤w then k [] [] else k1 2) else k1 1:=by
 have h2:=hu.len
 obtain⟨f,rfl⟩:∃f,m=f+2:=⟨m-2,by omega⟩
 rw[g79_o,g113L (f+2) a hu (by omega)]
 by_cases hu0:Okd u
 ·have hu1:(1≤u.length∧u.length≤40)∧OkFrom u 0:=hu0
  rw[dT hu1,if_pos hu0,Bool.not_true,cond_false,g114_o,show f+2=(f+1)+1 from rfl,g114l0_s,dT (by omega),cond_true,if_pos (by omega),if_pos (by decide),g68L,wrapI (x:=((u.length:Nat):Int)-1) (by omega) (by omega)]
  by_cases hp:0≤p∧p<u.length
  ·rw[dT (show 0≤List.getD [p] (0+(0:Int).toNat) 0∧List.getD [p] (0+(0:Int).toNat) 0≤((u.length:Nat):Int)-1 by
     show 0≤p∧p≤((u.length:Nat):Int)-1;omega),Bool.not_true,cond_false,g114l0_s,show IntKind.wrap .i64 ((0:Int)+1)=1 from by decide,dF (by omega),cond_false,cond_false,g68L]
   by_cases hq:0≤q∧q≤w
   ·rw[dT hq,Bool.not_true,cond_false,g115_o,if_pos ⟨hp,hq⟩]
   ·rw[dF hq,if_neg (fun h=>hq h.2)];rfl
  ·rw[dF (show¬(0≤List.getD [p] (0+(0:Int).toNat) 0∧List.getD [p] (0+(0:Int).toNat) 0≤((u.length:Nat):Int)-1) by
     show¬(0≤p∧p≤((u.length:Nat):Int)-1);omega),if_neg (fun h=>hp h.1)];rfl
 ·have hu1:¬((1≤u.length∧u.length≤40)∧OkFrom u 0):=hu0
  rw[dF hu1,if_neg hu0];rfl
theorem rows_nil(N:Nat):(List.replicate N []:Ty1)=rowsOf N ([]:List (Nat×Nat×Int)):=by
 unfold rowsOf
 refine List.ext_getElem (by simp) fun i h1 h2=> ?_
 simp
abbrev ms0:MS:=([],[])
theorem begS{α:Type}(m n a N:Nat)(u:Ty0)(h:N≤40)(k:Ty1→Ty0→Option α):g76 m n N a N u k=k (rowsOf N ms0.1) (logOf ms0.2):=by
 rw[g76_o,if_pos ⟨rfl,by omega,by omega⟩,rows_nil];rfl
theorem inv0(N:Nat)(v:Nat→Rat)(b:Nat):InvS N v b ms0:=⟨by simp,by simp,by simp,by simp,by simp,by simp⟩
theorem err_nz{β:Type}{P:β→MS→Prop}{r:Except Int (β×MS)}{c:Int}(ho:OkR P r)(hr:r= .error c):c≠0:=by
 subst hr
 have ho:c=3∨c=7:=ho
 omega
section
variable {u:Ty0} {m:Nat}
open Classical in
theorem ask_run(hok:Okd u)(hm:1048576<m){j n:Nat}(hj:j<u.length)(hn1:n≤1000):
  (∃(z:Int) (s':MS),z.natAbs<W192∧s'.2.length≤6440∧(∀q∈s'.2,q.1<u.length∧q.2≤160)∧
   (∀{α:Type} (k:Bool→List Int→Int→Nat→Nat→Nat→Nat→Nat→Nat→Nat→Ty0→Ty1→Ty0→Option α),g85 m (j:Int) (n:Int) 0 u.length u.length 0 u.length u.length u.length u (rowsOf u.length ms0.1) (logOf ms0.2) k=
    k (zs z) (zl z) 0 0 u.length u.length 0 u.length u.length u.length u (rowsOf u.length s'.1) (logOf s'.2))∧
   (∀{α:Type} (k:Bool→List Int→Bool→Nat→Nat→Nat→Int→Nat→Ty0→Ty4→Ty0→Option α),g86 m (j:Int) (n:Int) false 0 u.length u.length 0 u.length u (mapOf ms0.1) (logOf ms0.2) k=
    k (zs z) (zl z) false 0 u.length u.length 0 u.length u (mapOf s'.1) (logOf s'.2)))∨
  ∃c:Int,c≠0∧
   (∀{α:Type} (k:Bool→List Int→Int→Nat→Nat→Nat→Nat→Nat→Nat→Nat→Ty0→Ty1→Ty0→Option α),∃R L,g85 m (j:Int) (n:Int) 0 u.length u.length 0 u.length u.length u.length u (rowsOf u.length ms0.1) (logOf ms0.2) k=
    k false [0,0,0,0,0,0] c 0 u.length u.length 0 u.length u.length u.length u R L)∧
   (∀{α:Type} (k:Bool→List Int→Bool→Nat→Nat→Nat→Int→Nat→Ty0→Ty4→Ty0→Option α),∃o M L,g86 m (j:Int) (n:Int) false 0 u.length u.length 0 u.length u (mapOf ms0.1) (logOf ms0.2) k=
    k (zs 0) (zl 0) o 0 u.length u.length c u.length u M L):=by
 have hn:=nds_of hok.1.2 hok.2
 have h40:=hok.1.2
 have ho:=hn.good (f:=u.length) (n:=n) hj hj hj (inv0 _ _ _)
 have hS:=fun{α:Type} (k:Bool→List Int→Int→Nat→Nat→Nat→Nat→Nat→Nat→Nat→Ty0→Ty1→Ty0→Option α)=>(specAsk hn u.length m u.length (by omega) (Nat.le_refl _) (Nat.le_refl _)) j n ms0 hj hn1 (inv0 _ _ _) k
 have hI:=fun{α:Type} (k:Bool→List Int→Bool→Nat→Nat→Nat→Int→Nat→Ty0→Ty4→Ty0→Option α)=>(implAsk hn u.length m u.length (by omega) (Nat.le_refl _) (Nat.le_refl _)) j n ms0 hj hn1 (inv0 _ _ _) k
 cases hr:askM (nd u) u.length j n ms0 with
 |ok r=>
  obtain⟨z,s'⟩:=r
  rw[hr] at hS hI ho
  obtain⟨_,h1,_,h2⟩:=ho
  exact .inl ⟨z,s',b190h h1,(h2.short h40).1,h2.log,hS,hI⟩
 |error c=>
  have hc:=err_nz ho hr
  rw[hr] at hS hI
  exact .inr ⟨c,hc,hS,hI⟩
end
section
variable {α:Type}
theorem eqAsk0(m:Nat)(hm:0<m)(k:Bool→Option α):g46 m [] k=k true:=by
 obtain⟨m,rfl⟩:∃n,m=n+1:=⟨m-1,by omega⟩
 rw[g46_o,g46l0_s];rfl
theorem markAsk0(m:Nat)(hm:0<m)(p:Int)(k:Option α):g48 m p k=k:=by
 obtain⟨m,rfl⟩:∃n,m=n+1:=⟨m-1,by omega⟩
 rw[g48_o,g48l0_s];rfl
theorem heldAsk0(m:Nat)(hm:0<m)(p:Int)(k:Option α):g49 m p k=k:=by
 obtain⟨m,rfl⟩:∃n,m=n+1:=⟨m-1,by omega⟩
 rw[g49_o,g49l0_s];rfl
theorem eqAskT(m:Nat)(u:List (List Int))(hn:u.length≤1048576)(hm:1048576<m)(k:Bool→Option α):g46v1 m u u k=k true:=by
 rw[g46v1_o,bne_self_eq_false,cond_false]
 have:=loopR (fun m' i=>g46v1l0 (g93 m) u u (k false) (k true) m' (i:Int)) (fun _=>k true) u.length (fun m'=> ?_) (fun m' i hi h=> ?_) u.length 0 m (by omega) (by omega)
 ·simpa using this
 ·rw[g46v1l0_s,dF (by omega),cond_false]
 ·rw[g46v1l0_s,dT (by omega),cond_true,if_pos (cast_lt hi),Int.toNat_natCast,if_pos hi,if_pos (cast_lt hi),if_pos hi,g93_o,bne_self_eq_false,cond_false,bne_self_eq_false,cond_false,Bool.not_true,cond_false,wrapS (by omega),h]
def markA(p:Int)(i:Nat):List Int:=[IntKind.wrap .i16 (p+2*(i:Int)),IntKind.wrap .i16 (p+2*(i:Int)+1)]
def marksA(p:Int)(n:Nat):List (List Int):=(List.range n).map (markA p)
theorem marksA_length(p:Int)(n:Nat):(marksA p n).length=n:=by simp[marksA]
theorem marksA_at(p:Int){n i:Nat}(h:i<n):(marksA p n)[i]'(by rw[marksA_length];exact h)=markA p i:=by simp[marksA]
theorem markAskL(m:Nat){u:List (List Int)}(hlen:u.length≤1048576)(hm:1048576<m){p:Int}(h0:0≤p)(h1:p≤1099511627776)(k:Int→List (List Int)→Option α):
  g48v1 m p u k=k (p+2*u.length) (marksA p u.length):=by
 rw[g48v1_o]
 have:=loopR (fun m i=>g48v1l0 (fun x l=>k x l) m (p+2*(i:Int)) (i:Int) ((marksA p u.length).take i++u.drop i)) (fun i=>k (p+2*u.length) (marksA p u.length)) u.length (fun m=> ?_) (fun m i hi h=> ?_) u.length 0 m (by omega) (by omega)
 ·simpa using this
 ·have hl:((marksA p u.length).take u.length++u.drop u.length).length=u.length:=by rw[List.length_append,List.length_take,List.length_drop,marksA_length];omega
  rw[g48v1l0_s,hl,dF (by omega),cond_false,List.drop_eq_nil_of_le (by omega),List.append_nil,List.take_of_length_le (by rw[marksA_length];omega)]
 ·have hl:((marksA p u.length).take i++u.drop i).length=u.length:=by rw[List.length_append,List.length_take,List.length_drop,marksA_length];omega
  have hgs:∀x,List.getD (((marksA p u.length).take i++u.drop i).set i x) i []=x:=fun x=>getD_set_at _ _ _ (by omega)
  rw[g48v1l0_s,hl,dT (by omega),cond_true]
  dsimp only
  simp only[Int.toNat_natCast,List.length_set,hl,if_pos (cast_lt hi),if_pos hi,hgs,List.set_set,List.headD_cons,List.tail_cons]
  rw[wrapI (x:=p+2*(i:Int)+1) (by omega) (by omega),wrapI (x:=p+2*(i:Int)+1+1) (by omega) (by omega),wrapS (by omega)]
  have e:=marksA_at p hi
  unfold markA at e
  rw[←e,set_over _ _ (by rw[marksA_length];exact hi) (by rw[marksA_length]),←h]
  congr 1
  omega
theorem heldAskL(m n:Nat)(hlen:n≤1048576)(hm:1048576<m){p:Int}(h0:0≤p)(h1:p≤1099511627776)(k:Int→Option α):
  g49v1 m p (marksA p n) k=k (p+2*n):=by
 rw[g49v1_o]
 have:=loopR (fun m i=>g49v1l0 (marksA p n) (k (-1)) (fun x=>k x) m (p+2*(i:Int)) (i:Int)) (fun i=>k (p+2*n)) n (fun m=> ?_) (fun m i hi h=> ?_) n 0 m (by omega) (by omega)
 ·simpa using this
 ·rw[g49v1l0_s,marksA_length,dF (by omega),cond_false]
 ·have e:List.getD (marksA p n) i []=markA p i:=by rw[getD_at _ _ (by rw[marksA_length];exact hi),marksA_at p hi]
  rw[g49v1l0_s,marksA_length,dT (by omega),cond_true]
  dsimp only
  simp only[Int.toNat_natCast,if_pos (cast_lt hi),if_pos hi,e,markA,List.headD_cons,List.tail_cons]
  rw[wrapI (x:=p+2*(i:Int)+1) (by omega) (by omega),wrapI (x:=p+2*(i:Int)+1+1) (by omega) (by omega),wrapS (by omega)]
  simp only[bne_self',cond_false]
  rw[←h]
  congr 1
  omega
end
section
variable {u:Ty0} {m:Nat}
open Classical in
theorem asks_res(hU:RowN u)(hm:1048576<m)(p q:Int):
  (∃c:Int,(∀{α:Type} (k:Int→Ty0→Option α),g44 m 0 u.length u.length p q u.length u k=k c [])∧
   (∀{α:Type} (k1:Int→Option α) (k2:Ty0→Option α),g45 m 0 u.length u.length p q u.length u k1 k2=k1 c))∨
  ∃L:Ty0,L.length≤6440∧(∀{α:Type} (k:Int→Ty0→Option α),g44 m 0 u.length u.length p q u.length u k=k 0 L)∧
   (∀{α:Type} (k1:Int→Option α) (k2:Ty0→Option α),g45 m 0 u.length u.length p q u.length u k1 k2=k2 L):=by
 by_cases hok:Okd u
 ·by_cases hp:(0≤p∧p<u.length)∧0≤q∧q≤64
  ·obtain⟨j,rfl⟩:∃j:Nat,p=j:=⟨p.toNat,by omega⟩
   obtain⟨n,rfl⟩:∃n:Nat,q=n:=⟨q.toNat,by omega⟩
   have h40:=hok.1.2
   have s0:∀{α:Type} (k:Int→Ty0→Option α),g44 m 0 u.length u.length (j:Int) (n:Int) u.length u k=g85 m (j:Int) (n:Int) 0 u.length u.length 0 u.length u.length u.length u (rowsOf u.length ms0.1) (logOf ms0.2) (fun _ _ c _ _ _ _ _ _ _ _ _ L=>cond (c !=0) (k c []) (k 0 L)):=fun k=>by
    rw[g44_o,askedS m _ hU hm,if_pos hok,if_pos hp,zc,begS m 0 u.length u.length u h40]
   have i0:∀{α:Type} (k1:Int→Option α) (k2:Ty0→Option α),g45 m 0 u.length u.length (j:Int) (n:Int) u.length u k1 k2=g86 m (j:Int) (n:Int) false 0 u.length u.length 0 u.length u (mapOf ms0.1) (logOf ms0.2) (fun x l b n1 n2 n3 c _ _ M L=>g81 m b n1 n2 n3 c u.length u M L (fun b x'=>cond b (k1 x') (k2 L))):=fun k1 k2=>by
    rw[g45_o,begunI m _ hU hm,if_pos hok,if_pos hp,wrap16N (by omega)];rfl
   rcases ask_run (m:=m) hok hm (j:=j) (n:=n) (by omega) (by omega) with⟨z,s',h1,hl,_,h2,h3⟩|⟨c,hc,h2,h3⟩
   ·exact .inr ⟨logOf s'.2,by rw[log_len];exact hl,fun k=>(s0 k).trans (h2 _),fun k1 k2=>(i0 k1 k2).trans ((h3 _).trans (failLive _ _ _))⟩
   ·refine .inl ⟨c,fun k=>(s0 k).trans ?_,fun k1 k2=>(i0 k1 k2).trans ?_⟩
    ·obtain⟨R,L,h⟩:=h2 (fun _ _ c _ _ _ _ _ _ _ _ _ L=>cond (c !=0) (k c []) (k 0 L))
     exact h.trans (nzc hc _ _)
    ·obtain⟨o,M,L,h⟩:=h3 (fun x l b n1 n2 n3 c _ _ M L=>g81 m b n1 n2 n3 c u.length u M L (fun b x'=>cond b (k1 x') (k2 L)))
     exact h.trans (failDead o hc _ _ _)
  ·refine .inl ⟨2,fun k=> ?_,fun k1 k2=> ?_⟩
   ·rw[g44_o,askedS m _ hU hm,if_pos hok,if_neg hp];rfl
   ·rw[g45_o,begunI m _ hU hm,if_pos hok,if_neg hp];rfl
 ·refine .inl ⟨1,fun k=> ?_,fun k1 k2=> ?_⟩
  ·rw[g44_o,askedS m _ hU hm,if_neg hok];rfl
  ·rw[g45_o,begunI m _ hU hm,if_neg hok];rfl
theorem askLaw9{α:Type}(m cap:Nat)(p q:Int){u:List (List Int)}(h5:EK.Ws (.rc [.i8, .i16, .i16, .i64, .i64]) u)(hu:u.length≤9223372036854775807)(hm:1048576<m)(k:Bool→Option α):
  g9 m 0 u.length cap p q u.length u k=k true:=by
 rw[g9_o,show(1048576:Int)=((1048576:Nat):Int) from rfl,g30L m 0 cap u (Nat.le_refl _) hu]
 by_cases hul:u.length≤1048576
 ·have hU:=rowN_of h5 hul
  have hm1:u.length<m:=by omega
  have m0:0<m:=by omega
  rw[if_pos hul,dF (by omega),cond_false,g32L m cap hU.toRow5 hm1]
  rcases asks_res hU hm p q with⟨x,e1,e2⟩|⟨L,hL,e1,e2⟩
  ·rw[e1,g32L m cap hU.toRow5 hm1,e2,eqAsk0 m m0,Bool.not_true,cond_false,bne_self_eq_false,cond_false,g32L m cap hU.toRow5 hm1,g34T m _ _ _ _ hul hm,Bool.not_true,cond_false,
    g47L m _ _ rfl hul hm (by omega) (by omega),dF (by omega),cond_false,eqAsk0 m m0,Bool.not_true,cond_false,cond_false,markAsk0 m m0,heldAsk0 m m0,g32L m cap hU.toRow5 hm1,e2,eqAsk0 m m0,Bool.not_true,cond_false,bne_self_eq_false,cond_false,heldAsk0 m m0]
  ·rw[e1,g32L m cap hU.toRow5 hm1,e2,eqAskT m _ (by omega) hm,Bool.not_true,cond_false,bne_self_eq_false,cond_false,g32L m cap hU.toRow5 hm1,g34T m _ _ _ _ hul hm,Bool.not_true,cond_false,
    g47L m _ _ rfl hul hm (by omega) (by omega),dF (by omega),cond_false,eqAskT m _ (by omega) hm,Bool.not_true,cond_false,cond_false,markAskL m (by omega) hm (by omega) (by omega),heldAskL m _ (by omega) hm (by omega) (by omega),dF (by omega),cond_false,bne_self_eq_false,cond_false,
    g32L m cap hU.toRow5 hm1,e2,eqAskT m _ (by omega) hm,Bool.not_true,cond_false,cond_false,heldAskL m _ (by omega) hm (by omega) (by omega),dF (by omega),cond_false,bne_self_eq_false,cond_false]
 ·rw[if_neg hul,dT (by omega),cond_true]
end
def ap9:List AP:=[.sl (.rc [.i8, .i16, .i16, .i64, .i64]), .flat (.vl (.sv (.int .i64))), .flat (.vl (.sv (.int .i64)))]
theorem askLaw9m(m:Nat)(hm:1048576<m)(ls:List Lf)(hw:WA ap9 ls):g9K (g9 m) ls (fun v _ _=>saysTrue v)=some ():=by
 obtain⟨⟨a1,a2,a3,a4,a5,a6⟩,_⟩:=hw
 rw[maxLen_eq] at a4
 unfold g9K
 have e0:(lf ls 0).nat=0:=a1
 have e1:(lf ls 1).nat=((lf ls 6).lst (.rc [.i8, .i16, .i16, .i64, .i64])).length:=a5.symm
 have e3:(lf ls 5).nat=(lf ls 1).nat:=a2
 have c1:(lf ls 1).nat≤(lf ls 2).nat:=a3
 have c2:(lf ls 2).nat≤9223372036854775807:=a4
 have w1:EK.Ws (.rc [.i8, .i16, .i16, .i64, .i64]) ((lf ls 6).lst (.rc [.i8, .i16, .i16, .i64, .i64])):=a6
 rw[e3,e0,e1]
 exact askLaw9 m _ _ _ w1 (by omega) hm _
theorem askLaw9'(ls:List Lf)(hw:WA ap9 ls):g9K (g9 1048577) ls (fun v _ _=>saysTrue v)=some ():=askLaw9m 1048577 (by omega) ls hw
end Go.Proofs.Ytlmmgjngihlpeaa.Sx
