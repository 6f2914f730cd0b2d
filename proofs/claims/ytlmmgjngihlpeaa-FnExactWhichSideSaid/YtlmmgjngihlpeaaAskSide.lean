import Derived.Test.YtlmmgjngihlpeaaAskW
namespace Go.Proofs.Ytlmmgjngihlpeaa.Sx
open Go
set_option linter.unusedVariables false
set_option linter.unusedSimpArgs false
set_option maxRecDepth 100000
theorem valR_congr{v w:Nat→Rat}{x:List Int}(ha:usA (kd x)→v (xa x)=w (xa x))(hb:usB (kd x)→v (xb x)=w (xb x)):valR v x=valR w x:=by
 unfold valR
 unfold usA at ha
 unfold usB at hb
 by_cases k1:kd x=1
 ·rw[if_pos k1,if_pos k1]
 rw[if_neg k1,if_neg k1]
 by_cases k2:kd x=2
 ·rw[if_pos k2,if_pos k2,ha (by omega),hb (by omega)]
 rw[if_neg k2,if_neg k2]
 by_cases k3:kd x=3
 ·rw[if_pos k3,if_pos k3,ha (by omega),hb (by omega)]
 rw[if_neg k3,if_neg k3]
 by_cases k4:kd x=4
 ·rw[if_pos k4,if_pos k4,ha (by omega),hb (by omega)]
 rw[if_neg k4,if_neg k4]
 by_cases k5:kd x=5
 ·rw[if_pos k5,if_pos k5,ha (by omega),hb (by omega)]
 rw[if_neg k5,if_neg k5]
 by_cases k6:kd x=6
 ·rw[if_pos k6,if_pos k6,ha (by omega)]
 rw[if_neg k6,if_neg k6]
 by_cases k7:kd x=7
 ·rw[if_pos k7,if_pos k7,ha (by omega)]
 rw[if_neg k7,if_neg k7]
 by_cases k8:kd x=8
 ·rw[if_pos k8,if_pos k8,ha (by omega),hb (by omega)]
 rw[if_neg k8,if_neg k8]
 by_cases k9:kd x=9
 ·rw[if_pos k9,if_pos k9,ha (by omega),hb (by omega)]
 rw[if_neg k9,if_neg k9]
 by_cases k10:kd x=10
 ·rw[if_pos k10,if_pos k10,ha (by omega)]
 rw[if_neg k10,if_neg k10]
theorem valF_eq{X:Nat→List Int}{N:Nat}(hX:∀i,i<N→NdOk (X i) i):∀(f g i:Nat),i<N→i<f→i<g→valF X f i=valF X g i
 |0,_,i,_,h,_=>by omega
 |_+1,0,i,_,_,h=>by omega
 |f+1,g+1,i,hi,hf,hg=>by
  have hx:=hX i hi
  exact valR_congr (fun h=>valF_eq hX f g _ (by have:=hx.a h;omega) (by have:=hx.a h;omega) (by have:=hx.a h;omega)) (fun h=>valF_eq hX f g _ (by have:=hx.b h;omega) (by have:=hx.b h;omega) (by have:=hx.b h;omega))
theorem nds_of{u:Ty0}(h40:u.length≤40)(hu:OkFrom u 0):Nds u.length (fun i=>valF (nd u) (i+1) i) u:=by
 have ok:∀i,i<u.length→NdR (nd u i) i:=fun i hi=>by
  have h:OkN (kd (nd u i)) ((nd u i).tail.headD 0) ((nd u i).tail.tail.headD 0) (xp (nd u i)) (xq (nd u i)) i:=hu i (by omega) hi
  unfold OkN at h
  have ea:xa (nd u i)=((nd u i).tail.headD 0).toNat:=rfl
  have eb:xb (nd u i)=((nd u i).tail.tail.headD 0).toNat:=rfl
  refine⟨⟨fun h1=> ?_,fun h1=> ?_,fun h1=> ?_⟩, ?_,fun h1=> ?_,fun h1=> ?_⟩<;>(try unfold usA at h1)<;>(try unfold usB at h1)<;>omega
 refine⟨h40,ok,fun i hi=> ?_⟩
 have hx:=(ok i hi).toNdOk
 have hX:∀i,i<u.length→NdOk (nd u i) i:=fun i hi=>(ok i hi).toNdOk
 exact valR_congr (fun h=>valF_eq hX _ _ _ (by have:=hx.a h;omega) (by have:=hx.a h;omega) (by omega)) (fun h=>valF_eq hX _ _ _ (by have:=hx.b h;omega) (by have:=hx.b h;omega) (by omega))
def Okd(u:Ty0):Prop:=(1≤u.length∧u.length≤40)∧OkFrom u 0
open Classical in
theorem askedS{α:Type}(m a:Nat){u:Ty0}(hu:RowN u)(hm:1048576<m)(p q:Int)(k:Int→Option α):
  g75 m 0 u.length a p q u.length u k=if Okd u then(if(0≤p∧p<u.length)∧0≤q∧q≤64 then k 0 else k 2) else k 1:=by
 have h2:=hu.len
 rw[g75_o,g111L m a hu (by omega)]
 by_cases hu0:Okd u
 ·have hu1:(1≤u.length∧u.length≤40)∧OkFrom u 0:=hu0
  rw[dT hu1,if_pos hu0,Bool.not_true,cond_false,g90_o,g120L,wrapI (by omega) (by omega)]
  by_cases hp:0≤p∧p<u.length
  ·rw[dT (by omega),Bool.not_true,cond_false,g112_o,g120L]
   by_cases hq:0≤q∧q≤64
   ·rw[dT hq,Bool.not_true,cond_false,if_pos ⟨hp,hq⟩]
   ·rw[dF hq,if_neg (fun h=>hq h.2)];rfl
  ·rw[dF (by omega),if_neg (fun h=>hp h.1)];rfl
 ·have hu1:¬((1≤u.length∧u.length≤40)∧OkFrom u 0):=hu0
  rw[dF hu1,if_neg hu0];rfl
theorem rows_nil(N:Nat):(List.replicate N []:Ty1)=rowsOf N ([]:List (Nat×Nat×Int)):=by
 unfold rowsOf
 refine List.ext_getElem (by simp) fun i h1 h2=> ?_
 simp
abbrev ms0:MS:=([],[])
theorem begS{α:Type}(m n a N:Nat)(u:Ty0)(h:N≤40)(k:Ty1→Ty0→Option α):g76 m n N a N u k=k (rowsOf N ms0.1) (logOf ms0.2):=by
 rw[g76_o,if_pos ⟨rfl,by omega,by omega⟩,rows_nil];rfl
theorem inv0(N:Nat)(v:Nat→Rat)(b:Nat):InvS N v b ms0:=⟨by simp,by simp,by simp,by simp,by simp,by simp⟩
theorem err_nz{β:Type}{P:β→MS→Prop}{r:Except Int (β×MS)}{c:Int}(ho:OkR P r)(hr:r= .error c):c≠0:=by
 subst hr
 have ho:c=3∨c=7:=ho
 omega
section
variable {u:Ty0} {m:Nat}
end
section
variable {α:Type} {m:Nat}
theorem bigS(hm:300≤m){z:Int}(hz:z.natAbs<W192)(q:Bool)(c:Nat)(hc:c≤1000)(k:Bool→Option α):g88 m q (zl z) (c:Int) k=k (decide (c≤z.natAbs)):=by
 have hW:(1000:Nat)<W192:=by decide
 rw[g88_o,ofS (by omega) (by omega),show false=zs (z.natAbs:Int) from(zs_nat _).symm,show zl z=zl (z.natAbs:Int) from rfl,cmpS hm (by omega) (by omega)]
 congr 1
 unfold cmpI
 by_cases h:c≤z.natAbs
 ·rw[dT h,if_neg (by omega)]
  split<;>rfl
 ·rw[dF h,if_pos (by omega)];rfl
theorem compareN(hm:300≤m){x:Int}(hx:x.natAbs<W192){c:Nat}(hc:c<W192)(k:Int→Option α):g89 m (zl x) (limbs 6 c) k=k (cmpN x.natAbs c):=by
 obtain⟨n,rfl⟩:∃n,m=n+7:=⟨m-7,by omega⟩
 exact g89L n hx hc k
end
section
variable {N:Nat} {v:Nat→Rat} {u:Ty0} {m:Nat}
def T3{α:Type}(k1:Int→Int→Int→Option α)(k2:Option α):Option (Int×Int×Int)→Option α
 |some (x,y,c)=>k1 x y c
 |none=>k2
end
theorem look_put{M:List (Nat×Nat×Int)}{i n:Nat}{z:Int}(h:lookM M i n=none):lookM (M++[(i,n,z)]) i n=some z:=by
 induction M with
 |nil=>simp[lookM]
 |cons e r ih=>
  simp only[List.cons_append,lookM] at h⊢
  split at h
  ·cases h
  ·rename_i he
   rw[if_neg he];exact ih h
section
variable {N:Nat} {v:Nat→Rat} {u:Ty0} {m:Nat}
theorem ask_look(hn:Nds N v u){f i b n:Nat}{s s':MS}{z:Int}(hf:i<f)(hi:i<N)(hb:i<b)(hs:InvS N v b s)(h:askM (nd u) f i n s= .ok (z,s')):lookM s'.1 i n=some z:=by
 obtain⟨f,rfl⟩:∃g,f=g+1:=⟨f-1,by omega⟩
 unfold askM at h
 cases hk:lookM s.1 i n with
 |some z0=>
  rw[hk] at h
  simp only[Except.ok.injEq,Prod.mk.injEq] at h
  obtain⟨rfl,rfl⟩:=h
  exact hk
 |none=>
  rw[hk] at h
  dsimp only at h
  by_cases h160:160<n
  ·rw[if_pos h160] at h;cases h
  ·rw[if_neg h160] at h
   have ho:=ruleM_ok (hn.goodA (f:=f) (i:=i) (by omega) (by omega)) (hn.ok i hi).toNdOk (hn.val i hi) (n:=n) (by omega) (hs.ask hb hi (by omega) hk)
   cases hr:ruleM (askM (nd u) f) (nd u i) n (s.1,s.2++[(i,n)]) with
   |error c=>rw[hr] at h;cases h
   |ok r=>
    obtain⟨z1,s1⟩:=r
    rw[hr] at h ho
    simp only[Except.ok.injEq,Prod.mk.injEq] at h
    obtain⟨rfl,rfl⟩:=h
    obtain⟨_,_,_,d,l,e1,_,e3,_⟩:=ho
    dsimp only at e1⊢
    rw[e1]
    exact look_put (look_app hk e3)
theorem ask_again{X:Nat→List Int}{f i n:Nat}{s:MS}{z:Int}(hf:0<f)(h:lookM s.1 i n=some z):askM X f i n s= .ok (z,s):=by
 obtain⟨f,rfl⟩:∃g,f=g+1:=⟨f-1,by omega⟩
 unfold askM
 rw[h]
theorem apartS(hn:Nds N v u)(hm:1048576<m){a b n:Nat}(ha:a<N)(hb:b<N)(hn1:n≤1000){s:MS}(hs:InvS N v N s){α:Type}(k:Bool→List Int→Int→Nat→Nat→Nat→Nat→Nat→Nat→Ty1→Ty0→Option α):
  Sp (Er N k) (Dr N k) (g91 m (a:Int) (b:Int) (n:Int) 0 N N 0 N N N u (rowsOf N s.1) (logOf s.2) k) (mbind (askM (nd u) N a n) (fun x=>mbind (askM (nd u) N b n) fun y=>mpure (y-x)) s):=by
 have h40:=hn.n40
 have hA:SpecOK N v u N N (fun{α}=>g85 (α:=α) m):=specAsk hn N m N (by omega) (Nat.le_refl _) (Nat.le_refl _)
 have hW:=b190W
 have hB:=b190_pos
 rw[g91_o]
 refine Sp.bind (hn.good ha ha ha hs) (hA a n s ha hn1 hs _) (fun x s1 ⟨_,hx,_,hs1⟩=> ?_) (fun c R L hc=>nzc hc _ _)
 rw[zc]
 refine Sp.bind (hn.good hb hb hb hs1) (hA b n s1 hb hn1 hs1 _) (fun y s2 ⟨_,hy,_,hs2⟩=> ?_) (fun c R L hc=>nzc hc _ _)
 rw[zc,g121Z m (b190h hx),←zl_neg x,addS (by omega) (b190h hy) (by rw[Int.natAbs_neg];exact b190h hx),←Int.sub_eq_add_neg,fitZ_iff.2 (by omega),cond_true]
 exact Sp.pure rfl
def sgn3(d:Int):Int:=if d.natAbs<3 then 0 else d.sign
theorem apartI(hm:300≤m){x y:Int}(hx:x.natAbs≤B190)(hy:y.natAbs≤B190)(o:Bool)(c:Int)(M:Ty4)(L:Ty0){α:Type}(k:Int→Bool→Option α):
  g92 m (zs x) (zl x) (zs y) (zl y) o 0 N N c N u M L k=k (sgn3 (y-x)) o:=by
 have hW:=b190W
 have hB:=b190_pos
 have hf:(y-x).natAbs<W192:=by omega
 rw[g92_o,sub1,subI hm (b190h hy) (b190h hx),zt_of hf,fitZ_iff.2 hf,Bool.not_true,Bool.or_false,show([3,0,0,0,0,0]:List Int)=limbs 6 3 from rfl,compareN hm hf (by decide),cmpN_lt0]
 unfold sgn3
 by_cases h:(y-x).natAbs<3
 ·rw[dT h,cond_true,if_pos h]
 ·rw[dF h,cond_false,if_neg h,g54W m hf]
theorem sgn3_pos(d:Int):decide (sgn3 d>0)=decide (3≤d):=by
 unfold sgn3
 by_cases h:d.natAbs<3
 ·rw[if_pos h,dF (by omega),dF (by omega)]
 ·rw[if_neg h]
  rcases Int.lt_trichotomy d 0 with h1|h1|h1
  ·rw[Int.sign_eq_neg_one_of_neg h1,dF (by omega),dF (by omega)]
  ·omega
  ·rw[Int.sign_eq_one_of_pos h1,dT (by omega),dT (by omega)]
theorem side3{β:Type}(d:Int)(x y:β):cond (decide (3≤d.natAbs)) (cond (!(zs d)) x y) y=cond (decide (3≤d)) x y:=by
 by_cases h:3≤d
 ·rw[dT (show 3≤d.natAbs by omega),dT h,show zs d=false from decide_eq_false (by omega)];rfl
 ·rw[dF h]
  by_cases h2:3≤d.natAbs
  ·rw[dT h2,show zs d=true from decide_eq_true (by omega)];rfl
  ·rw[dF h2];rfl
theorem Sp_ok{α β:Type}{E:β→MS→Option α}{D:Int→Ty1→Ty0→Option α}{x:Option α}{r:Except Int (β×MS)}{z:β}{s:MS}(h:Sp E D x r)(hr:r= .ok (z,s)):x=E z s:=by subst hr;exact h
theorem Sp_err{α β:Type}{E:β→MS→Option α}{D:Int→Ty1→Ty0→Option α}{x y:Option α}{r:Except Int (β×MS)}{c:Int}(h:Sp E D x r)(hr:r= .error c)(hD:∀R L,D c R L=y):x=y:=by
 subst hr
 obtain⟨R,L,h⟩:=h
 exact h.trans (hD R L)
theorem Ip_ok{α β:Type}{E:β→MS→Option α}{D:Bool→Int→Ty4→Ty0→Option α}{x:Option α}{r:Except Int (β×MS)}{z:β}{s:MS}(h:Ip E D x r)(hr:r= .ok (z,s)):x=E z s:=by subst hr;exact h
theorem Ip_err{α β:Type}{E:β→MS→Option α}{D:Bool→Int→Ty4→Ty0→Option α}{x y:Option α}{r:Except Int (β×MS)}{c:Int}(h:Ip E D x r)(hr:r= .error c)(hD:∀o M L,D o c M L=y):x=y:=by
 subst hr
 obtain⟨o,M,L,h⟩:=h
 exact h.trans (hD o M L)
theorem side_loop(hn:Nds N v u)(hm:1048576<m){a b c:Nat}(ha:a<N)(hb:b<N)(hc:c<N)(q:Nat)(hq:q≤64):∀(d w F:Nat) (s:MS),w+d=q+1→d<F→InvS N v N s→∃r:Option (Int×Int×Int),
  (∀{α:Type} (k1:Int→Int→Int→Option α) (k2:Option α),g42l0 (g91 m) (g88 m) (a:Int) (b:Int) (c:Int) (q:Int) N u k1 k2 F (w:Int) 0 N N 0 N N (rowsOf N s.1) (logOf s.2)=T3 k1 k2 r)∧
  (∀{α:Type} (k1:Int→Int→Int→Option α) (k2:Option α),g43l0v1 (g86 m) (g92 m) (g81 m) (a:Int) (b:Int) (c:Int) (q:Int) N u k1 k2 F (w:Int) false 0 N N 0 (mapOf s.1) (logOf s.2)=T3 k1 k2 r)
 |0,w,F,s,hw,hF,hs=>by
  obtain⟨F,rfl⟩:∃n,F=n+1:=⟨F-1,by omega⟩
  refine⟨none,fun k1 k2=> ?_,fun k1 k2=> ?_⟩
  ·rw[g42l0_s,dF (by omega),cond_false];rfl
  ·rw[g43l0v1_s,dF (by omega),cond_false];rfl
 |d+1,w,F,s,hw,hF,hs=>by
  obtain⟨F,rfl⟩:∃n,F=n+1:=⟨F-1,by omega⟩
  have h40:=hn.n40
  have hW:=b190W
  have hB:=b190_pos
  obtain⟨m',hm'⟩:∃n,m=n+1:=⟨m-1,by omega⟩
  have hD:DeadOK N u (fun{α}=>g86 (α:=α) m):=by rw[hm'];exact deadAsk m'
  have hDa:∀{α:Type} (j n:Int) (o:Bool) {c:Int} (M:Ty4) (L:Ty0),c≠0→∀k:Bool→List Int→Bool→Nat→Nat→Nat→Int→Nat→Ty0→Ty4→Ty0→Option α,
   g86 m j n o 0 N N c N u M L k=k (zs 0) (zl 0) o 0 N N c N u M L:= @fun α j n o c M L hc k=>hD j n o c M L hc k
  have hI:ImplOK N v u N N (fun{α}=>g86 (α:=α) m):=implAsk hn N m N (by omega) (Nat.le_refl _) (Nat.le_refl _)
  have h0:(0:Int).natAbs≤B190:=by decide
  have hoa:=hn.good (f:=N) (n:=w+2) ha ha ha hs
  cases hra:askM (nd u) N a (w+2) s with
  |error e=>
   have he:=err_nz hoa hra
   refine⟨some (0,0,e),fun k1 k2=> ?_,fun k1 k2=> ?_⟩
   ·rw[g42l0_s,dT (by omega),cond_true,wr2 (by omega)]
    exact Sp_err (apartS hn hm ha hc (by omega) hs _) (c:=e) (by unfold mbind;rw[hra]) (fun R L=>nzc he _ _)
   ·rw[g43l0v1_s,dT (by omega),cond_true,wr2 (by omega),wrap16N (by omega),wrap16N (by omega),wrap16N (by omega)]
    refine Ip_err (hI a (w+2) s ha (by omega) hs _) hra (fun o M L=> ?_)
    rw[hDa _ _ _ _ _ he,hDa _ _ _ _ _ he,apartI (by omega) h0 h0,apartI (by omega) h0 h0,failDead o he,cond_true];rfl
  |ok ra=>
  obtain⟨za,s1⟩:=ra
  rw[hra] at hoa
  obtain⟨_,hza,_,hs1⟩:=hoa
  have hoc:=hn.good (f:=N) (n:=w+2) hc hc hc hs1
  cases hrc:askM (nd u) N c (w+2) s1 with
  |error e=>
   have he:=err_nz hoc hrc
   refine⟨some (0,0,e),fun k1 k2=> ?_,fun k1 k2=> ?_⟩
   ·rw[g42l0_s,dT (by omega),cond_true,wr2 (by omega)]
    exact Sp_err (apartS hn hm ha hc (by omega) hs _) (c:=e) (by unfold mbind;rw[hra];dsimp only;rw[hrc]) (fun R L=>nzc he _ _)
   ·rw[g43l0v1_s,dT (by omega),cond_true,wr2 (by omega),wrap16N (by omega),wrap16N (by omega),wrap16N (by omega)]
    refine(Ip_ok (hI a (w+2) s ha (by omega) hs _) hra).trans ?_
    refine Ip_err (hI c (w+2) s1 hc (by omega) hs1 _) hrc (fun o M L=> ?_)
    rw[hDa _ _ _ _ _ he,apartI (by omega) hza h0,apartI (by omega) h0 h0,failDead o he,cond_true];rfl
  |ok rc=>
  obtain⟨zc',s2⟩:=rc
  rw[hrc] at hoc
  obtain⟨_,hzc,_,hs2⟩:=hoc
  have hag:askM (nd u) N c (w+2) s2= .ok (zc',s2):=ask_again (by omega) (ask_look hn hc hc hc hs1 hrc)
  have hM1:mbind (askM (nd u) N a (w+2)) (fun x=>mbind (askM (nd u) N c (w+2)) fun y=>mpure (y-x)) s= .ok (zc'-za,s2):=by
   unfold mbind;rw[hra];dsimp only;rw[hrc];rfl
  have hob:=hn.good (f:=N) (n:=w+2) hb hb hb hs2
  cases hrb:askM (nd u) N b (w+2) s2 with
  |error e=>
   have he:=err_nz hob hrb
   refine⟨some (0,0,e),fun k1 k2=> ?_,fun k1 k2=> ?_⟩
   ·rw[g42l0_s,dT (by omega),cond_true,wr2 (by omega)]
    refine(Sp_ok (apartS hn hm ha hc (by omega) hs _) hM1).trans ?_
    dsimp only[Er]
    rw[zc]
    exact Sp_err (apartS hn hm hc hb (by omega) hs2 _) (c:=e) (by unfold mbind;rw[hag];dsimp only;rw[hrb]) (fun R L=>nzc he _ _)
   ·rw[g43l0v1_s,dT (by omega),cond_true,wr2 (by omega),wrap16N (by omega),wrap16N (by omega),wrap16N (by omega)]
    refine(Ip_ok (hI a (w+2) s ha (by omega) hs _) hra).trans ?_
    refine(Ip_ok (hI c (w+2) s1 hc (by omega) hs1 _) hrc).trans ?_
    refine Ip_err (hI b (w+2) s2 hb (by omega) hs2 _) hrb (fun o M L=> ?_)
    rw[apartI (by omega) hza hzc,apartI (by omega) hzc h0,failDead o he,cond_true];rfl
  |ok rb=>
  obtain⟨zb,s3⟩:=rb
  rw[hrb] at hob
  obtain⟨_,hzb,_,hs3⟩:=hob
  have hM2:mbind (askM (nd u) N c (w+2)) (fun x=>mbind (askM (nd u) N b (w+2)) fun y=>mpure (y-x)) s2= .ok (zb-zc',s3):=by
   unfold mbind;rw[hag];dsimp only;rw[hrb];rfl
  have f1:(zc'-za).natAbs<W192:=by omega
  have f2:(zb-zc').natAbs<W192:=by omega
  have hspec:∀{α:Type} (k1:Int→Int→Int→Option α) (k2:Option α),g42l0 (g91 m) (g88 m) (a:Int) (b:Int) (c:Int) (q:Int) N u k1 k2 (F+1) (w:Int) 0 N N 0 N N (rowsOf N s.1) (logOf s.2)=
    cond (decide (3≤zc'-za)) (k1 1 w 0) (cond (decide (3≤zb-zc')) (k1 2 w 0)
     (g42l0 (g91 m) (g88 m) (a:Int) (b:Int) (c:Int) (q:Int) N u k1 k2 F ((w+1:Nat):Int) 0 N N 0 N N (rowsOf N s3.1) (logOf s3.2))):=fun k1 k2=>by
   rw[g42l0_s,dT (by omega),cond_true,wr2 (by omega)]
   refine(Sp_ok (apartS hn hm ha hc (by omega) hs _) hM1).trans ?_
   dsimp only[Er]
   rw[zc]
   refine(Sp_ok (apartS hn hm hc hb (by omega) hs2 _) hM2).trans ?_
   dsimp only[Er]
   rw[zc,show(3:Int)=((3:Nat):Int) from rfl,bigS (by omega) f1 _ 3 (by omega),bigS (by omega) f2 _ 3 (by omega),side3,side3,wrapS (by omega)];rfl
  have himpl:∀{α:Type} (k1:Int→Int→Int→Option α) (k2:Option α),g43l0v1 (g86 m) (g92 m) (g81 m) (a:Int) (b:Int) (c:Int) (q:Int) N u k1 k2 (F+1) (w:Int) false 0 N N 0 (mapOf s.1) (logOf s.2)=
    cond (decide (3≤zc'-za)) (k1 1 w 0) (cond (decide (3≤zb-zc')) (k1 2 w 0)
     (g43l0v1 (g86 m) (g92 m) (g81 m) (a:Int) (b:Int) (c:Int) (q:Int) N u k1 k2 F ((w+1:Nat):Int) false 0 N N 0 (mapOf s3.1) (logOf s3.2))):=fun k1 k2=>by
   rw[g43l0v1_s,dT (by omega),cond_true,wr2 (by omega),wrap16N (by omega),wrap16N (by omega),wrap16N (by omega)]
   refine(Ip_ok (hI a (w+2) s ha (by omega) hs _) hra).trans ?_
   refine(Ip_ok (hI c (w+2) s1 hc (by omega) hs1 _) hrc).trans ?_
   refine(Ip_ok (hI b (w+2) s2 hb (by omega) hs2 _) hrb).trans ?_
   rw[apartI (by omega) hza hzc,apartI (by omega) hzc hzb,failLive,cond_false,sgn3_pos,sgn3_pos,wrapS (by omega)]
  by_cases h1:3≤zc'-za
  ·refine⟨some (1,w,0),fun k1 k2=> ?_,fun k1 k2=> ?_⟩
   ·rw[hspec,dT h1,cond_true];rfl
   ·rw[himpl,dT h1,cond_true];rfl
  by_cases h2:3≤zb-zc'
  ·refine⟨some (2,w,0),fun k1 k2=> ?_,fun k1 k2=> ?_⟩
   ·rw[hspec,dF h1,cond_false,dT h2,cond_true];rfl
   ·rw[himpl,dF h1,cond_false,dT h2,cond_true];rfl
  obtain⟨r,e1,e2⟩:=side_loop hn hm ha hb hc q hq d (w+1) F s3 (by omega) (by omega) hs3
  refine⟨r,fun k1 k2=> ?_,fun k1 k2=> ?_⟩
  ·rw[hspec,dF h1,cond_false,dF h2,cond_false,e1]
  ·rw[himpl,dF h1,cond_false,dF h2,cond_false,e2]
open Classical in
theorem begunI3{α:Type}(m a:Nat){u:Ty0}(hu:RowN u)(hm:1048576<m)(p1 p2 p3 q w:Int)(k1:Int→Option α)(k:Ty4→Ty0→Option α):
  g79v1 m 0 u.length a q w 0 3 3 u.length u [p1,p2,p3] k1 k=if Okd u then(if((0≤p1∧p1<u.length)∧(0≤p2∧p2<u.length)∧(0≤p3∧p3<u.length))∧0≤q∧q≤w then k [] [] else k1 2) else k1 1:=by
 have h2:=hu.len
 obtain⟨f,rfl⟩:∃f,m=f+4:=⟨m-4,by omega⟩
 rw[g79v1_o,g113L (f+4) a hu (by omega)]
 by_cases hu0:Okd u
 ·have hu1:(1≤u.length∧u.length≤40)∧OkFrom u 0:=hu0
  have e1:List.getD [p1,p2,p3] (0+(0:Int).toNat) 0=p1:=rfl
  have e2:List.getD [p1,p2,p3] (0+(1:Int).toNat) 0=p2:=rfl
  have e3:List.getD [p1,p2,p3] (0+(2:Int).toNat) 0=p3:=rfl
  rw[dT hu1,if_pos hu0,Bool.not_true,cond_false,g114v1_o,show f+4=(f+3)+1 from rfl,g114v1l0_s,dT (by omega),cond_true,if_pos (by omega),if_pos (by decide),g68L,wrapI (x:=((u.length:Nat):Int)-1) (by omega) (by omega),e1]
  by_cases hp1:0≤p1∧p1<u.length
  ·rw[dT (show 0≤p1∧p1≤((u.length:Nat):Int)-1 by omega),Bool.not_true,cond_false,show f+3=(f+2)+1 from rfl,g114v1l0_s,show IntKind.wrap .i64 ((0:Int)+1)=1 from by decide,dT (by omega),cond_true,if_pos (by omega),if_pos (by decide),g68L,wrapI (x:=((u.length:Nat):Int)-1) (by omega) (by omega),e2]
   by_cases hp2:0≤p2∧p2<u.length
   ·rw[dT (show 0≤p2∧p2≤((u.length:Nat):Int)-1 by omega),Bool.not_true,cond_false,show f+2=(f+1)+1 from rfl,g114v1l0_s,show IntKind.wrap .i64 ((1:Int)+1)=2 from by decide,dT (by omega),cond_true,if_pos (by omega),if_pos (by decide),g68L,wrapI (x:=((u.length:Nat):Int)-1) (by omega) (by omega),e3]
    by_cases hp3:0≤p3∧p3<u.length
    ·rw[dT (show 0≤p3∧p3≤((u.length:Nat):Int)-1 by omega),Bool.not_true,cond_false,g114v1l0_s,show IntKind.wrap .i64 ((2:Int)+1)=3 from by decide,dF (by omega),cond_false,cond_false,g68L]
     by_cases hq:0≤q∧q≤w
     ·rw[dT hq,Bool.not_true,cond_false,g115_o,if_pos ⟨⟨hp1,hp2,hp3⟩,hq⟩]
     ·rw[dF hq,if_neg (fun h=>hq h.2)];rfl
    ·rw[dF (show¬(0≤p3∧p3≤((u.length:Nat):Int)-1) by omega),if_neg (fun h=>hp3 h.1.2.2)];rfl
   ·rw[dF (show¬(0≤p2∧p2≤((u.length:Nat):Int)-1) by omega),if_neg (fun h=>hp2 h.1.2.1)];rfl
  ·rw[dF (show¬(0≤p1∧p1≤((u.length:Nat):Int)-1) by omega),if_neg (fun h=>hp1 h.1.1)];rfl
 ·have hu1:¬((1≤u.length∧u.length≤40)∧OkFrom u 0):=hu0
  rw[dF hu1,if_neg hu0];rfl
open Classical in
theorem side_res(hU:RowN u)(hm:1048576<m)(p1 p2 p3 q:Int):∃x y c,(∀{α:Type} (k:Int→Int→Int→Option α),g42 m 0 u.length u.length p1 p2 p3 q u.length u k=k x y c)∧
  (∀{α:Type} (k:Int→Int→Int→Option α),g43 m 0 u.length u.length p1 p2 p3 q u.length u k=k x y c):=by
 have hl2:=hU.len
 by_cases hok:Okd u
 ·by_cases hp:((0≤p1∧p1<u.length)∧(0≤p2∧p2<u.length)∧(0≤p3∧p3<u.length))∧0≤q∧q≤64
  ·obtain⟨a,rfl⟩:∃j:Nat,p1=j:=⟨p1.toNat,by omega⟩
   obtain⟨b,rfl⟩:∃j:Nat,p2=j:=⟨p2.toNat,by omega⟩
   obtain⟨c,rfl⟩:∃j:Nat,p3=j:=⟨p3.toNat,by omega⟩
   obtain⟨n,rfl⟩:∃n:Nat,q=n:=⟨q.toNat,by omega⟩
   have h40:=hok.1.2
   have hn:=nds_of hok.1.2 hok.2
   obtain⟨r,e1,e2⟩:=side_loop hn hm (a:=a) (b:=b) (c:=c) (by omega) (by omega) (by omega) n (by omega) (n+1) 0 m ms0 (by omega) (by omega) (inv0 _ _ _)
   have hf:∀{α:Type} (k:Int→Int→Int→Option α),T3 k (k 0 0 7) r=k (r.getD (0,0,7)).1 (r.getD (0,0,7)).2.1 (r.getD (0,0,7)).2.2:=fun k=>by
    cases r with
    |none=>rfl
    |some r=>rfl
   refine⟨(r.getD (0,0,7)).1,(r.getD (0,0,7)).2.1,(r.getD (0,0,7)).2.2,fun k=> ?_,fun k=> ?_⟩
   ·rw[g42_o,askedS m _ hU hm,if_pos hok,if_pos ⟨by omega,by omega⟩,zc,g90_o,g120L,wrapI (by omega) (by omega),dT (by omega),Bool.not_true,cond_false,g90_o,g120L,wrapI (by omega) (by omega),dT (by omega),Bool.not_true,cond_false,begS m 0 u.length u.length u h40]
    exact(e1 k (k 0 0 7)).trans (hf k)
   ·rw[g43_o,begunI3 m _ hU hm,if_pos hok,if_pos hp]
    exact(e2 k (k 0 0 7)).trans (hf k)
  ·refine⟨0,0,2,fun k=> ?_,fun k=> ?_⟩
   ·rw[g42_o,askedS m _ hU hm,if_pos hok]
    by_cases h1:(0≤p1∧p1<u.length)∧0≤q∧q≤64
    ·rw[if_pos h1,zc,g90_o,g120L,wrapI (by omega) (by omega)]
     by_cases h2:0≤p2∧p2<u.length
     ·rw[dT (by omega),Bool.not_true,cond_false,g90_o,g120L,wrapI (by omega) (by omega),dF (by omega)];rfl
     ·rw[dF (by omega)];rfl
    ·rw[if_neg h1];rfl
   ·rw[g43_o,begunI3 m _ hU hm,if_pos hok,if_neg hp];rfl
 ·refine⟨0,0,1,fun k=> ?_,fun k=> ?_⟩
  ·rw[g42_o,askedS m _ hU hm,if_neg hok];rfl
  ·rw[g43_o,begunI3 m _ hU hm,if_neg hok];rfl
theorem askLaw8{α:Type}(m cap:Nat)(p1 p2 p3 q:Int){u:List (List Int)}(h5:EK.Ws (.rc [.i8, .i16, .i16, .i64, .i64]) u)(hu:u.length≤9223372036854775807)(hm:1048576<m)(k:Bool→Option α):
  g8 m 0 u.length cap p1 p2 p3 q u.length u k=k true:=by
 rw[g8_o,show(1048576:Int)=((1048576:Nat):Int) from rfl,g30L m 0 cap u (Nat.le_refl _) hu]
 by_cases hul:u.length≤1048576
 ·have hU:=rowN_of h5 hul
  have hm1:u.length<m:=by omega
  obtain⟨x,y,c,e1,e2⟩:=side_res hU hm p1 p2 p3 q
  rw[if_pos hul,dF (by omega),cond_false,g32L m cap hU.toRow5 hm1,e1,g32L m cap hU.toRow5 hm1,e2,bne_self_eq_false,cond_false,bne_self_eq_false,cond_false,bne_self_eq_false,cond_false,g32L m cap hU.toRow5 hm1,g34T m _ _ _ _ hul hm];rfl
 ·rw[if_neg hul,dT (by omega),cond_true]
end
def ap8:List AP:=[.sl (.rc [.i8, .i16, .i16, .i64, .i64]), .flat (.vl (.sv (.int .i64))), .flat (.vl (.sv (.int .i64))), .flat (.vl (.sv (.int .i64))), .flat (.vl (.sv (.int .i64)))]
theorem askLaw8m(m:Nat)(hm:1048576<m)(ls:List Lf)(hw:WA ap8 ls):g8K (g8 m) ls (fun v _ _=>saysTrue v)=some ():=by
 obtain⟨⟨a1,a2,a3,a4,a5,a6⟩,_⟩:=hw
 rw[maxLen_eq] at a4
 unfold g8K
 have e0:(lf ls 0).nat=0:=a1
 have e1:(lf ls 1).nat=((lf ls 8).lst (.rc [.i8, .i16, .i16, .i64, .i64])).length:=a5.symm
 have e3:(lf ls 7).nat=(lf ls 1).nat:=a2
 have c1:(lf ls 1).nat≤(lf ls 2).nat:=a3
 have c2:(lf ls 2).nat≤9223372036854775807:=a4
 have w1:EK.Ws (.rc [.i8, .i16, .i16, .i64, .i64]) ((lf ls 8).lst (.rc [.i8, .i16, .i16, .i64, .i64])):=a6
 rw[e3,e0,e1]
 exact askLaw8 m _ _ _ _ _ w1 (by omega) hm _
theorem askLaw8'(ls:List Lf)(hw:WA ap8 ls):g8K (g8 1048577) ls (fun v _ _=>saysTrue v)=some ():=askLaw8m 1048577 (by omega) ls hw
end Go.Proofs.Ytlmmgjngihlpeaa.Sx
