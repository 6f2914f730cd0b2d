import Derived.Test.YtlmmgjngihlpeaaGreatGskT
namespace Go.Proofs.YtlmmgjngihlpeaaGreat.Sx
open Go
set_option linter.unusedVariables false
set_option linter.unusedSimpArgs false
set_option maxRecDepth 100000
def mapOf(M:List (Nat×Nat×Int)):Ty1:=M.map fun e=>([(e.1:Int),(e.2.1:Int)],(zs e.2.2,zl e.2.2,()))
def fcO(o:Bool)(c:Int):Int:=if c=0 then(if o=true then 3 else 0) else c
theorem fcO_nz(o:Bool){c:Int}(h:c≠0):fcO o c=c:=by unfold fcO;rw[if_neg h]
def Ip{α β:Type}(E:β→MS→Option α)(D:Bool→Int→Ty1→Ty0→Option α)(x:Option α)(r:Except Int (β×MS)):Prop:=match r with
 | .ok (z,s)=>x=E z s
 | .error c=>∃o M L,x=D o c M L
def Ir{α:Type}(N:Nat)(k:Bool→List Int→Bool→Int→Ty1→Ty0→Option α)(x:Option α)(r:Except Int (Int×MS)):Prop:=match r with
 | .ok (z,s)=>x=k (zs z) (zl z) false 0 (mapOf s.1) (logOf s.2)
 | .error c=>∃b l o c' M L,fcO o c'=c∧x=k b l o c' M L
def Dd{α:Type}(N:Nat)(k:Bool→List Int→Bool→Int→Ty1→Ty0→Option α)(c:Int)(x:Option α):Prop:=∃b l o M L,x=k b l o c M L
section
variable {α β γ:Type} {N:Nat} {k:Bool→List Int→Bool→Int→Ty1→Ty0→Option α}
theorem Ip.bind{P:β→MS→Prop}{f:MR β}{g:β→MR γ}{s:MS}{E0:β→MS→Option α}{D0:Bool→Int→Ty1→Ty0→Option α}{E:γ→MS→Option α}{D:Bool→Int→Ty1→Ty0→Option α}{x:Option α}
  (ho:OkR P (f s)) (h:Ip E0 D0 x (f s)) (hE:∀z s',P z s'→Ip E D (E0 z s') (g z s')) (hD:∀o c M L,c≠0→∃o' M' L',D0 o c M L=D o' c M' L'):Ip E D x (mbind f g s):=by
 unfold mbind
 cases hf:f s with
 |ok r=>obtain⟨z,s'⟩:=r;rw[hf] at ho h;rw[show x=E0 z s' from h];exact hE z s' ho
 |error c=>
  rw[hf] at ho h
  obtain⟨o,M,L,h⟩:=h
  have ho:c=3∨c=7:=ho
  obtain⟨o',M',L',h'⟩:=hD o c M L (by omega)
  exact⟨o',M',L',h.trans h'⟩
theorem Ir.bind{P:β→MS→Prop}{f:MR β}{g:β→MR Int}{s:MS}{E0:β→MS→Option α}{D0:Bool→Int→Ty1→Ty0→Option α}{x:Option α}
  (ho:OkR P (f s)) (h:Ip E0 D0 x (f s)) (hE:∀z s',P z s'→Ir N k (E0 z s') (g z s')) (hD:∀o c M L,c≠0→Dd N k c (D0 o c M L)):Ir N k x (mbind f g s):=by
 unfold mbind
 cases hf:f s with
 |ok r=>obtain⟨z,s'⟩:=r;rw[hf] at ho h;rw[show x=E0 z s' from h];exact hE z s' ho
 |error c=>
  rw[hf] at ho h
  obtain⟨o,M,L,h⟩:=h
  have ho:c=3∨c=7:=ho
  obtain⟨b,l,o',M',L',h'⟩:=hD o c M L (by omega)
  exact⟨b,l,o',c,M',L',fcO_nz _ (by omega),h.trans h'⟩
theorem Ir.pure{z:Int}{s:MS}{x:Option α}(h:x=k (zs z) (zl z) false 0 (mapOf s.1) (logOf s.2)):Ir N k x (mpure z s):=h
theorem Ir.over{s:MS}{x:Option α}(b:Bool)(l:List Int)(M:Ty1)(L:Ty0)(h:x=k b l true 0 M L):Ir N k x (merr 3 s):=⟨b,l,true,0,M,L,rfl,h⟩
theorem Ir.fit{z:Int}{g:Int→MR Int}{s:MS}{x:Option α}(hy:z.natAbs<W192→fitZ z=true→Ir N k x (g z s))(hn:fitZ z=false→∃b l o c' M L,fcO o c'=3∧x=k b l o c' M L):Ir N k x (mbind (fitM z) g s):=by
 unfold mbind fitM
 cases hf:fitZ z with
 |true=>exact hy (fitZ_iff.1 hf) hf
 |false=>exact hn hf
end
section
variable {N:Nat} {v:Nat→Rat} {u:Ty0}
def ImplOK(N:Nat)(v:Nat→Rat)(u:Ty0)(f b:Nat)(A:{α:Type}→S_g32 α):Prop:=
 ∀{α:Type} (j n:Nat) (s:MS),j<b→n≤1000→InvS N v b s→∀k:Bool→List Int→Bool→Int→Ty0→Ty1→Ty0→Option α,
  Ip (fun z s'=>k (zs z) (zl z) false 0 u (mapOf s'.1) (logOf s'.2)) (fun o c M L=>k (zs 0) (zl 0) o c u M L)
   (A (j:Int) (n:Int) false 0 u (mapOf s.1) (logOf s.2) k) (askM (nd u) f j n s)
def DeadOK(N:Nat)(u:Ty0)(A:{α:Type}→S_g32 α):Prop:=
 ∀{α:Type} (j n:Int) (o:Bool) (c:Int) (M:Ty1) (L:Ty0),c≠0→∀k:Bool→List Int→Bool→Int→Ty0→Ty1→Ty0→Option α,
  A j n o c u M L k=k (zs 0) (zl 0) o c u M L
section
variable {α:Type} {f i:Nat} {A:{α:Type}→S_g32 α} {m:Nat}
theorem DeadOK.at(hD:DeadOK N u A)(j n:Int)(o:Bool){c:Int}(M:Ty1)(L:Ty0)(hc:c≠0)(k:Bool→List Int→Bool→Int→Ty0→Ty1→Ty0→Option α):
  A j n o c u M L k=k (zs 0) (zl 0) o c u M L:=hD j n o c M L hc k
theorem failDead(o:Bool){c:Int}(hc:c≠0)(M:Ty1)(L:Ty0)(k:Bool→Int→Option α):g33 m o c u M L k=k true c:=by
 rw[g33_o,show(c==0)=false by simpa using hc,cond_false,show(c !=0)=true by simpa using hc]
theorem failLive(M:Ty1)(L:Ty0)(k:Bool→Int→Option α):g33 m false 0 u M L k=k false 0:=by
 rw[g33_o];rfl
theorem failOver(M:Ty1)(L:Ty0)(k:Bool→Int→Option α):g33 m true 0 u M L k=k true 3:=by
 rw[g33_o];rfl
theorem growDead(hm:300≤m)(hD:DeadOK N u A)(j:Int)(o:Bool){c:Int}(hc:c≠0)(M:Ty1)(L:Ty0)(k:Int→Bool→Int→Ty1→Ty0→Option α):
  g113 A m j o c u M L k=k 0 o c M L:=by
 rw[g113_o,hD.at _ _ _ _ _ hc,bitsI hm (by decide)];rfl
theorem growI(hn:Nds N v u)(hm:300≤m)(hA:ImplOK N v u f i A){j:Nat}(hf:j<f)(hj:j<N)(hb:j<i){s:MS}(hs:InvS N v i s)(k:Int→Bool→Int→Ty1→Ty0→Option α):
  Ip (fun(g:Nat) s'=>k (g:Int) false 0 (mapOf s'.1) (logOf s'.2)) (fun o c M L=>k 0 o c M L)
   (g113 A m (j:Int) false 0 u (mapOf s.1) (logOf s.2) k) (growM (askM (nd u) f) j s):=by
 rw[g113_o]
 unfold growM
 refine Ip.bind (hn.good hf hj hb hs) (hA j 0 s hb (by omega) hs _) (fun z s' ⟨_,hz,_,_⟩=> ?_) (fun o c M L hc=>⟨o,M,L,bitsI hm (by decide) _⟩)
 exact bitsI hm (b190h hz) _
theorem awayI(hn:Nds N v u)(hm:300≤m)(hA:ImplOK N v u f i A){j:Nat}(hf:j<f)(hj:j<N)(hb:j<i)
  (k1:Int→Bool→Int→Ty1→Ty0→Option α):∀(d w F:Nat) {s:MS},w+d=41→d<F→InvS N v i s→
  Ip (fun(g:Nat) s'=>k1 (g:Int) false 0 (mapOf s'.1) (logOf s'.2)) (fun o c M L=>k1 0 o c M L)
   (g114l0 A (g33 m) (g46 m) (j:Int) u k1 (fun o x M L=>k1 0 o 7 M L) F (w:Int) false 0 (mapOf s.1) (logOf s.2)) (awayM (askM (nd u) f) j d w s)
 |0,w,F,s,hw,hF,hs=>by
  obtain⟨F,rfl⟩:∃n,F=n+1:=⟨F-1,by omega⟩
  rw[g114l0_s,dF (by omega),cond_false]
  exact⟨_,_,_,rfl⟩
 |d+1,w,F,s,hw,hF,hs=>by
  obtain⟨F,rfl⟩:∃n,F=n+1:=⟨F-1,by omega⟩
  rw[g114l0_s,dT (by omega),cond_true,show IntKind.wrap .i64 ((w:Int)+2)=((w+2:Nat):Int) by rw[wrapI (by omega) (by omega)];rfl]
  unfold awayM
  refine Ip.bind (hn.good hf hj hb hs) (hA j (w+2) s hb (by omega) hs _) (fun z s' ⟨_,hz,_,hs'⟩=> ?_) (fun o c M L hc=>⟨o,M,L, ?_⟩)
  ·rw[failLive,cond_false,compare5 hm (b190h hz),cmpN_ge0]
   by_cases h5:5≤z.natAbs
   ·rw[dT h5,cond_true,if_pos h5];exact rfl
   ·rw[dF h5,cond_false,if_neg h5,show IntKind.wrap .i64 ((w:Int)+1)=((w+1:Nat):Int) by rw[wrapI (by omega) (by omega)];rfl]
    exact awayI hn hm hA hf hj hb k1 d (w+1) F (by omega) (by omega) hs'
  ·rw[failDead o hc];rfl
theorem bothI(hn:Nds N v u)(hA:ImplOK N v u f i A)(hD:DeadOK N u A)(hf:i≤f)(hi:i≤N){a b n:Nat}(ha:a<i)(hb:b<i)(hn1:n≤1000){s:MS}(hs:InvS N v i s)(x1 x2 x3 x4 x5:Int)(h1:x2=(a:Int))(h2:x3=(b:Int))
  {k:Bool→List Int→Bool→Int→Ty1→Ty0→Option α} (K:Bool→List Int→Bool→List Int→Bool→Int→Ty1→Ty0→Option α) {g:Int→Int→MR Int}
  (hok:∀x y s',x.natAbs≤B190→y.natAbs≤B190→InvS N v i s'→Ir N k (K (zs x) (zl x) (zs y) (zl y) false 0 (mapOf s'.1) (logOf s'.2)) (g x y s'))
  (hdead:∀x y o c M L,x.natAbs≤B190→y.natAbs≤B190→c≠0→Dd N k c (K (zs x) (zl x) (zs y) (zl y) o c M L)):
  Ir N k (g88 A m x1 x2 x3 x4 x5 (n:Int) false 0 u (mapOf s.1) (logOf s.2) K) (mbind (askM (nd u) f a n) (fun x=>mbind (askM (nd u) f b n) fun y=>g x y) s):=by
 subst h1;subst h2
 rw[g88_o]
 refine Ir.bind (hn.good (by omega) (by omega) ha hs) (hA a n s ha hn1 hs _) (fun x s' ⟨_,hx,_,hs'⟩=> ?_) (fun o c M L hc=> ?_)
 ·refine Ir.bind (hn.good (by omega) (by omega) hb hs') (hA b n s' hb hn1 hs' _) (fun y s2 ⟨_,hy,_,hs2⟩=> ?_) (fun o c M L hc=> ?_)
  ·exact hok x y s2 hx hy hs2
  ·exact hdead x 0 o c M L hx (by decide) hc
 ·rw[hD.at _ _ _ _ _ hc]
  exact hdead 0 0 o c M L (by decide) (by decide) hc
abbrev KRu(α:Type):Type:=Bool→List Int→Bool→Int→Ty1→Ty0→Option α
theorem prodI(hn:Nds N v u)(hm:300≤m)(hA:ImplOK N v u f i A)(hD:DeadOK N u A)(hf:i≤f)(hi:i<N){n:Nat}(hn1:n≤160)(hk:kd (nd u i)=4){s:MS}(hs:InvS N v i s)(x1 x2 x3 x4 x5:Int)(h2:x2=(xa (nd u i):Int))(h3:x3=(xb (nd u i):Int))(k:KRu α):
  Ir N k (g90 A m x1 x2 x3 x4 x5 (n:Int) false 0 u (mapOf s.1) (logOf s.2) k) (ruleM (askM (nd u) f) (nd u i) n s):=by
 have hx:=hn.ok i hi
 have h40:=hn.n40
 have ha:=hx.a ⟨by omega,by omega⟩
 have hb:=hx.b (.inl (by omega))
 simp only[ruleM,hk,Int.reduceEq,↓reduceIte]
 subst h2;subst h3
 rw[g90_o]
 generalize xa (nd u i)=ja at*
 generalize xb (nd u i)=jb at*
 refine Ir.bind (hn.grow hf (by omega) ha hs) (growI hn hm hA (by omega) (by omega) ha hs _) (fun ga s1 ⟨g1,hs1⟩=> ?_) (fun o c M L hc=> ?_)
 rotate_left
 ·rw[growDead (N:=N) hm hD _ _ hc,hD.at _ _ _ _ _ hc,hD.at _ _ _ _ _ hc,failDead _ hc,cond_true];exact⟨_,_,_,_,_,rfl⟩
 refine Ir.bind (hn.grow hf (by omega) hb hs1) (growI hn hm hA (by omega) (by omega) hb hs1 _) (fun gb s2 ⟨g2,hs2⟩=> ?_) (fun o c M L hc=> ?_)
 rotate_left
 ·rw[hD.at _ _ _ _ _ hc,hD.at _ _ _ _ _ hc,failDead _ hc,cond_true];exact⟨_,_,_,_,_,rfl⟩
 rw[wrN (by omega),wr3 (by omega)]
 refine Ir.bind (hn.good (by omega) (by omega) ha hs2) (hA ja (n+gb+3) s2 ha (by omega) hs2 _) (fun p s3 ⟨_,p2,_,hs3⟩=> ?_) (fun o c M L hc=> ?_)
 rotate_left
 ·rw[hD.at _ _ _ _ _ hc,failDead _ hc,cond_true];exact⟨_,_,_,_,_,rfl⟩
 rw[wrN (by omega),wr3 (by omega)]
 refine Ir.bind (hn.good (by omega) (by omega) hb hs3) (hA jb (n+ga+3) s3 hb (by omega) hs3 _) (fun q s4 ⟨_,q2,_,hs4⟩=> ?_) (fun o c M L hc=> ?_)
 rotate_left
 ·rw[failDead _ hc,cond_true];exact⟨_,_,_,_,_,rfl⟩
 rw[failLive,cond_false,mul1,mulI hm (b190h p2) (b190h q2),wrN (by omega),wr6 (by omega)]
 refine Ir.fit (fun hpq hfit=> ?_) (fun hfit=> ?_)
 ·rw[hfit,cond_true,near1,nearI hm false hpq]
  unfold nearM
  by_cases h:n+ga+gb+6≤191
  ·rw[if_pos h,if_pos h];exact Ir.pure rfl
  ·rw[if_neg h,if_neg h];exact Ir.over _ _ _ _ rfl
 ·rw[hfit,cond_false,show([0,0,0,0,0,0]:List Int)=zl 0 from rfl,show(false:Bool)=zs 0 from rfl,near1,nearI hm true (x:=0) (by decide)]
  by_cases h:n+ga+gb+6≤191
  ·rw[if_pos h];exact⟨_,_,_,0,_,_,rfl,rfl⟩
  ·rw[if_neg h];exact⟨_,_,_,0,_,_,rfl,rfl⟩
theorem quotI(hn:Nds N v u)(hm:300≤m)(hA:ImplOK N v u f i A)(hD:DeadOK N u A)(hf:i≤f)(hi:i<N){n:Nat}(hn1:n≤160)(hk:kd (nd u i)=5){s:MS}(hs:InvS N v i s)(x1 x2 x3 x4 x5:Int)(h2:x2=(xa (nd u i):Int))(h3:x3=(xb (nd u i):Int))(k:KRu α):
  Ir N k (g91 A m x1 x2 x3 x4 x5 (n:Int) false 0 u (mapOf s.1) (logOf s.2) k) (ruleM (askM (nd u) f) (nd u i) n s):=by
 have hx:=hn.ok i hi
 have h40:=hn.n40
 have ha:=hx.a ⟨by omega,by omega⟩
 have hb:=hx.b (.inl (by omega))
 simp only[ruleM,hk,Int.reduceEq,↓reduceIte]
 subst h2;subst h3
 rw[g91_o,g114_o]
 generalize xa (nd u i)=ja at*
 generalize xb (nd u i)=jb at*
 refine Ir.bind (hn.away hf (by omega) hb 41 0 (by omega) hs) (awayI hn hm hA (by omega) (by omega) hb _ 41 0 m (by omega) (by omega) hs) (fun kk s1 ⟨w1,w2,hs1⟩=> ?_) (fun o c M L hc=> ?_)
 rotate_left
 ·rw[failDead _ hc,cond_true];exact⟨_,_,_,_,_,rfl⟩
 rw[failLive,cond_false]
 refine Ir.bind (hn.grow hf (by omega) ha hs1) (growI hn hm hA (by omega) (by omega) ha hs1 _) (fun ga s2 ⟨g2,hs2⟩=> ?_) (fun o c M L hc=> ?_)
 rotate_left
 ·rw[hD.at _ _ _ _ _ hc,hD.at _ _ _ _ _ hc,failDead _ hc,cond_true];exact⟨_,_,_,_,_,rfl⟩
 rw[wrN (by omega),wr3 (by omega)]
 refine Ir.bind (hn.good (by omega) (by omega) ha hs2) (hA ja (n+kk+3) s2 ha (by omega) hs2 _) (fun p s3 ⟨_,p2,_,hs3⟩=> ?_) (fun o c M L hc=> ?_)
 rotate_left
 ·rw[hD.at _ _ _ _ _ hc,failDead _ hc,cond_true];exact⟨_,_,_,_,_,rfl⟩
 rw[wrN (by omega),wrD (by omega),wrN (by omega),wr4 (by omega)]
 refine Ir.bind (hn.good (by omega) (by omega) hb hs3) (hA jb (n+ga+2*kk+4) s3 hb (by omega) hs3 _) (fun q s4 ⟨q1,q2,_,hs4⟩=> ?_) (fun o c M L hc=> ?_)
 rotate_left
 ·rw[failDead _ hc,cond_true];exact⟨_,_,_,_,_,rfl⟩
 have hq:=quot_big w1 q1
 have hsg:(Int.sign q==0)=false:=sign_ne (by omega)
 rw[failLive,cond_false,wrN (by omega),wr1 (by omega),up1,upI hm false (b190h p2)]
 unfold upM
 by_cases h:n+ga+kk+1≤191
 ·rw[if_pos h,if_pos h]
  refine Ir.fit (fun hpq hfit=> ?_) (fun hfit=> ?_)
  ·rw[hfit,cond_true,failLive,cond_false,g75W m (b190h q2),hsg,cond_false,divn1,g87Z m (by omega) hpq (b190h q2) (by omega)]
   exact Ir.pure rfl
  ·rw[hfit,cond_false,failOver,cond_true];exact⟨_,_,_,3,_,_,rfl,rfl⟩
 ·rw[if_neg h,if_neg h,failOver,cond_true]
  exact⟨_,_,_,3,_,_,rfl,rfl⟩
end
end
theorem min_cmp'{a b:Int}:cond ((decide (cmpI a b≤0))==true) a b=min a b:=by
 unfold cmpI
 by_cases h1:a<b
 ·rw[if_pos h1];show a=min a b;omega
 ·rw[if_neg h1]
  by_cases h2:b<a
  ·rw[if_pos h2];show b=min a b;omega
  ·rw[if_neg h2];show a=min a b;omega
theorem max_cmp'{a b:Int}:cond ((decide (cmpI a b≤0))==false) a b=max a b:=by
 unfold cmpI
 by_cases h1:a<b
 ·rw[if_pos h1];show b=max a b;omega
 ·rw[if_neg h1]
  by_cases h2:b<a
  ·rw[if_pos h2];show a=max a b;omega
  ·rw[if_neg h2];show b=max a b;omega
section
variable {N:Nat} {v:Nat→Rat} {u:Ty0}
variable {α:Type} {f i:Nat} {A:{α:Type}→S_g32 α} {m:Nat}
theorem nearAny(hm:300≤m){x:Int}(hx:x.natAbs<W192){p:Nat}(hp:p≤191)(o:Bool)(d:Int)(g:Ty0)(M:Ty1)(L:Ty0)(k:Bool→List Int→Bool→Option α):
  g74v1 m (zs x) (zl x) (p:Int) o d g M L k=k (zs (nearZ x p)) (zl (nearZ x p)) o:=by rw[near1,nearI hm o hx,if_pos hp]
theorem ruleRest(hn:Nds N v u)(hm:300≤m)(hA:ImplOK N v u f i A)(hD:DeadOK N u A)(hf:i≤f)(hi:i<N){n:Nat}(hn1:n≤160){s:MS}(hs:InvS N v i s)(k:KRu α):
  Ir N k (g66 A m (kd (nd u i)) ((nd u i).tail.headD 0) ((nd u i).tail.tail.headD 0) (xp (nd u i)) (xq (nd u i)) (n:Int) false 0 u (mapOf s.1) (logOf s.2) k) (ruleM (askM (nd u) f) (nd u i) n s):=by
 have hx:=hn.ok i hi
 have h40:=hn.n40
 have hW:=b190W
 have hB:=b190_pos
 have hka:usA (kd (nd u i))→xa (nd u i)<i∧(nd u i).tail.headD 0=(xa (nd u i):Int):=fun h=>⟨hx.a h,hx.ea h⟩
 have hkb:usB (kd (nd u i))→xb (nd u i)<i∧(nd u i).tail.tail.headD 0=(xb (nd u i):Int):=fun h=>⟨hx.b h,hx.eb h⟩
 have hr:=hx.kr
 have hc:kd (nd u i)=1∨kd (nd u i)=2∨kd (nd u i)=3∨kd (nd u i)=4∨kd (nd u i)=5∨kd (nd u i)=6∨kd (nd u i)=7∨kd (nd u i)=8∨kd (nd u i)=9∨kd (nd u i)=10∨kd (nd u i)=11∨kd (nd u i)=12:=by omega
 have ev:∀x y:Int,(x==y)=decide (x=y):=fun x y=>rfl
 rw[g66_o]
 rcases hc with hk|hk|hk|hk|hk|hk|hk|hk|hk|hk|hk|hk
 ·obtain⟨p1,p2,p3⟩:=hx.k1 hk
  have h9:(1000000000:Nat)<W192:=by decide
  rw[hk,show((1:Int)==1)=true from rfl,cond_true]
  simp only[ruleM,hk,Int.reduceEq,↓reduceIte]
  rw[g55Z _ (by omega) (by omega),up1,upI hm false (by omega)]
  unfold upM
  rw[if_pos (by omega),if_pos (by omega)]
  refine Ir.fit (fun hz hfit=> ?_) (fun hfit=> ?_)
  ·rw[hfit,cond_true,g55Z _ (by omega) (by omega),divn1,g87Z m (by omega) hz (by omega) (by omega)]
   exact Ir.pure rfl
  ·rw[hfit,cond_false,g55Z _ (by omega) (by omega),show([0,0,0,0,0,0]:List Int)=zl 0 from rfl,show(false:Bool)=zs 0 from rfl,divn1,g87Z m (by omega) (by decide) (by omega) (by omega)]
   exact⟨_,_,_,0,_,_,rfl,rfl⟩
 ·obtain⟨ha,ea⟩:=hka ⟨by omega,by omega⟩
  obtain⟨hb,eb⟩:=hkb (.inl (by omega))
  rw[hk,show((2:Int)==1)=false from rfl,cond_false,show((2:Int)==2)=true from rfl,cond_true,wr2 (by omega)]
  simp only[ruleM,hk,Int.reduceEq,↓reduceIte]
  refine bothI hn hA hD hf (by omega) ha hb (by omega) hs _ _ _ _ _ ea eb _ (fun x y s' hx hy hs'=> ?_) (fun x y o c M L hx hy hc=> ?_)
  ·rw[add1,addI hm (b190h hx) (b190h hy)]
   refine Ir.fit (fun hz hfit=> ?_) (fun hfit=> ?_)
   ·rw[hfit,zt_of hz,Bool.not_true,Bool.or_false]
    exact Ir.pure (nearAny hm hz (p:=2) (by omega) _ _ _ _ _ _)
   ·rw[hfit]
    exact⟨_,_,true,0,_,_,rfl,nearAny hm (zt_fit _) (p:=2) (by omega) _ _ _ _ _ _⟩
  ·rw[add1,addI hm (b190h hx) (b190h hy)]
   exact⟨_,_,_,_,_,nearAny hm (zt_fit _) (p:=2) (by omega) _ _ _ _ _ _⟩
 ·obtain⟨ha,ea⟩:=hka ⟨by omega,by omega⟩
  obtain⟨hb,eb⟩:=hkb (.inl (by omega))
  rw[hk,show((3:Int)==1)=false from rfl,cond_false,show((3:Int)==2)=false from rfl,cond_false,show((3:Int)==3)=true from rfl,cond_true,wr2 (by omega)]
  simp only[ruleM,hk,Int.reduceEq,↓reduceIte]
  refine bothI hn hA hD hf (by omega) ha hb (by omega) hs _ _ _ _ _ ea eb _ (fun x y s' hx hy hs'=> ?_) (fun x y o c M L hx hy hc=> ?_)
  ·rw[sub1,subI hm (b190h hx) (b190h hy)]
   refine Ir.fit (fun hz hfit=> ?_) (fun hfit=> ?_)
   ·rw[hfit,zt_of hz,Bool.not_true,Bool.or_false]
    exact Ir.pure (nearAny hm hz (p:=2) (by omega) _ _ _ _ _ _)
   ·rw[hfit]
    exact⟨_,_,true,0,_,_,rfl,nearAny hm (zt_fit _) (p:=2) (by omega) _ _ _ _ _ _⟩
  ·rw[sub1,subI hm (b190h hx) (b190h hy)]
   exact⟨_,_,_,_,_,nearAny hm (zt_fit _) (p:=2) (by omega) _ _ _ _ _ _⟩
 ·obtain⟨ha,ea⟩:=hka ⟨by omega,by omega⟩
  obtain⟨hb,eb⟩:=hkb (.inl (by omega))
  have:=prodI hn hm hA hD hf hi hn1 hk hs 4 _ _ (xp (nd u i)) (xq (nd u i)) ea eb k
  rw[hk,show((4:Int)==1)=false from rfl,cond_false,show((4:Int)==2)=false from rfl,cond_false,show((4:Int)==3)=false from rfl,cond_false,show((4:Int)==6)=false from rfl,cond_false,show((4:Int)==7)=false from rfl,cond_false,
   show((4:Int)==8)=false from rfl,cond_false,show((4:Int)==9)=false from rfl,cond_false,show((4:Int)==4)=true from rfl,cond_true]
  exact this
 ·obtain⟨ha,ea⟩:=hka ⟨by omega,by omega⟩
  obtain⟨hb,eb⟩:=hkb (.inl (by omega))
  have:=quotI hn hm hA hD hf hi hn1 hk hs 5 _ _ (xp (nd u i)) (xq (nd u i)) ea eb k
  rw[hk,show((5:Int)==1)=false from rfl,cond_false,show((5:Int)==2)=false from rfl,cond_false,show((5:Int)==3)=false from rfl,cond_false,show((5:Int)==6)=false from rfl,cond_false,show((5:Int)==7)=false from rfl,cond_false,
   show((5:Int)==8)=false from rfl,cond_false,show((5:Int)==9)=false from rfl,cond_false,show((5:Int)==4)=false from rfl,cond_false,show((5:Int)==5)=true from rfl,cond_true]
  exact this
 ·obtain⟨ha,ea⟩:=hka ⟨by omega,by omega⟩
  rw[hk,show((6:Int)==1)=false from rfl,cond_false,show((6:Int)==2)=false from rfl,cond_false,show((6:Int)==3)=false from rfl,cond_false,show((6:Int)==6)=true from rfl,cond_true,ea]
  simp only[ruleM,hk,Int.reduceEq,↓reduceIte]
  refine Ir.bind (hn.good (by omega) (by omega) ha hs) (hA (xa (nd u i)) n s ha (by omega) hs _) (fun p s1 ⟨_,p2,_,hs1⟩=> ?_) (fun o c M L hc=> ?_)
  ·refine Ir.pure ?_
   rw[g71Z m (b190h p2),zl_neg]
  ·rw[g71Z m (by decide)]
   exact⟨_,_,_,_,_,rfl⟩
 ·obtain⟨ha,ea⟩:=hka ⟨by omega,by omega⟩
  rw[hk,show((7:Int)==1)=false from rfl,cond_false,show((7:Int)==2)=false from rfl,cond_false,show((7:Int)==3)=false from rfl,cond_false,show((7:Int)==6)=false from rfl,cond_false,show((7:Int)==7)=true from rfl,cond_true,ea]
  simp only[ruleM,hk,Int.reduceEq,↓reduceIte]
  refine Ir.bind (hn.good (by omega) (by omega) ha hs) (hA (xa (nd u i)) n s ha (by omega) hs _) (fun p s1 ⟨_,p2,_,hs1⟩=> ?_) (fun o c M L hc=> ?_)
  ·exact Ir.pure (wideN false (b190h p2) _)
  ·exact⟨_,_,_,_,_,wideN (t:=0) false (by decide) _⟩
 ·obtain⟨ha,ea⟩:=hka ⟨by omega,by omega⟩
  obtain⟨hb,eb⟩:=hkb (.inr (by omega))
  rw[hk,show((8:Int)==1)=false from rfl,cond_false,show((8:Int)==2)=false from rfl,cond_false,show((8:Int)==3)=false from rfl,cond_false,show((8:Int)==6)=false from rfl,cond_false,show((8:Int)==7)=false from rfl,cond_false,show((8:Int)==8)=true from rfl,cond_true]
  simp only[ruleM,hk,Int.reduceEq,↓reduceIte]
  refine bothI hn hA hD hf (by omega) ha hb (by omega) hs _ _ _ _ _ ea eb _ (fun x y s' hx hy hs'=> ?_) (fun x y o c M L hx hy hc=> ?_)
  ·rw[cmpIm hm (b190h hx) (b190h hy)]
   refine Ir.pure ?_
   rw[←min_cmp']
   exact cond_app _ (fun z=>k (zs z) (zl z) false 0 (mapOf s'.1) (logOf s'.2)) x y
  ·rw[cmpIm hm (b190h hx) (b190h hy)]
   exact⟨_,_,o,M,L,cond_app _ (fun z=>k (zs z) (zl z) o c M L) x y⟩
 ·obtain⟨ha,ea⟩:=hka ⟨by omega,by omega⟩
  obtain⟨hb,eb⟩:=hkb (.inr (by omega))
  rw[hk,show((9:Int)==1)=false from rfl,cond_false,show((9:Int)==2)=false from rfl,cond_false,show((9:Int)==3)=false from rfl,cond_false,show((9:Int)==6)=false from rfl,cond_false,show((9:Int)==7)=false from rfl,cond_false,show((9:Int)==8)=false from rfl,cond_false,show((9:Int)==9)=true from rfl,cond_true]
  simp only[ruleM,hk,Int.reduceEq,↓reduceIte]
  refine bothI hn hA hD hf (by omega) ha hb (by omega) hs _ _ _ _ _ ea eb _ (fun x y s' hx hy hs'=> ?_) (fun x y o c M L hx hy hc=> ?_)
  ·rw[cmpIm hm (b190h hx) (b190h hy)]
   refine Ir.pure ?_
   rw[←max_cmp']
   exact cond_app _ (fun z=>k (zs z) (zl z) false 0 (mapOf s'.1) (logOf s'.2)) x y
  ·rw[cmpIm hm (b190h hx) (b190h hy)]
   exact⟨_,_,o,M,L,cond_app _ (fun z=>k (zs z) (zl z) o c M L) x y⟩
 ·obtain⟨ha,ea⟩:=hka ⟨by omega,by omega⟩
  rw[hk,show((10:Int)==1)=false from rfl,cond_false,show((10:Int)==2)=false from rfl,cond_false,show((10:Int)==3)=false from rfl,cond_false,show((10:Int)==6)=false from rfl,cond_false,show((10:Int)==7)=false from rfl,cond_false,show((10:Int)==8)=false from rfl,cond_false,show((10:Int)==9)=false from rfl,cond_false,
   show((10:Int)==4)=false from rfl,cond_false,show((10:Int)==5)=false from rfl,cond_false,show((10:Int)==10)=true from rfl,cond_true,ea,wrD (by omega),wr6 (by omega)]
  simp only[ruleM,hk,Int.reduceEq,↓reduceIte]
  refine Ir.bind (hn.good (by omega) (by omega) ha hs) (hA (xa (nd u i)) (2*n+6) s ha (by omega) hs _) (fun p s1 ⟨_,p2,_,hs1⟩=> ?_) (fun o c M L hc=> ?_)
  ·refine Ir.pure ?_
   by_cases hp:p<0
   ·rw[show zs p=true from decide_eq_true hp,cond_true,if_pos hp];rfl
   ·have hle:=isq_le p.natAbs
    rw[show zs p=false from decide_eq_false hp,cond_false,if_neg hp,rootI hm (b190h p2),zl_nat,wideN false (by omega),cond_false,←zl_nat]
    exact nearAny hm (nb (by omega)) (p:=3) (by omega) _ _ _ _ _ _
  ·rw[show zs 0=false from rfl,cond_false,rootI hm (by decide),zl_nat,wideN false (by decide),cond_false,←zl_nat]
   exact⟨_,_,_,_,_,nearAny hm (by decide) (p:=3) (by omega) _ _ _ _ _ _⟩
 ·rw[hk,show((11:Int)==1)=false from rfl,cond_false,show((11:Int)==2)=false from rfl,cond_false,show((11:Int)==3)=false from rfl,cond_false,show((11:Int)==6)=false from rfl,cond_false,show((11:Int)==7)=false from rfl,cond_false,show((11:Int)==8)=false from rfl,cond_false,show((11:Int)==9)=false from rfl,cond_false,
   show((11:Int)==4)=false from rfl,cond_false,show((11:Int)==5)=false from rfl,cond_false,show((11:Int)==10)=false from rfl,cond_false,show((11:Int)==11)=true from rfl,cond_true,piI 0 u _ _ hm hn1]
  simp only[ruleM,hk,Int.reduceEq,↓reduceIte]
  generalize piZ n=z
  exact Ir.pure rfl
 ·rw[hk,show((12:Int)==1)=false from rfl,cond_false,show((12:Int)==2)=false from rfl,cond_false,show((12:Int)==3)=false from rfl,cond_false,show((12:Int)==6)=false from rfl,cond_false,show((12:Int)==7)=false from rfl,cond_false,show((12:Int)==8)=false from rfl,cond_false,show((12:Int)==9)=false from rfl,cond_false,
   show((12:Int)==4)=false from rfl,cond_false,show((12:Int)==5)=false from rfl,cond_false,show((12:Int)==10)=false from rfl,cond_false,show((12:Int)==11)=false from rfl,cond_false,eulerI 0 u _ _ hm hn1]
  simp only[ruleM,hk,Int.reduceEq,↓reduceIte]
  generalize eulZ n=z
  exact Ir.pure rfl
theorem find_map(M:List (Nat×Nat×Int))(i n:Nat):mfind [.i16, .i16] (mapOf M) [(i:Int),(n:Int)]=(lookM M i n).map fun z=>(zs z,zl z,()):=by
 induction M with
 |nil=>rfl
 |cons e r ih=>
  obtain⟨a,b,z⟩:=e
  simp only[lookM]
  show cond (((i:Int)==(a:Int))&&(((n:Int)==(b:Int))&&true)) _ (mfind [.i16, .i16] (mapOf r) [(i:Int),(n:Int)])=_
  by_cases ha:a=i
  ·by_cases hb:b=n
   ·subst ha;subst hb
    rw[if_pos ⟨rfl,rfl⟩,beq_self_eq_true,beq_self_eq_true];rfl
   ·rw[if_neg (fun h=>hb h.2),show((n:Int)==(b:Int))=false from by simp;omega,Bool.false_and,Bool.and_false,cond_false,ih]
  ·rw[if_neg (fun h=>ha h.1),show((i:Int)==(a:Int))=false from by simp;omega,Bool.false_and,cond_false,ih]
theorem put_new{β:Type}(ks:List IntKind)(l:List (List Int×β))(key:List Int)(x:β)(h:mfind ks l key=none):mput ks l key x=l++[(key,x)]:=by
 induction l with
 |nil=>rfl
 |cons p r ih=>
  simp only[mfind] at h
  simp only[mput]
  cases hk:eqK ks key p.1 with
  |true=>rw[hk] at h;cases h
  |false=>rw[hk,cond_false] at h;rw[cond_false,ih h];rfl
theorem look_app{M d:List (Nat×Nat×Int)}{i n:Nat}(h:lookM M i n=none)(hd:∀e∈d,e.1<i):lookM (M++d) i n=none:=by
 induction M with
 |nil=>
  induction d with
  |nil=>rfl
  |cons e r ih=>
   simp only[List.nil_append,lookM]
   have:=hd e (by simp)
   rw[if_neg (fun h=>by omega)]
   exact ih (fun e he=>hd e (by simp[he]))
 |cons e r ih=>
  simp only[List.cons_append,lookM] at h⊢
  split at h
  ·cases h
  ·rename_i he
   rw[if_neg he];exact ih h
theorem Ir.wrap{P:Int→MS→Prop}{K:KRu α}{E:Int→MS→Option α}{D:Bool→Int→Ty1→Ty0→Option α}{x:Option α}{r:Except Int (Int×MS)}{j n:Nat}(ho:OkR P r)(h:Ir N K x r)
  (hE:∀z s',P z s'→K (zs z) (zl z) false 0 (mapOf s'.1) (logOf s'.2)=E z (s'.1++[(j,n,z)],s'.2)) (hD:∀b l o c' M L,fcO o c'≠0→K b l o c' M L=D o (fcO o c') M L):
  Ip E D x (match(generalizing:=false) r with| .ok (z,s')=> .ok (z,(s'.1++[(j,n,z)],s'.2))| .error c=> .error c):=by
 cases r with
 |ok r=>obtain⟨z,s'⟩:=r;exact(show x=_ from h).trans (hE z s' ho)
 |error c=>
  obtain⟨b,l,o,c',M,L,hc,h⟩:=h
  have ho:c=3∨c=7:=ho
  refine⟨o,M,L,h.trans ?_⟩
  rw[hD b l o c' M L (by omega),hc]
theorem map_put{M:List (Nat×Nat×Int)}{i n:Nat}(z:Int)(h:lookM M i n=none):mput [.i16, .i16] (mapOf M) [(i:Int),(n:Int)] (zs z,zl z,())=mapOf (M++[(i,n,z)]):=by
 rw[put_new _ _ _ _ (by rw[find_map,h];rfl)]
 simp[mapOf]
theorem deadAsk(m:Nat):DeadOK N u (fun{α}=>g32 (α:=α) (m+1)):=by
 intro β j n o c M L hc k
 dsimp only
 rw[g32_s,failDead o hc,cond_true];rfl
theorem implAsk(hn:Nds N v u):∀(f m b:Nat),f+400≤m→b≤N→b≤f→ImplOK N v u f b (fun{α}=>g32 (α:=α) m)
 |0,m,b,hm,hb,hf=>fun j n s hj _ _=>by omega
 |f+1,m,b,hm,hb,hf=>by
  intro j n s hj hn1 hs k
  obtain⟨m,rfl⟩:∃M,m=M+1:=⟨m-1,by omega⟩
  have h40:=hn.n40
  have hul:=hn.len
  obtain⟨hlog,hmem⟩:=hs.short h40
  dsimp only
  rw[g32_s,failLive,cond_false]
  unfold askM
  cases hk:lookM s.1 j n with
  |some z=>
   have hn2:n≤160:=(hs.ent _ (lookM_some hk)).2.1
   rw[dF (by omega),cond_false]
   dsimp only
   rw[wrap16N (by omega)]
   unfold mhas mval
   rw[find_map,hk]
   show k (zs z) (padI 6 (zl z)) false 0 u _ _=_
   rw[padI_self 6 _ (zl_length z)]
  |none=>
   by_cases h160:160<n
   ·rw[dT (by omega),cond_true]
    show Ip _ _ _ (if 160<n then _ else _)
    rw[if_pos h160]
    exact⟨false,_,_,rfl⟩
   ·rw[dF (by omega),cond_false]
    dsimp only
    rw[if_neg h160,wrap16N (by omega)]
    unfold mhas
    rw[find_map,hk,show(Option.map (fun z=>(zs z,zl z,())) (none:Option Int)).isSome=false from rfl,cond_false,log_len,if_pos (by omega),if_pos (by omega),Int.toNat_natCast,if_pos (by omega),log_put]
    have hs1:=hs.ask hj (by omega) (by omega) hk
    obtain⟨M,rfl⟩:∃M,m=M+1:=⟨m-1,by omega⟩
    refine Ir.wrap (ruleM_ok (hn.goodA (f:=f) (i:=j) (by omega) (by omega)) (hn.ok j (by omega)).toNdOk (hn.val j (by omega)) (n:=n) (by omega) hs1) (ruleRest hn (m:=M+1) (by omega) (implAsk hn f (M+1) j (by omega) (by omega) (by omega)) (deadAsk (N:=N) M) (by omega) (by omega) (by omega) hs1 _) (fun z s' ⟨_,_,_,d,l,e1,e2,e3,_⟩=> ?_) (fun b l o c' M' L hc=> ?_)
    ·rw[failLive,cond_false,map_put z (by rw[e1];exact look_app hk e3)]
    ·by_cases h0:c'=0
     ·subst h0
      cases o with
      |false=>exact absurd rfl hc
      |true=>rw[failOver,cond_true];rfl
     ·rw[failDead o h0,cond_true,fcO_nz o h0];rfl
end
end Go.Proofs.YtlmmgjngihlpeaaGreat.Sx
