import Derived.Test.YtlmmgjngihlpeaaGreatGskR
namespace Go.Proofs.YtlmmgjngihlpeaaGreat.Sx
open Go
set_option linter.unusedVariables false
set_option linter.unusedSimpArgs false
set_option maxRecDepth 100000
def encE(e:Nat×Nat×Int):Ty5:=((e.2.1:Int),zs e.2.2,zl e.2.2,())
def rowsOf(N:Nat)(M:List (Nat×Nat×Int)):Ty3:=(List.range N).map fun i=>(M.filter fun e=>e.1==i).map encE
def logOf(L:List (Nat×Nat)):Ty0:=L.map fun p=>[(p.1:Int),(p.2:Int)]
def Sp{α β:Type}(E:β→MS→Option α)(D:Int→Ty3→Ty0→Option α)(x:Option α)(r:Except Int (β×MS)):Prop:=match r with
 | .ok (z,s)=>x=E z s
 | .error c=>∃R L,x=D c R L
theorem nzc{β:Type}{c:Int}(h:c≠0)(a b:β):cond (c !=0) a b=a:=by
 have:(c !=0)=true:=by simpa using h
 rw[this];rfl
theorem zc{β:Type}(a b:β):cond ((0:Int) !=0) a b=b:=rfl
section
variable {α β γ:Type}
theorem Sp.bind{P:β→MS→Prop}{f:MR β}{g:β→MR γ}{s:MS}{E0:β→MS→Option α}{D0:Int→Ty3→Ty0→Option α}{E:γ→MS→Option α}{D:Int→Ty3→Ty0→Option α}{x:Option α}
  (ho:OkR P (f s)) (h:Sp E0 D0 x (f s)) (hE:∀z s',P z s'→Sp E D (E0 z s') (g z s')) (hD:∀c R L,c≠0→D0 c R L=D c R L):Sp E D x (mbind f g s):=by
 unfold mbind
 cases hf:f s with
 |ok r=>obtain⟨z,s'⟩:=r;rw[hf] at ho h;rw[show x=E0 z s' from h];exact hE z s' ho
 |error c=>
  rw[hf] at ho h
  obtain⟨R,L,h⟩:=h
  exact⟨R,L,h.trans (hD c R L (by rcases ho with rfl|rfl<;>decide))⟩
theorem Sp.pure{E:β→MS→Option α}{D:Int→Ty3→Ty0→Option α}{x:Option α}{z:β}{s:MS}(h:x=E z s):Sp E D x (mpure z s):=h
theorem Sp.err{E:β→MS→Option α}{D:Int→Ty3→Ty0→Option α}{x:Option α}{c:Int}{s:MS}(R:Ty3)(L:Ty0)(h:x=D c R L):Sp E D x (merr c s):=⟨R,L,h⟩
theorem Sp.fit{E:γ→MS→Option α}{D:Int→Ty3→Ty0→Option α}{x a b:Option α}{z:Int}{g:Int→MR γ}{s:MS}(R:Ty3)(L:Ty0)(h:x=cond (fitZ z) a b)(ha:z.natAbs<W192→Sp E D a (g z s))(hb:b=D 3 R L):Sp E D x (mbind (fitM z) g s):=by
 unfold mbind fitM
 cases hf:fitZ z with
 |true=>rw[hf,cond_true] at h;rw[h];exact ha (fitZ_iff.1 hf)
 |false=>rw[hf,cond_false] at h;rw[h];exact⟨R,L,hb⟩
end
theorem b190W:4*B190=W192:=w192_lit.symm
theorem b190_pos:0<B190:=by decide
structure NdR (x:List Int) (i:Nat):Prop extends NdOk x i where
 kr:1≤kd x∧kd x≤12
 ea:usA (kd x)→x.tail.headD 0=(xa x:Int)
 eb:usB (kd x)→x.tail.tail.headD 0=(xb x:Int)
section
variable {N:Nat} {v:Nat→Rat} {u:Ty0}
abbrev nd(u:Ty0)(i:Nat):List Int:=List.getD u i []
structure Nds (N:Nat) (v:Nat→Rat) (u:Ty0):Prop where
 n40:N≤40
 len:u.length=N
 ok:∀i,i<N→NdR (nd u i) i
 val:∀i,i<N→v i=valR v (nd u i)
theorem Nds.lt(h:Nds N v u){i:Nat}(hi:i<N):i<u.length:=by rw[h.len];exact hi
theorem Nds.good(h:Nds N v u){f i b n:Nat}(hf:i<f)(hi:i<N)(hb:i<b){s:MS}(hs:InvS N v b s):
  OkR (fun z s'=>Near1 (v i) n z∧z.natAbs≤B190∧n≤160∧InvS N v b s') (askM (nd u) f i n s):=
 (askM_ok (fun i hi=>(h.ok i hi).toNdOk) h.val f i hf hi b n s hb hs).mono fun z s' ⟨h1,h2,h3,h4,_,_⟩=>⟨h1,h2,h3,h4⟩
def SpecOK(N:Nat)(v:Nat→Rat)(u:Ty0)(f b:Nat)(A:{α:Type}→S_g36 α):Prop:=
 ∀{α:Type} (j n:Nat) (s:MS),j<b→n≤1000→InvS N v b s→∀k:Bool→List Int→Int→Nat→Nat→Nat→Ty0→Ty3→Ty0→Option α,
  Sp (fun z s'=>k (zs z) (zl z) 0 0 N N u (rowsOf N s'.1) (logOf s'.2)) (fun c R L=>k false [0,0,0,0,0,0] c 0 N N u R L)
   (A (j:Int) (n:Int) 0 N N u (rowsOf N s.1) (logOf s.2) k) (askM (nd u) f j n s)
section
variable {α:Type} {f b:Nat} {A:{α:Type}→S_g36 α} {m:Nat}
theorem grow_tail{a:Nat}(L:Nat)(hL:isLen (a+1) L=true):isLen a (if a+1=2^(L-1) then L-1 else L)=true∧1≤L:=by
 rw[isLen_iff] at hL
 obtain⟨h1,h2⟩:=hL
 have hL1:1≤L:=by
  rcases Nat.eq_zero_or_pos L with h|h
  ·subst h;simp at h1
  ·exact h
 have h3:2^(L-1)≤a+1:=by rcases h2 with h|h<;>omega
 refine⟨?_,hL1⟩
 rw[isLen_iff]
 split
 ·rename_i he
  refine⟨by omega, ?_⟩
  rcases Nat.eq_zero_or_pos (L-1) with h|h
  ·exact .inl h
  ·right
   have:2^(L-1)=2*2^(L-1-1):=by rw[←Nat.pow_succ'];congr 1;omega
   have:=Nat.pow_pos (n:=L-1-1) (show 0<2 by decide)
   omega
 ·rename_i he
  refine⟨by omega, .inr (by omega)⟩
theorem growS(hn:Nds N v u)(hm:300≤m)(hA:SpecOK N v u f b A){i:Nat}(hf:i<f)(hi:i<N)(hb:i<b){s:MS}(hs:InvS N v b s)(k:Int→Int→Nat→Nat→Nat→Ty3→Ty0→Option α):
  Sp (fun(g:Nat) s'=>k (g:Int) 0 0 N N (rowsOf N s'.1) (logOf s'.2)) (fun c R L=>k 0 c 0 N N R L)
   (g123 A m (i:Int) 0 N N u (rowsOf N s.1) (logOf s.2) k) (growM (askM (nd u) f) i s):=by
 rw[g123_o]
 unfold growM
 refine Sp.bind (hn.good hf hi hb hs) (hA i 0 s hb (by omega) hs _) (fun z s' ⟨_,hz,_,_⟩=> ?_) (fun c R L hc=>nzc hc _ _)
 have hW:=b190W
 have hB:=b190_pos
 refine Sp.pure ?_
 rw[zc,ofS (by omega) (by omega),show false=zs (z.natAbs:Int) from(zs_nat _).symm,show zl z=zl (z.natAbs:Int) from rfl,addS hm (by omega) (by decide),fitZ_iff.2 (by omega),cond_true,zc]
 obtain⟨h1,h2⟩:=grow_tail (a:=z.natAbs) (lenZ ((z.natAbs:Int)+1)) (by
  have:=isLen_lenZ ((z.natAbs:Int)+1)
  rwa[show((z.natAbs:Int)+1).natAbs=z.natAbs+1 by omega] at this)
 have h3:=isLen_unique h1 (isLen_lenZ z)
 have h192:=len_le192 (a:=((z.natAbs:Int)+1).natAbs) (by omega) (isLen_lenZ _)
 generalize hL:lenZ ((z.natAbs:Int)+1)=L at*
 rw[bitsS hm (by omega),hL,ofS (by omega) (by omega),show IntKind.wrap .i64 ((L:Int)-1)=((L-1:Nat):Int) by rw[wrapI (by omega) (by omega)];omega]
 obtain⟨M,rfl⟩:∃M,m=M+40:=⟨m-40,by omega⟩
 have hp:2^(L-1)<W192:=by rw[←pow192];exact Nat.pow_lt_pow_right (by decide) (by omega)
 rw[g77Z (L-1) (by omega) (by decide),powI,fitZ_iff.2 (nb hp),cond_true,show((0:Int)==0)=true from rfl,cond_true,cmpS hm (nb hp) (by omega)]
 by_cases he:z.natAbs+1=2^(L-1)
 ·rw[if_pos he] at h3
  rw[←h3,show cmpI ((2^(L-1):Nat):Int) ((z.natAbs:Int)+1)=0 by unfold cmpI;rw[if_neg (by omega),if_neg (by omega)]];rfl
 ·rw[if_neg he] at h3
  have:(cmpI ((2^(L-1):Nat):Int) ((z.natAbs:Int)+1)==0)=false:=by
   unfold cmpI
   by_cases h4:((2^(L-1):Nat):Int)<(z.natAbs:Int)+1
   ·rw[if_pos h4];rfl
   ·rw[if_neg h4,if_pos (by omega)];rfl
  rw[←h3,this];rfl
theorem awayS(hn:Nds N v u)(hm:300≤m)(hA:SpecOK N v u f b A){i:Nat}(hf:i<f)(hi:i<N)(hb:i<b)
  (k1:Int→Int→Nat→Nat→Nat→Ty3→Ty0→Option α):∀(d w F:Nat) {s:MS},w+d=41→d<F→InvS N v b s→
  Sp (fun(g:Nat) s'=>k1 (g:Int) 0 0 N N (rowsOf N s'.1) (logOf s'.2)) (fun c R L=>k1 0 c 0 N N R L)
   (g125l0 A (g80 m) (g81 m) (i:Int) u k1 (fun a1 a2 a3 R L=>k1 0 7 a1 a2 a3 R L) F (w:Int) 0 N N (rowsOf N s.1) (logOf s.2)) (awayM (askM (nd u) f) i d w s)
 |0,w,F,s,hw,hF,hs=>by
  obtain⟨F,rfl⟩:∃n,F=n+1:=⟨F-1,by omega⟩
  rw[g125l0_s,dF (by omega),cond_false]
  exact⟨_,_,rfl⟩
 |d+1,w,F,s,hw,hF,hs=>by
  obtain⟨F,rfl⟩:∃n,F=n+1:=⟨F-1,by omega⟩
  have hW:=b190W
  have hB:=b190_pos
  rw[g125l0_s,dT (by omega),cond_true,show IntKind.wrap .i64 ((w:Int)+2)=((w+2:Nat):Int) by rw[wrapI (by omega) (by omega)];rfl]
  unfold awayM
  refine Sp.bind (hn.good hf hi hb hs) (hA i (w+2) s hb (by omega) hs _) (fun z s' ⟨_,hz,_,hs'⟩=> ?_) (fun c R L hc=>nzc hc _ _)
  rw[zc,ofS (by omega) (by omega),show false=zs (z.natAbs:Int) from(zs_nat _).symm,show zl z=zl (z.natAbs:Int) from rfl,cmpS hm (by omega) (by decide)]
  by_cases h5:5≤z.natAbs
  ·have:decide (cmpI (z.natAbs:Int) 5≥0)=true:=by
    unfold cmpI;rw[if_neg (by omega)];split<;>rfl
   rw[this,cond_true,if_pos h5]
   exact Sp.pure rfl
  ·have:decide (cmpI (z.natAbs:Int) 5≥0)=false:=by
    unfold cmpI;rw[if_pos (by omega)];rfl
   rw[this,cond_false,if_neg h5,show IntKind.wrap .i64 ((w:Int)+1)=((w+1:Nat):Int) by rw[wrapI (by omega) (by omega)];rfl]
   exact awayS hn hm hA hf hi hb k1 d (w+1) F (by omega) (by omega) hs'
end
end
theorem wr1{a:Nat}(h:a≤1000000):IntKind.wrap .i64 ((a:Int)+1)=((a+1:Nat):Int):=by rw[wrapI (by omega) (by omega)];rfl
theorem wr2{a:Nat}(h:a≤1000000):IntKind.wrap .i64 ((a:Int)+2)=((a+2:Nat):Int):=by rw[wrapI (by omega) (by omega)];rfl
theorem wr3{a:Nat}(h:a≤1000000):IntKind.wrap .i64 ((a:Int)+3)=((a+3:Nat):Int):=by rw[wrapI (by omega) (by omega)];rfl
theorem wr4{a:Nat}(h:a≤1000000):IntKind.wrap .i64 ((a:Int)+4)=((a+4:Nat):Int):=by rw[wrapI (by omega) (by omega)];rfl
theorem wr6{a:Nat}(h:a≤1000000):IntKind.wrap .i64 ((a:Int)+6)=((a+6:Nat):Int):=by rw[wrapI (by omega) (by omega)];rfl
theorem wrN{a b:Nat}(h:a+b≤1000000):IntKind.wrap .i64 ((a:Int)+(b:Int))=((a+b:Nat):Int):=by rw[wrapI (by omega) (by omega)];omega
theorem wrD{a:Nat}(h:a≤1000000):IntKind.wrap .i64 ((2:Int)*(a:Int))=((2*a:Nat):Int):=by rw[wrapI (by omega) (by omega)];omega
theorem wrS{a:Nat}(h:a≤1000000):IntKind.wrap .i64 (a:Int)=(a:Int):=wrapI (by omega) (by omega)
section
variable {N:Nat} {v:Nat→Rat} {u:Ty0}
theorem Nds.goodA(h:Nds N v u){f i:Nat}(hf:i≤f)(hi:i≤N):GoodA N v (askM (nd u) f) i:=fun j hj n s hs=>
 (askM_ok (fun i hi=>(h.ok i hi).toNdOk) h.val f j (by omega) (by omega) i n s hj hs).mono fun z s' ⟨h1,h2,h3,h4,h5,_⟩=>⟨h1,h2,h3,h4,h5.mono (by omega)⟩
theorem lenZ_le{z:Int}(h:z.natAbs≤B190):lenZ z≤192:=len_le192 (by have:=b190W;have:=b190_pos;omega) (isLen_lenZ z)
theorem Nds.grow(h:Nds N v u){f i j:Nat}(hf:i≤f)(hi:i≤N)(hj:j<i){s:MS}(hs:InvS N v i s):OkR (fun g s'=>g≤192∧InvS N v i s') (growM (askM (nd u) f) j s):=
 (growM_ok (h.goodA hf hi) hj hs).mono fun g s' ⟨⟨a0,_,h2,h3⟩,h4,_⟩=>⟨by rw[h2];exact lenZ_le h3,h4⟩
theorem Nds.away(h:Nds N v u){f i j:Nat}(hf:i≤f)(hi:i≤N)(hj:j<i):∀(d w:Nat) {s:MS},w+d=41→InvS N v i s→OkR (fun k s'=>1≤absQ (v j)*2^k∧k≤40∧InvS N v i s') (awayM (askM (nd u) f) j d w s)
 |0,w,s,_,hs=> .inr rfl
 |d+1,w,s,hw,hs=>by
  unfold awayM
  refine(h.goodA hf hi j hj (w+2) s hs).bind fun a s' ⟨h1,h2,_,h3,h4⟩=> ?_
  by_cases h5:5≤a.natAbs
  ·rw[if_pos h5];exact⟨quot_far h1 h5,by omega,h3⟩
  ·rw[if_neg h5];exact Nds.away h hf hi hj d (w+1) (by omega) h3
variable {α:Type} {f i:Nat} {A:{α:Type}→S_g36 α} {m:Nat}
abbrev Er(N:Nat)(k:Bool→List Int→Int→Nat→Nat→Nat→Ty3→Ty0→Option α):Int→MS→Option α:=fun z s'=>k (zs z) (zl z) 0 0 N N (rowsOf N s'.1) (logOf s'.2)
abbrev Dr(N:Nat)(k:Bool→List Int→Int→Nat→Nat→Nat→Ty3→Ty0→Option α):Int→Ty3→Ty0→Option α:=fun c R L=>k false [0,0,0,0,0,0] c 0 N N R L
theorem b190h{z:Int}(h:z.natAbs≤B190):z.natAbs<W192:=by have:=b190W;have:=b190_pos;omega
theorem prodS(hn:Nds N v u)(hm:300≤m)(hA:SpecOK N v u f i A)(hf:i≤f)(hi:i<N){n:Nat}(hn1:n≤160)(hk:kd (nd u i)=4){s:MS}(hs:InvS N v i s)(k:Bool→List Int→Int→Nat→Nat→Nat→Ty3→Ty0→Option α):
  Sp (Er N k) (Dr N k) (g102 A m i (n:Int) 0 N N u (rowsOf N s.1) (logOf s.2) k) (ruleM (askM (nd u) f) (nd u i) n s):=by
 have hx:=hn.ok i hi
 have h40:=hn.n40
 have ha:=hx.a ⟨by omega,by omega⟩
 have hb:=hx.b (.inl (by omega))
 have ea:(List.getD u i []).tail.headD 0=(xa (nd u i):Int):=hx.ea ⟨by omega,by omega⟩
 have eb:(List.getD u i []).tail.tail.headD 0=(xb (nd u i):Int):=hx.eb (.inl (by omega))
 simp only[ruleM,hk,Int.reduceEq,↓reduceIte]
 rw[g102_o,if_pos (hn.lt hi),ea,eb]
 generalize xa (nd u i)=ja at*
 generalize xb (nd u i)=jb at*
 rw[wrS (by omega)]
 refine Sp.bind (hn.grow hf (by omega) ha hs) (growS hn hm hA (by omega) (by omega) ha hs _) (fun ga s1 ⟨g1,hs1⟩=> ?_) (fun c R L hc=>nzc hc _ _)
 rw[zc,if_pos (hn.lt hi),wrS (by omega)]
 refine Sp.bind (hn.grow hf (by omega) hb hs1) (growS hn hm hA (by omega) (by omega) hb hs1 _) (fun gb s2 ⟨g2,hs2⟩=> ?_) (fun c R L hc=>nzc hc _ _)
 rw[zc,if_pos (hn.lt hi),wrN (by omega),wr3 (by omega)]
 refine Sp.bind (hn.good (by omega) (by omega) ha hs2) (hA ja (n+gb+3) s2 ha (by omega) hs2 _) (fun p s3 ⟨_,p2,_,hs3⟩=> ?_) (fun c R L hc=>nzc hc _ _)
 rw[zc,if_pos (hn.lt hi),wrN (by omega),wr3 (by omega)]
 refine Sp.bind (hn.good (by omega) (by omega) hb hs3) (hA jb (n+ga+3) s3 hb (by omega) hs3 _) (fun q s4 ⟨_,q2,_,hs4⟩=> ?_) (fun c R L hc=>nzc hc _ _)
 rw[zc,mulW hm (b190h p2) (b190h q2)]
 refine Sp.fit _ _ rfl (fun hpq=> ?_) (nzc (by decide) _ _)
 rw[zc,wrN (by omega),wr6 (by omega),nearB hm (by omega) hpq]
 unfold nearM
 by_cases h:n+ga+gb+6≤191
 ·rw[if_pos h,if_pos h];exact Sp.pure rfl
 ·rw[if_neg h,if_neg h];exact Sp.err _ _ rfl
theorem quotS(hn:Nds N v u)(hm:300≤m)(hA:SpecOK N v u f i A)(hf:i≤f)(hi:i<N){n:Nat}(hn1:n≤160)(hk:kd (nd u i)=5){s:MS}(hs:InvS N v i s)(k:Bool→List Int→Int→Nat→Nat→Nat→Ty3→Ty0→Option α):
  Sp (Er N k) (Dr N k) (g103 A m i (n:Int) 0 N N u (rowsOf N s.1) (logOf s.2) k) (ruleM (askM (nd u) f) (nd u i) n s):=by
 have hx:=hn.ok i hi
 have h40:=hn.n40
 have ha:=hx.a ⟨by omega,by omega⟩
 have hb:=hx.b (.inl (by omega))
 have ea:(List.getD u i []).tail.headD 0=(xa (nd u i):Int):=hx.ea ⟨by omega,by omega⟩
 have eb:(List.getD u i []).tail.tail.headD 0=(xb (nd u i):Int):=hx.eb (.inl (by omega))
 simp only[ruleM,hk,Int.reduceEq,↓reduceIte]
 rw[g103_o,if_pos (hn.lt hi),ea,eb]
 generalize xa (nd u i)=ja at*
 generalize xb (nd u i)=jb at*
 rw[wrS (by omega),g125_o]
 refine Sp.bind (hn.away hf (by omega) hb 41 0 (by omega) hs) (awayS hn hm hA (by omega) (by omega) hb _ 41 0 m (by omega) (by omega) hs) (fun kk s1 ⟨w1,w2,hs1⟩=> ?_) (fun c R L hc=>nzc hc _ _)
 rw[zc,if_pos (hn.lt hi),wrS (by omega)]
 refine Sp.bind (hn.grow hf (by omega) ha hs1) (growS hn hm hA (by omega) (by omega) ha hs1 _) (fun ga s2 ⟨g2,hs2⟩=> ?_) (fun c R L hc=>nzc hc _ _)
 rw[zc,if_pos (hn.lt hi),wrN (by omega),wr3 (by omega)]
 refine Sp.bind (hn.good (by omega) (by omega) ha hs2) (hA ja (n+kk+3) s2 ha (by omega) hs2 _) (fun p s3 ⟨_,p2,_,hs3⟩=> ?_) (fun c R L hc=>nzc hc _ _)
 rw[zc,if_pos (hn.lt hi),wrN (by omega),wrD (by omega),wrN (by omega),wr4 (by omega)]
 refine Sp.bind (hn.good (by omega) (by omega) hb hs3) (hA jb (n+ga+2*kk+4) s3 hb (by omega) hs3 _) (fun q s4 ⟨q1,q2,_,hs4⟩=> ?_) (fun c R L hc=>nzc hc _ _)
 have hq:=quot_big w1 q1
 rw[zc,wrN (by omega),wr1 (by omega),upS hm (b190h p2)]
 unfold upM
 by_cases h:n+ga+kk+1≤191
 ·rw[if_pos h,if_pos h]
  refine Sp.fit _ _ rfl (fun hpq=> ?_) (nzc (by decide) _ _)
  rw[zc,g98Z m (by omega) hpq (b190h q2) (by omega)]
  exact Sp.pure rfl
 ·rw[if_neg h,if_neg h]
  exact⟨_,_,nzc (by decide) _ _⟩
end
theorem min_cmp{a b:Int}:cond ((decide (cmpI a b<0))==true) a b=min a b:=by
 unfold cmpI
 by_cases h1:a<b
 ·rw[if_pos h1];show a=min a b;omega
 ·rw[if_neg h1]
  by_cases h2:b<a
  ·rw[if_pos h2];show b=min a b;omega
  ·rw[if_neg h2];show b=min a b;omega
theorem max_cmp{a b:Int}:cond ((decide (cmpI a b<0))==false) a b=max a b:=by
 unfold cmpI
 by_cases h1:a<b
 ·rw[if_pos h1];show b=max a b;omega
 ·rw[if_neg h1]
  by_cases h2:b<a
  ·rw[if_pos h2];show a=max a b;omega
  ·rw[if_neg h2];show a=max a b;omega
theorem cond_app{β:Type}(c:Bool)(K:Int→β)(a b:Int):cond c (K a) (K b)=K (cond c a b):=by cases c<;>rfl
theorem pi_ex{α:Type}{m n:Nat}(hm:300≤m)(hn:n≤160):∃P,piZ n=P∧∀k:Bool→List Int→Option α,g99 m (n:Int) k=k (zs P) (zl P):=⟨_,rfl,piS hm hn⟩
theorem eul_ex{α:Type}{m n:Nat}(hm:300≤m)(hn:n≤160):∃P,eulZ n=P∧∀k:Bool→List Int→Option α,g100 m (n:Int) k=k (zs P) (zl P):=⟨_,rfl,eulerS hm hn⟩
section
variable {N:Nat} {v:Nat→Rat} {u:Ty0}
variable {α:Type} {f i:Nat} {A:{α:Type}→S_g36 α} {m:Nat}
theorem made1(hn:Nds N v u)(hm:300≤m)(hA:SpecOK N v u f i A)(hf:i≤f)(hi:i<N)(hk:kd (nd u i)=1){n:Nat}(hn1:n≤160){s:MS}(hs:InvS N v i s)(k:Bool→List Int→Int→Nat→Nat→Nat→Ty3→Ty0→Option α):
  Sp (Er N k) (Dr N k) (g70 A m i (n:Int) 0 N N u (rowsOf N s.1) (logOf s.2) k) (ruleM (askM (nd u) f) (nd u i) n s):=by
 have hx:=hn.ok i hi
 have h40:=hn.n40
 have hW:=b190W
 have hB:=b190_pos
 have hka:usA (kd (nd u i))→xa (nd u i)<i∧(List.getD u i []).tail.headD 0=(xa (nd u i):Int):=fun h=>⟨hx.a h,hx.ea h⟩
 have hkb:usB (kd (nd u i))→xb (nd u i)<i∧(List.getD u i []).tail.tail.headD 0=(xb (nd u i):Int):=fun h=>⟨hx.b h,hx.eb h⟩
 rw[g70_o,if_pos (hn.lt hi)]
 have hkd:(List.getD u i []).headD 0=kd (nd u i):=rfl
 rw[hkd]
 obtain⟨p1,p2,p3⟩:=hx.k1 hk
 have h9:(1000000000:Nat)<W192:=by decide
 simp only[ruleM,hk,Int.reduceEq,↓reduceIte,Int.reduceBEq,cond_true,cond_false,if_pos (hn.lt hi)]
 rw[show(List.getD u i []).tail.tail.tail.headD 0=xp (nd u i) from rfl,show(List.getD u i []).tail.tail.tail.tail.headD 0=xq (nd u i) from rfl,ofS (by omega) (by omega),upS hm (by omega)]
 unfold upM
 by_cases h:n≤191
 ·rw[if_pos h,if_pos h]
  refine Sp.fit _ _ rfl (fun hz=> ?_) (nzc (by decide) _ _)
  rw[zc,ofS (by omega) (by omega),g98Z m (by omega) hz (by omega) (by omega)]
  exact Sp.pure rfl
 ·omega
theorem made2(hn:Nds N v u)(hm:300≤m)(hA:SpecOK N v u f i A)(hf:i≤f)(hi:i<N)(hk:kd (nd u i)=2){n:Nat}(hn1:n≤160){s:MS}(hs:InvS N v i s)(k:Bool→List Int→Int→Nat→Nat→Nat→Ty3→Ty0→Option α):
  Sp (Er N k) (Dr N k) (g70 A m i (n:Int) 0 N N u (rowsOf N s.1) (logOf s.2) k) (ruleM (askM (nd u) f) (nd u i) n s):=by
 have hx:=hn.ok i hi
 have h40:=hn.n40
 have hW:=b190W
 have hB:=b190_pos
 have hka:usA (kd (nd u i))→xa (nd u i)<i∧(List.getD u i []).tail.headD 0=(xa (nd u i):Int):=fun h=>⟨hx.a h,hx.ea h⟩
 have hkb:usB (kd (nd u i))→xb (nd u i)<i∧(List.getD u i []).tail.tail.headD 0=(xb (nd u i):Int):=fun h=>⟨hx.b h,hx.eb h⟩
 rw[g70_o,if_pos (hn.lt hi)]
 have hkd:(List.getD u i []).headD 0=kd (nd u i):=rfl
 rw[hkd]
 obtain⟨ha,ea⟩:=hka ⟨by omega,by omega⟩
 obtain⟨hb,eb⟩:=hkb (.inl (by omega))
 simp only[ruleM,hk,Int.reduceEq,↓reduceIte,Int.reduceBEq,cond_true,cond_false,if_pos (hn.lt hi),ea,eb]
 generalize xa (nd u i)=ja at*
 generalize xb (nd u i)=jb at*
 rw[wrS (by omega),wrS (by omega),wr2 (by omega)]
 refine Sp.bind (hn.good (by omega) (by omega) ha hs) (hA ja (n+2) s ha (by omega) hs _) (fun p s1 ⟨_,p2,_,hs1⟩=> ?_) (fun c R L hc=>nzc hc _ _)
 rw[zc]
 refine Sp.bind (hn.good (by omega) (by omega) hb hs1) (hA jb (n+2) s1 hb (by omega) hs1 _) (fun q s2 ⟨_,q2,_,hs2⟩=> ?_) (fun c R L hc=>nzc hc _ _)
 rw[zc,addS hm (b190h p2) (b190h q2)]
 refine Sp.fit _ _ rfl (fun hz=> ?_) (nzc (by decide) _ _)
 rw[zc]
 exact Sp.pure (nearS hm (p:=2) (by omega) (by omega) hz _)
theorem made3(hn:Nds N v u)(hm:300≤m)(hA:SpecOK N v u f i A)(hf:i≤f)(hi:i<N)(hk:kd (nd u i)=3){n:Nat}(hn1:n≤160){s:MS}(hs:InvS N v i s)(k:Bool→List Int→Int→Nat→Nat→Nat→Ty3→Ty0→Option α):
  Sp (Er N k) (Dr N k) (g70 A m i (n:Int) 0 N N u (rowsOf N s.1) (logOf s.2) k) (ruleM (askM (nd u) f) (nd u i) n s):=by
 have hx:=hn.ok i hi
 have h40:=hn.n40
 have hW:=b190W
 have hB:=b190_pos
 have hka:usA (kd (nd u i))→xa (nd u i)<i∧(List.getD u i []).tail.headD 0=(xa (nd u i):Int):=fun h=>⟨hx.a h,hx.ea h⟩
 have hkb:usB (kd (nd u i))→xb (nd u i)<i∧(List.getD u i []).tail.tail.headD 0=(xb (nd u i):Int):=fun h=>⟨hx.b h,hx.eb h⟩
 rw[g70_o,if_pos (hn.lt hi)]
 have hkd:(List.getD u i []).headD 0=kd (nd u i):=rfl
 rw[hkd]
 obtain⟨ha,ea⟩:=hka ⟨by omega,by omega⟩
 obtain⟨hb,eb⟩:=hkb (.inl (by omega))
 simp only[ruleM,hk,Int.reduceEq,↓reduceIte,Int.reduceBEq,cond_true,cond_false,if_pos (hn.lt hi),ea,eb]
 generalize xa (nd u i)=ja at*
 generalize xb (nd u i)=jb at*
 rw[wrS (by omega),wrS (by omega),wr2 (by omega)]
 refine Sp.bind (hn.good (by omega) (by omega) ha hs) (hA ja (n+2) s ha (by omega) hs _) (fun p s1 ⟨_,p2,_,hs1⟩=> ?_) (fun c R L hc=>nzc hc _ _)
 rw[zc]
 refine Sp.bind (hn.good (by omega) (by omega) hb hs1) (hA jb (n+2) s1 hb (by omega) hs1 _) (fun q s2 ⟨_,q2,_,hs2⟩=> ?_) (fun c R L hc=>nzc hc _ _)
 rw[zc,g79Z m (b190h q2),←zl_neg q,addS hm (b190h p2) (by rw[Int.natAbs_neg];exact b190h q2),←Int.sub_eq_add_neg]
 refine Sp.fit _ _ rfl (fun hz=> ?_) (nzc (by decide) _ _)
 rw[zc]
 exact Sp.pure (nearS hm (p:=2) (by omega) (by omega) hz _)
theorem made4(hn:Nds N v u)(hm:300≤m)(hA:SpecOK N v u f i A)(hf:i≤f)(hi:i<N)(hk:kd (nd u i)=4){n:Nat}(hn1:n≤160){s:MS}(hs:InvS N v i s)(k:Bool→List Int→Int→Nat→Nat→Nat→Ty3→Ty0→Option α):
  Sp (Er N k) (Dr N k) (g70 A m i (n:Int) 0 N N u (rowsOf N s.1) (logOf s.2) k) (ruleM (askM (nd u) f) (nd u i) n s):=by
 have hx:=hn.ok i hi
 have h40:=hn.n40
 have hW:=b190W
 have hB:=b190_pos
 have hka:usA (kd (nd u i))→xa (nd u i)<i∧(List.getD u i []).tail.headD 0=(xa (nd u i):Int):=fun h=>⟨hx.a h,hx.ea h⟩
 have hkb:usB (kd (nd u i))→xb (nd u i)<i∧(List.getD u i []).tail.tail.headD 0=(xb (nd u i):Int):=fun h=>⟨hx.b h,hx.eb h⟩
 rw[g70_o,if_pos (hn.lt hi)]
 have hkd:(List.getD u i []).headD 0=kd (nd u i):=rfl
 rw[hkd]
 have:=prodS hn hm hA hf hi hn1 hk hs k
 simp only[hk,Int.reduceBEq,cond_true,cond_false]
 exact this
theorem made5(hn:Nds N v u)(hm:300≤m)(hA:SpecOK N v u f i A)(hf:i≤f)(hi:i<N)(hk:kd (nd u i)=5){n:Nat}(hn1:n≤160){s:MS}(hs:InvS N v i s)(k:Bool→List Int→Int→Nat→Nat→Nat→Ty3→Ty0→Option α):
  Sp (Er N k) (Dr N k) (g70 A m i (n:Int) 0 N N u (rowsOf N s.1) (logOf s.2) k) (ruleM (askM (nd u) f) (nd u i) n s):=by
 have hx:=hn.ok i hi
 have h40:=hn.n40
 have hW:=b190W
 have hB:=b190_pos
 have hka:usA (kd (nd u i))→xa (nd u i)<i∧(List.getD u i []).tail.headD 0=(xa (nd u i):Int):=fun h=>⟨hx.a h,hx.ea h⟩
 have hkb:usB (kd (nd u i))→xb (nd u i)<i∧(List.getD u i []).tail.tail.headD 0=(xb (nd u i):Int):=fun h=>⟨hx.b h,hx.eb h⟩
 rw[g70_o,if_pos (hn.lt hi)]
 have hkd:(List.getD u i []).headD 0=kd (nd u i):=rfl
 rw[hkd]
 have:=quotS hn hm hA hf hi hn1 hk hs k
 simp only[hk,Int.reduceBEq,cond_true,cond_false]
 exact this
theorem made6(hn:Nds N v u)(hm:300≤m)(hA:SpecOK N v u f i A)(hf:i≤f)(hi:i<N)(hk:kd (nd u i)=6){n:Nat}(hn1:n≤160){s:MS}(hs:InvS N v i s)(k:Bool→List Int→Int→Nat→Nat→Nat→Ty3→Ty0→Option α):
  Sp (Er N k) (Dr N k) (g70 A m i (n:Int) 0 N N u (rowsOf N s.1) (logOf s.2) k) (ruleM (askM (nd u) f) (nd u i) n s):=by
 have hx:=hn.ok i hi
 have h40:=hn.n40
 have hW:=b190W
 have hB:=b190_pos
 have hka:usA (kd (nd u i))→xa (nd u i)<i∧(List.getD u i []).tail.headD 0=(xa (nd u i):Int):=fun h=>⟨hx.a h,hx.ea h⟩
 have hkb:usB (kd (nd u i))→xb (nd u i)<i∧(List.getD u i []).tail.tail.headD 0=(xb (nd u i):Int):=fun h=>⟨hx.b h,hx.eb h⟩
 rw[g70_o,if_pos (hn.lt hi)]
 have hkd:(List.getD u i []).headD 0=kd (nd u i):=rfl
 rw[hkd]
 obtain⟨ha,ea⟩:=hka ⟨by omega,by omega⟩
 simp only[ruleM,hk,Int.reduceEq,↓reduceIte,Int.reduceBEq,cond_true,cond_false,if_pos (hn.lt hi),ea,hkd]
 generalize xa (nd u i)=ja at*
 rw[wrS (by omega)]
 refine Sp.bind (hn.good (by omega) (by omega) ha hs) (hA ja n s ha (by omega) hs _) (fun p s1 ⟨_,p2,_,hs1⟩=> ?_) (fun c R L hc=>nzc hc _ _)
 rw[zc,g79Z m (b190h p2)]
 exact Sp.pure (by rw[←zl_neg p])
theorem made7(hn:Nds N v u)(hm:300≤m)(hA:SpecOK N v u f i A)(hf:i≤f)(hi:i<N)(hk:kd (nd u i)=7){n:Nat}(hn1:n≤160){s:MS}(hs:InvS N v i s)(k:Bool→List Int→Int→Nat→Nat→Nat→Ty3→Ty0→Option α):
  Sp (Er N k) (Dr N k) (g70 A m i (n:Int) 0 N N u (rowsOf N s.1) (logOf s.2) k) (ruleM (askM (nd u) f) (nd u i) n s):=by
 have hx:=hn.ok i hi
 have h40:=hn.n40
 have hW:=b190W
 have hB:=b190_pos
 have hka:usA (kd (nd u i))→xa (nd u i)<i∧(List.getD u i []).tail.headD 0=(xa (nd u i):Int):=fun h=>⟨hx.a h,hx.ea h⟩
 have hkb:usB (kd (nd u i))→xb (nd u i)<i∧(List.getD u i []).tail.tail.headD 0=(xb (nd u i):Int):=fun h=>⟨hx.b h,hx.eb h⟩
 rw[g70_o,if_pos (hn.lt hi)]
 have hkd:(List.getD u i []).headD 0=kd (nd u i):=rfl
 rw[hkd]
 obtain⟨ha,ea⟩:=hka ⟨by omega,by omega⟩
 simp only[ruleM,hk,Int.reduceEq,↓reduceIte,Int.reduceBEq,cond_true,cond_false,if_pos (hn.lt hi),ea,hkd]
 generalize xa (nd u i)=ja at*
 rw[wrS (by omega)]
 refine Sp.bind (hn.good (by omega) (by omega) ha hs) (hA ja n s ha (by omega) hs _) (fun p s1 ⟨_,p2,_,hs1⟩=> ?_) (fun c R L hc=>nzc hc _ _)
 rw[zc]
 refine Sp.pure ?_
 dsimp only[Er]
 rw[zs_nat,←abs_zl]
 by_cases hp:p<0
 ·rw[show zs p=true from decide_eq_true hp,cond_true,←show zs p=true from decide_eq_true hp,g79Z m (b190h p2),show zs (-p)=false from decide_eq_false (by omega)]
 ·rw[show zs p=false from decide_eq_false hp,cond_false]
theorem made8(hn:Nds N v u)(hm:300≤m)(hA:SpecOK N v u f i A)(hf:i≤f)(hi:i<N)(hk:kd (nd u i)=8){n:Nat}(hn1:n≤160){s:MS}(hs:InvS N v i s)(k:Bool→List Int→Int→Nat→Nat→Nat→Ty3→Ty0→Option α):
  Sp (Er N k) (Dr N k) (g70 A m i (n:Int) 0 N N u (rowsOf N s.1) (logOf s.2) k) (ruleM (askM (nd u) f) (nd u i) n s):=by
 have hx:=hn.ok i hi
 have h40:=hn.n40
 have hW:=b190W
 have hB:=b190_pos
 have hka:usA (kd (nd u i))→xa (nd u i)<i∧(List.getD u i []).tail.headD 0=(xa (nd u i):Int):=fun h=>⟨hx.a h,hx.ea h⟩
 have hkb:usB (kd (nd u i))→xb (nd u i)<i∧(List.getD u i []).tail.tail.headD 0=(xb (nd u i):Int):=fun h=>⟨hx.b h,hx.eb h⟩
 rw[g70_o,if_pos (hn.lt hi)]
 have hkd:(List.getD u i []).headD 0=kd (nd u i):=rfl
 rw[hkd]
 obtain⟨ha,ea⟩:=hka ⟨by omega,by omega⟩
 obtain⟨hb,eb⟩:=hkb (.inr (by omega))
 simp only[ruleM,hk,Int.reduceEq,↓reduceIte,Int.reduceBEq,cond_true,cond_false,if_pos (hn.lt hi),ea,eb,hkd,Int.add_zero]
 generalize xa (nd u i)=ja at*
 generalize xb (nd u i)=jb at*
 rw[wrS (by omega),wrS (by omega),wrS (by omega)]
 refine Sp.bind (hn.good (by omega) (by omega) ha hs) (hA ja n s ha (by omega) hs _) (fun p s1 ⟨_,p2,_,hs1⟩=> ?_) (fun c R L hc=>nzc hc _ _)
 rw[zc]
 refine Sp.bind (hn.good (by omega) (by omega) hb hs1) (hA jb n s1 hb (by omega) hs1 _) (fun q s2 ⟨_,q2,_,hs2⟩=> ?_) (fun c R L hc=>nzc hc _ _)
 rw[zc,cmpS hm (b190h p2) (b190h q2)]
 refine Sp.pure ?_
 rw[←min_cmp]
 exact cond_app _ (fun z=>k (zs z) (zl z) 0 0 N N (rowsOf N s2.1) (logOf s2.2)) p q
theorem made9(hn:Nds N v u)(hm:300≤m)(hA:SpecOK N v u f i A)(hf:i≤f)(hi:i<N)(hk:kd (nd u i)=9){n:Nat}(hn1:n≤160){s:MS}(hs:InvS N v i s)(k:Bool→List Int→Int→Nat→Nat→Nat→Ty3→Ty0→Option α):
  Sp (Er N k) (Dr N k) (g70 A m i (n:Int) 0 N N u (rowsOf N s.1) (logOf s.2) k) (ruleM (askM (nd u) f) (nd u i) n s):=by
 have hx:=hn.ok i hi
 have h40:=hn.n40
 have hW:=b190W
 have hB:=b190_pos
 have hka:usA (kd (nd u i))→xa (nd u i)<i∧(List.getD u i []).tail.headD 0=(xa (nd u i):Int):=fun h=>⟨hx.a h,hx.ea h⟩
 have hkb:usB (kd (nd u i))→xb (nd u i)<i∧(List.getD u i []).tail.tail.headD 0=(xb (nd u i):Int):=fun h=>⟨hx.b h,hx.eb h⟩
 rw[g70_o,if_pos (hn.lt hi)]
 have hkd:(List.getD u i []).headD 0=kd (nd u i):=rfl
 rw[hkd]
 obtain⟨ha,ea⟩:=hka ⟨by omega,by omega⟩
 obtain⟨hb,eb⟩:=hkb (.inr (by omega))
 simp only[ruleM,hk,Int.reduceEq,↓reduceIte,Int.reduceBEq,cond_true,cond_false,if_pos (hn.lt hi),ea,eb,hkd,Int.add_zero]
 generalize xa (nd u i)=ja at*
 generalize xb (nd u i)=jb at*
 rw[wrS (by omega),wrS (by omega),wrS (by omega)]
 refine Sp.bind (hn.good (by omega) (by omega) ha hs) (hA ja n s ha (by omega) hs _) (fun p s1 ⟨_,p2,_,hs1⟩=> ?_) (fun c R L hc=>nzc hc _ _)
 rw[zc]
 refine Sp.bind (hn.good (by omega) (by omega) hb hs1) (hA jb n s1 hb (by omega) hs1 _) (fun q s2 ⟨_,q2,_,hs2⟩=> ?_) (fun c R L hc=>nzc hc _ _)
 rw[zc,cmpS hm (b190h p2) (b190h q2)]
 refine Sp.pure ?_
 rw[←max_cmp]
 exact cond_app _ (fun z=>k (zs z) (zl z) 0 0 N N (rowsOf N s2.1) (logOf s2.2)) p q
theorem made10(hn:Nds N v u)(hm:300≤m)(hA:SpecOK N v u f i A)(hf:i≤f)(hi:i<N)(hk:kd (nd u i)=10){n:Nat}(hn1:n≤160){s:MS}(hs:InvS N v i s)(k:Bool→List Int→Int→Nat→Nat→Nat→Ty3→Ty0→Option α):
  Sp (Er N k) (Dr N k) (g70 A m i (n:Int) 0 N N u (rowsOf N s.1) (logOf s.2) k) (ruleM (askM (nd u) f) (nd u i) n s):=by
 have hx:=hn.ok i hi
 have h40:=hn.n40
 have hW:=b190W
 have hB:=b190_pos
 have hka:usA (kd (nd u i))→xa (nd u i)<i∧(List.getD u i []).tail.headD 0=(xa (nd u i):Int):=fun h=>⟨hx.a h,hx.ea h⟩
 have hkb:usB (kd (nd u i))→xb (nd u i)<i∧(List.getD u i []).tail.tail.headD 0=(xb (nd u i):Int):=fun h=>⟨hx.b h,hx.eb h⟩
 rw[g70_o,if_pos (hn.lt hi)]
 have hkd:(List.getD u i []).headD 0=kd (nd u i):=rfl
 rw[hkd]
 obtain⟨ha,ea⟩:=hka ⟨by omega,by omega⟩
 simp only[ruleM,hk,Int.reduceEq,↓reduceIte,Int.reduceBEq,cond_true,cond_false,if_pos (hn.lt hi),ea,hkd]
 generalize xa (nd u i)=ja at*
 rw[wrS (by omega),wrD (by omega),wr6 (by omega)]
 refine Sp.bind (hn.good (by omega) (by omega) ha hs) (hA ja (2*n+6) s ha (by omega) hs _) (fun p s1 ⟨_,p2,_,hs1⟩=> ?_) (fun c R L hc=>nzc hc _ _)
 rw[zc]
 refine Sp.pure ?_
 by_cases hp:p<0
 ·rw[show zs p=true from decide_eq_true hp,cond_true,if_pos hp];rfl
 ·have hle:=isq_le p.natAbs
  rw[show zs p=false from decide_eq_false hp,cond_false,if_neg hp,rootS hm (b190h p2)]
  exact nearS hm (p:=3) (by omega) (by omega) (nb (by omega)) _
theorem made11(hn:Nds N v u)(hm:300≤m)(hA:SpecOK N v u f i A)(hf:i≤f)(hi:i<N)(hk:kd (nd u i)=11){n:Nat}(hn1:n≤160){s:MS}(hs:InvS N v i s)(k:Bool→List Int→Int→Nat→Nat→Nat→Ty3→Ty0→Option α):
  Sp (Er N k) (Dr N k) (g70 A m i (n:Int) 0 N N u (rowsOf N s.1) (logOf s.2) k) (ruleM (askM (nd u) f) (nd u i) n s):=by
 obtain⟨P,hP,hP2⟩:=pi_ex (α:=α) hm hn1
 have hx:=hn.ok i hi
 have h40:=hn.n40
 have hW:=b190W
 have hB:=b190_pos
 have hka:usA (kd (nd u i))→xa (nd u i)<i∧(List.getD u i []).tail.headD 0=(xa (nd u i):Int):=fun h=>⟨hx.a h,hx.ea h⟩
 have hkb:usB (kd (nd u i))→xb (nd u i)<i∧(List.getD u i []).tail.tail.headD 0=(xb (nd u i):Int):=fun h=>⟨hx.b h,hx.eb h⟩
 rw[g70_o,if_pos (hn.lt hi)]
 have hkd:(List.getD u i []).headD 0=kd (nd u i):=rfl
 dsimp only
 rw[hkd,hk,show((11:Int)==1)=false from rfl,cond_false,show((11:Int)==11)=true from rfl,cond_true]
 simp only[ruleM,hk,Int.reduceEq,↓reduceIte]
 rw[hP,hP2]
 exact Sp.pure rfl
theorem made12(hn:Nds N v u)(hm:300≤m)(hA:SpecOK N v u f i A)(hf:i≤f)(hi:i<N)(hk:kd (nd u i)=12){n:Nat}(hn1:n≤160){s:MS}(hs:InvS N v i s)(k:Bool→List Int→Int→Nat→Nat→Nat→Ty3→Ty0→Option α):
  Sp (Er N k) (Dr N k) (g70 A m i (n:Int) 0 N N u (rowsOf N s.1) (logOf s.2) k) (ruleM (askM (nd u) f) (nd u i) n s):=by
 obtain⟨P,hP,hP2⟩:=eul_ex (α:=α) hm hn1
 have hx:=hn.ok i hi
 have h40:=hn.n40
 have hW:=b190W
 have hB:=b190_pos
 have hka:usA (kd (nd u i))→xa (nd u i)<i∧(List.getD u i []).tail.headD 0=(xa (nd u i):Int):=fun h=>⟨hx.a h,hx.ea h⟩
 have hkb:usB (kd (nd u i))→xb (nd u i)<i∧(List.getD u i []).tail.tail.headD 0=(xb (nd u i):Int):=fun h=>⟨hx.b h,hx.eb h⟩
 rw[g70_o,if_pos (hn.lt hi)]
 have hkd:(List.getD u i []).headD 0=kd (nd u i):=rfl
 rw[hkd]
 simp only[ruleM,hk,Int.reduceEq,↓reduceIte,Int.reduceBEq,cond_true,cond_false,if_pos (hn.lt hi)]
 rw[hP,hP2]
 exact Sp.pure rfl
theorem madeS(hn:Nds N v u)(hm:300≤m)(hA:SpecOK N v u f i A)(hf:i≤f)(hi:i<N){n:Nat}(hn1:n≤160){s:MS}(hs:InvS N v i s)(k:Bool→List Int→Int→Nat→Nat→Nat→Ty3→Ty0→Option α):
  Sp (Er N k) (Dr N k) (g70 A m i (n:Int) 0 N N u (rowsOf N s.1) (logOf s.2) k) (ruleM (askM (nd u) f) (nd u i) n s):=by
 have hr:=(hn.ok i hi).kr
 have hc:kd (nd u i)=1∨kd (nd u i)=2∨kd (nd u i)=3∨kd (nd u i)=4∨kd (nd u i)=5∨kd (nd u i)=6∨kd (nd u i)=7∨kd (nd u i)=8∨kd (nd u i)=9∨kd (nd u i)=10∨kd (nd u i)=11∨kd (nd u i)=12:=by omega
 rcases hc with hk|hk|hk|hk|hk|hk|hk|hk|hk|hk|hk|hk
 ·exact made1 hn hm hA hf hi hk hn1 hs k
 ·exact made2 hn hm hA hf hi hk hn1 hs k
 ·exact made3 hn hm hA hf hi hk hn1 hs k
 ·exact made4 hn hm hA hf hi hk hn1 hs k
 ·exact made5 hn hm hA hf hi hk hn1 hs k
 ·exact made6 hn hm hA hf hi hk hn1 hs k
 ·exact made7 hn hm hA hf hi hk hn1 hs k
 ·exact made8 hn hm hA hf hi hk hn1 hs k
 ·exact made9 hn hm hA hf hi hk hn1 hs k
 ·exact made10 hn hm hA hf hi hk hn1 hs k
 ·exact made11 hn hm hA hf hi hk hn1 hs k
 ·exact made12 hn hm hA hf hi hk hn1 hs k
theorem Sp.wrap{P:Int→MS→Prop}{E0 E:Int→MS→Option α}{D0 D:Int→Ty3→Ty0→Option α}{x:Option α}{r:Except Int (Int×MS)}{j n:Nat}(ho:OkR P r)(h:Sp E0 D0 x r)
  (hE:∀z s',P z s'→E0 z s'=E z (s'.1++[(j,n,z)],s'.2)) (hD:∀c R L,c≠0→D0 c R L=D c R L):
  Sp E D x (match r with| .ok (z,s')=> .ok (z,(s'.1++[(j,n,z)],s'.2))| .error c=> .error c):=by
 cases r with
 |ok r=>obtain⟨z,s'⟩:=r;exact(show x=E0 z s' from h).trans (hE z s' ho)
 |error c=>
  obtain⟨R,L,h⟩:=h
  have ho:c=3∨c=7:=ho
  exact⟨R,L,h.trans (hD c R L (by omega))⟩
theorem row_at{M:List (Nat×Nat×Int)}{i:Nat}(hi:i<N):List.getD (rowsOf N M) i []=(M.filter fun e=>e.1==i).map encE:=by
 unfold rowsOf
 rw[List.getD_eq_getElem?_getD,List.getElem?_map,List.getElem?_range hi];rfl
theorem rows_len(M:List (Nat×Nat×Int)):(rowsOf N M).length=N:=by simp[rowsOf]
theorem rows_set{M:List (Nat×Nat×Int)}{i:Nat}(hi:i<N):List.set (rowsOf N M) i ((M.filter fun e=>e.1==i).map encE)=rowsOf N M:=by
 have h:=row_at (M:=M) hi
 have hl:i<(rowsOf N M).length:=by rw[rows_len];exact hi
 rw[getD_at _ _ hl] at h
 rw[←h,List.set_getElem_self]
theorem rows_put{M:List (Nat×Nat×Int)}{i n:Nat}{z:Int}(hi:i<N):List.set (rowsOf N M) i ((M.filter fun e=>e.1==i).map encE++[((n:Int),zs z,zl z,())])=rowsOf N (M++[(i,n,z)]):=by
 unfold rowsOf
 refine List.ext_getElem (by simp) fun j h1 h2=> ?_
 simp only[List.length_set,List.length_map,List.length_range] at h1
 rw[List.getElem_set]
 by_cases h:i=j
 ·subst h
  rw[if_pos rfl]
  simp[List.filter_append,encE]
 ·rw[if_neg h]
  simp[List.filter_append,h]
theorem find_row(M:List (Nat×Nat×Int))(i n:Nat):List.find? (fun e:Ty5=>e.1==(n:Int)) ((M.filter fun e=>e.1==i).map encE)=(lookM M i n).map fun z=>(((n:Int),zs z,zl z,()):Ty5):=by
 induction M with
 |nil=>rfl
 |cons e r ih=>
  obtain⟨a,b,z⟩:=e
  simp only[lookM]
  by_cases ha:a=i
  ·subst ha
   by_cases hb:b=n
   ·subst hb
    rw[if_pos ⟨rfl,rfl⟩,List.filter_cons_of_pos (by simp),List.map_cons,List.find?_cons_of_pos (by simp[encE])]
    rfl
   ·rw[if_neg (fun h=>hb h.2),List.filter_cons_of_pos (by simp),List.map_cons,List.find?_cons_of_neg (by simp[encE];omega),ih]
  ·rw[if_neg (fun h=>ha h.1),List.filter_cons_of_neg (by simpa using ha),ih]
theorem find_loop(p n:Int)(R:Ty3){j:Nat}(hj:j<R.length)(c:Bool)(l:List Int)(row:Ty4)(u log:Ty0)(hr:row.length≤1000000)(k1:Ty3→Bool→List Int→Option α)(k2:Ty3→Option α):∀(d w F:Nat),w+d=row.length→d<F→
  g36l0 p n 0 N N u R j c l row log k1 k2 F (w:Int)=match List.find? (fun e:Ty5=>e.1==n) (row.drop w) with
   |some e=>k1 (R.set j row) e.2.1 (padI 6 e.2.2.1)
   |none=>k2 (R.set j row)
 |0,w,F,hw,hF=>by
  obtain⟨F,rfl⟩:∃n,F=n+1:=⟨F-1,by omega⟩
  rw[g36l0_s,dF (by omega),cond_false,if_pos hj,List.drop_eq_nil_of_le (by omega)];rfl
 |d+1,w,F,hw,hF=>by
  obtain⟨F,rfl⟩:∃n,F=n+1:=⟨F-1,by omega⟩
  have hlt:w<row.length:=by omega
  rw[g36l0_s,dT (by omega),cond_true,if_pos (by omega),Int.toNat_natCast,if_pos hlt,if_pos (by omega),if_pos hlt,getD_at _ _ hlt,List.drop_eq_getElem_cons hlt]
  by_cases he:(row[w].1==n)=true
  ·rw[List.find?_cons_of_pos (p:=fun e:Ty5=>e.1==n) he,he,cond_true]
   dsimp only
   rw[if_pos hj]
  ·rw[List.find?_cons_of_neg (p:=fun e:Ty5=>e.1==n) he,show(row[w].1==n)=false from by simpa using he,cond_false,wrapS (by omega)]
   exact find_loop p n R hj c l row u log hr k1 k2 d (w+1) F (by omega) (by omega)
theorem find_loop0(p n:Int)(R:Ty3){j:Nat}(hj:j<R.length)(c:Bool)(l:List Int)(row:Ty4)(u log:Ty0)(hr:row.length≤1000000)(k1:Ty3→Bool→List Int→Option α)(k2:Ty3→Option α)(F:Nat)(hF:row.length<F):
  g36l0 p n 0 N N u R j c l row log k1 k2 F (0:Int)=match List.find? (fun e:Ty5=>e.1==n) row with
   |some e=>k1 (R.set j row) e.2.1 (padI 6 e.2.2.1)
   |none=>k2 (R.set j row):=find_loop p n R hj c l row u log hr k1 k2 row.length 0 F (by omega) hF
theorem log_put(L:List (Nat×Nat))(i n:Nat):logOf L++[[(i:Int),(n:Int)]]=logOf (L++[(i,n)]):=by simp[logOf]
theorem log_len(L:List (Nat×Nat)):(logOf L).length=L.length:=by simp[logOf]
theorem wrap16N{i:Nat}(h:i≤1000):IntKind.wrap .i16 (i:Int)=(i:Int):=by
 unfold IntKind.wrap
 simp[IntKind.signed,IntKind.bits]
 omega
theorem nodup_len:∀(B:Nat) (l:List Nat),l.Nodup→(∀x∈l,x<B)→l.length≤B
 |0,l,_,h=>by
  cases l with
  |nil=>simp
  |cons x r=>exact absurd (h x (by simp)) (by omega)
 |B+1,l,hn,h=>by
  have h1:=nodup_len B (l.filter fun x=>x !=B) (hn.filter _) (fun x hx=>by
   have h2:=List.mem_filter.1 hx
   have h3:=h x h2.1
   have h4:x≠B:=by simpa using h2.2
   omega)
  have h2:l.length≤(l.filter fun x=>x !=B).length+1:=by
   clear h1 h
   induction l with
   |nil=>simp
   |cons x r ih=>
    rw[List.nodup_cons] at hn
    by_cases hx:x=B
    ·subst hx
     rw[List.filter_cons_of_neg (by simp),List.filter_eq_self.2 (fun y hy=>by
      have:y≠x:=fun e=>hn.1 (e▸hy)
      simpa using this)]
     simp
    ·rw[List.filter_cons_of_pos (by simpa using hx)]
     have:=ih hn.2
     simp only[List.length_cons];omega
  omega
theorem InvS.short{b:Nat}{s:MS}(h:InvS N v b s)(hN:N≤40):s.2.length≤6440∧s.1.length≤6440:=by
 have h1:=nodup_len 6440 (s.2.map fun p=>p.1*161+p.2) (by
  refine List.nodup_iff_pairwise_ne.2 (List.pairwise_map.2 ?_)
  refine List.Pairwise.imp_of_mem (R:=(·≠ ·)) ?_ (List.nodup_iff_pairwise_ne.1 h.nod)
  intro a b ha hb hab he
  have h2:=h.log a ha
  have h3:=h.log b hb
  refine hab (Prod.ext ?_ ?_)<;>omega) (fun x hx=>by
  obtain⟨p,hp,rfl⟩:=List.mem_map.1 hx
  have:=h.log p hp
  omega)
 rw[List.length_map] at h1
 exact⟨h1,Nat.le_trans h.cnt h1⟩
theorem InvS.ask{b j n:Nat}{s:MS}(hs:InvS N v b s)(hj:j<b)(hl:j<N)(hn:n≤160)(hk:lookM s.1 j n=none):InvS N v j (s.1,s.2++[(j,n)]):=by
 have hno:=lookM_none hk
 have hpn:(j,n)∉s.2:=fun hp=>by
  obtain⟨z,hz⟩:=hs.don _ hp hj
  exact hno z hz
 refine⟨hs.ent, ?_,fun p hp=> ?_,fun p hp hl=> ?_,fun e he=>List.mem_append_left _ (hs.inl e he),by have:=hs.cnt;dsimp only;rw[List.length_append];omega⟩
 ·refine List.nodup_append.2 ⟨hs.nod,by simp,fun p hp q hq e=> ?_⟩
  simp only[List.mem_singleton] at hq
  subst hq;subst e;exact hpn hp
 ·rcases List.mem_append.1 hp with hp|hp
  ·exact hs.log p hp
  ·simp only[List.mem_singleton] at hp;subst hp;exact⟨by assumption,by dsimp only;omega⟩
 ·rcases List.mem_append.1 hp with hp|hp
  ·exact hs.don p hp (by omega)
  ·simp only[List.mem_singleton] at hp;subst hp;dsimp only at hl;omega
theorem Nds.rule(hn:Nds N v u){f j n:Nat}(hf:j≤f)(hj:j<N)(hn1:n≤160){s:MS}(hs:InvS N v j s):OkR (fun z s'=>z.natAbs≤B190∧InvS N v j s') (ruleM (askM (nd u) f) (nd u j) n s):=
 (ruleM_ok (hn.goodA hf (by omega)) (hn.ok j hj).toNdOk (hn.val j hj) hn1 hs).mono fun z s' ⟨_,h2,h3,_⟩=>⟨h2,h3⟩
theorem specAsk(hn:Nds N v u):∀(f m b:Nat),f+7000≤m→b≤N→b≤f→SpecOK N v u f b (fun{α}=>g36 (α:=α) m)
 |0,m,b,hm,hb,hf=>fun j n s hj _ _=>by omega
 |f+1,m,b,hm,hb,hf=>by
  intro j n s hj hn1 hs k
  obtain⟨m,rfl⟩:∃M,m=M+1:=⟨m-1,by omega⟩
  have h40:=hn.n40
  have hul:=hn.len
  obtain⟨hlog,hmem⟩:=hs.short h40
  have hfl:((s.1.filter fun e=>e.1==j).map encE).length≤6440:=by rw[List.length_map];exact Nat.le_trans (List.length_filter_le _ _) hmem
  have hR:j<(rowsOf N s.1).length:=by rw[rows_len];omega
  dsimp only
  rw[g36_s,if_pos (by omega),Int.toNat_natCast,Nat.zero_add,if_pos hR,row_at (by omega),
   find_loop0 (j:Int) (n:Int) _ hR _ _ _ _ _ (by omega) _ _ m (by omega),find_row,rows_set (by omega)]
  unfold askM
  cases hk:lookM s.1 j n with
  |some z=>
   show k (zs z) (padI 6 (zl z)) 0 0 N N u _ _=_
   rw[padI_self 6 _ (zl_length z)]
  |none=>
   show Sp _ _ (cond (decide ((n:Int)>160)) _ _) _
   dsimp only
   by_cases h160:160<n
   ·rw[dT (by omega),cond_true,if_pos h160]
    exact⟨_,_,rfl⟩
   ·rw[dF (by omega),cond_false,if_neg h160,log_len,if_pos (by omega),if_pos (by omega),wrap16N (by omega),wrap16N (by omega),log_put]
    have hs1:=hs.ask hj (by omega) (by omega) hk
    refine Sp.wrap (hn.rule (f:=f) (by omega) (by omega) (by omega) hs1) (madeS hn (m:=m) (by omega) (specAsk hn f m j (by omega) (by omega) (by omega)) (by omega) (by omega) (by omega) hs1 _) (fun z s' ⟨h1,h2⟩=> ?_) (fun c R L hc=>nzc hc _ _)
    obtain⟨g1,g2⟩:=h2.short h40
    have hfl':((s'.1.filter fun e=>e.1==j).map encE).length≤6440:=by rw[List.length_map];exact Nat.le_trans (List.length_filter_le _ _) g2
    dsimp only[Er]
    rw[zc,if_pos (by omega),Nat.zero_add,if_pos (by rw[rows_len];omega),row_at (by omega)]
    rw[if_pos (by omega),if_pos (by omega),if_pos ⟨by rw[rows_len];omega,rfl⟩,rows_put (by omega)]
end
end Go.Proofs.YtlmmgjngihlpeaaGreat.Sx
