/- Part 11 of the proof that what is shared, pruned and joined is approximated as before, that terms are read from their texts, and that decimals begin as the approximations tell. Our own work, shortened by a program of ours. -/
import Derived.Test.YtlmmgjngihlpeaaGreatDoorFsj
import Derived.Lib.SplitLaws
import Derived.Lib.ParseIntBTie
import Derived.ChangeOld
import Derived.SizedLaws
import Derived.JoinedOf
import Derived.Test.YtlmmgjngihlpeaaGreatDoorRows
import Derived.MakeChecks
import Derived.ProofKit
import Derived.Lib.LaidTab
namespace Go.Proofs.YtlmmgjngihlpeaaGreatDoor.Sx
open Go
set_option linter.unusedVariables false
set_option linter.unusedSimpArgs false
set_option maxRecDepth 100000
def qX(A:Nat->Nat->Except Int Int):Nat->Nat->MR Int:=λi n s=>match A i n with
 | .ok z=> .ok (z,s)
 | .error c=> .error c
def aGC(r:Except Int (Int×MS)):Except Int Int:=match r with
 | .ok p=> .ok p.1
 | .error c=> .error c
def kR(X:Nat->List Int):Nat->Nat->Nat->Except Int Int
 |0,_,_=> .error 3
 |f+1,i,n=>if 160<n then .error 3 else aGC (bJ (qX (kR X f)) (X i) n ([],[]))
section
variable {A B:Nat->Nat->MR Int} {i j:Nat}
theorem uW(h:A i=B j):mG A i=mG B j:=by unfold mG;rw[h]
theorem Et(h:A i=B j):∀d k,mF A i d k=mF B j d k
 |0,k=>rfl
 |d+1,k=>by
  unfold mF
  rw[h]
  congr 1
  funext a
  rw[Et h d (k+1)]
theorem Fb{x y:List Int}(hk:kd x=kd y)(hp:xp x=xp y)(hq:xq x=xq y)(ha:Cq (kd x)->A (xa x)=B (xa y))(hb:Cn (kd x)->A (xb x)=B (xb y))(n:Nat):bJ A x n=bJ B y n:=by
 unfold bJ
 unfold Cq at ha
 unfold Cn at hb
 rw[<-hk,<-hp,<-hq]
 by_cases k1:kd x=1
 .rw[if_pos k1,if_pos k1]
 rw[if_neg k1,if_neg k1]
 by_cases k2:kd x=2
 .rw[if_pos k2,if_pos k2,ha (by omega),hb (by omega)]
 rw[if_neg k2,if_neg k2]
 by_cases k3:kd x=3
 .rw[if_pos k3,if_pos k3,ha (by omega),hb (by omega)]
 rw[if_neg k3,if_neg k3]
 by_cases k4:kd x=4
 .rw[if_pos k4,if_pos k4,uW (ha (by omega)),uW (hb (by omega)),ha (by omega),hb (by omega)]
 rw[if_neg k4,if_neg k4]
 by_cases k5:kd x=5
 .rw[if_pos k5,if_pos k5,uW (ha (by omega)),Et (hb (by omega)),ha (by omega),hb (by omega)]
 rw[if_neg k5,if_neg k5]
 by_cases k6:kd x=6
 .rw[if_pos k6,if_pos k6,ha (by omega)]
 rw[if_neg k6,if_neg k6]
 by_cases k7:kd x=7
 .rw[if_pos k7,if_pos k7,ha (by omega)]
 rw[if_neg k7,if_neg k7]
 by_cases k8:kd x=8
 .rw[if_pos k8,if_pos k8,ha (by omega),hb (by omega)]
 rw[if_neg k8,if_neg k8]
 by_cases k9:kd x=9
 .rw[if_pos k9,if_pos k9,ha (by omega),hb (by omega)]
 rw[if_neg k9,if_neg k9]
 by_cases k10:kd x=10
 .rw[if_pos k10,if_pos k10,ha (by omega)]
 rw[if_neg k10,if_neg k10]
end
theorem sJ{P Q:Nat->Nat->Except Int Int}{i j:Nat}(h:∀n,P i n=Q j n):qX P i=qX Q j:=by
 funext n s
 unfold qX
 rw[h]
theorem kS{X:Nat->List Int}{len:Nat}(hX:∀i,i<len->NdOk (X i) i):∀(f g i n:Nat),i<len->i<f->i<g->kR X f i n=kR X g i n
 |0,_,i,n,_,h,_=>by omega
 |_+1,0,i,n,_,_,h=>by omega
 |f+1,g+1,i,n,hl,hf,hg=>by
  have hx:=hX i hl
  unfold kR
  rw[Fb (x:=X i) (y:=X i) rfl rfl rfl (λh=>sJ λn=>kS hX f g _ n (by have:=hx.a h;omega) (by have:=hx.a h;omega) (by have:=hx.a h;omega))
   (λh=>sJ λn=>kS hX f g _ n (by have:=hx.b h;omega) (by have:=hx.b h;omega) (by have:=hx.b h;omega))]
theorem Ig{X Y:Nat->List Int}{lx ly:Nat}(hX:∀i,i<lx->NdOk (X i) i)(hY:∀i,i<ly->NdOk (Y i) i)(φ:Nat->Nat)(S:Nat->Prop)(hS:∀i,S i->i<lx/\φ i<ly)
  (hn:∀i,S i->kd (X i)=kd (Y (φ i))/\xp (X i)=xp (Y (φ i))/\xq (X i)=xq (Y (φ i))/\(Cq (kd (X i))->S (xa (X i))/\xa (Y (φ i))=φ (xa (X i)))/\(Cn (kd (X i))->S (xb (X i))/\xb (Y (φ i))=φ (xb (X i)))):
  ∀(f i n:Nat),S i->i<f->kR X f i n=kR Y (φ i+1) (φ i) n
 |0,i,n,_,h=>by omega
 |f+1,i,n,hi,hf=>by
  obtain⟨h1,h2,h3,h4,h5⟩:=hn i hi
  obtain⟨l1,l2⟩:=hS i hi
  have hy:=hY _ l2
  have hx:=hX _ l1
  unfold kR
  rw[Fb (x:=X i) (y:=Y (φ i)) h1 h2 h3 (λh=>sJ λn=> ?_) (λh=>sJ λn=> ?_)]
  .obtain⟨a1,a2⟩:=h4 h
   have q:=hy.a (by rw[<-h1];exact h)
   rw[a2] at q|-
   rw[Ig hX hY φ S hS hn f _ n a1 (by have:=hx.a h;omega)]
   exact kS hY _ _ _ n (by omega) (by omega) q
  .obtain⟨a1,a2⟩:=h5 h
   have q:=hy.b (by rw[<-h1];exact h)
   rw[a2] at q|-
   rw[Ig hX hY φ S hS hn f _ n a1 (by have:=hx.b h;omega)]
   exact kS hY _ _ _ n (by omega) (by omega) q
section
variable {β γ:Type} {M:MS->Prop}
def Sm(M:MS->Prop)(f g:MR β)(s:MS):Prop:=match f s with
 | .ok (x,s')=>M s'/\g ([],[])= .ok (x,([],[]))
 | .error c=>g ([],[])= .error c
theorem Sm.bind{f f':MR β}{g g':β->MR γ}{s:MS}(h:Sm M f f' s)(hg:∀x s',M s'->Sm M (g x) (g' x) s'):Sm M (dm f g) (dm f' g') s:=by
 unfold Sm at h
 show Sm M (dm f g) (dm f' g') s
 unfold Sm dm
 cases hf:f s with
 |ok r=>
  obtain⟨x,s'⟩:=r
  rw[hf] at h
  obtain⟨h1,h2⟩:=h
  have:=hg x s' h1
  unfold Sm at this
  rw[h2]
  exact this
 |error c=>
  rw[hf] at h
  dsimp only at h|-
  rw[h]
theorem Sm.pure{x:β}{s:MS}(h:M s):Sm M (mpure x) (mpure x) s:=⟨h,rfl⟩
theorem Sm.fit{z:Int}{s:MS}(h:M s):Sm M (CU z) (CU z) s:=by
 unfold CU
 cases kK z with
 |true=>exact⟨h,rfl⟩
 |false=>exact rfl
theorem Sm.up{z:Int}{n:Nat}{s:MS}(h:M s):Sm M (upM z n) (upM z n) s:=by
 unfold upM
 split
 .exact Sm.fit h
 .exact rfl
theorem Sm.near{z:Int}{n:Nat}{s:MS}(h:M s):Sm M (E8 z n) (E8 z n) s:=by
 unfold E8
 split
 .exact⟨h,rfl⟩
 .exact rfl
end
section
variable {A B:Nat->Nat->MR Int} {M:MS->Prop} {i:Nat}
def SmA(M:MS->Prop)(A B:Nat->Nat->MR Int)(i:Nat):Prop:=∀n s,M s->Sm M (A i n) (B i n) s
theorem Sm.grow(h:SmA M A B i){s:MS}(hs:M s):Sm M (mG A i) (mG B i) s:=(h 0 s hs).bind λ_ _ h=>Sm.pure h
theorem Sm.away(h:SmA M A B i):∀(d k:Nat) {s:MS},M s->Sm M (mF A i d k) (mF B i d k) s
 |0,k,s,hs=>rfl
 |d+1,k,s,hs=>by
  unfold mF
  refine(h (k+2) s hs).bind λa s' h'=> ?_
  split
  .exact Sm.pure h'
  .exact Sm.away h d (k+1) h'
theorem Sm.rule{x:List Int}(ha:Cq (kd x)->SmA M A B (xa x))(hb:Cn (kd x)->SmA M A B (xb x))(n:Nat){s:MS}(hs:M s):Sm M (bJ A x n) (bJ B x n) s:=by
 unfold bJ
 unfold Cq at ha
 unfold Cn at hb
 by_cases k1:kd x=1
 .rw[if_pos k1,if_pos k1]
  exact(Sm.up hs).bind λ_ _ h=>Sm.pure h
 rw[if_neg k1,if_neg k1]
 by_cases k2:kd x=2
 .rw[if_pos k2,if_pos k2]
  exact(ha (by omega) _ _ hs).bind λ_ _ h=>(hb (by omega) _ _ h).bind λ_ _ h=>(Sm.fit h).bind λ_ _ h=>Sm.pure h
 rw[if_neg k2,if_neg k2]
 by_cases k3:kd x=3
 .rw[if_pos k3,if_pos k3]
  exact(ha (by omega) _ _ hs).bind λ_ _ h=>(hb (by omega) _ _ h).bind λ_ _ h=>(Sm.fit h).bind λ_ _ h=>Sm.pure h
 rw[if_neg k3,if_neg k3]
 by_cases k4:kd x=4
 .rw[if_pos k4,if_pos k4]
  exact(Sm.grow (ha (by omega)) hs).bind λ_ _ h=>(Sm.grow (hb (by omega)) h).bind λ_ _ h=>(ha (by omega) _ _ h).bind λ_ _ h=>(hb (by omega) _ _ h).bind λ_ _ h=>(Sm.fit h).bind λ_ _ h=>Sm.near h
 rw[if_neg k4,if_neg k4]
 by_cases k5:kd x=5
 .rw[if_pos k5,if_pos k5]
  exact(Sm.away (hb (by omega)) _ _ hs).bind λ_ _ h=>(Sm.grow (ha (by omega)) h).bind λ_ _ h=>(ha (by omega) _ _ h).bind λ_ _ h=>(hb (by omega) _ _ h).bind λ_ _ h=>(Sm.up h).bind λ_ _ h=>Sm.pure h
 rw[if_neg k5,if_neg k5]
 by_cases k6:kd x=6
 .rw[if_pos k6,if_pos k6]
  exact(ha (by omega) _ _ hs).bind λ_ _ h=>Sm.pure h
 rw[if_neg k6,if_neg k6]
 by_cases k7:kd x=7
 .rw[if_pos k7,if_pos k7]
  exact(ha (by omega) _ _ hs).bind λ_ _ h=>Sm.pure h
 rw[if_neg k7,if_neg k7]
 by_cases k8:kd x=8
 .rw[if_pos k8,if_pos k8]
  exact(ha (by omega) _ _ hs).bind λ_ _ h=>(hb (by omega) _ _ h).bind λ_ _ h=>Sm.pure h
 rw[if_neg k8,if_neg k8]
 by_cases k9:kd x=9
 .rw[if_pos k9,if_pos k9]
  exact(ha (by omega) _ _ hs).bind λ_ _ h=>(hb (by omega) _ _ h).bind λ_ _ h=>Sm.pure h
 rw[if_neg k9,if_neg k9]
 by_cases k10:kd x=10
 .rw[if_pos k10,if_pos k10]
  exact(ha (by omega) _ _ hs).bind λ_ _ h=>Sm.pure h
 rw[if_neg k10,if_neg k10]
 split
 .exact Sm.pure hs
 .exact Sm.pure hs
end
def uy(X:Nat->List Int)(len:Nat)(s:MS):Prop:=∀e∈s.1,e.1<len->kR X (e.1+1) e.1 e.2.1= .ok e.2.2
theorem Gx(X:Nat->List Int)(len:Nat):uy X len ([],[]):=λe he=>by cases he
theorem Ai{X:Nat->List Int}{len:Nat}(hX:∀i,i<len->NdOk (X i) i):∀(f i n:Nat) (s:MS),i<f->i<len->uy X len s->Sm (uy X len) (eY X f i n) (qX (kR X f) i n) s
 |0,i,n,s,h,_,_=>by omega
 |f+1,i,n,s,hf,hl,hs=>by
  have hx:=hX i hl
  unfold Sm
  have ef:kR X (f+1) i n=kR X (i+1) i n:=kS hX _ _ _ _ hl hf (by omega)
  unfold eY
  cases hk:jM s.1 i n with
  |some z=>
   refine⟨hs, ?_⟩
   have h:=hs _ (yQ hk) hl
   dsimp only at h
   unfold qX
   rw[ef,h]
  |none=>
   dsimp only
   by_cases hn:160<n
   .rw[if_pos hn]
    show qX (kR X (f+1)) i n ([],[])= .error 3
    unfold qX kR
    rw[if_pos hn]
   rw[if_neg hn]
   have hr:=Sm.rule (A:=eY X f) (B:=qX (kR X f)) (M:=uy X len) (x:=X i) (λh n s hs=>Ai hX f _ n s (by have:=hx.a h;omega) (by have:=hx.a h;omega) hs) (λh n s hs=>Ai hX f _ n s (by have:=hx.b h;omega) (by have:=hx.b h;omega) hs) n (s:=(s.1,s.2++[(i,n)])) (λe he=>hs e he)
   unfold Sm at hr
   cases hres:bJ (eY X f) (X i) n (s.1,s.2++[(i,n)]) with
   |error c=>
    rw[hres] at hr
    dsimp only at hr|-
    unfold qX
    unfold kR
    rw[if_neg hn,hr];rfl
   |ok r=>
    obtain⟨z,s'⟩:=r
    rw[hres] at hr
    obtain⟨h1,h2⟩:=hr
    have e:kR X (f+1) i n= .ok z:=by
     unfold kR
     rw[if_neg hn,h2];rfl
    refine⟨λy hy hlt=> ?_, ?_⟩
    .rcases List.mem_append.1 hy with hy|hy
     .exact h1 y hy hlt
     .simp only[List.mem_singleton] at hy
      subst hy
      dsimp only
      rw[<-ef];exact e
    .unfold qX
     rw[e]
theorem Es{X:Nat->List Int}{len:Nat}(hX:∀i,i<len->NdOk (X i) i){f i n:Nat}(hf:i<f)(hl:i<len){s:MS}(hs:uy X len s){z:Int}:
  (∃s',eY X f i n s= .ok (z,s')/\uy X len s')↔kR X (i+1) i n= .ok z:=by
 have h:=Ai hX f i n s hf hl hs
 have ef:kR X f i n=kR X (i+1) i n:=kS hX _ _ _ _ hl hf (by omega)
 unfold Sm qX at h
 rw[ef] at h
 constructor
 .rintro ⟨s',h1,h2⟩
  rw[h1] at h
  obtain⟨_,h⟩:=h
  cases hp:kR X (i+1) i n with
  |ok y=>
   rw[hp] at h
   simp only[Except.ok.injEq,Prod.mk.injEq,and_true] at h
   rw[h]
  |error c=>rw[hp] at h;cases h
 .intro hp
  rw[hp] at h
  cases hm:eY X f i n s with
  |ok r=>
   obtain⟨y,s'⟩:=r
   rw[hm] at h
   obtain⟨h1,h⟩:=h
   simp only[Except.ok.injEq,Prod.mk.injEq,and_true] at h
   rw[<-h]
   exact⟨s',rfl,h1⟩
  |error c=>rw[hm] at h;cases h
theorem Ah{X:Nat->List Int}{len:Nat}(hX:∀i,i<len->NdOk (X i) i){f i n:Nat}(hf:i<f)(hl:i<len){s:MS}(hs:uy X len s){c:Int}:
  eY X f i n s= .error c↔kR X (i+1) i n= .error c:=by
 have h:=Ai hX f i n s hf hl hs
 have ef:kR X f i n=kR X (i+1) i n:=kS hX _ _ _ _ hl hf (by omega)
 unfold Sm qX at h
 rw[ef] at h
 cases hm:eY X f i n s with
 |ok r=>
  obtain⟨y,s'⟩:=r
  rw[hm] at h
  obtain⟨h1,h⟩:=h
  constructor
  .intro h2;cases h2
  .intro h2;rw[h2] at h;cases h
 |error c'=>
  rw[hm] at h
  dsimp only at h
  cases hp:kR X (i+1) i n with
  |ok y=>rw[hp] at h;cases h
  |error c2=>
   rw[hp] at h
   simp only[Except.error.injEq] at h
   rw[h]
   constructor<;>intro h3<;>cases h3<;>rfl
section
variable {β γ:Type}
end
section
variable {v:Nat->Rat} {P:Nat->Nat->Except Int Int}
structure aH4 (v:Nat->Rat) (P:Nat->Nat->Except Int Int) (i:Nat):Prop where
 near:∀n z,P i n= .ok z->bN (v i) n z/\z.natAbs<=iV
 mono:∀n n',n'<=n->(∃z,P i n= .ok z)->∃z,P i n'= .ok z
end
theorem ar1{X:Nat->List Int}{len f j n:Nat}(hX:∀i,i<len->NdOk (X i) i)(hf:j<f)(hl:j<len){z:Int}{s':MS}(hr:eY X f j n ([],[])= .ok (z,s')):uy X len s':=by
 cases hP:kR X (j+1) j n with
 |error c=>
  have:=(Ah hX hf hl (Gx X len)).2 hP
  rw[hr] at this;cases this
 |ok z2=>
  obtain⟨s2,h1,h2⟩:=(Es hX hf hl (Gx X len)).2 hP
  rw[hr] at h1
  cases h1
  exact h2
theorem ao1{K β ρ σ:Type}{F:K->β}{G:K->ρ->σ->β}(h:∀k,∃R L,F k=G k R L){k:K}{y:β}(hy:∀R L,G k R L=y):F k=y:=by
 obtain⟨R,L,e⟩:=h k
 exact e.trans (hy R L)
theorem ao2{K β ρ σ τ:Type}{F:K->β}{G:K->ρ->σ->τ->β}(h:∀k,∃R L M,F k=G k R L M){k:K}{y:β}(hy:∀R L M,G k R L M=y):F k=y:=by
 obtain⟨R,L,M,e⟩:=h k
 exact e.trans (hy R L M)
section
variable {u:aH} {m:Nat}
theorem UA(hok:rE u)(hm:1048576<m){j n:Nat}(hj:j<u.length)(hn1:n<=1000):
  (∀{z:Int} {s':MS},eY (nd u) u.length j n ms0= .ok (z,s')->
   (∀{α:Type} (k:Bool->List Int->Int->Nat->Nat->Nat->aH->gN->aH->Option α),xL m (j:Int) (n:Int) 0 u.length u.length u (rowsOf u.length ms0.1) (aZ ms0.2) k=
    k (zs z) (zl z) 0 0 u.length u.length u (rowsOf u.length s'.1) (aZ s'.2))/\
   (∀{α:Type} (k:Bool->List Int->Bool->Int->aH->iM->aH->Option α),y_ m (j:Int) (n:Int) false 0 u (mapOf ms0.1) (aZ ms0.2) k=
    k (zs z) (zl z) false 0 u (mapOf s'.1) (aZ s'.2)))/\
  (∀{c:Int},eY (nd u) u.length j n ms0= .error c->
   (∀{α:Type} (k:Bool->List Int->Int->Nat->Nat->Nat->aH->gN->aH->Option α),∃R L,xL m (j:Int) (n:Int) 0 u.length u.length u (rowsOf u.length ms0.1) (aZ ms0.2) k=
    k false [0,0,0,0,0,0] c 0 u.length u.length u R L)/\
   (∀{α:Type} (k:Bool->List Int->Bool->Int->aH->iM->aH->Option α),∃o M L,y_ m (j:Int) (n:Int) false 0 u (mapOf ms0.1) (aZ ms0.2) k=
    k (zs 0) (zl 0) o c u M L)):=by
 have hn:=sQ hok.1.2 hok.2
 have h40:=hok.1.2
 have hS:=λ{α:Type} (k:Bool->List Int->Int->Nat->Nat->Nat->aH->gN->aH->Option α)=>(GN hn u.length m u.length (by omega) (Nat.le_refl _) (Nat.le_refl _)) j n ms0 hj hn1 (inv0 _ _ _) k
 have hI:=λ{α:Type} (k:Bool->List Int->Bool->Int->aH->iM->aH->Option α)=>(Gw hn u.length m u.length (by omega) (Nat.le_refl _) (Nat.le_refl _)) j n ms0 hj hn1 (inv0 _ _ _) k
 refine⟨λ{z s'} hr=> ?_,λ{c} hr=> ?_⟩
 .rw[hr] at hS hI
  exact⟨hS,hI⟩
 .rw[hr] at hS hI
  exact⟨hS,hI⟩
section
variable (hU:kH u) (hm:1048576<m) (hok:rE u) {j n:Nat} (hj:j<u.length) (hn:n<=64)
include hU hm hok hj hn
theorem Uz{α:Type}(k:Bool->List Int->Int->Option α):g12 m (j:Int) (n:Int) u k=xL m (j:Int) (n:Int) 0 u.length u.length u (rowsOf u.length ms0.1) (aZ ms0.2) (λb l c _ _ _ _ _ _=>k b l c):=by
 rw[aBU,uE m hU hm,if_pos hok,if_pos ⟨⟨by omega,by omega⟩,by omega,by omega⟩,zc,avX m u hok.1.2]
theorem Uy{α:Type}(k:Bool->List Int->Int->Option α):g17 m (j:Int) (n:Int) u k=y_ m (j:Int) (n:Int) false 0 u (mapOf ms0.1) (aZ ms0.2) (λx l b c _ M L=>pJ m b c u M L (λb x'=>cond b (k false [0,0,0,0,0,0] x') (k x l 0))):=by
 have h40:=hok.1.2
 rw[aCw,nH m hU hm,if_pos hok,if_pos ⟨⟨by omega,by omega⟩,by omega,by omega⟩,m_ (by omega)];rfl
def M9(u:List (List Int))(j n:Nat):Bool×List Int×Int:=match kR (nd u) (j+1) j n with
 | .ok z=>(zs z,zl z,0)
 | .error c=>(false,[0,0,0,0,0,0],c)
theorem Gc:(∀{α:Type} (k:Bool->List Int->Int->Option α),g12 m (j:Int) (n:Int) u k=k (M9 u j n).1 (M9 u j n).2.1 (M9 u j n).2.2)/\
  (∀{α:Type} (k:Bool->List Int->Int->Option α),g17 m (j:Int) (n:Int) u k=k (M9 u j n).1 (M9 u j n).2.1 (M9 u j n).2.2):=by
 have hN:=sQ hok.1.2 hok.2
 have hX:∀i,i<u.length->NdOk (nd u i) i:=λi hi=>(hN.ok i hi).toNdOk
 have ho:Eh (λz s'=>bN (agL (nd u) (j+1) j) n z/\z.natAbs<=iV/\n<=160/\eF u.length (λi=>agL (nd u) (i+1) i) u.length s') (eY (nd u) u.length j n ms0):=hN.good hj hj hj (inv0 _ _ _)
 cases hr:eY (nd u) u.length j n ms0 with
 |ok r=>
  obtain⟨z,s'⟩:=r
  have hP:=(Es hX hj hj (Gx _ _)).1 ⟨s',hr,ar1 hX hj hj hr⟩
  have e:M9 u j n=(zs z,zl z,0):=by unfold M9;rw[hP]
  obtain⟨h2,h3⟩:=(UA (m:=m) hok hm hj (n:=n) (by omega)).1 hr
  rw[e]
  exact⟨λk=>(Uz hU hm hok hj hn k).trans (h2 _),λk=>(Uy hU hm hok hj hn k).trans ((h3 _).trans (jv _ _ _))⟩
 |error c=>
  have hc:=Yw ho hr
  have hP:=(Ah hX hj hj (Gx _ _)).1 hr
  have e:M9 u j n=(false,[0,0,0,0,0,0],c):=by unfold M9;rw[hP]
  obtain⟨h2,h3⟩:=(UA (m:=m) hok hm hj (n:=n) (by omega)).2 hr
  rw[e]
  refine⟨λk=>(Uz hU hm hok hj hn k).trans ?_,λk=>(Uy hU hm hok hj hn k).trans ?_⟩
  .exact ao1 h2 λR L=>rfl
  .exact ao2 h3 λo M L=>gH o hc _ _ _
end
end
def Alike(x y:List Int)(φ:Nat->Nat):Prop:=kd x=kd y/\xp x=xp y/\xq x=xq y/\(Cq (kd x)->xa y=φ (xa x))/\(Cn (kd x)->xb y=φ (xb x))
theorem PL{u v:List (List Int)}(hu:rE u)(hv:rE v)(φ:Nat->Nat)(S:Nat->Prop)(hS:∀i,S i->i<u.length/\φ i<v.length)(hc:∀i,S i->(Cq (kd (nd u i))->S (xa (nd u i)))/\(Cn (kd (nd u i))->S (xb (nd u i))))
  (hn:∀i,S i->Alike (nd u i) (nd v (φ i)) φ) {j:Nat} (hj:S j) (n:Nat):M9 v (φ j) n=M9 u j n:=by
 have hX:∀i,i<u.length->NdOk (nd u i) i:=λi hi=>((sQ hu.1.2 hu.2).ok i hi).toNdOk
 have hY:∀i,i<v.length->NdOk (nd v i) i:=λi hi=>((sQ hv.1.2 hv.2).ok i hi).toNdOk
 have:=Ig hX hY φ S hS (λi hi=>by
  obtain⟨h1,h2,h3,h4,h5⟩:=hn i hi
  obtain⟨c1,c2⟩:=hc i hi
  exact⟨h1,h2,h3,λh=>⟨c1 h,h4 h⟩,λh=>⟨c2 h,h5 h⟩⟩) (j+1) j n hj (by omega)
 unfold M9
 rw[this]
theorem aAm{f:Int->Int}{kd a b p q v w:Int}(h:tV kd a b p q v)(hA:(two kd||gy kd)=true->0<=f a/\f a<w)(hB:two kd=true->0<=f b/\f b<w):tV kd (KZ f kd a) (K3 f kd b) p q w:=by
 unfold KZ K3
 rcases h with h|h|h|h
 .have h1:two kd=false:=dF (by omega)
  have h2:gy kd=false:=dF (by omega)
  rw[h1,h2]
  exact .inl ⟨h.1,h.2.1,h.2.2.1,h.2.2.2⟩
 .have h1:two kd=true:=dT (by omega)
  rw[h1] at hA hB|-
  simp only[Bool.true_or,cond_true,true_implies] at hA hB|-
  exact .inr (.inl ⟨h.1,hA.1,hA.2,hB.1,hB.2,h.2.2.2.2.2⟩)
 .have h1:two kd=false:=dF (by omega)
  have h2:gy kd=true:=dT (by omega)
  rw[h1,h2] at hA|-
  simp only[Bool.or_true,cond_true,cond_false,true_implies] at hA|-
  exact .inr (.inr (.inl ⟨h.1,hA.1,hA.2,h.2.2.2⟩))
 .have h1:two kd=false:=dF (by omega)
  have h2:gy kd=false:=dF (by omega)
  rw[h1,h2]
  exact .inr (.inr (.inr h))
theorem w_{k:Int}(h:Cq k):(two k||gy k)=true:=by
 unfold Cq at h
 have:two k=true\/gy k=true:=by
  by_cases h2:2<=k/\k<=5\/k=8\/k=9
  .exact .inl (dT h2)
  .exact .inr (dT (by omega))
 rcases this with h|h<;>simp[h]
theorem xg{k:Int}(h:Cn k):two k=true:=dT (by unfold Cn at h;omega)
theorem Ic{x:List Int}{f:Int->Int}{φ:Nat->Nat}(hA:Cq (kd x)->(f (x.tail.headD 0)).toNat=φ (xa x))(hB:Cn (kd x)->(f (x.tail.tail.headD 0)).toNat=φ (xb x)):Alike x (sO f x) φ:=by
 refine⟨rfl,rfl,rfl,λh=> ?_,λh=> ?_⟩
 .show(KZ f (x.headD 0) (x.tail.headD 0)).toNat=_
  unfold KZ
  rw[w_ (k:=x.headD 0) h]
  exact hA h
 .show(K3 f (x.headD 0) (x.tail.tail.headD 0)).toNat=_
  unfold K3
  rw[xg (k:=x.headD 0) h]
  exact hB h
def Ei(x:List Int)(v:Int):Prop:=tV (x.headD 0) (x.tail.headD 0) (x.tail.tail.headD 0) (x.tail.tail.tail.headD 0) (x.tail.tail.tail.tail.headD 0) v
theorem Lg{f:Int->Int}{x:List Int}{v w:Int}(h:Ei x v)(hA:(two (x.headD 0)||gy (x.headD 0))=true->0<=f (x.tail.headD 0)/\f (x.tail.headD 0)<w)(hB:two (x.headD 0)=true->0<=f (x.tail.tail.headD 0)/\f (x.tail.tail.headD 0)<w):Ei (sO f x) w:=aAm h hA hB
theorem Lh{u:List (List Int)}(hu:aX u 0){i:Nat}(hi:i<u.length):Ei (nd u i) i:=hu i (Nat.zero_le _) hi
theorem Sg{u:List (List Int)}(h40:u.length<=1000)(h5:∀x∈u,x.length=5)(hu:aX u 0):kH u:=by
 refine{len:=by omega,five:=h5,parts:=λx hx=> ?_}
 obtain⟨i,hi,rfl⟩:=List.mem_iff_getElem.1 hx
 have h:=Lh hu hi
 unfold nd at h
 rw[getD_at u [] hi] at h
 generalize u[i]=y at*
 have hy:=h5 y hx
 match y,hy with
 |[k,a,b,p,q],_=>
  have h:tV k a b p q i:=h
  exact⟨k,a,b,p,q,rfl,by rcases h with h|h|h|h<;>omega,by rcases h with h|h|h|h<;>omega,by rcases h with h|h|h|h<;>omega,by rcases h with h|h|h|h<;>omega,by rcases h with h|h|h|h<;>omega⟩
theorem j_{t l:List (List Int)}{i:Nat}(h:i<t.length):nd (t++l) i=nd t i:=by
 unfold nd
 rw[List.getD,List.getD,List.getElem?_append_left h]
theorem BJ{t l:List (List Int)}{i:Nat}:nd (t++l) (t.length+i)=nd l i:=by
 unfold nd
 rw[List.getD,List.getD,List.getElem?_append_right (by omega),Nat.add_sub_cancel_left]
theorem an8{f:List Int->List Int}{u:List (List Int)}{i:Nat}(h:i<u.length):nd (u.map f) i=f (nd u i):=by
 unfold nd
 rw[getD_at _ _ (by simpa using h),aaB u h]
theorem Du{t u:List (List Int)}(ht:rE t)(hu:rE u)(hs:t.length+u.length<=40):rE (joined t u):=by
 have hl:=lM t u
 refine⟨⟨by have:=ht.1.1;omega,by omega⟩,λj _ hj=> ?_⟩
 show Ei (nd (joined t u) j) j
 by_cases h:j<t.length
 .rw[joined,j_ h]
  exact Lh ht.2 h
 .obtain⟨i,rfl⟩:∃i,j=t.length+i:=⟨j-t.length,by omega⟩
  have hi:i<u.length:=by omega
  rw[joined,BJ,an8 hi]
  obtain⟨hA,hB⟩:=kg hu.2 hi
  exact Lg (Lh hu.2 hi) (λh=>by have:=hA h;show 0<=(nd u i).tail.headD 0+(t.length:Int)/\_<_;unfold nd;omega) (λh=>by have:=hB h;show 0<=(nd u i).tail.tail.headD 0+(t.length:Int)/\_<_;unfold nd;omega)
theorem afX{t u:List (List Int)}(ht:rE t)(hu:rE u)(hs:t.length+u.length<=40){j:Nat}(hj:j<u.length)(n:Nat):M9 (joined t u) (t.length+j) n=M9 u j n:=by
 have hX:∀i,i<u.length->NdOk (nd u i) i:=λi hi=>((sQ hu.1.2 hu.2).ok i hi).toNdOk
 have hl:=lM t u
 refine PL hu (Du ht hu hs) (λi=>t.length+i) (λi=>i<u.length) (λi hi=>⟨hi,by show t.length+i<_;omega⟩) (λi hi=>⟨λh=>by have:=(hX i hi).a h;omega,λh=>by have:=(hX i hi).b h;omega⟩) (λi hi=> ?_) hj n
 show Alike (nd u i) (nd (joined t u) (t.length+i)) _
 rw[joined,BJ,an8 hi]
 obtain⟨hA,hB⟩:=kg hu.2 hi
 refine Ic (λh=> ?_) (λh=> ?_)
 .have:=hA (w_ h)
  show((nd u i).tail.headD 0+(t.length:Int)).toNat=t.length+((nd u i).tail.headD 0).toNat
  unfold nd;omega
 .have:=hB (xg h)
  show((nd u i).tail.tail.headD 0+(t.length:Int)).toNat=t.length+((nd u i).tail.tail.headD 0).toNat
  unfold nd;omega
theorem aau{t u:List (List Int)}(ht:kH t)(h1:rE t)(h2:rE u)(hs:t.length+u.length<=40):kH (joined t u):=by
 have hl:=lM t u
 refine Sg (by omega) (λx hx=> ?_) (Du h1 h2 hs).2
 rcases List.mem_append.1 hx with h|h
 .exact ht.five x h
 .obtain⟨y,_,rfl⟩:=List.mem_map.1 h
  rfl
theorem DW(P:Nat->Bool):∀d i,(yU P d i<i+d->P (yU P d i)=true)/\∀r,i<=r->r<yU P d i->P r=false
 |0,i=>⟨λh=>absurd h (by show¬i<i+0;omega),λr h1 h2=>absurd h2 (by show¬r<i;omega)⟩
 |d+1,i=>by
  have ih:=DW P d (i+1)
  simp only[yU]
  cases hp:P i with
  |true=>
   rw[cond_true]
   exact⟨λ_=>hp,λr h1 h2=>by omega⟩
  |false=>
   rw[cond_false]
   refine⟨λh=>ih.1 (by omega),λr h1 h2=> ?_⟩
   by_cases e:r=i
   .subst e;exact hp
   .exact ih.2 r (by omega) h2
theorem Xz{y:List Int}(hy:y.length=5){v0 v1 v2 v3 v4:Int}:mM y v0 v1 v2 v3 v4=true↔y=[v0,v1,v2,v3,v4]:=by
 match y,hy with
 |[a,b,c,d,e],_=>simp[mM]
theorem Xr{l:List (List Int)}(h5:∀x∈l,x.length=5){v0 v1 v2 v3 v4:Int}(h:MI l v0 v1 v2 v3 v4<l.length):nd l (MI l v0 v1 v2 v3 v4)=[v0,v1,v2,v3,v4]:=by
 have h1:=(DW (λi=>mM (List.getD l i []) v0 v1 v2 v3 v4) l.length 0).1 (by rw[Nat.zero_add];exact h)
 have hm:nd l (MI l v0 v1 v2 v3 v4)∈l:=by unfold nd;rw[getD_at l [] h];exact List.getElem_mem h
 exact(Xz (h5 _ hm)).1 h1
theorem agq{l:List (List Int)}(h5:∀x∈l,x.length=5){v0 v1 v2 v3 v4:Int}{r:Nat}(h:¬MI l v0 v1 v2 v3 v4<l.length)(hr:r<l.length):nd l r≠ [v0,v1,v2,v3,v4]:=by
 intro e
 have h1:=(DW (λi=>mM (List.getD l i []) v0 v1 v2 v3 v4) l.length 0).2 r (Nat.zero_le _) (Nat.lt_of_lt_of_le hr (Nat.le_of_not_lt h))
 have hm:nd l r∈l:=by unfold nd;rw[getD_at l [] hr];exact List.getElem_mem hr
 have:=(Xz (h5 _ hm)).2 e
 rw[show mM (List.getD l r []) v0 v1 v2 v3 v4=mM (nd l r) v0 v1 v2 v3 v4 from rfl,this] at h1
 cases h1
structure asO (u:List (List Int)) (i:Nat) (s:List (List Int)×List Int):Prop where
 len:s.2.length=u.length
 le:s.1.length<=i
 pos:0<i->0<s.1.length
 idx:∀j,j<i->∃r:Nat,List.getD s.2 j 0=(r:Int)/\r<s.1.length/\nd s.1 r=sO (fI s.2) (nd u j)
 ok:∀r,r<s.1.length->Ei (nd s.1 r) r
 five:∀x∈s.1,x.length=5
 dist:∀r r',r<s.1.length->r'<s.1.length->nd s.1 r=nd s.1 r'->r=r'
theorem ED{l:List Int}{a:Int}{r:Nat}(h:List.getD l a.toNat 0=(r:Int))(hr:r<=1000):fI l a=(r:Int):=by
 unfold fI
 rw[h,tH (by omega) (by omega)]
theorem ahO{l:List Int}{a:Int}{i:Nat}{v:Int}(h:a.toNat≠i):fI (l.set i v) a=fI l a:=by
 unfold fI
 rw[List.getD,List.getD,List.getElem?_set_ne (Ne.symm h)]
theorem aeU{l:List Int}{x:List Int}{i:Nat}{v:Int}(hA:tX (x.headD 0) (x.tail.headD 0) i)(hB:tY (x.headD 0) (x.tail.tail.headD 0) i):sO (fI (l.set i v)) x=sO (fI l) x:=by
 unfold sO
 rw[wR (g:=fI l) (λh=>ahO (by have:=hA h;omega)),wS (g:=fI l) (λh=>ahO (by have:=hB h;omega))]
theorem OW{kd a n m:Int}(h:tX kd a n)(hm:n<=m):tX kd a m:=λh2=>by have:=h h2;omega
theorem OX{kd a n m:Int}(h:tY kd a n)(hm:n<=m):tY kd a m:=λh2=>by have:=h h2;omega
theorem LK{u:List (List Int)}(hu:rE u):∀i,i<=u.length->asO u i (bQ u i)
 |0,_=>⟨by simp[bQ],Nat.le_refl _,λh=>absurd h (by decide),λj h=>absurd h (by omega),λr h=>absurd h (by simp[bQ]),λx h=>by simp[bQ] at h,λr r' h=>absurd h (by simp[bQ])⟩
 |i+1,hi=>by
  have ih:=LK hu i (by omega)
  have h40:=hu.1.2
  have hlt:i<u.length:=by omega
  show asO u (i+1) (kD u (bQ u i) i)
  generalize hs:bQ u i=s at*
  obtain⟨q1,q2,q3,q4,q5,q6,q7⟩:=ih
  obtain⟨hA,hB⟩:=kg hu.2 hlt
  have hx:shN u s.2 i=sO (fI s.2) (nd u i):=rfl
  have hf:∀a:Int,0<=a->a<i->∃r:Nat,fI s.2 a=(r:Int)/\r<s.1.length:=by
   intro a h0 h1
   obtain⟨r,e1,e2,_⟩:=q4 a.toNat (by omega)
   exact⟨r,ED e1 (by omega),e2⟩
  have hok:Ei (sO (fI s.2) (nd u i)) (s.1.length:Nat):=by
   refine Lg (Lh hu.2 hlt) (λh=> ?_) (λh=> ?_)
   .have:=hA h
    obtain⟨r,e1,e2⟩:=hf _ this.1 this.2
    show 0<=fI s.2 ((List.getD u i []).tail.headD 0)/\fI s.2 ((List.getD u i []).tail.headD 0)<_
    rw[e1];omega
   .have:=hB h
    obtain⟨r,e1,e2⟩:=hf _ this.1 this.2
    show 0<=fI s.2 ((List.getD u i []).tail.tail.headD 0)/\fI s.2 ((List.getD u i []).tail.tail.headD 0)<_
    rw[e1];omega
  have hmv:∀(v:Int) (j:Nat),j<=i->sO (fI (s.2.set i v)) (nd u j)=sO (fI s.2) (nd u j):=by
   intro v j hj
   obtain⟨a1,a2⟩:=kg hu.2 (show j<u.length by omega)
   exact aeU (OW a1 (by omega)) (OX a2 (by omega))
  have hget:∀(v:Int) (j:Nat),j<i->List.getD (s.2.set i v) j 0=List.getD s.2 j 0:=by
   intro v j hj
   rw[List.getD,List.getD,List.getElem?_set_ne (by omega)]
  have hgi:∀v:Int,List.getD (s.2.set i v) i 0=v:=λv=>iw _ _ _ (by omega)
  unfold kD
  by_cases hp:Sr u s i<s.1.length
  .rw[if_pos hp]
   have hhit:nd s.1 (Sr u s i)=sO (fI s.2) (nd u i):=Xr q6 hp
   refine⟨by simp[q1],by show s.1.length<=i+1;omega,λ_=>by show 0<s.1.length;omega,λj hj=> ?_,q5,q6,q7⟩
   dsimp only
   by_cases e:j=i
   .subst e
    exact⟨Sr u s j,hgi _,hp,by rw[hmv _ _ (Nat.le_refl _)];exact hhit⟩
   .obtain⟨r,e1,e2,e3⟩:=q4 j (by omega)
    exact⟨r,by rw[hget _ _ (by omega)];exact e1,e2,by rw[hmv _ _ (by omega)];exact e3⟩
  .rw[if_neg hp]
   have hpe:Sr u s i=s.1.length:=by have:=Sv u s i;omega
   have hmiss:∀r,r<s.1.length->nd s.1 r≠sO (fI s.2) (nd u i):=λr hr=>agq q6 hp hr
   have hl:(s.1++[shN u s.2 i]).length=s.1.length+1:=by simp
   have hlast:nd (s.1++[shN u s.2 i]) s.1.length=sO (fI s.2) (nd u i):=by
    have:=BJ (t:=s.1) (l:=[shN u s.2 i]) (i:=0)
    rw[Nat.add_zero] at this
    rw[this];rfl
   refine⟨by simp[q1],by dsimp only;omega,λ_=>by dsimp only;omega,λj hj=> ?_,λr hr=> ?_,λx hx2=> ?_,λr r' hr hr' he=> ?_⟩
   .dsimp only
    by_cases e:j=i
    .subst e
     exact⟨s.1.length,by rw[hgi,hpe],by omega,by rw[hmv _ _ (Nat.le_refl _)];exact hlast⟩
    .obtain⟨r,e1,e2,e3⟩:=q4 j (by omega)
     exact⟨r,by rw[hget _ _ (by omega)];exact e1,by omega,by rw[hmv _ _ (by omega),j_ e2];exact e3⟩
   .dsimp only at hr|-
    by_cases e:r<s.1.length
    .rw[j_ e];exact q5 r e
    .obtain rfl:r=s.1.length:=by omega
     rw[hlast];exact hok
   .rcases List.mem_append.1 hx2 with h|h
    .exact q6 x h
    .rw[List.mem_singleton.1 h];rfl
   .dsimp only at hr hr' he
    by_cases e:r<s.1.length
    .by_cases e':r'<s.1.length
     .rw[j_ e,j_ e'] at he
      exact q7 r r' e e' he
     .obtain rfl:r'=s.1.length:=by omega
      rw[j_ e,hlast] at he
      exact absurd he (hmiss r e)
    .obtain rfl:r=s.1.length:=by omega
     by_cases e':r'<s.1.length
     .rw[j_ e',hlast] at he
      exact absurd he.symm (hmiss r' e')
     .omega
section
variable {u:List (List Int)} (hu:rE u)
include hu
theorem wY:rE (bQ u u.length).1:=by
 have h:=LK hu u.length (Nat.le_refl _)
 exact⟨⟨h.pos hu.1.1,by have:=h.le;have:=hu.1.2;omega⟩,λj _ hj=>h.ok j hj⟩
theorem aaW:kH (bQ u u.length).1:=by
 have h:=LK hu u.length (Nat.le_refl _)
 exact Sg (by have:=h.le;have:=hu.1.2;omega) h.five (wY hu).2
theorem ru{j:Nat}(hj:j<u.length):∃r:Nat,List.getD (bQ u u.length).2 j 0=(r:Int)/\r<(bQ u u.length).1.length/\nd (bQ u u.length).1 r=sO (fI (bQ u u.length).2) (nd u j):=
 (LK hu u.length (Nat.le_refl _)).idx j hj
theorem agC{j r:Nat}(hj:j<u.length)(hr:List.getD (bQ u u.length).2 j 0=(r:Int))(n:Nat):M9 (bQ u u.length).1 r n=M9 u j n:=by
 have hX:∀i,i<u.length->NdOk (nd u i) i:=λi hi=>((sQ hu.1.2 hu.2).ok i hi).toNdOk
 have h40:=hu.1.2
 have hle:=(LK hu u.length (Nat.le_refl _)).le
 have:=PL hu (wY hu) (λi=>(List.getD (bQ u u.length).2 i 0).toNat) (λi=>i<u.length)
  (λi hi=>⟨hi,by
   obtain⟨r,e1,e2,_⟩:=ru hu hi
   show(List.getD (bQ u u.length).2 i 0).toNat<_
   rw[e1,Int.toNat_natCast];exact e2⟩)
  (λi hi=>⟨λh=>by have:=(hX i hi).a h;omega,λh=>by have:=(hX i hi).b h;omega⟩) (λi hi=> ?_) hj n
 .rw[hr,Int.toNat_natCast] at this
  exact this
 .obtain⟨r,e1,e2,e3⟩:=ru hu hi
  show Alike (nd u i) (nd (bQ u u.length).1 (List.getD (bQ u u.length).2 i 0).toNat) _
  rw[e1,Int.toNat_natCast,e3]
  obtain⟨hA,hB⟩:=kg hu.2 hi
  refine Ic (λh=> ?_) (λh=> ?_)
  .have:=hA (w_ h)
   obtain⟨r',f1,f2,_⟩:=ru hu (j:=((nd u i).tail.headD 0).toNat) (by unfold nd;omega)
   show(fI (bQ u u.length).2 ((nd u i).tail.headD 0)).toNat=(List.getD (bQ u u.length).2 ((nd u i).tail.headD 0).toNat 0).toNat
   rw[ED f1 (by omega),f1]
  .have:=hB (xg h)
   obtain⟨r',f1,f2,_⟩:=ru hu (j:=((nd u i).tail.tail.headD 0).toNat) (by unfold nd;omega)
   show(fI (bQ u u.length).2 ((nd u i).tail.tail.headD 0)).toNat=(List.getD (bQ u u.length).2 ((nd u i).tail.tail.headD 0).toNat 0).toNat
   rw[ED f1 (by omega),f1]
end
theorem LM{w:List (List Int)}(hw:rE w)(h5:∀x∈w,x.length=5)(hd:∀r r',r<w.length->r'<w.length->nd w r=nd w r'->r=r'):∀i,i<=w.length->(bQ w i).1=w.take i/\∀j:Nat,j<i->List.getD (bQ w i).2 j 0=(j:Int)
 |0,_=>⟨by simp[bQ],λj h=>absurd h (by omega)⟩
 |i+1,hi=>by
  obtain⟨e1,e2⟩:=LM hw h5 hd i (by omega)
  have hlen:=(LK hw i (by omega)).len
  have h40:=hw.1.2
  have hlt:i<w.length:=by omega
  show(kD w (bQ w i) i).1=_/\∀j:Nat,j<i+1->List.getD (kD w (bQ w i) i).2 j 0=(j:Int)
  generalize hs:bQ w i=s at*
  obtain⟨hA,hB⟩:=kg hw.2 hlt
  have hmem:nd w i∈w:=by unfold nd;rw[getD_at w [] hlt];exact List.getElem_mem hlt
  have hx:sO (fI s.2) (nd w i)=nd w i:=by
   have hy:=h5 _ hmem
   have hA':=hA
   have hB':=hB
   have hm:sO (fI s.2) (nd w i)=sO id (nd w i):=by
    unfold sO
    rw[wR (g:=id) (λh=>by have:=hA h;exact(ED (r:=((nd w i).tail.headD 0).toNat) (e2 _ (by unfold nd;omega)) (by unfold nd;omega)).trans (by show _=(nd w i).tail.headD 0;unfold nd;omega)),
     wS (g:=id) (λh=>by have:=hB h;exact(ED (r:=((nd w i).tail.tail.headD 0).toNat) (e2 _ (by unfold nd;omega)) (by unfold nd;omega)).trans (by show _=(nd w i).tail.tail.headD 0;unfold nd;omega))]
   rw[hm]
   generalize nd w i=y at hy
   match y,hy with
   |[k,a,b,p,q],_=>
    show[k,KZ id k a,K3 id k b,p,q]=_
    unfold KZ K3
    cases two k||gy k<;>cases two k<;>rfl
  have htl:(w.take i).length=i:=by rw[List.length_take];omega
  have hnd:∀r,r<i->nd (w.take i) r=nd w r:=by
   intro r hr
   unfold nd
   rw[List.getD,List.getD,List.getElem?_take_of_lt hr]
  have hmiss:¬Sr w s i<s.1.length:=by
   intro hp
   have h6:∀x∈s.1,x.length=5:=λx hx2=>h5 x (by rw[e1] at hx2;exact List.mem_of_mem_take hx2)
   have hhit:nd s.1 (Sr w s i)=sO (fI s.2) (nd w i):=Xr h6 hp
   rw[hx] at hhit
   rw[e1,htl] at hp
   rw[e1,hnd _ hp] at hhit
   have:=hd _ _ (by omega) hlt hhit
   omega
  have hpe:Sr w s i=i:=by have:=Sv w s i;rw[e1,htl] at this hmiss;omega
  unfold kD
  rw[if_neg hmiss]
  refine⟨?_,λj hj=> ?_⟩
  .show s.1++[sO (fI s.2) (nd w i)]=_
   rw[hx,e1,List.take_succ_eq_append_getElem hlt]
   unfold nd
   rw[getD_at w [] hlt]
  .dsimp only
   by_cases e:j=i
   .subst e
    rw[iw _ _ _ (by omega),hpe]
   .rw[List.getD,List.getElem?_set_ne (by omega),<-List.getD]
    exact e2 j (by omega)
theorem Sw{u:List (List Int)}(hu:rE u):(bQ (bQ u u.length).1 (bQ u u.length).1.length).1=(bQ u u.length).1:=by
 have h:=LK hu u.length (Nat.le_refl _)
 have:=(LM (wY hu) h.five h.dist _ (Nat.le_refl _)).1
 rw[this,List.take_of_length_le (Nat.le_refl _)]
theorem getD_lt{b:List Bool}{j:Nat}(h:List.getD b j false=true):j<b.length:=by
 rcases Nat.lt_or_ge j b.length with h1|h1
 .exact h1
 .rw[List.getD,List.getElem?_eq_none h1] at h;cases h
theorem Cg{b:List Bool}{j k:Nat}(h:List.getD b j false=true):List.getD (b.set k true) j false=true:=by
 by_cases e:k=j
 .subst e;exact iw _ _ _ (getD_lt h)
 .rw[getD_set_ne _ _ _ e];exact h
theorem W_{u:List (List Int)}{b:List Bool}{i j:Nat}(h:List.getD b j false=true):List.getD (jF u b i) j false=true:=by
 unfold jF
 cases List.getD b i false
 .exact h
 .cases two (oC u i)
  .cases gy (oC u i)
   .exact h
   .exact Cg h
  .exact Cg (Cg h)
theorem DK{u:List (List Int)}{p j:Nat}:∀(d t:Nat),List.getD (gJ u p t) j false=true->List.getD (gJ u p (t+d)) j false=true
 |0,t,h=>h
 |d+1,t,h=>by
  rw[show t+(d+1)=t+d+1 by omega,gJ]
  exact W_ (DK d t h)
theorem u_{u:List (List Int)}{p:Nat}(hp:p<u.length):List.getD (marked u p) p false=true:=by
 have:=DK (u:=u) (p:=p) (j:=p) (p+1) 0 (iw _ _ _ (by simpa using hp))
 rw[Nat.zero_add] at this
 exact this
theorem af8{u:List (List Int)}(hu:aX u 0){p j:Nat}(hp:p<u.length)(h:List.getD (marked u p) j false=true):j<=p:=by
 by_cases h1:j<=p
 .exact h1
 .rw[sM hu hp (by omega)] at h;cases h
theorem nX{u:List (List Int)}(hu:aX u 0){p i:Nat}(hp:p<u.length)(h:List.getD (marked u p) i false=true):
  ((two (oC u i)||gy (oC u i))=true->List.getD (marked u p) (aOf u i).toNat false=true)/\(two (oC u i)=true->List.getD (marked u p) (bOf u i).toNat false=true):=by
 have hi:=af8 hu hp h
 obtain⟨t,ht⟩:∃t,t=p-i:=⟨_,rfl⟩
 have hpt:p-t=i:=by omega
 have h1:=Oj hu hp (show t<=p by omega)
 rw[hpt,h] at h1
 have hst:gJ u p (t+1)=jF u (gJ u p t) i:=by rw[gJ,hpt]
 have hl:=KV u p t
 have hup:∀j,List.getD (jF u (gJ u p t) i) j false=true->List.getD (marked u p) j false=true:=by
  intro j hj
  rw[<-hst] at hj
  have:=DK (p-t) (t+1) hj
  rw[show t+1+(p-t)=p+1 by omega] at this
  exact this
 obtain⟨hA,hB⟩:=kg hu (show i<u.length by omega)
 have hA:(two (oC u i)||gy (oC u i))=true->0<=aOf u i/\aOf u i<i:=hA
 have hB:two (oC u i)=true->0<=bOf u i/\bOf u i<i:=hB
 refine⟨λhk=>hup _ ?_,λhk=>hup _ ?_⟩
 .have:=hA hk
  unfold jF
  rw[h1,cond_true,hk,cond_true]
  cases two (oC u i)
  .exact iw _ _ _ (by omega)
  .exact Cg (iw _ _ _ (by omega))
 .have:=hB hk
  unfold jF
  rw[h1,cond_true,hk,Bool.true_or,cond_true,cond_true]
  exact iw _ _ _ (by rw[List.length_set];omega)
structure asM (u:List (List Int)) (M:List Bool) (i:Nat) (s:List (List Int)×List Int):Prop where
 len:s.2.length=u.length
 le:s.1.length<=i
 idx:∀j,j<i->List.getD M j false=true->∃r:Nat,List.getD s.2 j 0=(r:Int)/\r<s.1.length/\nd s.1 r=sO (fI s.2) (nd u j)
 ok:∀r,r<s.1.length->Ei (nd s.1 r) r
 five:∀x∈s.1,x.length=5
 last:∀j,j<i->List.getD M j false=true->(∀j',j<j'->j'<i->List.getD M j' false=false)->List.getD s.2 j 0+1=(s.1.length:Int)
theorem avz{u:List (List Int)}(hu:rE u){p:Nat}(hp:p<u.length):∀i,i<=u.length->asM u (marked u p) i (mI u ((List.range i).filter λj=>List.getD (marked u p) j false))
 |0,_=>⟨by simp[mI],Nat.le_refl _,λj h=>absurd h (by omega),λr h=>absurd h (by simp[mI]),λx h=>by simp[mI] at h,λj h=>absurd h (by omega)⟩
 |i+1,hi=>by
  have ih:=avz hu hp i (by omega)
  have h40:=hu.1.2
  have hlt:i<u.length:=by omega
  rw[List.range_succ,List.filter_append,List.filter_cons,List.filter_nil]
  generalize hL:((List.range i).filter λj=>List.getD (marked u p) j false)=L at ih|-
  cases hm:List.getD (marked u p) i false with
  |false=>
   simp only[Bool.false_eq_true,if_false,List.append_nil]
   obtain⟨q1,q2,q4,q5,q6,q7⟩:=ih
   refine⟨q1,by omega,λj hj hmj=> ?_,q5,q6,λj hj hmj hno=> ?_⟩
   .by_cases e:j=i
    .subst e;rw[hm] at hmj;cases hmj
    .exact q4 j (by omega) hmj
   .by_cases e:j=i
    .subst e;rw[hm] at hmj;cases hmj
    .exact q7 j (by omega) hmj (λj' h1 h2=>hno j' h1 (by omega))
  |true=>
   simp only[if_true]
   rw[Lu]
   generalize hs:mI u L=s at*
   obtain⟨q1,q2,q4,q5,q6,q7⟩:=ih
   obtain⟨hA,hB⟩:=kg hu.2 hlt
   obtain⟨m1,m2⟩:=nX hu.2 hp hm
   have hf:∀a:Int,0<=a->a<i->List.getD (marked u p) a.toNat false=true->∃r:Nat,fI s.2 a=(r:Int)/\r<s.1.length:=by
    intro a h0 h1 h2
    obtain⟨r,e1,e2,_⟩:=q4 a.toNat (by omega) h2
    exact⟨r,ED e1 (by omega),e2⟩
   have hok:Ei (sO (fI s.2) (nd u i)) (s.1.length:Nat):=by
    refine Lg (Lh hu.2 hlt) (λh=> ?_) (λh=> ?_)
    .have:=hA h
     obtain⟨r,e1,e2⟩:=hf _ this.1 this.2 (m1 h)
     show 0<=fI s.2 ((List.getD u i []).tail.headD 0)/\fI s.2 ((List.getD u i []).tail.headD 0)<_
     rw[e1];omega
    .have:=hB h
     obtain⟨r,e1,e2⟩:=hf _ this.1 this.2 (m2 h)
     show 0<=fI s.2 ((List.getD u i []).tail.tail.headD 0)/\fI s.2 ((List.getD u i []).tail.tail.headD 0)<_
     rw[e1];omega
   have hmv:∀(v:Int) (j:Nat),j<=i->sO (fI (s.2.set i v)) (nd u j)=sO (fI s.2) (nd u j):=by
    intro v j hj
    obtain⟨a1,a2⟩:=kg hu.2 (show j<u.length by omega)
    exact aeU (OW a1 (by omega)) (OX a2 (by omega))
   have hget:∀(v:Int) (j:Nat),j<i->List.getD (s.2.set i v) j 0=List.getD s.2 j 0:=by
    intro v j hj
    rw[List.getD,List.getD,List.getElem?_set_ne (by omega)]
   have hgi:∀v:Int,List.getD (s.2.set i v) i 0=v:=λv=>iw _ _ _ (by omega)
   unfold lC
   rw[show List.getD u i []=nd u i from rfl,hmv _ _ (Nat.le_refl _)]
   have hl:(s.1++[sO (fI s.2) (nd u i)]).length=s.1.length+1:=by simp
   have hlast:nd (s.1++[sO (fI s.2) (nd u i)]) s.1.length=sO (fI s.2) (nd u i):=by
    have:=BJ (t:=s.1) (l:=[sO (fI s.2) (nd u i)]) (i:=0)
    rw[Nat.add_zero] at this
    rw[this];rfl
   refine⟨by simp[q1],by dsimp only;omega,λj hj hmj=> ?_,λr hr=> ?_,λx hx2=> ?_,λj hj hmj hno=> ?_⟩
   .dsimp only
    by_cases e:j=i
    .subst e
     exact⟨s.1.length,by rw[hgi],by omega,by rw[hmv _ _ (Nat.le_refl _)];exact hlast⟩
    .obtain⟨r,e1,e2,e3⟩:=q4 j (by omega) hmj
     exact⟨r,by rw[hget _ _ (by omega)];exact e1,by omega,by rw[hmv _ _ (by omega),j_ e2];exact e3⟩
   .dsimp only at hr|-
    by_cases e:r<s.1.length
    .rw[j_ e];exact q5 r e
    .obtain rfl:r=s.1.length:=by omega
     rw[hlast];exact hok
   .rcases List.mem_append.1 hx2 with h|h
    .exact q6 x h
    .rw[List.mem_singleton.1 h];rfl
   .dsimp only
    by_cases e:j=i
    .subst e
     rw[hgi];omega
    .have:=hno i (by omega) (by omega)
     rw[hm] at this;cases this
section
variable {u:List (List Int)} (hu:rE u) {p:Nat} (hp:p<u.length)
include hu hp
theorem sS:asM u (marked u p) u.length (mI u (bq u p)):=avz hu hp u.length (Nat.le_refl _)
theorem Fa:List.getD (mI u (bq u p)).2 p 0+1=((mI u (bq u p)).1.length:Int):=
 (sS hu hp).last p hp (u_ hp) λj' h1 _=>sM hu.2 hp h1
theorem DY:rE (mI u (bq u p)).1:=by
 have h:=sS hu hp
 have:=Fa hu hp
 obtain⟨r,e1,e2,_⟩:=h.idx p hp (u_ hp)
 exact⟨⟨by omega,by have:=h.le;have:=hu.1.2;omega⟩,λj _ hj=>h.ok j hj⟩
theorem aaQ:kH (mI u (bq u p)).1:=by
 have h:=sS hu hp
 exact Sg (by have:=h.le;have:=hu.1.2;omega) h.five (DY hu hp).2
theorem agu{q:Nat}(hq:(mI u (bq u p)).1.length=q+1)(n:Nat):M9 (mI u (bq u p)).1 q n=M9 u p n:=by
 have h:=sS hu hp
 have hX:∀i,i<u.length->NdOk (nd u i) i:=λi hi=>((sQ hu.1.2 hu.2).ok i hi).toNdOk
 have h40:=hu.1.2
 have hle:=h.le
 have hl:=Fa hu hp
 have:=PL hu (DY hu hp) (λi=>(List.getD (mI u (bq u p)).2 i 0).toNat) (λi=>i<u.length/\List.getD (marked u p) i false=true)
  (λi hi=>⟨hi.1,by
   obtain⟨r,e1,e2,_⟩:=h.idx i hi.1 hi.2
   show(List.getD (mI u (bq u p)).2 i 0).toNat<_
   rw[e1,Int.toNat_natCast];exact e2⟩)
  (λi hi=>⟨λhh=>by
   have:=(hX i hi.1).a hh
   exact⟨by omega,(nX hu.2 hp hi.2).1 (w_ hh)⟩,λhh=>by
   have:=(hX i hi.1).b hh
   exact⟨by omega,(nX hu.2 hp hi.2).2 (xg hh)⟩⟩) (λi hi=> ?_) ⟨hp,u_ hp⟩ n
 .rw[show(List.getD (mI u (bq u p)).2 p 0).toNat=q by omega] at this
  exact this
 .obtain⟨r,e1,e2,e3⟩:=h.idx i hi.1 hi.2
  show Alike (nd u i) (nd (mI u (bq u p)).1 (List.getD (mI u (bq u p)).2 i 0).toNat) _
  rw[e1,Int.toNat_natCast,e3]
  obtain⟨hA,hB⟩:=kg hu.2 hi.1
  refine Ic (λhh=> ?_) (λhh=> ?_)
  .have:=hA (w_ hh)
   obtain⟨r',f1,f2,_⟩:=h.idx ((nd u i).tail.headD 0).toNat (by unfold nd;omega) ((nX hu.2 hp hi.2).1 (w_ hh))
   show(fI (mI u (bq u p)).2 ((nd u i).tail.headD 0)).toNat=(List.getD (mI u (bq u p)).2 ((nd u i).tail.headD 0).toNat 0).toNat
   rw[ED f1 (by omega),f1]
  .have:=hB (xg hh)
   obtain⟨r',f1,f2,_⟩:=h.idx ((nd u i).tail.tail.headD 0).toNat (by unfold nd;omega) ((nX hu.2 hp hi.2).2 (xg hh))
   show(fI (mI u (bq u p)).2 ((nd u i).tail.tail.headD 0)).toNat=(List.getD (mI u (bq u p)).2 ((nd u i).tail.tail.headD 0).toNat 0).toNat
   rw[ED f1 (by omega),f1]
end
theorem Eu:∀(l:List Int) (s:ByteArray),(l.foldl (λr n=>r.push (UInt8.ofNat n.toNat)) s).data.toList=s.data.toList++l.map λn=>UInt8.ofNat n.toNat
 |[],s=>by simp
 |a::l,s=>by
  rw[List.foldl_cons,Eu l]
  simp[ByteArray.push]
theorem fe(l:List Int):(aF l).data.toList=l.map λn=>UInt8.ofNat n.toNat:=by
 unfold aF
 rw[Eu];rfl
theorem ng{a b:ByteArray}(h:a.data.toList=b.data.toList):a=b:=by
 cases a;cases b
 congr 1
 exact Array.ext' h
theorem b_(a b:List Int):aF (a++b)=aF a++aF b:=by
 apply ng
 rw[ByteArray.data_append,Array.toList_append,fe,fe,fe,List.map_append]
theorem aP(l:List Int):(aF l).size=l.length:=by
 show(aF l).data.size=_
 rw[<-Array.length_toList,fe,List.length_map]
theorem Yp:(⟨#[]⟩:ByteArray)=aF []:=rfl
def jS:Nat->Nat->List Int
 |0,_=>[]
 |k+1,n=>jS k (n/10)++[48+((n%10:Nat):Int)]
theorem jO:∀k n,(jS k n).length=k
 |0,_=>rfl
 |k+1,n=>by simp[jS,jO k]
theorem wV:∀k n,jS (k+1) n=(48+((n/10^k%10:Nat):Int))::jS k n
 |0,n=>by simp[jS]
 |k+1,n=>by
  show jS (k+1) (n/10)++[48+((n%10:Nat):Int)]=_
  rw[wV k (n/10),Nat.div_div_eq_div_mul,<-Nat.pow_succ'];rfl
theorem Lp:∀j k n,jS (k+j) n=jS k (n/10^j)++jS j n
 |0,k,n=>by simp[jS]
 |j+1,k,n=>by
  show jS (k+j) (n/10)++[48+((n%10:Nat):Int)]=_
  rw[Lp j k (n/10),Nat.div_div_eq_div_mul,<-Nat.pow_succ',List.append_assoc];rfl
theorem Xp:∀k n,jS k (n%10^k)=jS k n
 |0,n=>rfl
 |k+1,n=>by
  show jS k (n%10^(k+1)/10)++[48+((n%10^(k+1)%10:Nat):Int)]=jS k (n/10)++[48+((n%10:Nat):Int)]
  have h1:n%10^(k+1)%10=n%10:=Nat.mod_mod_of_dvd n ⟨10^k,Nat.pow_succ'⟩
  have h2:n%10^(k+1)/10=n/10%10^k:=by rw[Nat.pow_succ',Nat.mod_mul_right_div_self]
  rw[h1,h2,Xp k (n/10)]
theorem Ow:∀k,jS k 0=List.replicate k 48
 |0=>rfl
 |k+1=>by
  show jS k (0/10)++[48+((0%10:Nat):Int)]=_
  rw[Nat.zero_div,Ow k,List.replicate_succ'];rfl
def ve:Nat->Nat->Nat
 |0,_=>1
 |f+1,n=>if n<10 then 1 else ve f (n/10)+1
def jm(n:Nat):Nat:=ve n n
theorem Xe:∀f g n,n<=f->n<=g->ve f n=ve g n
 |0,0,_,_,_=>rfl
 |0,g+1,n,h,_=>by unfold ve;rw[if_pos (by omega)]
 |f+1,0,n,_,h=>by unfold ve;rw[if_pos (by omega)]
 |f+1,g+1,n,h1,h2=>by
  unfold ve
  by_cases h:n<10
  .rw[if_pos h,if_pos h]
  .rw[if_neg h,if_neg h,Xe f g (n/10) (by omega) (by omega)]
theorem sP{n:Nat}(h:n<10):jm n=1:=by
 unfold jm
 cases n with
 |zero=>rfl
 |succ n=>unfold ve;rw[if_pos h]
theorem K5{n:Nat}(h:10<=n):jm n=jm (n/10)+1:=by
 unfold jm
 obtain⟨f,rfl⟩:∃f,n=f+1:=⟨n-1,by omega⟩
 rw[show ve (f+1) (f+1)=ve f ((f+1)/10)+1 by rw[ve,if_neg (by omega)],Xe f ((f+1)/10) _ (by omega) (Nat.le_refl _)]
theorem jN:∀(f n:Nat),n<=f->n<10^jm n/\(0<n->10^(jm n-1)<=n)/\1<=jm n
 |0,n,h=>by
  obtain rfl:n=0:=by omega
  exact⟨by decide,λh=>absurd h (by decide),by decide⟩
 |f+1,n,h=>by
  by_cases h1:n<10
  .rw[sP h1]
   exact⟨by omega,λ_=>by simpa using(by omega:1<=n),Nat.le_refl _⟩
  .obtain⟨a1,a2,a3⟩:=jN f (n/10) (by omega)
   rw[K5 (by omega)]
   refine⟨?_,λ_=> ?_,by omega⟩
   .rw[Nat.pow_succ];omega
   .have a2:=a2 (by omega)
    rw[Nat.add_sub_cancel]
    have e:10^jm (n/10)=10^(jm (n/10)-1)*10:=by rw[<-Nat.pow_succ];congr 1;omega
    rw[e];omega
theorem Xf:∀j n,10^j<=n->jm n=jm (n/10^j)+j
 |0,n,_=>by simp
 |j+1,n,h=>by
  have h10:10<=n:=by
   have:10^1<=10^(j+1):=Nat.pow_le_pow_right (by decide) (by omega)
   omega
  rw[K5 h10,Xf j (n/10) (by rw[Nat.le_div_iff_mul_le (by decide),<-Nat.pow_succ];exact h),Nat.div_div_eq_div_mul,<-Nat.pow_succ',show j.succ=j+1 from rfl]
  omega
def fH(n:Nat):List Int:=jS (jm n) n
theorem yt{n:Nat}(h:n<10):fH n=[48+(n:Int)]:=by
 unfold fH
 rw[sP h]
 show[]++[48+((n%10:Nat):Int)]=_
 rw[Nat.mod_eq_of_lt h];rfl
theorem UJ{n:Nat}(h:10<=n):fH n=fH (n/10)++[48+((n%10:Nat):Int)]:=by
 unfold fH
 rw[K5 h];rfl
theorem Yt{n j:Nat}(h:10^j<=n):fH n=fH (n/10^j)++jS j n:=by
 unfold fH
 rw[Xf j n h,Lp]
theorem Xn{n k:Nat}(h:jm n<=k):jS k n=List.replicate (k-jm n) 48++fH n:=by
 obtain⟨a1,_,_⟩:=jN n n (Nat.le_refl _)
 unfold fH
 rw[show k=(k-jm n)+jm n by omega,Lp,Nat.div_eq_of_lt a1,Ow,Nat.add_sub_cancel]
theorem jU(n:Nat):(fH n).length=jm n:=jO _ _
theorem BK{n k:Nat}(hk:1<=k)(h:n<10^k):jm n<=k:=by
 obtain⟨a1,a2,a3⟩:=jN n n (Nat.le_refl _)
 rcases Nat.eq_zero_or_pos n with rfl|hn
 .rw[sP (by decide)];exact hk
 .have b1:=a2 hn
  rcases Nat.lt_or_ge k (jm n) with h2|h2
  .have:=Nat.pow_le_pow_right (show 0<10 by decide) (show k<=jm n-1 by omega)
   omega
  .exact h2
theorem aGP(x y:Nat):Int.tmod (x:Int) (y:Int)=((x%y:Nat):Int):=by rw[Int.tmod_eq_emod_of_nonneg (by omega)];rfl
theorem aGN(x y:Nat):Int.tdiv (x:Int) (y:Int)=((x/y:Nat):Int):=by rw[Int.tdiv_eq_ediv_of_nonneg (by omega)];rfl
theorem aGT{x:Int}(h1:0<=x)(h2:x<256):IntKind.wrap .u8 x=x:=by
 unfold IntKind.wrap
 simp[IntKind.signed,IntKind.bits]
 omega
theorem Fh{α:Type}:∀(f n:Nat),n<9223372036854775808->n<10^(f+1)->∀k:ByteArray->Option α,pI (f+1) (n:Int) k=k (aF (fH n))
 |f,n,hn,h,k=>by
  have e1:IntKind.wrap .u8 (IntKind.wrap .i64 ((48:Int)+(Int.tmod (n:Int) (10:Int))))=48+((n%10:Nat):Int):=by
   rw[show(10:Int)=((10:Nat):Int) from rfl,aGP,bP (by omega) (by omega),aGT (by omega) (by omega)]
  rw[ax8,e1]
  show cond _ (k (aF [48+((n%10:Nat):Int)])) _=_
  by_cases h1:n<10
  .rw[dT (by omega),cond_true,yt h1,Nat.mod_eq_of_lt h1]
  .match f,h with
   |0,h=>omega
   |f+1,h=>
    rw[dF (by omega),cond_false,show(10:Int)=((10:Nat):Int) from rfl,aGN,bP (by omega) (by omega),Fh f (n/10) (by omega) (by rw[Nat.pow_succ] at h;omega)]
    have hl:(aF (fH (n/10))).size<=1000:=by
     rw[aP,jU]
     have:=BK (n:=n/10) (k:=20) (by decide) (by omega)
     omega
    show(if _+(aF [48+((n%10:Nat):Int)]).size<=_ then k (_++aF [48+((n%10:Nat):Int)]) else none)=_
    rw[if_pos (by rw[aP [48+((n%10:Nat):Int)]];simp only[List.length_singleton];omega),<-b_,<-UJ (by omega)]
end Go.Proofs.YtlmmgjngihlpeaaGreatDoor.Sx
namespace Go.Proofs.YtlmmgjngihlpeaaGreatDoor.Sx
open Go
set_option linter.unusedVariables false
set_option linter.unusedSimpArgs false
set_option maxRecDepth 100000
abbrev SS:List ByteArray:=[(⟨#[]⟩:ByteArray),(⟨#[114,97,116,105,111]⟩:ByteArray),(⟨#[115,117,109]⟩:ByteArray),(⟨#[100,105,102,102]⟩:ByteArray),(⟨#[112,114,111,100,117,99,116]⟩:ByteArray),(⟨#[113,117,111,116,105,101,110,116]⟩:ByteArray),(⟨#[110,101,103]⟩:ByteArray),(⟨#[97,98,115]⟩:ByteArray),(⟨#[109,105,110]⟩:ByteArray),(⟨#[109,97,120]⟩:ByteArray),(⟨#[114,111,111,116]⟩:ByteArray),(⟨#[112,105]⟩:ByteArray),(⟨#[101,117,108,101,114]⟩:ByteArray)]
abbrev spB:ByteArray:=⟨#[32]⟩
abbrev nlB:ByteArray:=⟨#[10]⟩
def eH(kd:Int):ByteArray:=List.getD SS kd.toNat ⟨#[]⟩
def dO(n:Int):ByteArray:=aF (cond (decide (n<0)) (45::fH n.natAbs) (fH n.natAbs))
theorem U8(n:Nat):dO (n:Int)=aF (fH n):=by
 unfold dO;rw[dF (by omega)];rfl
theorem ahX{n:Nat}(h:0<n):dO (-(n:Int))=aF (45::fH n):=by
 unfold dO;rw[dT (by omega),Int.natAbs_neg];rfl
theorem jK{n:Int}(h1:-9223372036854775808<=n)(h2:n<=9223372036854775807):(dO n).size<=20:=by
 have hd:jm n.natAbs<=19:=BK (by decide) (by omega)
 unfold dO
 rw[aP]
 cases decide (n<0)
 .simp only[cond_false,jU];omega
 .simp only[cond_true,List.length_cons,jU];omega
theorem Mj(kd:Int):(eH kd).size<=8:=by
 have h:∀i:Nat,(List.getD SS i ⟨#[]⟩).size<=8:=by
  intro i
  by_cases hi:i<13
  .have:∀j:Fin 13,(List.getD SS j.1 ⟨#[]⟩).size<=8:=by decide
   exact this ⟨i,hi⟩
  .rw[List.getD,List.getElem?_eq_none (by show 13<=i;omega)];exact Nat.zero_le _
 exact h _
theorem Mv{α:Type}{x y:Option α}(a b:ByteArray)(ha:a.size<=1000)(hb:b.size<=1000):(if a.size+b.size<=9223372036854775807 then x else y)=x:=if_pos (by omega)
def xN(kd a b p q:Int):ByteArray:=
 cond (decide (kd=1)) (eH kd++(spB++(dO p++(spB++dO q)))) (cond (two kd) (eH kd++(spB++(dO a++(spB++dO b)))) (cond (gy kd) (eH kd++(spB++dO a)) (eH kd)))
theorem aBi(a b c:ByteArray):(a++b)++c=a++(b++c):=by
 apply ng
 simp
theorem kwL{α:Type}(m:Nat){kd:Int}(h:0<=kd/\kd<13)(k:ByteArray->Option α):Tc m kd k=k (eH kd):=by
 show(if 0<=kd/\kd<((13:Nat):Int) then(if(0+kd.toNat)<13 then k (List.getD SS (0+kd.toNat) ⟨#[]⟩) else none) else none)=_
 rw[if_pos (by omega),if_pos (by omega),Nat.zero_add];rfl
theorem qY{kd a b p q v:Int}(h:tV kd a b p q v)(hv:v<=2000):(0<=kd/\kd<13)/\-1000000000<=p/\p<=1000000000/\0<=q/\q<=1000000000/\0<=a/\a<=2000/\0<=b/\b<=2000:=by
 rcases h with h|h|h|h<;>omega
theorem uH:∀(f u:Nat),u<=f->Lib.decDigits u=(fH u).map λn=>UInt8.ofNat n.toNat
 |0,u,h=>by
  rw[Lib.decDigits,dif_pos (by omega),yt (by omega)]
  simp only[List.map_cons,List.map_nil]
  rw[show(48+(u:Int)).toNat=48+u by omega]
 |f+1,u,h=>by
  by_cases hu:u<10
  .rw[Lib.decDigits,dif_pos hu,yt hu]
   simp only[List.map_cons,List.map_nil]
   rw[show(48+(u:Int)).toNat=48+u by omega]
  .rw[Lib.decDigits,dif_neg hu,UJ (by omega),List.map_append,uH f (u/10) (by omega)]
   simp only[List.map_cons,List.map_nil]
   rw[show(48+((u%10:Nat):Int)).toNat=48+u%10 by omega]
theorem WJ(n:Int):WI n=dO n:=by
 apply ng
 have h1:(WI n).data.toList=Lib.itoa n:=by simp[WI]
 rw[h1]
 unfold dO Lib.itoa
 rw[fe]
 by_cases h:n<0
 .rw[if_pos h,dT h,cond_true,uH _ _ (Nat.le_refl _)];rfl
 .rw[if_neg h,dF h,cond_false,uH _ _ (Nat.le_refl _),show n.toNat=n.natAbs by omega]
theorem apH{m:Nat}(hm:4<=m){α:Type}{n:Int}(h1:-9223372036854775808<=n)(h2:n<=9223372036854775807)(k:ByteArray->Option α):g82 m n 10 k=k (dO n):=by
 unfold g82
 rw[if_pos ⟨rfl,h1,h2⟩,WJ]
theorem anN{m:Nat}(hm:4<=m){α:Type}{n:Int}(h1:-9223372036854775808<=n)(h2:n<=9223372036854775807)(k:ByteArray->Option α):Gs m n k=k (dO n):=by
 unfold Gs
 rw[if_pos ⟨h1,h2⟩,WJ]
end Go.Proofs.YtlmmgjngihlpeaaGreatDoor.Sx
namespace Go.Proofs.YtlmmgjngihlpeaaGreatDoor.Sx
open Go
set_option linter.unusedVariables false
set_option linter.unusedSimpArgs false
set_option maxRecDepth 100000
theorem anK{α:Type}{m:Nat}(hm:4<=m){kd a b p q v:Int}(hok:tV kd a b p q v)(hv:v<=2000)(k:ByteArray->Option α):
  g38 m kd p q (dO a) (dO b) k=k (xN kd a b p q):=by
 obtain⟨hk,p1,p2,q1,q2,a1,a2,b1,b2⟩:=qY hok hv
 have hfp:=jK (n:=p) (by omega) (by omega)
 have hfq:=jK (n:=q) (by omega) (by omega)
 have hfa:=jK (n:=a) (by omega) (by omega)
 have hfb:=jK (n:=b) (by omega) (by omega)
 have hwd:=Mj kd
 have hsp:(⟨#[32]⟩:ByteArray).size=1:=rfl
 rw[aDq,yM,kwL m hk]
 dsimp only
 unfold xN
 by_cases h1:kd=1
 .rw[dT h1,cond_true,cond_true,Mv _ _ (by omega) (by rw[hsp];omega),apH hm (by omega) (by omega),Mv _ _ (by simp only[ByteArray.size_append,hsp];omega) (by omega),
   Mv _ _ (by simp only[ByteArray.size_append,hsp];omega) (by rw[hsp];omega),apH hm (by omega) (by omega),Mv _ _ (by simp only[ByteArray.size_append,hsp];omega) (by omega)]
  congr 1
  simp only[aBi]
 .rw[dF h1,cond_false,cond_false]
  cases ht:two kd with
  |true=>
   rw[Bool.true_or,cond_true,Mv _ _ (by rw[hsp];omega) (by omega),Mv _ _ (by omega) (by simp only[ByteArray.size_append,hsp];omega),cond_true,Mv _ _ (by rw[hsp];omega) (by omega),Mv _ _ (by simp only[ByteArray.size_append,hsp];omega) (by simp only[ByteArray.size_append,hsp];omega)]
   congr 1
   simp only[aBi,cond_true]
  |false=>
   cases ho:gy kd with
   |true=>
    rw[Bool.false_or,cond_true,Mv _ _ (by rw[hsp];omega) (by omega),Mv _ _ (by omega) (by simp only[ByteArray.size_append,hsp];omega),cond_false]
    rfl
   |false=>rfl
def d_(c:UInt8):List UInt8->List (List UInt8)
 |[]=>[[]]
 |b::l=>if b=c then[]::d_ c l else(match d_ c l with|[]=>[[b]]|x::r=>(b::x)::r)
theorem OO(c:UInt8):∀l,d_ c l≠ []
 |[]=>by simp[d_]
 |b::l=>by
  unfold d_
  split
  .simp
  .split<;>simp
theorem vw{c:UInt8}:∀{l:List UInt8},c∉l->d_ c l=[l]
 |[],_=>rfl
 |b::l,h=>by
  simp only[List.mem_cons,not_or] at h
  unfold d_
  rw[if_neg (λe=>h.1 e.symm),vw h.2]
theorem tC{c:UInt8}{r:List UInt8}:∀{a:List UInt8},c∉a->d_ c (a++c::r)=a::d_ c r
 |[],_=>by simp[d_]
 |b::a,h=>by
  simp only[List.mem_cons,not_or] at h
  rw[List.cons_append,d_,if_neg (λe=>h.1 e.symm),tC h.2]
theorem L9(c:UInt8):∀l,(d_ c l).length=l.count c+1
 |[]=>rfl
 |b::l=>by
  have ih:=L9 c l
  unfold d_
  by_cases h:b=c
  .subst h;rw[if_pos rfl,List.length_cons,ih,List.count_cons_self]
  .rw[if_neg h,List.count_cons_of_ne (by simpa using h)]
   split
   .rename_i e;exact absurd e (OO c l)
   .rename_i x r e;rw[e] at ih;exact ih
theorem L8(c:UInt8):∀l,d_ c (l++[c])=d_ c l++[[]]
 |[]=>by simp[d_]
 |b::l=>by
  have ih:=L8 c l
  rw[List.cons_append]
  unfold d_
  by_cases h:b=c
  .rw[if_pos h,if_pos h,ih];rfl
  .rw[if_neg h,if_neg h,ih]
   cases hs:d_ c l with
   |nil=>exact absurd hs (OO c l)
   |cons x r=>rfl
theorem xU{c:UInt8}:∀{l:List UInt8},∀x∈d_ c l,x.length<=l.length
 |[],x,hx=>by simp[d_] at hx;subst hx;simp
 |b::l,x,hx=>by
  have ih:= @xU c l
  unfold d_ at hx
  split at hx
  .rcases List.mem_cons.1 hx with rfl|hx
   .simp
   .have:=ih x hx;simp;omega
  .split at hx
   .simp only[List.mem_singleton] at hx;subst hx;simp
   .rename_i y r e
    rcases List.mem_cons.1 hx with rfl|hx
    .have:=ih y (by rw[e];simp);simp;omega
    .have:=ih x (by rw[e];simp[hx]);simp;omega
theorem Oa{c:UInt8}:∀{l:List UInt8} {k:Nat},l.count c=k+1->∃a r,l=a++c::r/\c∉a/\r.count c=k/\Lib.indexByte l c=a.length
 |[],k,h=>by simp at h
 |b::l,k,h=>by
  by_cases hb:b=c
  .subst hb
   refine⟨[],l,rfl,by simp,by simpa using h, ?_⟩
   unfold Lib.indexByte
   rw[if_pos (by simp)];simp
  .rw[List.count_cons_of_ne (by simpa using hb)] at h
   obtain⟨a,r,e1,e2,e3,e4⟩:=Oa h
   refine⟨b::a,r,by rw[e1];rfl,by simp[e2];exact λe=>hb e.symm,e3, ?_⟩
   unfold Lib.indexByte
   rw[if_neg (by simpa using hb),e4,if_neg (by simp)]
   simp
theorem OM(c:UInt8):∀(k:Nat) (l:List UInt8),l.count c=k->Lib.splitK [c] 0 k l=d_ c l
 |0,l,h=>by
  rw[vw (by rw[<-List.count_pos_iff];omega)];rfl
 |k+1,l,h=>by
  obtain⟨a,r,rfl,h2,h3,h4⟩:=Oa h
  rw[tC h2]
  have hi:Lib.index (a++c::r) [c]=a.length:=by rw[Lib.index_one,h4]
  unfold Lib.splitK
  rw[hi,if_neg (by simp),<-OM c k r h3]
  simp
def toB(l:List UInt8):ByteArray:=⟨l.toArray⟩
theorem aoW(l:List UInt8):(toB l).data.toList=l:=by simp[toB]
theorem SL(s:ByteArray):toB s.data.toList=s:=by
 apply ByteArray.ext
 simp[toB]
def eG(s:ByteArray)(c:UInt8):List ByteArray:=(d_ c s.data.toList).map toB
theorem aoN(s:ByteArray)(c:UInt8):Lib.splitB ⟨#[c]⟩ 0 (Lib.countB s ⟨#[c]⟩) s=eG s c:=by
 have h:=Lib.splitB_data ⟨#[c]⟩ 0 (Lib.countB s ⟨#[c]⟩) s
 have hc:Lib.countB s ⟨#[c]⟩=s.data.toList.count c:=Lib.count_one c _
 rw[show(⟨#[c]⟩:ByteArray).data.toList=[c] from rfl,OM c _ _ hc.symm] at h
 unfold eG
 rw[<-h,List.map_map]
 conv=>lhs;rw[<-List.map_id (Lib.splitB ⟨#[c]⟩ 0 (Lib.countB s ⟨#[c]⟩) s)]
 exact List.map_congr_left λx _=>(SL x).symm
def MB(l:List Int):List UInt8:=l.map λn=>UInt8.ofNat n.toNat
theorem afH(n:Int):(dO n).data.toList=MB (cond (decide (n<0)) (45::fH n.natAbs) (fH n.natAbs)):=fe _
theorem P5{d:Nat}(h:d<10):(UInt8.ofNat (48+(d:Int)).toNat).toNat=48+d:=by
 have:(48+(d:Int)).toNat=48+d:=by omega
 rw[this]
 simp
 omega
theorem aon:∀(k n acc:Nat),acc*10^k+n%10^k<=18446744073709551615->Lib.parseUintM 18446744073709551615 acc (MB (jS k n))= .ok (acc*10^k+n%10^k)
 |0,n,acc,_=>by
  show Lib.NumEnd.ok acc= .ok (acc*10^0+n%10^0)
  simp[Nat.mod_one]
 |k+1,n,acc,h=>by
  have hD:n/10^k%10<10:=Nat.mod_lt _ (by decide)
  have hP:1<=10^k:=Nat.one_le_pow _ _ (by decide)
  have hm:n%10^(k+1)=n%10^k+10^k*(n/10^k%10):=Nat.mod_pow_succ
  generalize hd:n/10^k%10=D at*
  have hs:acc*10^(k+1)+n%10^(k+1)=(acc*10+D)*10^k+n%10^k:=by
   rw[hm,Nat.pow_succ,Nat.add_mul,Nat.mul_assoc,Nat.mul_comm 10 (10^k),Nat.mul_comm D];omega
  rw[hs] at h|-
  have hle:acc*10+D<=18446744073709551615:=by
   have:=Nat.le_mul_of_pos_right (acc*10+D) hP
   omega
  rw[wV,hd]
  show Lib.parseUintM _ acc (UInt8.ofNat (48+(D:Int)).toNat::MB (jS k n))=_
  unfold Lib.parseUintM
  rw[P5 hD,if_pos ⟨by omega,by omega⟩,if_neg (by omega),if_neg (by omega),show acc*10+(48+D-48)=acc*10+D by omega]
  exact aon k n (acc*10+D) h
theorem apv(n:Nat):fH n≠ []:=by
 intro h
 have h1:=jU n
 rw[h] at h1
 have:=(jN n n (Nat.le_refl _)).2.2
 simp at h1;omega
theorem aeZ{n:Nat}(h:n<=18446744073709551615):Lib.parseUintB 64 (MB (fH n))= .ok n:=by
 have hlt:=(jN n n (Nat.le_refl _)).1
 have:=aon (jm n) n 0 (by rw[Nat.mod_eq_of_lt hlt];omega)
 rw[Nat.mod_eq_of_lt hlt,Nat.zero_mul,Nat.zero_add] at this
 unfold Lib.parseUintB
 rw[if_neg (by unfold MB;simpa using apv n)]
 exact this
theorem afx(n:Nat):∃d r,fH n=(48+((d:Nat):Int))::r/\d<10/\(r≠ []->d≠0):=by
 obtain⟨h1,h2,h3⟩:=jN n n (Nat.le_refl _)
 obtain⟨k,hk⟩:∃k,jm n=k+1:=⟨jm n-1,by omega⟩
 unfold fH
 rw[hk,wV]
 refine⟨n/10^k%10,jS k n,rfl,Nat.mod_lt _ (by decide),λhr=> ?_⟩
 have hk0:0<k:=by
  rcases Nat.eq_zero_or_pos k with h|h
  .subst h;exact absurd rfl hr
  .exact h
 have hn0:0<n:=by
  rcases Nat.eq_zero_or_pos n with h|h
  .subst h
   rw[sP (by decide)] at hk;omega
  .exact h
 have h4:=h2 hn0
 rw[hk,Nat.add_sub_cancel] at h4
 rw[hk,Nat.pow_succ] at h1
 have h5:n/10^k<10:=Nat.div_lt_of_lt_mul h1
 have h6:1<=n/10^k:=(Nat.le_div_iff_mul_le (Nat.pow_pos (by decide))).2 (by omega)
 omega
theorem Xo:∀(k n:Nat),∀x∈jS k n,∃d:Nat,d<10/\x=48+(d:Int)
 |0,n,x,h=>by cases h
 |k+1,n,x,h=>by
  rw[wV] at h
  rcases List.mem_cons.1 h with rfl|h
  .exact⟨_,Nat.mod_lt _ (by decide),rfl⟩
  .exact Xo k n x h
theorem BQ{n:Int}(h1:-9223372036854775808<=n)(h2:n<=9223372036854775807):Lib.parseIntB 64 (dO n).data.toList= .ok n:=by
 rw[afH]
 by_cases h:n<0
 .rw[dT h,cond_true]
  have hp:=aeZ (n:=n.natAbs) (by omega)
  show Lib.parseIntB 64 (45::MB (fH n.natAbs))=_
  unfold Lib.parseIntB
  dsimp only
  rw[show UInt8.toNat 45=45 from rfl,if_pos (show(45:Nat)=43\/(45:Nat)=45 from Or.inr rfl),hp]
  dsimp only
  rw[if_neg (λe=>e.1 rfl),if_neg (λe=>by have:=e.2;omega),if_pos rfl]
  congr 1
  omega
 .rw[dF h,cond_false]
  have hp:=aeZ (n:=n.natAbs) (by omega)
  obtain⟨d,r,e1,e2,_⟩:=afx n.natAbs
  rw[e1] at hp|-
  have hdn:=P5 e2
  show Lib.parseIntB 64 (UInt8.ofNat (48+(d:Int)).toNat::MB r)=_
  unfold Lib.parseIntB
  dsimp only
  rw[hdn,if_neg (by omega)]
  replace hp:Lib.parseUintB 64 (UInt8.ofNat (48+(d:Int)).toNat::MB r)=_:=hp
  rw[hp]
  dsimp only
  rw[if_neg (λe=>by have:=e.2;omega),if_neg (λe=>by have:=e.1;omega),if_neg (by omega)]
  congr 1
  omega
theorem qQ{a b:Int}(a1:-9223372036854775808<=a)(a2:a<=9223372036854775807)(b1:-9223372036854775808<=b)(b2:b<=9223372036854775807)(h:dO a=dO b):a=b:=by
 have e1:=BQ a1 a2
 rw[h,BQ b1 b2] at e1
 injection e1 with e1
 exact e1.symm
theorem jG{a b:ByteArray}:bY a b=true↔a=b:=by
 unfold bY
 rw[beq_iff_eq]
 constructor
 .intro h
  rw[Lib.toList_data,Lib.toList_data] at h
  exact ng h
 .rintro rfl;rfl
def I64(n:Int):Prop:=-9223372036854775808<=n/\n<=9223372036854775807
theorem Bz{m:Nat}(hm:4<=m){w:ByteArray}(hsz:w.size<=281474976710656):
  (∃n,I64 n/\w=dO n/\∀(α:Type) (k:Int->Bool->Option α),g77 m w k=k n true)\/((∀n,I64 n->w≠dO n)/\∃v,∀(α:Type) (k:Int->Bool->Option α),g77 m w k=k v false):=by
 rcases hp:Lib.parseIntB 64 w.data.toList with v|_|_
 .have hb:=Lib.parseIntB_bounds hp
  have hI:I64 v:=by
   have h9:(2:Nat)^(64-1)=9223372036854775808:=by decide
   rw[h9] at hb
   exact⟨by omega,by omega⟩
  by_cases he:dO v=w
  .refine .inl ⟨v,hI,he.symm,λα k=> ?_⟩
   rw[aee]
   unfold Fu
   rw[if_pos ⟨rfl,rfl,hsz⟩,hp]
   dsimp only
   rw[apH hm hI.1 hI.2,jG.2 he]
  .refine .inr ⟨λn hn e=> ?_,v,λα k=> ?_⟩
   .rw[e,BQ hn.1 hn.2] at hp
    injection hp with hp
    exact he (by rw[<-hp,e])
   .rw[aee]
    unfold Fu
    rw[if_pos ⟨rfl,rfl,hsz⟩,hp]
    dsimp only
    rw[apH hm hI.1 hI.2,show bY (dO v) w=false from by
     cases hc:bY (dO v) w with
     |false=>rfl
     |true=>exact absurd (jG.1 hc) he]
 .refine .inr ⟨λn hn e=> ?_,0,λα k=> ?_⟩
  .rw[e,BQ hn.1 hn.2] at hp;cases hp
  .rw[aee]
   unfold Fu
   rw[if_pos ⟨rfl,rfl,hsz⟩,hp]
 .refine .inr ⟨λn hn e=> ?_,Lib.intSat 64 w.data.toList,λα k=> ?_⟩
  .rw[e,BQ hn.1 hn.2] at hp;cases hp
  .rw[aee]
   unfold Fu
   rw[if_pos ⟨rfl,rfl,hsz⟩,hp]
theorem byte_at{w:ByteArray}{i:Nat}{b:UInt8}{r:List UInt8}(h:w.data.toList.drop i=b::r):i<w.size/\iZ w i=(b.toNat:Int)/\w.data.toList.drop (i+1)=r:=by
 have hl:i<w.data.toList.length:=by
  rcases Nat.lt_or_ge i w.data.toList.length with h1|h1
  .exact h1
  .rw[List.drop_eq_nil_of_le h1] at h;cases h
 have h2:=List.drop_eq_getElem_cons hl
 rw[h] at h2
 injection h2 with h3 h4
 refine⟨by rw[show w.size=w.data.toList.length by simp];exact hl, ?_,h4.symm⟩
 unfold iZ
 rw[getD_at _ _ hl,<-h3]
theorem U9(n:Nat):(dO (n:Int)).data.toList=MB (fH n):=by rw[U8,fe];rfl
theorem afI{n:Nat}(h:0<n):(dO (-(n:Int))).data.toList=45::(dO (n:Int)).data.toList:=by
 rw[ahX h,fe,U9];rfl
theorem ahW{n:Nat}:∀b∈(dO (n:Int)).data.toList,48<=b.toNat/\b.toNat<=57:=by
 intro b hb
 rw[U9] at hb
 unfold MB at hb
 obtain⟨x,hx,rfl⟩:=List.mem_map.1 hb
 obtain⟨d,hd,rfl⟩:=Xo _ _ x hx
 rw[P5 hd];omega
theorem ahN(z:ByteArray)(a b:Nat):(ByteArray.extract z a b).data.toList=(z.data.toList.drop a).take (b-a):=by
 rw[ByteArray.data_extract,Array.toList_extract]
theorem L_(z:ByteArray)(c:UInt8):(eG z c).length=z.data.toList.count c+1:=by
 unfold eG;rw[List.length_map,L9]
theorem OL{α:Type}(m:Nat){z:ByteArray}(hz:z.size<=1048576)(c:UInt8)(k:Nat->Nat->Nat->List ByteArray->Option α):Fv m z ⟨#[c]⟩ k=k (eG z c).length (eG z c).length (eG z c).length (eG z c):=by
 show(if z.size<4294967281 then _ else _)=_
 rw[if_pos (by omega),show lH z c=eG z c from aoN z c]
theorem afw{α:Type}(m:Nat)(z:ByteArray)(c:UInt8)(k:Int->Option α):g75 m z ⟨#[c]⟩ k=k ((z.data.toList.count c:Nat):Int):=rfl
theorem aaP{z:ByteArray}{c:UInt8}{x:ByteArray}(h:x∈eG z c):x.size<=z.size:=by
 unfold eG at h
 obtain⟨y,hy,rfl⟩:=List.mem_map.1 h
 have h1:=xU y hy
 rw[show(toB y).size=(toB y).data.toList.length by simp,aoW]
 simpa using h1
theorem w16{x:Int}(h1:-32768<=x)(h2:x<=32767):IntKind.wrap .i16 x=x:=by simp[IntKind.wrap,IntKind.bits,IntKind.signed];omega
theorem hL2(r:List Int):((r.length:Int)+1+1+1==2)=false:=by rw[beq_eq_false_iff_ne];omega
theorem hL1(r:List Int):((r.length:Int)+1+1+1==1)=false:=by rw[beq_eq_false_iff_ne];omega
def lZ(kd a b p q:Int):List Int:=cond (decide (kd=1)) [p,q] (cond (two kd) [a,b] (cond (gy kd) [a] []))
def lI(kd a b p q:Int):List ByteArray:=eH kd::(lZ kd a b p q).map dO
theorem drop_at{T:Type}{l:List T}{i:Nat}{b:T}{r:List T}(h:l.drop i=b::r):i<l.length/\(∀d,List.getD l i d=b)/\l.drop (i+1)=r:=by
 have hl:i<l.length:=by
  rcases Nat.lt_or_ge i l.length with h1|h1
  .exact h1
  .rw[List.drop_eq_nil_of_le h1] at h;cases h
 have h2:=List.drop_eq_getElem_cons hl
 rw[h] at h2
 injection h2 with h3 h4
 exact⟨hl,λd=>by rw[getD_at _ _ hl,<-h3],h4.symm⟩
theorem aGU{v:Nat}(h:v<=12):IntKind.wrap .i8 ((v:Int)+1)=((v+1:Nat):Int):=by
 have:∀v:Fin 13,IntKind.wrap .i8 ((v.1:Int)+1)=((v.1+1:Nat):Int):=by decide
 exact this ⟨v,by omega⟩
theorem agM{a b:Nat}(ha:1<=a/\a<=12)(hb:1<=b/\b<=12)(h:eH a=eH b):a=b:=by
 have:∀x y:Fin 13,(eH (x.1:Int)).data.toList=(eH (y.1:Int)).data.toList->x=y:=by decide
 have:=this ⟨a,by omega⟩ ⟨b,by omega⟩ (by show(eH (a:Int)).data.toList=(eH (b:Int)).data.toList;rw[h])
 simpa using this
theorem R9{kd a b p q v:Int}(h:tV kd a b p q v):∃k:Nat,kd=(k:Int)/\1<=k/\k<=12:=by
 have:1<=kd/\kd<=12:=by rcases h with h|h|h|h<;>omega
 obtain⟨k,rfl⟩:=Int.eq_ofNat_of_zero_le (show 0<=kd by omega)
 exact⟨k,rfl,by omega,by omega⟩
theorem XU(z:ByteArray)(c:UInt8):∃w r,eG z c=w::r/\r.length<=z.size:=by
 have h:=L_ z c
 cases hq:eG z c with
 |nil=>rw[hq] at h;simp at h
 |cons w r=>
  refine⟨w,r,rfl, ?_⟩
  rw[hq,List.length_cons] at h
  have:=List.count_le_length (a:=c) (l:=z.data.toList)
  have h2:z.data.toList.length=z.size:=by simp
  omega
theorem anI{m:Nat}(hm:4<=m){w:ByteArray}(hsz:w.size<=281474976710656):
  (∃n:Int,0<=n/\n<=1000/\w=dO n/\∀(α:Type) (k:Int->Option α),Bj m w k=k n)\/((∀n:Int,0<=n->n<=1000->w≠dO n)/\∀(α:Type) (k:Int->Option α),Bj m w k=k (-1)):=by
 rcases Bz hm hsz with⟨n,h1,h2,h3⟩|⟨h1,v,h3⟩
 .by_cases hr:0<=n/\n<=1000
  .refine .inl ⟨n,hr.1,hr.2,h2,λα k=> ?_⟩
   rw[amn,h3,Bool.not_true,cond_false,aai,decide_eq_true hr,Bool.not_true,cond_false,w16 (by omega) (by omega)]
  .refine .inr ⟨λn' a b e=> ?_,λα k=> ?_⟩
   .have:=qQ h1.1 h1.2 (by omega) (by omega) (h2.symm.trans e)
    omega
   .rw[amn,h3,Bool.not_true,cond_false,aai,decide_eq_false hr,Bool.not_false,cond_true]
 .exact .inr ⟨λn a b=>h1 n ⟨by omega,by omega⟩,λα k=>by rw[amn,h3,Bool.not_false,cond_true]⟩
theorem anQ{q:Nat}{w:ByteArray}:∀(d v m:Nat),v+d=13->1<=v->d<m->
  (∃kd:Nat,v<=kd/\kd<=12/\w=eH kd/\∀(α:Type) (K:Int->Option α) (K2:Option α),Bp (Tc q) w K K2 m (v:Int)=K (kd:Int))\/
  ((∀kd:Nat,v<=kd->kd<=12->w≠eH kd)/\∀(α:Type) (K:Int->Option α) (K2:Option α),Bp (Tc q) w K K2 m (v:Int)=K2)
 |0,v,m,h,h1,hm=>by
  obtain⟨m,rfl⟩:∃n,m=n+1:=⟨m-1,by omega⟩
  exact .inr ⟨λkd a b=>by omega,λα K K2=>by rw[Rz,dF (by omega),cond_false]⟩
 |d+1,v,m,h,h1,hm=>by
  obtain⟨m,rfl⟩:∃n,m=n+1:=⟨m-1,by omega⟩
  by_cases he:w=eH v
  .exact .inl ⟨v,by omega,by omega,he,λα K K2=>by rw[Rz,dT (by omega),cond_true,kwL q (by omega),jG.2 he.symm,cond_true]⟩
  .have hb:bY (eH v) w=false:=by
    cases hc:bY (eH v) w with
    |false=>rfl
    |true=>exact absurd (jG.1 hc).symm he
   have hstep:∀(α:Type) (K:Int->Option α) (K2:Option α),Bp (Tc q) w K K2 (m+1) (v:Int)=Bp (Tc q) w K K2 m ((v+1:Nat):Int):=by
    intro α K K2
    rw[Rz,dT (by omega),cond_true,kwL q (by omega),hb,cond_false,aGU (by omega)]
   rcases anQ (q:=q) (w:=w) d (v+1) m (by omega) (by omega) (by omega) with⟨kd,g1,g2,g3,g4⟩|⟨g1,g2⟩
   .exact .inl ⟨kd,by omega,g2,g3,λα K K2=>by rw[hstep,g4]⟩
   .refine .inr ⟨λkd a b=> ?_,λα K K2=>by rw[hstep,g2]⟩
    by_cases e:kd=v
    .subst e;exact he
    .exact g1 kd (by omega) b
theorem ar2{m:Nat}(hm:20<=m)(w:ByteArray):(∃kd:Nat,1<=kd/\kd<=12/\w=eH kd/\∀(α:Type) (k:Int->Option α),g76 m w k=k (kd:Int))\/
  ((∀kd:Nat,1<=kd->kd<=12->w≠eH kd)/\∀(α:Type) (k:Int->Option α),g76 m w k=k 0):=by
 rcases anQ (q:=m) (w:=w) 12 1 m (by omega) (by omega) (by omega) with⟨kd,g1,g2,g3,g4⟩|⟨g1,g2⟩
 .exact .inl ⟨kd,g1,g2,g3,λα k=>by rw[auX];exact g4 α _ _⟩
 .exact .inr ⟨g1,λα k=>by rw[auX];exact g2 α _ _⟩
abbrev ndB{α:Type}(m n:Nat)(ws:List ByteArray)(kF:Option α)(F:List Int->Option α):Option α:=
 Ri m 0 n n n ws (λx994 x995 x996 s997 s998 b999=>cond (!b999) kF (kG m x994 (λb1001 b1002 b1003=>cond b1001
  (Bj m s997 (λx1012=>cond b1002 (Bj m s998 (λx1013=>F [x994,x1012,x1013,x995,x996])) (F [x994,x1012,(0:Int),x995,x996])))
  (cond b1002 (Bj m s998 (λx1018=>F [x994,(0:Int),x1018,x995,x996])) (F [x994,(0:Int),(0:Int),x995,x996])))))
structure Nd (kd a b p r:Int):Prop where
 rk:-128<=kd/\kd<=127
 ra:-32768<=a/\a<=32767
 rb:-32768<=b/\b<=32767
 rp:I64 p
 rr:I64 r
structure NdW (ws:List ByteArray) (kd a b p r:Int):Prop extends Nd kd a b p r where
 back:∀v:Int,v<=1000->tV kd a b p r v->ws=lI kd a b p r
 only:∀(v kd' a' b' p' r':Int),v<=1000->tV kd' a' b' p' r' v->ws=lI kd' a' b' p' r'->kd'=kd/\a'=a/\b'=b/\p'=p/\r'=r
theorem aGq{m:Nat}(hm:20<=m){ws:List ByteArray}{w0:ByteArray}{rr:List ByteArray}(hws:ws=w0::rr)(hsz:∀w∈ws,w.size<=281474976710656):
  (∃kd a b p r,NdW ws kd a b p r/\∀(α:Type) (kF:Option α) (F:List Int->Option α),ndB m ws.length ws kF F=F [kd,a,b,p,r])\/
  ((∀(v kd a b p r:Int),v<=1000->tV kd a b p r v->ws≠lI kd a b p r)/\∀(α:Type) (kF:Option α) (F:List Int->Option α),ndB m ws.length ws kF F=kF):=by
 subst hws
 rcases ar2 hm w0 with⟨kd,k1,k2,rfl,hk⟩|⟨h1,hk⟩
 case inr=>
  refine .inr ⟨λv kd a b p r hv ho e=> ?_,λα kF F=> ?_⟩
  .obtain⟨k2,rfl,k3,k4⟩:=R9 ho
   unfold lI at e
   injection e with e4 e5
   exact h1 k2 k3 k4 e4
  .unfold ndB
   rw[Bh,if_pos ⟨by omega,by rw[List.length_cons];omega⟩,if_pos (by rw[List.length_cons];omega),List.getD_cons_zero,hk]
   simp[yM,show two 0=false from by decide,show gy 0=false from by decide]
 have hkd:∀{v kd' a' b' p' r':Int},tV kd' a' b' p' r' v->eH kd::rr=lI kd' a' b' p' r'->kd'=(kd:Int)/\rr=(lZ kd a' b' p' r').map dO:=by
  intro v kd' a' b' p' r' ho e
  obtain⟨k5,rfl,k3,k4⟩:=R9 ho
  unfold lI at e
  injection e with e4 e5
  obtain rfl:=agM ⟨k1,k2⟩ ⟨k3,k4⟩ e4
  exact⟨rfl,e5⟩
 have hkr:(-128:Int)<=(kd:Int)/\(kd:Int)<=127:=⟨by omega,by omega⟩
 have hz6:(-32768:Int)<=0/\(0:Int)<=32767:=by decide
 have hz64:I64 0:=by constructor<;>decide
 have hk0:((kd:Int)==0)=false:=by rw[beq_eq_false_iff_ne];omega
 have hgo:∀(α:Type) (kF:Option α) (F:List Int->Option α),True:=λ_ _ _=>trivial
 by_cases h1:kd=1
 .subst h1
  have ho:gy ((1:Nat):Int)=false:=by decide
  have ht:two ((1:Nat):Int)=false:=by decide
  have hd:decide (((1:Nat):Int)=1)=true:=by decide
  by_cases hl:rr.length=2
  .obtain⟨w1,w2,rfl⟩:∃w1 w2,rr=[w1,w2]:=by
    match rr,hl with
    |[w1,w2],_=>exact⟨w1,w2,rfl⟩
   have hgo:∀(α:Type) (kF:Option α) (F:List Int->Option α),ndB m [eH ((1:Nat):Int),w1,w2].length [eH ((1:Nat):Int),w1,w2] kF F=g77 m w1 (λx c=>g77 m w2 (λy d=>cond (c&&d) (F [1,0,0,x,y]) kF)):=by
    intro α kF F
    unfold ndB
    rw[Bh,if_pos ⟨by omega,by rw[List.length_cons];omega⟩,if_pos (by rw[List.length_cons];omega),List.getD_cons_zero,hk]
    simp[yM,show two 1=false from ht,show gy 1=false from ho]
    congr 1
    funext x c
    congr 1
    funext y d
    cases c<;>cases d<;>rfl
   have hnum:∀{a' b' p' r':Int},[w1,w2]=(lZ ((1:Nat):Int) a' b' p' r').map dO->w1=dO p'/\w2=dO r':=by
    intro a' b' p' r' e
    unfold lZ at e
    rw[hd] at e
    simpa using e
   rcases Bz (m:=m) (by omega) (hsz w1 (by simp)) with⟨n1,a1,a2,a3⟩|⟨a1,v1,a3⟩
   .rcases Bz (m:=m) (by omega) (hsz w2 (by simp)) with⟨n2,b1,b2,b3⟩|⟨b1,v2,b3⟩
    .refine .inl ⟨1,0,0,n1,n2,⟨⟨by decide,hz6,hz6,a1,b1⟩,λv hv ho'=>by unfold lI lZ;rw[a2,b2];rfl,λv kd' a' b' p' r' hv ho' e=> ?_⟩,λα kF F=>by rw[hgo,a3,b3];rfl⟩
     obtain⟨rfl,e2⟩:=hkd ho' e
     obtain⟨e3,e4⟩:=hnum e2
     obtain⟨_,p1,p2,q1,q2,_⟩:=qY ho' (by omega)
     have:=qQ a1.1 a1.2 (by omega) (by omega) (a2.symm.trans e3)
     have:=qQ b1.1 b1.2 (by omega) (by omega) (b2.symm.trans e4)
     rcases ho' with h|h|h|h<;>omega
    .refine .inr ⟨λv kd' a' b' p' r' hv ho' e=> ?_,λα kF F=>by rw[hgo,a3,b3];rfl⟩
     obtain⟨rfl,e2⟩:=hkd ho' e
     obtain⟨_,p1,p2,q1,q2,_⟩:=qY ho' (by omega)
     exact b1 r' ⟨by omega,by omega⟩ (hnum e2).2
   .refine .inr ⟨λv kd' a' b' p' r' hv ho' e=> ?_,λα kF F=> ?_⟩
    .obtain⟨rfl,e2⟩:=hkd ho' e
     obtain⟨_,p1,p2,q1,q2,_⟩:=qY ho' (by omega)
     exact a1 p' ⟨by omega,by omega⟩ (hnum e2).1
    .rw[hgo,a3]
     rcases Bz (m:=m) (by omega) (hsz w2 (by simp)) with⟨n2,b1,b2,b3⟩|⟨b1,v2,b3⟩<;>(rw[b3];rfl)
  .refine .inr ⟨λv kd' a' b' p' r' hv ho' e=> ?_,λα kF F=> ?_⟩
   .obtain⟨rfl,e2⟩:=hkd ho' e
    have:=congrArg List.length e2
    unfold lZ at this
    rw[hd] at this
    simp at this
    exact hl this
   .unfold ndB
    rw[Bh,if_pos ⟨by omega,by rw[List.length_cons];omega⟩,if_pos (by rw[List.length_cons];omega),List.getD_cons_zero,hk]
    have hne:(((rr.length:Nat):Int)+1 !=3)=true:=by simp;omega
    simp[yM,show two 1=false from ht,show gy 1=false from ho,hne]
 have hd1:decide (((kd:Nat):Int)=1)=false:=dF (by omega)
 by_cases ht:two (kd:Int)=true
 .have ho:gy (kd:Int)=false:=dF (by have:=of_decide_eq_true ht;omega)
  have h2:(2<=(kd:Int)/\(kd:Int)<=5\/(kd:Int)=8\/(kd:Int)=9):=of_decide_eq_true ht
  have hdn:¬(kd:Int)=1:=by omega
  by_cases hl:rr.length=2
  .obtain⟨w1,w2,rfl⟩:∃w1 w2,rr=[w1,w2]:=by
    match rr,hl with
    |[w1,w2],_=>exact⟨w1,w2,rfl⟩
   have hgo:∀(α:Type) (kF:Option α) (F:List Int->Option α),ndB m [eH (kd:Int),w1,w2].length [eH (kd:Int),w1,w2] kF F=Bj m w1 (λx=>Bj m w2 (λy=>F [(kd:Int),x,y,0,0])):=by
    intro α kF F
    unfold ndB
    rw[Bh,if_pos ⟨by omega,by rw[List.length_cons];omega⟩,if_pos (by rw[List.length_cons];omega),List.getD_cons_zero,hk]
    simp[yM,ht,ho,hd1,hk0,hdn]
   have hnum:∀{a' b' p' r':Int},[w1,w2]=(lZ (kd:Int) a' b' p' r').map dO->w1=dO a'/\w2=dO b':=by
    intro a' b' p' r' e
    unfold lZ at e
    rw[hd1,ht] at e
    simpa using e
   have hrest:∀{v a' b' p' r':Int},v<=1000->tV (kd:Int) a' b' p' r' v->(0<=a'/\a'<=1000)/\(0<=b'/\b'<=1000)/\p'=0/\r'=0:=by
    intro v a' b' p' r' hv h
    rcases h with h|h|h|h<;>omega
   obtain⟨x,hx1,hx2,hx3,hx4⟩:∃x:Int,(-32768<=x/\x<=32767)/\(0<=x->w1=dO x)/\(∀n:Int,0<=n->n<=1000->w1=dO n->n=x)/\∀(α:Type) (k:Int->Option α),Bj m w1 k=k x:=by
    rcases anI (m:=m) (by omega) (hsz w1 (by simp)) with⟨n,a1,a2,a3,a4⟩|⟨a1,a4⟩
    .exact⟨n,⟨by omega,by omega⟩,λ_=>a3,λn' c1 c2 c3=>qQ (by omega) (by omega) (by omega) (by omega) (c3.symm.trans a3),a4⟩
    .exact⟨-1,by decide,λh=>absurd h (by decide),λn' c1 c2 c3=>absurd c3 (a1 n' c1 c2),a4⟩
   obtain⟨y,hy1,hy2,hy3,hy4⟩:∃x:Int,(-32768<=x/\x<=32767)/\(0<=x->w2=dO x)/\(∀n:Int,0<=n->n<=1000->w2=dO n->n=x)/\∀(α:Type) (k:Int->Option α),Bj m w2 k=k x:=by
    rcases anI (m:=m) (by omega) (hsz w2 (by simp)) with⟨n,a1,a2,a3,a4⟩|⟨a1,a4⟩
    .exact⟨n,⟨by omega,by omega⟩,λ_=>a3,λn' c1 c2 c3=>qQ (by omega) (by omega) (by omega) (by omega) (c3.symm.trans a3),a4⟩
    .exact⟨-1,by decide,λh=>absurd h (by decide),λn' c1 c2 c3=>absurd c3 (a1 n' c1 c2),a4⟩
   refine .inl ⟨kd,x,y,0,0,⟨⟨hkr,hx1,hy1,hz64,hz64⟩,λv hv ho'=> ?_,λv kd' a' b' p' r' hv ho' e=> ?_⟩,λα kF F=>by rw[hgo,hx4,hy4]⟩
   .obtain⟨c1,c2,_⟩:=hrest hv ho'
    unfold lI lZ
    rw[hd1,ht,hx2 c1.1,hy2 c2.1];rfl
   .obtain⟨rfl,e2⟩:=hkd ho' e
    obtain⟨c1,c2,c3,c4⟩:=hrest hv ho'
    exact⟨rfl,hx3 a' c1.1 c1.2 (hnum e2).1,hy3 b' c2.1 c2.2 (hnum e2).2,c3,c4⟩
  .refine .inr ⟨λv kd' a' b' p' r' hv ho' e=> ?_,λα kF F=> ?_⟩
   .obtain⟨rfl,e2⟩:=hkd ho' e
    have:=congrArg List.length e2
    unfold lZ at this
    rw[hd1,ht] at this
    simp at this
    exact hl this
   .unfold ndB
    rw[Bh,if_pos ⟨by omega,by rw[List.length_cons];omega⟩,if_pos (by rw[List.length_cons];omega),List.getD_cons_zero,hk]
    have hne:(((rr.length:Nat):Int)+1 !=3)=true:=by simp;omega
    simp[yM,ht,ho,hd1,hk0,hdn,hne]
 have ht:two (kd:Int)=false:=by simpa using ht
 have hdn:¬(kd:Int)=1:=by omega
 by_cases ho:gy (kd:Int)=true
 .have h2:(kd:Int)=6\/(kd:Int)=7\/(kd:Int)=10:=of_decide_eq_true ho
  by_cases hl:rr.length=1
  .obtain⟨w1,rfl⟩:∃w1,rr=[w1]:=by
    match rr,hl with
    |[w1],_=>exact⟨w1,rfl⟩
   have hgo:∀(α:Type) (kF:Option α) (F:List Int->Option α),ndB m [eH (kd:Int),w1].length [eH (kd:Int),w1] kF F=Bj m w1 (λx=>F [(kd:Int),x,0,0,0]):=by
    intro α kF F
    unfold ndB
    rw[Bh,if_pos ⟨by omega,by rw[List.length_cons];omega⟩,if_pos (by rw[List.length_cons];omega),List.getD_cons_zero,hk]
    simp[yM,ht,ho,hd1,hk0,hdn]
   have hnum:∀{a' b' p' r':Int},[w1]=(lZ (kd:Int) a' b' p' r').map dO->w1=dO a':=by
    intro a' b' p' r' e
    unfold lZ at e
    rw[hd1,ht,ho] at e
    simpa using e
   have hrest:∀{v a' b' p' r':Int},v<=1000->tV (kd:Int) a' b' p' r' v->(0<=a'/\a'<=1000)/\b'=0/\p'=0/\r'=0:=by
    intro v a' b' p' r' hv h
    rcases h with h|h|h|h<;>omega
   obtain⟨x,hx1,hx2,hx3,hx4⟩:∃x:Int,(-32768<=x/\x<=32767)/\(0<=x->w1=dO x)/\(∀n:Int,0<=n->n<=1000->w1=dO n->n=x)/\∀(α:Type) (k:Int->Option α),Bj m w1 k=k x:=by
    rcases anI (m:=m) (by omega) (hsz w1 (by simp)) with⟨n,a1,a2,a3,a4⟩|⟨a1,a4⟩
    .exact⟨n,⟨by omega,by omega⟩,λ_=>a3,λn' c1 c2 c3=>qQ (by omega) (by omega) (by omega) (by omega) (c3.symm.trans a3),a4⟩
    .exact⟨-1,by decide,λh=>absurd h (by decide),λn' c1 c2 c3=>absurd c3 (a1 n' c1 c2),a4⟩
   refine .inl ⟨kd,x,0,0,0,⟨⟨hkr,hx1,hz6,hz64,hz64⟩,λv hv ho'=> ?_,λv kd' a' b' p' r' hv ho' e=> ?_⟩,λα kF F=>by rw[hgo,hx4]⟩
   .obtain⟨c1,c2⟩:=hrest hv ho'
    unfold lI lZ
    rw[hd1,ht,ho,hx2 c1.1];rfl
   .obtain⟨rfl,e2⟩:=hkd ho' e
    obtain⟨c1,c2,c3,c4⟩:=hrest hv ho'
    exact⟨rfl,hx3 a' c1.1 c1.2 (hnum e2),c2,c3,c4⟩
  .refine .inr ⟨λv kd' a' b' p' r' hv ho' e=> ?_,λα kF F=> ?_⟩
   .obtain⟨rfl,e2⟩:=hkd ho' e
    have:=congrArg List.length e2
    unfold lZ at this
    rw[hd1,ht,ho] at this
    simp at this
    exact hl (by rw[this])
   .unfold ndB
    rw[Bh,if_pos ⟨by omega,by rw[List.length_cons];omega⟩,if_pos (by rw[List.length_cons];omega),List.getD_cons_zero,hk]
    have hne:(((rr.length:Nat):Int)+1 !=2)=true:=by simp;omega
    simp[yM,ht,ho,hd1,hk0,hdn,hne]
 have ho:gy (kd:Int)=false:=by simpa using ho
 by_cases hl:rr=[]
 .subst hl
  refine .inl ⟨kd,0,0,0,0,⟨⟨hkr,hz6,hz6,hz64,hz64⟩,λv hv ho'=> ?_,λv kd' a' b' p' r' hv ho' e=> ?_⟩,λα kF F=> ?_⟩
  .unfold lI lZ
   rw[hd1,ht,ho];rfl
  .obtain⟨rfl,e2⟩:=hkd ho' e
   have a1:¬(2<=(kd:Int)/\(kd:Int)<=5\/(kd:Int)=8\/(kd:Int)=9):=of_decide_eq_false ht
   have a2:¬((kd:Int)=6\/(kd:Int)=7\/(kd:Int)=10):=of_decide_eq_false ho
   rcases ho' with h|h|h|h<;>omega
  .unfold ndB
   rw[Bh,if_pos ⟨by omega,by rw[List.length_cons];omega⟩,if_pos (by rw[List.length_cons];omega),List.getD_cons_zero,hk]
   simp[yM,ht,ho,hd1,hk0,hdn]
 .refine .inr ⟨λv kd' a' b' p' r' hv ho' e=> ?_,λα kF F=> ?_⟩
  .obtain⟨rfl,e2⟩:=hkd ho' e
   unfold lZ at e2
   rw[hd1,ht,ho] at e2
   exact hl (by simpa using e2)
  .unfold ndB
   rw[Bh,if_pos ⟨by omega,by rw[List.length_cons];omega⟩,if_pos (by rw[List.length_cons];omega),List.getD_cons_zero,hk]
   have:0<rr.length:=List.length_pos_iff.2 hl
   have hne:(((rr.length:Nat):Int)+1 !=1)=true:=by simp;omega
   simp[yM,ht,ho,hd1,hk0,hdn,hne,hl]
def avI(w:ByteArray)(i:Nat)(x:List Int):Prop:=∃kd a b p r,x=[kd,a,b,p,r]/\tV kd a b p r i/\eG w 32=lI kd a b p r
def Good:Nat->List ByteArray->List (List Int)->Prop
 |_,[],[]=>True
 |i,w::ls,x::t=>avI w i x/\Good (i+1) ls t
 |_,[],_::_=>False
 |_,_::_,[]=>False
def Part(x:List Int):Prop:=∃kd a b p q,x=[kd,a,b,p,q]/\(-32768<=a/\a<=32767)/\(-32768<=b/\b<=32767)/\(-128<=kd/\kd<=127)/\(-9223372036854775808<=p/\p<=9223372036854775807)/\(-9223372036854775808<=q/\q<=9223372036854775807)
def MU:Nat->List (List Int)->Prop
 |_,[]=>True
 |i,x::t=>tV (x.headD 0) (x.tail.headD 0) (x.tail.tail.headD 0) (x.tail.tail.tail.headD 0) (x.tail.tail.tail.tail.headD 0) i/\MU (i+1) t
theorem Ld:∀{t:List (List Int)} {i:Nat},MU i t↔∀j,j<t.length->tV ((List.getD t j []).headD 0) ((List.getD t j []).tail.headD 0) ((List.getD t j []).tail.tail.headD 0) ((List.getD t j []).tail.tail.tail.headD 0) ((List.getD t j []).tail.tail.tail.tail.headD 0) ((i+j:Nat):Int)
 |[],i=>by simp[MU]
 |x::t,i=>by
  constructor
  .rintro ⟨h1,h2⟩ j hj
   cases j with
   |zero=>exact h1
   |succ j=>
    have:=(Ld (t:=t) (i:=i+1)).1 h2 j (by simpa using hj)
    rw[show i+(j+1)=i+1+j by omega]
    exact this
  .intro h
   refine⟨h 0 (by simp),Ld.2 λj hj=> ?_⟩
   have:=h (j+1) (by simpa using hj)
   rw[show i+(j+1)=i+1+j by omega] at this
   exact this
theorem aaL{t:List (List Int)}:aX t 0↔MU 0 t:=by
 rw[Ld]
 constructor
 .intro h j hj;rw[Nat.zero_add];exact h j (Nat.zero_le _) hj
 .intro h j _ hj;have:=h j hj;rwa[Nat.zero_add] at this
theorem aoz{q:Nat}(hq:1048576<q)(lines:List ByteArray)(hsz:∀w∈lines,w.size<=1048576)(hn:lines.length<=1000):∀(r:List ByteArray) (i f:Nat) (acc:List (List Int)),lines.drop i=r->r.length<f->acc.length<=i->i<=lines.length->
  (∃t,t.length=r.length/\(∀x∈t,Part x)/\(MU i t->Good i r t)/\(∀t',Good i r t'->t'=t)/\∀(α:Type) (kF:Option α) (kT:List (List Int)->Option α),mD (Fv q) (Ri q) (kG q) (Bj q) 0 lines.length lines.length ((lines.length:Nat):Int) lines.length lines kF kT f (i:Int) acc=kT (acc++t))\/
  ((∀t,¬Good i r t)/\∀(α:Type) (kF:Option α) (kT:List (List Int)->Option α),mD (Fv q) (Ri q) (kG q) (Bj q) 0 lines.length lines.length ((lines.length:Nat):Int) lines.length lines kF kT f (i:Int) acc=kF)
 |[],i,f,acc,h,hf,ha,hi=>by
  obtain⟨f,rfl⟩:∃n,f=n+1:=⟨f-1,by omega⟩
  have hl:=List.drop_eq_nil_iff.1 h
  refine .inl ⟨[],rfl,by simp,λ_=>trivial,λt' h'=> ?_,λα kF kT=> ?_⟩
  .match t',h' with
   |[],_=>rfl
  .rw[Wp,dF (by omega),cond_false,List.append_nil]
 |w::r,i,f,acc,h,hf,ha,hi=>by
  obtain⟨f,rfl⟩:∃n,f=n+1:=⟨f-1,by omega⟩
  obtain⟨hl,hg,hr⟩:=drop_at h
  rw[List.length_cons] at hf
  have hw:w∈lines:=List.mem_of_mem_drop (i:=i) (by rw[h];simp)
  obtain⟨w0,rr,hws,hrl⟩:=XU w 32
  have hgo:∀(α:Type) (kF:Option α) (kT:List (List Int)->Option α),mD (Fv q) (Ri q) (kG q) (Bj q) 0 lines.length lines.length ((lines.length:Nat):Int) lines.length lines kF kT (f+1) (i:Int) acc=
    ndB q (eG w 32).length (eG w 32) kF (λx=>mD (Fv q) (Ri q) (kG q) (Bj q) 0 lines.length lines.length ((lines.length:Nat):Int) lines.length lines kF kT f ((i+1:Nat):Int) (acc++[x])):=by
   intro α kF kT
   rw[Wp,dT (by omega),cond_true,if_pos ⟨by omega,by omega⟩,Int.toNat_natCast,Nat.zero_add,if_pos hl,hg,iK (by omega),OL q (hsz w hw)]
   simp only[if_pos (show acc.length+1<=67108864 by omega)]
  rcases aGq (m:=q) (by omega) hws (λx hx=>by have:=aaP hx;have:=hsz w hw;omega) with⟨kd,a,b,p,r',h1,h3⟩|⟨h1,h3⟩
  .have hgo2:∀(α:Type) (kF:Option α) (kT:List (List Int)->Option α),mD (Fv q) (Ri q) (kG q) (Bj q) 0 lines.length lines.length ((lines.length:Nat):Int) lines.length lines kF kT (f+1) (i:Int) acc=
     mD (Fv q) (Ri q) (kG q) (Bj q) 0 lines.length lines.length ((lines.length:Nat):Int) lines.length lines kF kT f ((i+1:Nat):Int) (acc++[[kd,a,b,p,r']]):=by
    intro α kF kT
    rw[hgo,h3]
   rcases aoz hq lines hsz hn r (i+1) f (acc++[[kd,a,b,p,r']]) hr (by omega) (by simp;omega) (by omega) with⟨t,g1,g2,g3,g4,g5⟩|⟨g1,g2⟩
   .refine .inl ⟨[kd,a,b,p,r']::t,by rw[List.length_cons,List.length_cons,g1], ?_, ?_, ?_,λα kF kT=>by rw[hgo2,g5,List.append_assoc];rfl⟩
    .intro x hx
     rcases List.mem_cons.1 hx with rfl|hx
     .exact⟨kd,a,b,p,r',rfl,h1.ra,h1.rb,h1.rk,h1.rp,h1.rr⟩
     .exact g2 x hx
    .rintro ⟨e1,e2⟩
     exact⟨⟨kd,a,b,p,r',rfl,e1,h1.back i (by omega) e1⟩,g3 e2⟩
    .intro t' h'
     match t',h' with
     |x::t',⟨⟨kd',a',b',p',q',e1,e2,e3⟩,h''⟩=>
      obtain⟨rfl,rfl,rfl,rfl,rfl⟩:=h1.only i kd' a' b' p' q' (by omega) e2 e3
      rw[e1,g4 t' h'']
   .refine .inr ⟨λt=> ?_,λα kF kT=>by rw[hgo2,g2]⟩
    match t with
    |[]=>exact id
    |x::t=>exact λhg=>g1 t hg.2
  .refine .inr ⟨λt=> ?_,λα kF kT=>by rw[hgo,h3]⟩
   match t with
   |[]=>exact id
   |x::t=>
    rintro ⟨⟨kd',a',b',p',q',_,e2,e3⟩,_⟩
    exact h1 i kd' a' b' p' q' (by omega) e2 e3
def lnX(x:List Int):ByteArray:=xN (x.headD 0) (x.tail.headD 0) (x.tail.tail.headD 0) (x.tail.tail.tail.headD 0) (x.tail.tail.tail.tail.headD 0)++nlB
def SN(u:List (List Int)):ByteArray:=u.foldl (λs x=>s++lnX x) ⟨#[]⟩
theorem KO{kd a b p q v:Int}(h:tV kd a b p q v)(hv:v<=2000):(xN kd a b p q).size<=50:=by
 obtain⟨hk,p1,p2,q1,q2,a1,a2,b1,b2⟩:=qY h hv
 have hfp:=jK (n:=p) (by omega) (by omega)
 have hfq:=jK (n:=q) (by omega) (by omega)
 have hfa:=jK (n:=a) (by omega) (by omega)
 have hfb:=jK (n:=b) (by omega) (by omega)
 have hwd:=Mj kd
 have hsp:(⟨#[32]⟩:ByteArray).size=1:=rfl
 unfold xN
 cases decide (kd=1)
 .cases two kd
  .cases gy kd
   .simp only[cond_false];omega
   .simp only[cond_false,cond_true,ByteArray.size_append,hsp];omega
  .simp only[cond_false,cond_true,ByteArray.size_append,hsp];omega
 .simp only[cond_true,ByteArray.size_append,hsp];omega
theorem aso{u:List (List Int)}(h:aX u 0)(hl:u.length<=40){x:List Int}(hx:x∈u):∃i,i<u.length/\List.getD u i []=x/\tV (x.headD 0) (x.tail.headD 0) (x.tail.tail.headD 0) (x.tail.tail.tail.headD 0) (x.tail.tail.tail.tail.headD 0) (i:Int):=by
 obtain⟨i,hi,rfl⟩:=List.mem_iff_getElem.1 hx
 have:=h i (Nat.zero_le _) hi
 rw[getD_at u [] hi] at this
 exact⟨i,hi,getD_at u [] hi,this⟩
theorem WU{u:List (List Int)}(h:aX u 0)(hl:u.length<=40){x:List Int}(hx:x∈u):(lnX x).size<=51:=by
 obtain⟨i,hi,_,h1⟩:=aso h hl hx
 have:=KO h1 (by omega)
 have hn:nlB.size=1:=rfl
 unfold lnX
 rw[ByteArray.size_append,hn];omega
theorem X7{u:List (List Int)}(h:aX u 0)(hl:u.length<=40):∀i,i<=u.length->(SN (u.take i)).size<=51*i
 |0,_=>Nat.zero_le _
 |i+1,hi=>by
  have ih:=X7 h hl i (by omega)
  have hx:=WU h hl (List.getElem_mem (show i<u.length by omega))
  unfold SN at*
  rw[List.take_succ_eq_append_getElem (by omega),List.foldl_append]
  show(_++lnX u[i]).size<=_
  rw[ByteArray.size_append];omega
theorem WT{m:Nat}(hm:4<=m){u:List (List Int)}(hu:kH u)(h:aX u 0)(hl:u.length<=40){x:List Int}(hx:x∈u):BD m x=some (lnX x):=by
 obtain⟨i,hi,_,h1⟩:=aso h hl hx
 obtain⟨kd,a,b,p,q,rfl,ha,hb,_⟩:=hu.parts x hx
 unfold BD lnX
 simp only[List.getD_cons_zero,List.getD_cons_succ,List.headD_cons,List.tail_cons] at h1|-
 rw[anN hm (by omega) (by omega),Option.bind_some,anN hm (by omega) (by omega),Option.bind_some,anK hm h1 (by omega)];rfl
theorem aGQ{m:Nat}(hm:4<=m){u:List (List Int)}(hu:kH u)(h:(1<=u.length/\u.length<=40)/\aX u 0):apg m u/\X3 m u=SN u:=by
 obtain⟨⟨h1,h2⟩,h3⟩:=h
 refine⟨⟨λe=>by rw[e] at h1;exact absurd h1 (by decide),h2,λx hx=> ?_,λx hx=>⟨_,WT hm hu h3 h2 hx,by have:=WU h3 h2 hx;omega⟩⟩, ?_⟩
 .obtain⟨kd,a,b,p,q,rfl,ha,hb,_⟩:=hu.parts x hx
  exact⟨bP (show-9223372036854775808<=a by omega) (show a<=9223372036854775807 by omega),bP (show-9223372036854775808<=b by omega) (show b<=9223372036854775807 by omega)⟩
 .unfold X3 SN
  have:∀(l:List (List Int)) (s:ByteArray),(∀x∈l,x∈u)->l.foldl (λs x=>s++(BD m x).getD ⟨#[]⟩) s=l.foldl (λs x=>s++lnX x) s:=by
   intro l
   induction l with
   |nil=>intro s _;rfl
   |cons x l ih=>
    intro s hx
    simp only[List.foldl_cons]
    rw[WT hm hu h3 h2 (hx x (by simp)),Option.getD_some,ih _ λy hy=>hx y (by simp[hy])]
  exact this u _ λx hx=>hx
open Classical in
theorem aAb{α:Type}{m:Nat}{u:List (List Int)}(hu:kH u)(hm:1048576<m)(hok:rE u)(k:ByteArray->Option α):g8 m u k=k (SN u):=by
 have hul:=hu.len
 unfold g8
 rw[Zx m 0 hu (by omega)]
 have h:(1<=u.length/\u.length<=40)/\aX u 0:=hok
 obtain⟨h1,h2⟩:=aGQ (show 4<=m by omega) hu h
 rw[decide_eq_true h]
 dsimp only
 rw[if_pos h1,h2]
theorem CW(n:Int){c:UInt8}(hc:c=32\/c=10):c∉(dO n).data.toList:=by
 have hd:∀j:Nat,c∉(dO (j:Int)).data.toList:=by
  intro j h
  have:=ahW c h
  rcases hc with rfl|rfl
  .have e:UInt8.toNat 32=32:=rfl
   omega
  .have e:UInt8.toNat 10=10:=rfl
   omega
 by_cases h:0<=n
 .obtain⟨j,rfl⟩:=Int.eq_ofNat_of_zero_le h
  exact hd j
 .obtain⟨j,rfl⟩:∃j:Nat,n=-(j:Int):=⟨n.natAbs,by omega⟩
  rw[afI (by omega)]
  intro h2
  rcases List.mem_cons.1 h2 with h3|h3
  .rcases hc with rfl|rfl
   .cases h3
   .cases h3
  .exact hd j h3
theorem afb{kd:Int}(h:0<=kd/\kd<13){c:UInt8}(hc:c=32\/c=10):c∉(eH kd).data.toList:=by
 have:∀i:Fin 13,(32:UInt8)∉(eH (i.1:Int)).data.toList/\(10:UInt8)∉(eH (i.1:Int)).data.toList:=by decide
 obtain⟨j,rfl⟩:=Int.eq_ofNat_of_zero_le h.1
 have h2:=this ⟨j,by omega⟩
 rcases hc with rfl|rfl
 .exact h2.1
 .exact h2.2
theorem nG(a b:ByteArray):(a++b).data.toList=a.data.toList++b.data.toList:=by rw[ByteArray.data_append,Array.toList_append]
theorem SF{a:ByteArray}{c:UInt8}(h:c∉a.data.toList):eG a c=[a]:=by
 unfold eG
 rw[vw h]
 simp[SL]
theorem LZ{a b:ByteArray}{c:UInt8}(h:c∉a.data.toList):eG (a++((⟨#[c]⟩:ByteArray)++b)) c=a::eG b c:=by
 unfold eG
 rw[nG,nG,show(⟨#[c]⟩:ByteArray).data.toList++b.data.toList=c::b.data.toList from rfl,tC h,List.map_cons,SL]
theorem aaA{kd a b p q:Int}(hk:0<=kd/\kd<13):eG (xN kd a b p q) 32=lI kd a b p q:=by
 have hw:=afb hk (c:=32) (.inl rfl)
 unfold xN lI lZ
 cases decide (kd=1)
 .cases two kd
  .cases gy kd
   .exact SF hw
   .show eG (eH kd++(spB++dO a)) 32=[eH kd,dO a]
    rw[LZ hw,SF (CW a (.inl rfl))]
  .show eG (eH kd++(spB++(dO a++(spB++dO b)))) 32=[eH kd,dO a,dO b]
   rw[LZ hw,LZ (CW a (.inl rfl)),SF (CW b (.inl rfl))]
 .show eG (eH kd++(spB++(dO p++(spB++dO q)))) 32=[eH kd,dO p,dO q]
  rw[LZ hw,LZ (CW p (.inl rfl)),SF (CW q (.inl rfl))]
theorem ar_{kd a b p q:Int}(hk:0<=kd/\kd<13):(10:UInt8)∉(xN kd a b p q).data.toList:=by
 have hw:=afb hk (c:=10) (.inr rfl)
 have hsp:(10:UInt8)∉spB.data.toList:=by decide
 have hf:=λn=>CW n (c:=10) (.inr rfl)
 unfold xN
 cases decide (kd=1)
 .cases two kd
  .cases gy kd
   .exact hw
   .simp only[cond_true,cond_false,nG,List.mem_append,not_or]
    exact⟨hw,hsp,hf _⟩
  .simp only[cond_true,cond_false,nG,List.mem_append,not_or]
   exact⟨hw,hsp,hf _,hsp,hf _⟩
 .simp only[cond_true,nG,List.mem_append,not_or]
  exact⟨hw,hsp,hf _,hsp,hf _⟩
def RX(x:List Int):ByteArray:=xN (x.headD 0) (x.tail.headD 0) (x.tail.tail.headD 0) (x.tail.tail.tail.headD 0) (x.tail.tail.tail.tail.headD 0)
def txL:List (List Int)->List UInt8
 |[]=>[]
 |x::u=>(RX x).data.toList++10::txL u
theorem X5:∀(u:List (List Int)) (s:ByteArray),(u.foldl (λs x=>s++lnX x) s).data.toList=s.data.toList++txL u
 |[],s=>by simp[txL]
 |x::u,s=>by
  rw[List.foldl_cons,X5 u,nG]
  show(s.data.toList++(RX x++nlB).data.toList)++txL u=s.data.toList++((RX x).data.toList++10::txL u)
  rw[nG,List.append_assoc,List.append_assoc];rfl
theorem OT:∀(u:List (List Int)),(∀x∈u,(10:UInt8)∉(RX x).data.toList)->d_ 10 (txL u)=u.map (λx=>(RX x).data.toList)++[[]]
 |[],_=>rfl
 |x::u,h=>by
  show d_ 10 ((RX x).data.toList++10::txL u)=_
  rw[tC (h x (by simp)),OT u (λy hy=>h y (by simp[hy]))];rfl
theorem X6:∀(u:List (List Int)),u≠ []->∃l,txL u=l++[10]
 |[],h=>absurd rfl h
 |[x],_=>⟨(RX x).data.toList,rfl⟩
 |x::y::u,_=>by
  obtain⟨l,hl⟩:=X6 (y::u) (by simp)
  exact⟨(RX x).data.toList++10::l,by show(RX x).data.toList++10::txL (y::u)=_;rw[hl];simp⟩
theorem aGA{m:Nat}{z:ByteArray}(hz:z.size<=1048576){l:List UInt8}(hl:z.data.toList=l++[10]){lines:List ByteArray}(hL:(d_ 10 l).map toB=lines)(hn:lines.length<=40){α:Type}(kF:Option α)(kT:List (List Int)->Option α):
  g7 m z kF kT=mD (Fv m) (Ri m) (kG m) (Bj m) 0 lines.length lines.length ((lines.length:Nat):Int) lines.length lines kF (λl1026=>g16 m l1026 (λb1027=>cond (!b1027) kF (kT l1026))) m ((0:Nat):Int) []:=by
 have hzs:z.size=l.length+1:=by
  rw[show z.size=z.data.toList.length by simp,hl,List.length_append];rfl
 have hne:bY z ⟨#[]⟩=false:=by
  cases hc:bY z ⟨#[]⟩ with
  |false=>rfl
  |true=>
   have:=jG.1 hc
   rw[this] at hzs
   exact absurd hzs (by show¬(0=l.length+1);omega)
 have hlast:iZ z l.length=10:=by
  have:z.data.toList.drop l.length=10::[]:=by rw[hl];simp
  exact(byte_at this).2.1
 have hwz:IntKind.wrap .i64 (((z.size:Nat):Int)-1)=((l.length:Nat):Int):=by rw[bP (by omega) (by omega)];omega
 generalize hz':ByteArray.extract z 0 l.length=z' at*
 have hzd:z'.data.toList=l:=by rw[<-hz',ahN,hl];simp
 have hz's:z'.size<=1048576:=by rw[show z'.size=z'.data.toList.length by simp,hzd];omega
 have hq':eG z' 10=lines:=by unfold eG;rw[hzd,hL]
 have hll:lines.length=l.count 10+1:=by rw[<-hq',L_,hzd]
 have hcz:z.data.toList.count 10=l.count 10+1:=by rw[hl,List.count_append];rfl
 rw[aHJ,aDc,hne,cond_false]
 dsimp only
 rw[hwz,if_pos ⟨by omega,by omega⟩,Int.toNat_natCast,hlast,show((10:Int) !=10)=false from rfl,cond_false,afw,hcz,<-hll,dF (by omega),cond_false,if_pos ⟨by omega,by omega,by omega⟩,hz',OL m hz's 10,hq']
 rfl
theorem WB:∀(u:List (List Int)) (i:Nat),(∀x∈u,Part x)->MU i u->Good i (u.map RX) u
 |[],i,_,_=>trivial
 |x::u,i,hp,h=>by
  obtain⟨kd,a,b,p,q,rfl,_⟩:=hp x (by simp)
  obtain⟨h1,h2⟩:=h
  have hk:0<=kd/\kd<13:=by
   obtain⟨k,rfl,h3,h4⟩:=R9 h1
   exact⟨by omega,by omega⟩
  exact⟨⟨kd,a,b,p,q,rfl,h1,aaA hk⟩,WB u (i+1) (λy hy=>hp y (by simp[hy])) h2⟩
open Classical in
theorem aos{m:Nat}(hm:1048576<m){u:List (List Int)}(hU:kH u)(hok:rE u){α:Type}(kF:Option α)(kT:List (List Int)->Option α):g7 m (SN u) kF kT=kT u:=by
 obtain⟨⟨h1,h40⟩,hof⟩:=id hok
 have hno:∀x∈u,(10:UInt8)∉(RX x).data.toList:=by
  intro x hx
  obtain⟨i,hi,_,h⟩:=aso hof h40 hx
  obtain⟨k,hk,h3,h4⟩:=R9 h
  exact ar_ ⟨by omega,by omega⟩
 have hd:(SN u).data.toList=txL u:=by unfold SN;rw[X5];rfl
 obtain⟨l,hl⟩:=X6 u (λe=>by rw[e] at h1;exact absurd h1 (by decide))
 have hs:=OT u hno
 rw[hl,L8] at hs
 have hs2:d_ 10 l=u.map λx=>(RX x).data.toList:=List.append_cancel_right hs
 have hL:(d_ 10 l).map toB=u.map RX:=by
  rw[hs2,List.map_map]
  exact List.map_congr_left λx _=>SL (RX x)
 have hsz:(SN u).size<=1048576:=by
  have:=X7 hof h40 u.length (Nat.le_refl _)
  rw[List.take_of_length_le (Nat.le_refl _)] at this
  omega
 have hlen:(u.map RX).length=u.length:=by simp
 rw[aGA hsz (hd.trans hl) hL (by omega)]
 have hpieces:∀w∈u.map RX,w.size<=1048576:=by
  intro w hw
  obtain⟨x,hx,rfl⟩:=List.mem_map.1 hw
  obtain⟨i,hi,_,h⟩:=aso hof h40 hx
  have:=KO h (by omega)
  exact Nat.le_trans this (by decide)
 have hg:Good 0 (u.map RX) u:=WB u 0 hU.parts (aaL.1 hof)
 rcases aoz hm (u.map RX) hpieces (by omega) (u.map RX) 0 m [] rfl (by omega) (by simp) (by omega) with⟨t',e1,e2,e3,e4,e5⟩|⟨e1,_⟩
 .obtain rfl:=e4 u hg
  rw[e5,List.nil_append,Zx m 0 hU (by omega),decide_eq_true (show(1<=u.length/\u.length<=40)/\aX u 0 from hok)];rfl
 .exact absurd hg (e1 u)
theorem LD{α:Type}(m:Nat)(u:List (List Int))(hn:u.length<=1048576)(hm:1048576<m)(k:Bool->Option α):g9 m u u k=k true:=by
 rw[aHU,bne_self_eq_false,cond_false]
 have:=mH (λm' i=>afU u u (k false) (k true) m' (i:Int)) (λ_=>k true) u.length (λm'=> ?_) (λm' i hi h=> ?_) u.length 0 m (by omega) (by omega)
 .simpa using this
 .rw[anu,dF (by omega),cond_false]
 .rw[anu,dT (by omega),cond_true,if_pos (bV hi),Int.toNat_natCast,if_pos hi,if_pos (bV hi),if_pos hi]
  simp only[beq_self_eq_true,Bool.and_self,Bool.not_true,cond_false]
  rw[iK (by omega),h]
theorem aAw{α:Type}(m:Nat)(u:List (List Int))(hn:u.length<=1048576)(hm:1048576<m)(k:Bool->Option α):g10 m u u k=k true:=by
 rw[aBH,aDA,bne_self_eq_false,cond_false]
 have:=mH (λm' i=>NI ((u.length:Nat):Int) u u (k false) (k true) m' (i:Int)) (λ_=>k true) u.length (λm'=> ?_) (λm' i hi h=> ?_) u.length 0 m (by omega) (by omega)
 .simpa using this
 .rw[adF,dF (by omega),cond_false]
 .rw[adF,dT (by omega),cond_true,if_pos (bV hi),Int.toNat_natCast,if_pos hi,if_pos (bV hi),if_pos hi]
  simp only[beq_self_eq_true,Bool.and_self,Bool.not_true,cond_false]
  rw[iK (by omega),h]
theorem aAv{α:Type}(m n:Nat){l:List Int}(hl:l.length=n)(hn:n<=1048576)(hm:1048576<m)(k:Bool->Option α):g20 m 0 n n 0 n n n l n l k=k true:=by
 rw[aCN,aEq,bne_self_eq_false,cond_false]
 have:=mH (λm' i=>NR 0 n n 0 n n n l n l (k false) (k true) m' (i:Int)) (λ_=>k true) n (λm'=> ?_) (λm' i hi h=> ?_) n 0 m (by omega) (by omega)
 .simpa using this
 .rw[adY,dF (by omega),cond_false]
 .rw[adY,dT (by omega),cond_true,if_pos (bV hi),Int.toNat_natCast,Nat.zero_add,if_pos hi,if_pos (bV hi),if_pos hi,bne_self_eq_false,cond_false,iK (by omega),h]
section
variable {α:Type}
theorem ar0(m:Nat)(hm:4<=m){n:Nat}(hn:n<9223372036854775808)(k:ByteArray->Option α):Gs m (n:Int) k=k (aF (fH n)):=by rw[anN hm (by omega) (by omega),U8]
theorem aGB(m c:Nat)(h:c<=15)(k:ByteArray->Option α):Gt m (⟨#[48]⟩:ByteArray) (c:Int) k=k (aF (List.replicate c 48)):=by
 unfold Gt
 rw[if_pos ⟨by omega,by omega,by decide⟩]
 congr 1
 apply ng
 rw[fe,Int.toNat_natCast,List.map_replicate]
 show Lib.repeatL [48] c=_
 have:=Lib.repeatL_replicate (48:UInt8) 1 c
 rw[Nat.mul_one] at this
 exact this
theorem aH1(m c:Nat)(h:c<=8)(k:ByteArray->Option α):Gt m (⟨#[48]⟩:ByteArray) (c:Int) k=k (aF (List.replicate c 48)):=aGB m c (by omega) k
theorem chunk{a:Nat}(h:1000000000<=a):fH a=fH (a/1000000000)++jS 9 (a%1000000000):=by
 have:=Yt (n:=a) (j:=9) (by omega)
 rw[this,<-Xp 9 a]
theorem WC(m:Nat)(hm:300<=m)(q:Bool)(u:List Int)(k:ByteArray->Option α)(F a:Nat)(z:List Int)(ha:a<aj)(hz:z.length<=100000):
  EQ (iA m) (Gs m) (Gt m) q u k (F+1) (aF z) (limbs 6 a)=if a/1000000000=0 then k (aF (fH a++z)) else EQ (iA m) (Gs m) (Gt m) q u k F (aF (jS 9 (a%1000000000)++z)) (limbs 6 (a/1000000000)):=by
 obtain⟨n,rfl⟩:∃n,m=n+7:=⟨m-7,by omega⟩
 have hr:a%1000000000<1000000000:=Nat.mod_lt _ (by decide)
 have hr9:=BK (n:=a%1000000000) (k:=9) (by decide) (by omega)
 have hr1:=(jN (a%1000000000) (a%1000000000) (Nat.le_refl _)).2.2
 have hlr:(aF (fH (a%1000000000))).size=jm (a%1000000000):=by rw[aP,jU]
 have hlz:(aF z).size=z.length:=aP z
 rw[aq9,show(1000000000:Int)=((1000000000:Nat):Int) from rfl,aif n ha (by decide) (by decide),bP (by omega) (by omega),ar0 _ (by omega) (by omega),jI (Nat.lt_of_le_of_lt (Nat.div_le_self _ _) ha)]
 by_cases h0:a/1000000000=0
 .rw[if_pos h0,dT h0,cond_true,if_pos (by omega),<-b_,Nat.mod_eq_of_lt (by omega)]
 .rw[if_neg h0,dF h0,cond_false,hlr,bP (by omega) (by omega),show(9:Int)-((jm (a%1000000000):Nat):Int)=((9-jm (a%1000000000):Nat):Int) by omega,aH1 _ _ (by omega)]
  have hls:(aF (List.replicate (9-jm (a%1000000000)) 48)).size=9-jm (a%1000000000):=by rw[aP,List.length_replicate]
  rw[if_pos (by omega)]
  dsimp only
  rw[<-b_,<-Xn hr9,if_pos (by rw[aP,jO];omega),<-b_]
theorem aeE(m:Nat)(hm:300<=m)(q:Bool)(u:List Int)(k:ByteArray->Option α):∀(d F a:Nat) (z:List Int),d<F->a<aj->a<1000000000^(d+1)->z.length+9*(d+1)<=100000->
  EQ (iA m) (Gs m) (Gt m) q u k F (aF z) (limbs 6 a)=k (aF (fH a++z))
 |0,F,a,z,hd,ha,hF,hz=>by
  obtain⟨F,rfl⟩:∃n,F=n+1:=⟨F-1,by omega⟩
  rw[WC m hm q u k F a z ha (by omega),if_pos (Nat.div_eq_of_lt hF)]
 |d+1,F,a,z,hd,ha,hF,hz=>by
  obtain⟨F,rfl⟩:∃n,F=n+1:=⟨F-1,by omega⟩
  rw[WC m hm q u k F a z ha (by omega)]
  by_cases h0:a/1000000000=0
  .rw[if_pos h0]
  .rw[if_neg h0,aeE m hm q u k d F (a/1000000000) (jS 9 (a%1000000000)++z) (by omega) (Nat.lt_of_le_of_lt (Nat.div_le_self _ _) ha) (by
     rw[Nat.pow_succ] at hF
     exact(Nat.div_lt_iff_lt_mul (by decide)).2 hF) (by rw[List.length_append,jO];omega),<-List.append_assoc,<-chunk (by omega)]
theorem aeY(m:Nat)(z:ByteArray)(q:Bool)(a b c d:List Int)(k:ByteArray->Option α):∀(e F:Nat) (s:List Int),s.length+e=9->e<F->
  uM z q a b c d k F (aF s)=k (aF (List.replicate e 48++s))
 |0,F,s,h,hF=>by
  obtain⟨F,rfl⟩:∃n,F=n+1:=⟨F-1,by omega⟩
  have hl:=aP s
  rw[Vl,dF (by omega),cond_false];rfl
 |e+1,F,s,h,hF=>by
  obtain⟨F,rfl⟩:∃n,F=n+1:=⟨F-1,by omega⟩
  have hl:=aP s
  rw[Vl,dT (by omega),cond_true]
  show(if(aF [48]).size+_<=_ then uM z q a b c d k F (aF [48]++aF s) else none)=_
  rw[if_pos (by rw[aP [48]];simp only[List.length_singleton];omega),<-b_,aeY m z q a b c d k e F ([48]++s) (by simp only[List.length_append,List.length_singleton];omega) (by omega),List.replicate_succ',List.append_assoc]
theorem XT(m:Nat)(hm:300<=m)(q:Bool)(u:List Int)(k:ByteArray->Option α)(F a:Nat)(z:List Int)(ha:a<aj)(hz:z.length<=100000):
  uL (qU m) (pI m) (lX m) (jA m) q u [(1000000000:Int),0,0,0,0,0] k (F+1) (aF z) (limbs 6 a)=if a/1000000000=0 then k (aF (fH a++z)) else uL (qU m) (pI m) (lX m) (jA m) q u [(1000000000:Int),0,0,0,0,0] k F (aF (jS 9 (a%1000000000)++z)) (limbs 6 (a/1000000000)):=by
 have hr:a%1000000000<1000000000:=Nat.mod_lt _ (by decide)
 have hr9:=BK (n:=a%1000000000) (k:=9) (by decide) (by omega)
 have hlr:(aF (fH (a%1000000000))).size=jm (a%1000000000):=by rw[aP,jU]
 have hlz:(aF z).size=z.length:=aP z
 obtain⟨f,rfl⟩:∃f,m=f+1:=⟨m-1,by omega⟩
 have e0:List.getD (limbs 6 (a%1000000000)) 0 0=((a%1000000000:Nat):Int):=by
  rw[cu 6 _ 0 (by decide)]
  have:dv 0 (a%1000000000)=a%1000000000:=by simp[dv]
  rw[this,Nat.mod_eq_of_lt (by omega)]
 have hf:a%1000000000<10^(f+1):=by
  have:=Nat.pow_le_pow_right (show 0<10 by decide) (show 9<=f+1 by omega)
  omega
 rw[aiN,show([(1000000000:Int),0,0,0,0,0]:List Int)=limbs 6 1000000000 from rfl,att (by omega) ha (by decide) (by decide),e0,bP (by omega) (by omega),Fh f _ (by omega) hf,adj _ (Nat.lt_of_le_of_lt (Nat.div_le_self _ _) ha)]
 by_cases h0:a/1000000000=0
 .rw[if_pos h0,dT h0,cond_true,if_pos (by omega),<-b_,Nat.mod_eq_of_lt (by omega)]
 .rw[if_neg h0,dF h0,cond_false,aeY (f+1) _ _ _ _ _ _ _ (9-jm (a%1000000000)) (f+1) _ (by rw[jU];omega) (by omega),<-Xn hr9,if_pos (by rw[aP,jO];omega),<-b_]
theorem ae8(m:Nat)(hm:300<=m)(q:Bool)(u:List Int)(k:ByteArray->Option α):∀(d F a:Nat) (z:List Int),d<F->a<aj->a<1000000000^(d+1)->z.length+9*(d+1)<=100000->
  uL (qU m) (pI m) (lX m) (jA m) q u [(1000000000:Int),0,0,0,0,0] k F (aF z) (limbs 6 a)=k (aF (fH a++z))
 |0,F,a,z,hd,ha,hF,hz=>by
  obtain⟨F,rfl⟩:∃n,F=n+1:=⟨F-1,by omega⟩
  rw[XT m hm q u k F a z ha (by omega),if_pos (Nat.div_eq_of_lt hF)]
 |d+1,F,a,z,hd,ha,hF,hz=>by
  obtain⟨F,rfl⟩:∃n,F=n+1:=⟨F-1,by omega⟩
  rw[XT m hm q u k F a z ha (by omega)]
  by_cases h0:a/1000000000=0
  .rw[if_pos h0]
  .rw[if_neg h0,ae8 m hm q u k d F (a/1000000000) (jS 9 (a%1000000000)++z) (by omega) (Nat.lt_of_le_of_lt (Nat.div_le_self _ _) ha) (by
     rw[Nat.pow_succ] at hF
     exact(Nat.div_lt_iff_lt_mul (by decide)).2 hF) (by rw[List.length_append,jO];omega),<-List.append_assoc,<-chunk (by omega)]
def asH(z:Int):ByteArray:=aF (cond (zs z) (45::fH z.natAbs) (fH z.natAbs))
theorem ao3:aj<1000000000^(8+1):=by decide
theorem avy{a:Nat}(h:a<aj):jm a<=81:=BK (by decide) (Nat.lt_of_lt_of_le h (by decide))
theorem aoG(q:Bool)(a:Nat)(h:a<aj)(k:ByteArray->Option α):cond q (if(⟨#[45]⟩:ByteArray).size+(aF (fH a)).size<=9223372036854775807 then k ((⟨#[45]⟩:ByteArray)++aF (fH a)) else none) (k (aF (fH a)))=k (aF (cond q (45::fH a) (fH a))):=by
 cases q with
 |false=>rfl
 |true=>
  have hl:=aP (fH a)
  have:=avy h
  rw[jU] at hl
  show(if(aF [45]).size+_<=_ then k (aF [45]++aF (fH a)) else none)=k (aF (45::fH a))
  rw[if_pos (by rw[aP [45]];simp only[List.length_singleton];omega),<-b_];rfl
theorem RQ(m:Nat)(hm:300<=m){z:Int}(hz:z.natAbs<aj)(k:ByteArray->Option α):g64 m (zs z) (zl z) k=k (asH z):=by
 rw[aEH,aBC m hz,Bool.not_true,cond_false]
 refine(aeE m hm (zs z) (zl z) _ 8 m z.natAbs [] (by omega) hz (Nat.lt_trans hz ao3) (by decide)).trans ?_
 rw[List.append_nil]
 exact aoG (zs z) _ hz k
theorem aoM(m:Nat)(hm:300<=m){z:Int}(hz:z.natAbs<aj)(k:ByteArray->Option α):ME m (zs z) (zl z) k=k (asH z):=by
 rw[awG]
 refine(ae8 m hm (zs z) (zl z) _ 8 m z.natAbs [] (by omega) hz (Nat.lt_trans hz ao3) (by decide)).trans ?_
 rw[List.append_nil]
 exact aoG (zs z) _ hz k
end
section
variable {α:Type}
theorem acU(l:List Int)(i j:Nat):ByteArray.extract (aF l) i j=aF ((l.drop i).take (j-i)):=by
 apply ng
 rw[ByteArray.data_extract,Array.toList_extract,fe,fe]
 simp[List.extract_eq_take_drop,List.map_take,List.map_drop]
def Lm(q:Nat)(l:List Int):List Int:=List.replicate (q+1-l.length) 48++l
def P6(q:Nat)(P:List Int):List Int:=cond (decide (q=0)) P (P.take (P.length-q)++46::P.drop (P.length-q))
theorem Xl(q:Nat)(l:List Int):q+1<=(Lm q l).length/\(Lm q l).length<=q+1+l.length:=by
 unfold Lm
 rw[List.length_append,List.length_replicate]
 omega
theorem asW:(⟨#[46]⟩:ByteArray)=aF [46]:=rfl
theorem aGl:(⟨#[45]⟩:ByteArray)=aF [45]:=rfl
theorem aHh{sg P:List Int}{q:Nat}(hq:0<q)(hq15:q<=15)(hP:q+1<=P.length)(hl:P.length<=1000000)(hs:sg.length<=1)(k:ByteArray->Option α):
  (let x3006:Int:=IntKind.wrap .i64 ((((aF P).size:Nat):Int)-(q:Int))
    if 0<=(0:Int)/\(0:Int)<=x3006/\x3006<=(((aF P).size:Nat):Int) then
    let s3007:ByteArray:=ByteArray.extract (aF P) 0 (Int.toNat x3006)
    if(aF sg).size+s3007.size<=9223372036854775807 then
    let s3008:ByteArray:=(aF sg)++s3007
    if s3008.size+(⟨#[46]⟩:ByteArray).size<=9223372036854775807 then
    let s3009:ByteArray:=s3008++(⟨#[46]⟩:ByteArray)
    if 0<=x3006/\x3006<=(((aF P).size:Nat):Int)/\(((aF P).size:Nat):Int)<=(((aF P).size:Nat):Int) then
    let s3010:ByteArray:=ByteArray.extract (aF P) (Int.toNat x3006) (Int.toNat (((aF P).size:Nat):Int))
    if s3009.size+s3010.size<=9223372036854775807 then
    k (s3009++s3010)
    else
    none
    else
    none
    else
    none
    else
    none
    else
    none)=k (aF (sg++P6 q P)):=by
 have e:IntKind.wrap .i64 (((P.length:Nat):Int)-(q:Int))=((P.length-q:Nat):Int):=by rw[bP (by omega) (by omega)];omega
 dsimp only
 rw[aP P,e,Int.toNat_natCast,Int.toNat_natCast,acU,acU,List.drop_zero,Nat.sub_zero,asW,<-b_,<-b_,<-b_,if_pos (by omega),if_pos (by rw[aP,aP,List.length_take];omega),if_pos (by rw[aP,aP,List.length_append,List.length_take];simp only[List.length_singleton];omega),if_pos (by omega),
  if_pos (by rw[aP,aP,List.length_append,List.length_append,List.length_take,List.length_take,List.length_drop];simp only[List.length_singleton];omega)]
 congr 2
 unfold P6
 rw[dF (by omega),cond_false,List.take_of_length_le (i:=P.length-(P.length-q)) (by rw[List.length_drop];omega)]
 simp
theorem Xq{q:Nat}(hq:q<=15)(z:ByteArray)(n1 n2 n3:Nat)(u:aH)(R:gN)(L:aH)(k:ByteArray->Option α):∀(d F:Nat) (l:List Int),q+1-l.length=d->d<F->l.length<=1000000->
  Kn (q:Int) z n1 n2 n3 u R L k F (aF l)=k (aF (List.replicate d 48++l))
 |0,F,l,h,hf,hl=>by
  obtain⟨F,rfl⟩:∃g,F=g+1:=⟨F-1,by omega⟩
  rw[ad_,aP,bP (x:=(q:Int)+1) (by omega) (by omega),dF (by omega),cond_false];rfl
 |d+1,F,l,h,hf,hl=>by
  obtain⟨F,rfl⟩:∃g,F=g+1:=⟨F-1,by omega⟩
  have ih:=Xq hq z n1 n2 n3 u R L k d F (48::l) (by rw[List.length_cons];omega) (by omega) (by rw[List.length_cons];omega)
  have e:(⟨#[48]⟩:ByteArray)=aF [48]:=rfl
  rw[ad_,aP,bP (x:=(q:Int)+1) (by omega) (by omega),dT (by omega),cond_true,e,aP,if_pos (by simp only[List.length_singleton];omega),<-b_]
  refine ih.trans ?_
  congr 2
  rw[List.replicate_succ',List.append_assoc];rfl
theorem ae7(m:Nat)(hm:20<=m){sg D:List Int}(hs:sg.length<=1){q:Nat}(hq:q<=15)(hD1:1<=D.length)(hD:D.length<=1000)(n1 n2 n3:Nat)(u:aH)(R:gN)(L:aH)(k:ByteArray->Option α):
  cond ((q:Int)==(0:Int)) (if(aF sg).size+(aF D).size<=9223372036854775807 then k ((aF sg)++(aF D)) else none)
   (Kn (q:Int) (aF sg) n1 n2 n3 u R L (λs3005=>
    let x3006:Int:=IntKind.wrap .i64 (((s3005.size:Nat):Int)-(q:Int))
    if 0<=(0:Int)/\(0:Int)<=x3006/\x3006<=((s3005.size:Nat):Int) then
    let s3007:ByteArray:=ByteArray.extract s3005 0 (Int.toNat x3006)
    if(aF sg).size+s3007.size<=9223372036854775807 then
    let s3008:ByteArray:=(aF sg)++s3007
    if s3008.size+(⟨#[46]⟩:ByteArray).size<=9223372036854775807 then
    let s3009:ByteArray:=s3008++(⟨#[46]⟩:ByteArray)
    if 0<=x3006/\x3006<=((s3005.size:Nat):Int)/\((s3005.size:Nat):Int)<=((s3005.size:Nat):Int) then
    let s3010:ByteArray:=ByteArray.extract s3005 (Int.toNat x3006) (Int.toNat ((s3005.size:Nat):Int))
    if s3009.size+s3010.size<=9223372036854775807 then
    k (s3009++s3010)
    else
    none
    else
    none
    else
    none
    else
    none
    else
    none) m (aF D))=k (aF (sg++P6 q (Lm q D))):=by
 have hp:=Xl q D
 by_cases h0:q=0
 .subst h0
  rw[show(((0:Nat):Int)==0)=true from rfl,cond_true,if_pos (by rw[aP,aP];omega),<-b_]
  congr 3
  unfold P6 Lm
  rw[dT rfl,cond_true,show 0+1-D.length=0 by omega];rfl
 .rw[show((q:Int)==0)=false from dF (p:=(q:Int)=0) (by omega),cond_false]
  refine(Xq hq _ n1 n2 n3 u R L _ (q+1-D.length) m D rfl (by omega) (by omega)).trans ?_
  exact aHh (P:=Lm q D) (by omega) hq hp.1 (by omega) hs k
def awd{α:Type}(q:Nat)(b:Bool)(k:ByteArray->Option α)(s:ByteArray):Option α:=
  (cond (decide ((q:Int)>(0:Int)))
    (
    let x5930:Int:=IntKind.wrap .i64 (((s.size:Nat):Int)-(q:Int))
    if 0<=(0:Int)/\(0:Int)<=x5930/\x5930<=((s.size:Nat):Int) then
    let s5931:ByteArray:=ByteArray.extract s 0 (Int.toNat x5930)
    if s5931.size+(⟨#[46]⟩:ByteArray).size<=9223372036854775807 then
    let s5932:ByteArray:=s5931++(⟨#[46]⟩:ByteArray)
    if 0<=x5930/\x5930<=((s.size:Nat):Int)/\((s.size:Nat):Int)<=((s.size:Nat):Int) then
    let s5933:ByteArray:=ByteArray.extract s (Int.toNat x5930) (Int.toNat ((s.size:Nat):Int))
    if s5932.size+s5933.size<=9223372036854775807 then
    let s5934:ByteArray:=s5932++s5933
    cond b
    (
    if(⟨#[45]⟩:ByteArray).size+s5934.size<=9223372036854775807 then
    k ((⟨#[45]⟩:ByteArray)++s5934)
    else
    none)
    (
    k s5934)
    else
    none
    else
    none
    else
    none
    else
    none)
    (
    cond b
    (
    if(⟨#[45]⟩:ByteArray).size+s.size<=9223372036854775807 then
    k ((⟨#[45]⟩:ByteArray)++s)
    else
    none)
    (
    k s)))
theorem aHg{P:List Int}{q:Nat}(hq15:q<=15)(hP:q+1<=P.length)(hl:P.length<=1000000)(b:Bool)(k:ByteArray->Option α):
  awd q b k (aF P)=k (aF (cond b [45] []++P6 q P)):=by
 unfold awd
 have e:IntKind.wrap .i64 (((P.length:Nat):Int)-(q:Int))=((P.length-q:Nat):Int):=by rw[bP (by omega) (by omega)];omega
 have fin:∀Q:List Int,Q.length<=1000100->cond b (if(aF [45]).size+(aF Q).size<=9223372036854775807 then k (aF [45]++aF Q) else none) (k (aF Q))=k (aF (cond b [45] []++Q)):=by
  intro Q hQ
  cases b with
  |false=>rfl
  |true=>rw[cond_true,cond_true,if_pos (by rw[aP,aP];simp only[List.length_singleton];omega),<-b_]
 by_cases h0:q=0
 .subst h0
  rw[dF (by omega),cond_false]
  refine(fin P (by omega)).trans ?_
  congr 3
 .rw[dT (by omega),cond_true]
  dsimp only
  rw[aP P,e,Int.toNat_natCast,Int.toNat_natCast,acU,acU,List.drop_zero,Nat.sub_zero,asW,<-b_,<-b_,if_pos (by omega),if_pos (by rw[aP,aP,List.length_take];simp only[List.length_singleton];omega),if_pos (by omega),
   if_pos (by rw[aP,aP,List.length_append,List.length_take,List.length_take,List.length_drop];simp only[List.length_singleton];omega)]
  refine(fin _ ?_).trans ?_
  .rw[List.length_append,List.length_append,List.length_take,List.length_take,List.length_drop];simp only[List.length_singleton];omega
  .congr 3
   unfold P6
   rw[dF h0,cond_false,List.take_of_length_le (i:=P.length-(P.length-q)) (by rw[List.length_drop];omega)]
   simp
theorem arY(m:Nat){D:List Int}{q:Nat}(hq:q<=15)(hD1:1<=D.length)(hD:D.length<=1000)(b:Bool)(k:ByteArray->Option α)(G:ByteArray->Option α)(hG:∀P:List Int,q+1<=P.length->P.length<=1000000->G (aF P)=k (aF (cond b [45] []++P6 q P))):
  (
    let x5925:Int:=IntKind.wrap .i64 ((IntKind.wrap .i64 ((q:Int)+(1:Int)))-(((aF D).size:Nat):Int))
    cond (decide (x5925>(0:Int)))
    (
    Gt m (⟨#[48]⟩:ByteArray) x5925
    (λs5927=>
    if s5927.size+(aF D).size<=9223372036854775807 then
    G (s5927++(aF D))
    else
    none)) (G (aF D)))=k (aF (cond b [45] []++P6 q (Lm q D))):=by
 have hp:=Xl q D
 have e:IntKind.wrap .i64 ((IntKind.wrap .i64 ((q:Int)+(1:Int)))-(((aF D).size:Nat):Int))=(q:Int)+1-(D.length:Int):=by rw[aP,bP (x:=(q:Int)+1) (by omega) (by omega),bP (by omega) (by omega)]
 dsimp only
 rw[e]
 by_cases h:(q:Int)+1-(D.length:Int)>0
 .have e2:(q:Int)+1-(D.length:Int)=((q+1-D.length:Nat):Int):=by omega
  rw[dT h,cond_true,e2,aGB m _ (by omega),if_pos (by rw[aP,aP,List.length_replicate];omega),<-b_]
  exact hG (Lm q D) hp.1 (by omega)
 .rw[dF h,cond_false]
  have:Lm q D=D:=by unfold Lm;rw[show q+1-D.length=0 by omega];rfl
  rw[this] at hp|-
  exact hG D hp.1 (by omega)
theorem asQ(A:Int)(j:Nat):(A*10^j).natAbs=A.natAbs*10^j:=by
 rw[Int.natAbs_mul,Int.natAbs_pow];rfl
theorem Ib(A:Int){i j:Nat}(h:i<=j):(A*10^i).natAbs<=(A*10^j).natAbs:=by
 rw[asQ,asQ]
 exact Nat.mul_le_mul_left _ (Nat.pow_le_pow_right (by omega) h)
theorem avx(A:Int)(i:Nat):A*10^i*10=A*10^(i+1):=by rw[Int.pow_succ,Int.mul_assoc]
section
variable {m:Nat} (hm:300<=m) (x:Int) (u:aH) (e:Int) (M:iM) (L:aH) (k:Bool->Bool->List Int->Option α) {q:Nat} (hq:q<=15)
include hm hq
theorem RZ{A:Int}(hA:(A*10^q).natAbs<aj)(o:Bool):∀(d F i:Nat),i+d=q->d<F->
  Bf (zb m) (jc m) (q:Int) x (q:Int) u e M L k F (i:Int) o (zs (A*10^i)) (zl (A*10^i))=k o (zs (A*10^q)) (zl (A*10^q))
 |0,F,i,h,hf=>by
  obtain⟨F,rfl⟩:∃g,F=g+1:=⟨F-1,by omega⟩
  obtain rfl:i=q:=by omega
  rw[Rf,dF (by omega),cond_false]
 |d+1,F,i,h,hf=>by
  obtain⟨F,rfl⟩:∃g,F=g+1:=⟨F-1,by omega⟩
  have h1:=Ib A (show i<=q by omega)
  have h2:=Ib A (show i+1<=q by omega)
  have ih:=RZ hA o d F (i+1) (by omega) (by omega)
  rw[Rf,dT (by omega),cond_true,Wi _ (by omega) (by omega),an4,an5 hm (by omega) (by decide),avx,bf.2 (by omega),cond_true,iK (by omega)]
  exact ih
theorem Xk{A:Int}(hA:¬(A*10^q).natAbs<aj)(o:Bool):∀(d F i:Nat),i+d=q->d<F->(A*10^i).natAbs<aj->
  Bf (zb m) (jc m) (q:Int) x (q:Int) u e M L k F (i:Int) o (zs (A*10^i)) (zl (A*10^i))=k true (zs 0) (zl 0)
 |0,F,i,h,hf,hi=>by
  obtain rfl:i=q:=by omega
  exact absurd hi hA
 |d+1,F,i,h,hf,hi=>by
  obtain⟨F,rfl⟩:∃g,F=g+1:=⟨F-1,by omega⟩
  rw[Rf,dT (by omega),cond_true,Wi _ (by omega) (by omega),an4,an5 hm hi (by decide),avx,iK (by omega)]
  by_cases hf1:(A*10^(i+1)).natAbs<aj
  .rw[bf.2 hf1,cond_true]
   exact Xk hA o d F (i+1) (by omega) (by omega) hf1
  .have:kK (A*10^(i+1))=false:=dF hf1
   rw[this,cond_false]
   have ih:=RZ hm x u e M L k hq (A:=0) (by rw[Int.zero_mul];decide) true d F (i+1) (by omega) (by omega)
   rw[Int.zero_mul,Int.zero_mul] at ih
   exact ih
theorem Xb{A:Int}(hA:(A*10^q).natAbs<aj)(o:Bool)(hF:q<m):
  Bf (zb m) (jc m) (q:Int) x (q:Int) u e M L k m (0:Int) o (zs A) (zl A)=k o (zs (A*10^q)) (zl (A*10^q)):=by
 have h:=RZ hm x u e M L k hq hA o q m 0 (by omega) hF
 rw[Int.pow_zero,Int.mul_one] at h
 exact h
theorem agm{A:Int}(hA:¬(A*10^q).natAbs<aj)(hA0:A.natAbs<aj)(o:Bool)(hF:q<m):
  Bf (zb m) (jc m) (q:Int) x (q:Int) u e M L k m (0:Int) o (zs A) (zl A)=k true (zs 0) (zl 0):=by
 have h:=Xk hm x u e M L k hq hA o q m 0 (by omega) hF (by rw[Int.pow_zero,Int.mul_one];exact hA0)
 rw[Int.pow_zero,Int.mul_one] at h
 exact h
end
theorem GQ{j:Nat}(h:j<=15):((10:Int)^j).natAbs<aj:=by
 rw[Int.natAbs_pow]
 exact Nat.lt_of_le_of_lt (Nat.pow_le_pow_right (by decide) h) (by decide)
theorem SK{m:Nat}(hm:300<=m){q:Nat}(hq:q<=15)(x:Int)(n1 n2 n3:Nat)(u:aH)(R:gN)(b:Bool)(l:List Int)(L:aH)(k:Bool->List Int->Option α):∀(d F i:Nat),i+d=q->d<F->
  NT (bM m) (fG m) (q:Int) x n1 n2 n3 u R b l L k F (i:Int) (zs ((10:Int)^i)) (zl ((10:Int)^i))=k (zs ((10:Int)^q)) (zl ((10:Int)^q))
 |0,F,i,h,hf=>by
  obtain⟨F,rfl⟩:∃g,F=g+1:=⟨F-1,by omega⟩
  obtain rfl:i=q:=by omega
  rw[ad8,dF (by omega),cond_false]
 |d+1,F,i,h,hf=>by
  obtain⟨F,rfl⟩:∃g,F=g+1:=⟨F-1,by omega⟩
  have ih:=SK hm hq x n1 n2 n3 u R b l L k d F (i+1) (by omega) (by omega)
  rw[ad8,dT (by omega),cond_true,Vh _ (by omega) (by omega),aaH hm (GQ (by omega)) (by decide),<-Int.pow_succ,bf.2 (GQ (by omega)),cond_true,iK (by omega)]
  exact ih
theorem ae9(n:Nat):asH (n:Int)=aF (fH n):=by
 unfold asH
 rw[ou,Int.natAbs_natCast];rfl
theorem avE(m:Nat)(hm:300<=m){c:Int}(hc:c.natAbs<aj)(k:ByteArray->Option α):ME m false (zl c) k=k (aF (fH c.natAbs)):=by
 have h:=aoM m hm (z:=(c.natAbs:Int)) (by rw[Int.natAbs_natCast];exact hc) k
 rw[ou,ae9] at h
 exact h
theorem aGO(m:Nat)(hm:300<=m){c:Int}(hc:c.natAbs<aj)(k:ByteArray->Option α):g64 m false (zl c) k=k (aF (fH c.natAbs)):=by
 have h:=RQ m hm (z:=(c.natAbs:Int)) (by rw[Int.natAbs_natCast];exact hc) k
 rw[ou,ae9] at h
 exact h
theorem aGS(m:Nat){c:Int}(hc:c.natAbs<aj)(k:Bool->Option α):iI m false (zl c) k=k false:=by
 have h:=MF m false hc k
 rw[cond_false,ou] at h
 exact h
end
section
variable {u:aH} {m:Nat}
open Classical in
theorem apx(hU:kH u)(hm:1048576<m)(p q:Int):∃(s:ByteArray) (c:Int),
  (∀{α:Type} (k:ByteArray->Int->Option α),g24 m p q u k=k s c)/\
  (∀{α:Type} (k:ByteArray->Int->Option α),g23 m p q u k=k s c):=by
 by_cases hok:rE u
 .by_cases hp:(0<=p/\p<u.length)/\0<=q/\q<=15
  .obtain⟨j,rfl⟩:∃j:Nat,p=j:=⟨p.toNat,by omega⟩
   obtain⟨n,rfl⟩:∃n:Nat,q=n:=⟨q.toNat,by omega⟩
   have h40:=hok.1.2
   have hn15:n<=15:=by omega
   have hm3:300<=m:=by omega
   have hp64:(0<=(j:Int)/\(j:Int)<u.length)/\0<=(n:Int)/\(n:Int)<=64:=⟨hp.1,by omega,by omega⟩
   have hN:IntKind.wrap .i64 ((IntKind.wrap .i64 ((4:Int)*(n:Int)))+(4:Int))=((4*n+4:Nat):Int):=by rw[bP (x:=(4:Int)*(n:Int)) (by omega) (by omega),bP (by omega) (by omega)];omega
   have hz0:((0:Int)*10^n).natAbs<aj:=by rw[Int.zero_mul];decide
   have sStart:∀{α:Type} (k:ByteArray->Int->Option α) (X:Option α),(∀K,g67 m (j:Int) (n:Int) 0 u.length u.length u (rowsOf u.length ms0.1) (aZ ms0.2) (λs x _ _ _ _ _=>k s x)=K->K=X)->g24 m (j:Int) (n:Int) u k=X:=λk X h=>by
    rw[amd,uE m hU hm,if_pos hok,if_pos hp64,zc,dF (by omega),cond_false,avX m u h40]
    exact h _ rfl
   rcases apj (m:=m) hok hm (j:=j) (n:=4*n+4) (by omega) (by omega) with⟨z,s',h1,_,_,h2,h3⟩|⟨c,hc,h2,h3⟩
   .by_cases hf:(z*10^n).natAbs<aj
    .have hcW:=agb (p:=4*n+4) hf
     have hnd:=avy hcW
     have hnd1:=(jN (bW (z*10^n) (4*n+4)).natAbs (bW (z*10^n) (4*n+4)).natAbs (Nat.le_refl _)).2.2
     have hD:=jU (bW (z*10^n) (4*n+4)).natAbs
     refine⟨aF (cond (zs (bW (z*10^n) (4*n+4))) [45] []++P6 n (Lm n (fH (bW (z*10^n) (4*n+4)).natAbs))),0,λ{α} k=> ?_,λ{α} k=> ?_⟩
     .refine sStart k _ λK hK=>hK.symm.trans ?_
      rw[amY,hN]
      refine(h2 _).trans ?_
      try dsimp only
      rw[zc,Vh _ (by omega) (by omega)]
      refine(SK hm3 hn15 _ _ _ _ _ _ _ _ _ _ n m 0 (by omega) (by omega)).trans ?_
      try dsimp only
      rw[aaH hm3 h1 (GQ hn15),bf.2 hf,cond_true,zc,K6 hm3 (by omega) (by omega) hf]
      cases hs:zs (bW (z*10^n) (4*n+4)) with
      |true=>
       rw[cond_true,avE m hm3 hcW,aGl]
       exact ae7 m (by omega) (sg:=[45]) (by decide) hn15 (by omega) (by omega) _ _ _ _ _ _ (λs=>k s 0)
      |false=>
       rw[cond_false,avE m hm3 hcW,Yp]
       exact ae7 m (by omega) (sg:=[]) (by decide) hn15 (by omega) (by omega) _ _ _ _ _ _ (λs=>k s 0)
     .rw[V9,nH m hU hm,if_pos hok,if_pos hp,m_ (by omega)]
      try dsimp only
      rw[hN]
      refine(h3 _).trans ?_
      refine(Xb hm3 _ _ _ _ _ _ hn15 hf false (by omega)).trans ?_
      try dsimp only
      rw[EY,E5 hm3 _ hf,if_pos (by omega),jv,cond_false,aGS m hcW,aGO m hm3 hcW]
      exact arY m hn15 (D:=fH (bW (z*10^n) (4*n+4)).natAbs) (by omega) (by omega) (zs (bW (z*10^n) (4*n+4))) (λs=>k s 0) (awd n (zs (bW (z*10^n) (4*n+4))) (λs=>k s 0)) (λP hP hl=>aHg hn15 hP hl _ (λs=>k s 0))
    .refine⟨⟨#[]⟩,3,λ{α} k=> ?_,λ{α} k=> ?_⟩
     .refine sStart k _ λK hK=>hK.symm.trans ?_
      rw[amY,hN]
      refine(h2 _).trans ?_
      try dsimp only
      rw[zc,Vh _ (by omega) (by omega)]
      refine(SK hm3 hn15 _ _ _ _ _ _ _ _ _ _ n m 0 (by omega) (by omega)).trans ?_
      try dsimp only
      have:kK (z*10^n)=false:=dF hf
      rw[aaH hm3 h1 (GQ hn15),this,cond_false]
      exact ze (by decide) _ _
     .rw[V9,nH m hU hm,if_pos hok,if_pos hp,m_ (by omega)]
      try dsimp only
      rw[hN]
      refine(h3 _).trans ?_
      refine(agm hm3 _ _ _ _ _ _ hn15 hf h1 false (by omega)).trans ?_
      try dsimp only
      rw[EY,E5 hm3 _ (by decide),if_pos (by omega),Av,cond_true]
   .refine⟨⟨#[]⟩,c,λ{α} k=> ?_,λ{α} k=> ?_⟩
    .refine sStart k _ λK hK=>hK.symm.trans ?_
     rw[amY,hN]
     refine ao1 h2 λR L=> ?_
     try dsimp only
     exact ze hc _ _
    .rw[V9,nH m hU hm,if_pos hok,if_pos hp,m_ (by omega)]
     try dsimp only
     rw[hN]
     refine ao2 h3 λo M L=> ?_
     refine(Xb hm3 _ _ _ _ _ _ hn15 hz0 o (by omega)).trans ?_
     try dsimp only
     rw[EY,E5 hm3 _ hz0,if_pos (by omega),gH _ hc,cond_true]
  .refine⟨⟨#[]⟩,2,λ{α} k=> ?_,λ{α} k=> ?_⟩
   .rw[amd,uE m hU hm,if_pos hok]
    by_cases h:(0<=p/\p<u.length)/\0<=q/\q<=64
    .rw[if_pos h,zc,dT (by omega),cond_true]
    .rw[if_neg h];rfl
   .rw[V9,nH m hU hm,if_pos hok,if_neg hp];rfl
 .refine⟨⟨#[]⟩,1,λ{α} k=> ?_,λ{α} k=> ?_⟩
  .rw[amd,uE m hU hm,if_neg hok];rfl
  .rw[V9,nH m hU hm,if_neg hok];rfl
end
def Byt(u:List Int):Prop:=∀x∈u,0<=x/\x<=255
theorem av1{u:List Int}(h:Byt u)(i:Nat):0<=List.getD u i 0/\List.getD u i 0<=255:=by
 by_cases hi:i<u.length
 .rw[getD_at u 0 hi];exact h _ (List.getElem_mem hi)
 .rw[List.getD_eq_getElem?_getD,List.getElem?_eq_none (by omega)];decide
theorem aAe{x:Int}(h:(Lit.int .u8 x).wf=true):0<=x/\x<=255:=by
 have:decide (IntKind.u8.min<=x/\x<=IntKind.u8.max)=true:=by simpa[Lit.wf] using h
 simpa[IntKind.min,IntKind.max,IntKind.bits,IntKind.signed] using this
theorem avV(x:Nat):dJ .and .u64 (x:Int) 255=((x%18446744073709551616%256:Nat):Int):=by
 have hx:∀y:Nat,y<256->IntKind.wrap .u64 (y:Int)=(y:Int):=λy hy=>by rw[bK,Nat.mod_eq_of_lt (by omega)]
 show IntKind.wrap .u64 ((BitVec.ofInt 64 (x:Int)&&&BitVec.ofInt 64 ((255:Nat):Int)).toNat:Int)=_
 have e:∀y:Nat,y&&&255=y%256:=λy=>Nat.and_two_pow_sub_one_eq_mod y 8
 rw[BitVec.toNat_and,iN,iN,Nat.mod_eq_of_lt (show 255<2^64 by decide),e,hx _ (Nat.mod_lt _ (by decide))]
theorem Yb(x:Int):∃y:Nat,IntKind.wrap .u64 x=(y:Int):=by
 have e:IntKind.wrap .u64 x=x%18446744073709551616:=by simp[IntKind.wrap,IntKind.bits,IntKind.signed]
 exact⟨(x%18446744073709551616).toNat,by rw[e];omega⟩
theorem WV(x:Int):∃y:Int,0<=y/\y<=255/\IntKind.wrap .i64 (dJ .and .u64 (Int.fdiv (IntKind.wrap .u64 x) (2^40)) 255)=y:=by
 obtain⟨y,hy⟩:=Yb x
 rw[hy,show(2:Int)^40=((1099511627776:Nat):Int) from rfl,gP,avV]
 generalize y/1099511627776%18446744073709551616=z
 have:z%256<256:=Nat.mod_lt _ (by decide)
 exact⟨((z%256:Nat):Int),by omega,by omega,by rw[aR (by omega) (by omega)]⟩
theorem Xj(m cap:Nat){u:List Int}(hu:Byt u){at':Nat}(ha:at'<=1000000000)(s:Int):∃x s':Int,0<=x/\x<=255/\
  ∀{α:Type} (k:Int->Int->Int->Option α),g84 m 0 u.length cap (at':Int) s u.length u k=k x ((at'+1:Nat):Int) s':=by
 by_cases h:at'<u.length
 .obtain⟨b1,b2⟩:=av1 hu at'
  obtain⟨y,y1,y2,y3⟩:=WV ((IntKind.wrap .u64 ((IntKind.wrap .u64 (s*6364136223846793005))+(IntKind.wrap .u64 (List.getD u at' 0))))+1442695040888963407)
  refine⟨List.getD u at' 0,IntKind.wrap .u64 ((IntKind.wrap .u64 ((IntKind.wrap .u64 (s*6364136223846793005))+(IntKind.wrap .u64 (List.getD u at' 0))))+1442695040888963407),b1,b2,λ{α} k=> ?_⟩
  rw[au9,dT (by omega),cond_true,if_pos (bV h),Int.toNat_natCast,Nat.zero_add,if_pos h]
  dsimp only
  rw[bP (x:=List.getD u at' 0) (by omega) (by omega),iK (by omega),dT (by omega),cond_true]
 .obtain⟨y,y1,y2,y3⟩:=WV ((IntKind.wrap .u64 ((IntKind.wrap .u64 (s*6364136223846793005))+0))+1442695040888963407)
  refine⟨y,IntKind.wrap .u64 ((IntKind.wrap .u64 ((IntKind.wrap .u64 (s*6364136223846793005))+0))+1442695040888963407),y1,y2,λ{α} k=> ?_⟩
  rw[au9,dF (by omega),cond_false]
  dsimp only
  rw[iK (by omega),dF (by omega),cond_false,y3]
theorem jf(m cap:Nat){u:List Int}(hu:Byt u){at':Nat}(ha:at'+2<=1000000000)(s n:Int)(hn:n<=1000000):∃(x s':Int) (b:Nat),0<=x/\(1<n->x<n)/\(n<=1->x=0)/\at'<=b/\b<=at'+2/\
  ∀{α:Type} (k:Int->Int->Int->Option α),uT m n 0 u.length cap (at':Int) s u.length u k=k x (b:Int) s':=by
 by_cases h1:n<=1
 .exact⟨0,s,at',by omega,λh=>by omega,λ_=>rfl,by omega,by omega,λ{α} k=>by rw[amt,dT h1,cond_true]⟩
 .obtain⟨x,s1,x1,x2,hx⟩:=Xj m cap hu (show at'<=1000000000 by omega) s
  by_cases h2:n>200
  .obtain⟨y,s2,y1,y2,hy⟩:=Xj m cap hu (show at'+1<=1000000000 by omega) s1
   have e:IntKind.wrap .i64 (IntKind.wrap .i64 (x*256)+y)=x*256+y:=by rw[bP (x:=x*256) (by omega) (by omega),bP (by omega) (by omega)]
   refine⟨(x*256+y)%n,s2,at'+2,Int.emod_nonneg _ (by omega),λh=>Int.emod_lt_of_pos _ (by omega),λh=>by omega,by omega,by omega,λ{α} k=> ?_⟩
   rw[amt,dF h1,cond_false,hx,dT h2,cond_true,hy,e,if_neg (by omega),Int.tmod_eq_emod_of_nonneg (by omega)]
  .refine⟨x%n,s1,at'+1,Int.emod_nonneg _ (by omega),λh=>Int.emod_lt_of_pos _ (by omega),λh=>by omega,by omega,by omega,λ{α} k=> ?_⟩
   rw[amt,dF h1,cond_false,hx,dF h2,cond_false,if_neg (by omega),Int.tmod_eq_emod_of_nonneg (by omega)]
theorem GZ(m cap:Nat){u:List Int}(hu:Byt u)(n:Int)(hn:n<=1000000):∃x:Int,0<=x/\(1<n->x<n)/\(n<=1->x=0)/\
  ∀{α:Type} (k:Int->Option α),g11 m 0 u.length cap n u.length u k=k x:=by
 obtain⟨x,s,b,h1,h2,h3,_,_,h⟩:=jf m cap hu (at':=0) (by omega) 0 n hn
 exact⟨x,h1,h2,h3,λ{α} k=>by rw[aBO,atT];exact h _⟩
def agY(kd p q:Int):Prop:=(kd=1/\-1000000000<=p/\p<=1000000000/\1<=q/\q<=1000000000)\/((kd=11\/kd=12)/\p=0/\q=0)
theorem WR(m cap:Nat){u:List Int}(hu:Byt u){at':Nat}(ha:at'+8<=1000000000)(s:Int):∃(kd p q s':Int) (b:Nat),agY kd p q/\at'<=b/\b<=at'+8/\
  ∀{α:Type} (k:Int->Int->Int->Int->Int->Option α),g73 m 0 u.length cap (at':Int) s u.length u k=k kd p q (b:Int) s':=by
 obtain⟨x,s1,b1,p1,p2,p3,p4,p5,hx⟩:=jf m cap hu (at':=at') (by omega) s 8 (by omega)
 have hx8:=p2 (by omega)
 by_cases x0:x=0
 .refine⟨11,0,0,s1,b1, .inr ⟨.inl rfl,rfl,rfl⟩,p4,by omega,λ{α} k=> ?_⟩
  rw[aea,hx,x0];rfl
 by_cases x1:x=1
 .refine⟨12,0,0,s1,b1, .inr ⟨.inr rfl,rfl,rfl⟩,p4,by omega,λ{α} k=> ?_⟩
  rw[aea,hx,x1];rfl
 by_cases x2:x=2
 .obtain⟨y,s2,b2,q1,q2,q3,q4,q5,hy⟩:=jf m cap hu (at':=b1) (by omega) s1 ((4:Nat):Int) (by omega)
  obtain⟨w,s3,b3,r1,r2,r3,r4,r5,hw⟩:=jf m cap hu (at':=b2) (by omega) s2 ((3:Nat):Int) (by omega)
  have hy4:=q2 (by omega)
  have hw3:=r2 (by omega)
  refine⟨1,List.getD [1000000000,-1000000000,1,0] (0+y.toNat) 0,List.getD [1,1000000000,999999937] (0+w.toNat) 0,s3,b3, .inl ⟨rfl, ?_⟩,by omega,by omega,λ{α} k=> ?_⟩
  .have hy':y=0\/y=1\/y=2\/y=3:=by omega
   have hw':w=0\/w=1\/w=2:=by omega
   rcases hy' with rfl|rfl|rfl|rfl<;>rcases hw' with rfl|rfl|rfl<;>decide
  .rw[aea,hx,show(x==0)=false by simpa using x0,cond_false,show(x==1)=false by simpa using x1,cond_false,x2,beq_self_eq_true,cond_true,awW,hy,if_pos ⟨by omega,by omega⟩,if_pos (by omega),aje,hw,if_pos ⟨by omega,by omega⟩,if_pos (by omega)]
 .obtain⟨y,s2,b2,q1,q2,q3,q4,q5,hy⟩:=jf m cap hu (at':=b1) (by omega) s1 41 (by omega)
  obtain⟨w,s3,b3,r1,r2,r3,r4,r5,hw⟩:=jf m cap hu (at':=b2) (by omega) s2 20 (by omega)
  have hy4:=q2 (by omega)
  have hw3:=r2 (by omega)
  refine⟨1,y-20,1+w,s3,b3, .inl ⟨rfl,by omega,by omega,by omega,by omega⟩,by omega,by omega,λ{α} k=> ?_⟩
  rw[aea,hx,show(x==0)=false by simpa using x0,cond_false,show(x==1)=false by simpa using x1,cond_false,show(x==2)=false by simpa using x2,cond_false,hy,hw,bP (x:=y-20) (by omega) (by omega),bP (x:=1+w) (by omega) (by omega)]
def mq(t:List (List Int)):Prop:=∀i,i<t.length->∃kd a b p q:Int,List.getD t i []=[kd,a,b,p,q]/\tV kd a b p q i
theorem mq.snoc{t:List (List Int)}(h:mq t){kd a b p q:Int}(hx:tV kd a b p q t.length):mq (t++[[kd,a,b,p,q]]):=by
 intro i hi
 rw[List.length_append,List.length_singleton] at hi
 by_cases h1:i<t.length
 .obtain⟨kd',a',b',p',q',e,ho⟩:=h i h1
  exact⟨kd',a',b',p',q',by rw[<-e];simp[List.getD,List.getElem?_append_left h1],ho⟩
 .obtain rfl:i=t.length:=by omega
  exact⟨kd,a,b,p,q,by simp[List.getD],hx⟩
theorem aeJ{kd p q:Int}(h:agY kd p q)(v:Int):tV kd 0 0 p q v:=by
 rcases h with⟨h1,h2⟩|⟨h1,h2,h3⟩
 .exact .inl ⟨h1,rfl,rfl,h2⟩
 .exact .inr (.inr (.inr ⟨h1,rfl,rfl,h2,h3⟩))
theorem aAK{x:Int}(h1:-128<=x)(h2:x<=127):IntKind.wrap .i8 x=x:=by simp[IntKind.wrap,IntKind.bits,IntKind.signed];omega
theorem SX{x:Int}(h1:-32768<=x)(h2:x<=32767):IntKind.wrap .i16 x=x:=by simp[IntKind.wrap,IntKind.bits,IntKind.signed];omega
theorem OQ(q cap:Nat){u:List Int}(hu:Byt u):∀(d F at':Nat) (s:Int) (t:List (List Int)),d<F->at'+100*d<=1000000->mq t->t.length+d<=100->
  ∃(t':List (List Int)) (b:Nat) (s':Int),mq t'/\t'.length=t.length+d/\b<=at'+100*d/\
   ∀{α:Type} (k:Int->Int->List (List Int)->Option α),J7 (g73 q) (g72 q) (uT q) (xM q) 0 u.length cap u.length u k F (d:Int) (at':Int) s t=k (b:Int) s' t'
 |0,F,at',s,t,hF,ha,ht,hl=>by
  obtain⟨F,rfl⟩:∃g,F=g+1:=⟨F-1,by omega⟩
  exact⟨t,at',s,ht,by omega,by omega,λ{α} k=>by rw[Bg,dF (by omega),cond_false]⟩
 |d+1,F,at',s,t,hF,ha,ht,hl=>by
  obtain⟨F,rfl⟩:∃g,F=g+1:=⟨F-1,by omega⟩
  have hw:IntKind.wrap .i64 (((d+1:Nat):Int)-1)=(d:Int):=by rw[bP (by omega) (by omega)];omega
  have next:∀(x:List Int) (at2:Nat) (s2:Int),at2<=at'+100->mq (t++[x])->∃(t':List (List Int)) (b:Nat) (s':Int),mq t'/\t'.length=t.length+(d+1)/\b<=at'+100*(d+1)/\
    ∀{α:Type} (k:Int->Int->List (List Int)->Option α),J7 (g73 q) (g72 q) (uT q) (xM q) 0 u.length cap u.length u k F (d:Int) (at2:Int) s2 (t++[x])=k (b:Int) s' t':=by
   intro x at2 s2 h1 h2
   obtain⟨t',b,s',e1,e2,e3,e4⟩:=OQ q cap hu d F at2 s2 (t++[x]) (by omega) (by omega) h2 (by rw[List.length_append,List.length_singleton];omega)
   rw[List.length_append,List.length_singleton] at e2
   exact⟨t',b,s',e1,by omega,by omega,e4⟩
  by_cases h0:t.length=0
  .obtain⟨kd,p,r,s1,b1,hk,l1,l2,hlf⟩:=WR q cap hu (at':=at') (by omega) s
   obtain⟨t',b,s',e1,e2,e3,e4⟩:=next [kd,0,0,p,r] b1 s1 (by omega) (ht.snoc (aeJ hk _))
   refine⟨t',b,s',e1,e2,e3,λ{α} k=> ?_⟩
   rw[Bg,dT (by omega),cond_true,show(((t.length:Nat):Int)==0)=true from dT (p:=((t.length:Nat):Int)=0) (by omega),cond_true,hlf,if_pos (by omega),hw,e4]
  .have hc0:(((t.length:Nat):Int)==0)=false:=dF (p:=((t.length:Nat):Int)=0) (by omega)
   obtain⟨o,s0,b0,o1,o2,o3,o4,o5,ho⟩:=jf q cap hu (at':=at') (by omega) s 3 (by omega)
   by_cases ho0:o=0
   .obtain⟨kd,p,r,s1,b1,hk,l1,l2,hlf⟩:=WR q cap hu (at':=b0) (by omega) s0
    obtain⟨t',b,s',e1,e2,e3,e4⟩:=next [kd,0,0,p,r] b1 s1 (by omega) (ht.snoc (aeJ hk _))
    refine⟨t',b,s',e1,e2,e3,λ{α} k=> ?_⟩
    rw[Bg,dT (by omega),cond_true,hc0,cond_false,am2,ho,ho0,beq_self_eq_true,cond_true,hlf,if_pos (by omega),hw,e4]
   .have hof:(o==0)=false:=by simpa using ho0
    obtain⟨x,s1,b1,p1,p2,p3,p4,p5,hx⟩:=jf q cap hu (at':=b0) (by omega) s0 9 (by omega)
    have hx9:=p2 (by omega)
    obtain⟨a,s2,b2,q1,q2,q3,q4,q5,hy⟩:=jf q cap hu (at':=b1) (by omega) s1 ((t.length:Nat):Int) (by omega)
    have ha1:a<(t.length:Int):=by
     by_cases h:(1:Int)<(t.length:Int)
     .exact q2 h
     .have:=q3 (by omega);omega
    have hkd:IntKind.wrap .i8 (IntKind.wrap .i64 ((2:Int)+x))=2+x:=by rw[bP (x:=2+x) (by omega) (by omega),aAK (by omega) (by omega)]
    by_cases h2:two (2+x)=true
    .obtain⟨c,s3,b3,r1,r2,r3,r4,r5,hz⟩:=jf q cap hu (at':=b2) (by omega) s2 ((t.length:Nat):Int) (by omega)
     have hc1:c<(t.length:Int):=by
      by_cases h:(1:Int)<(t.length:Int)
      .exact r2 h
      .have:=r3 (by omega);omega
     have h2':=of_decide_eq_true h2
     obtain⟨t',b,s',e1,e2,e3,e4⟩:=next [2+x,a,c,0,0] b3 s3 (by omega) (ht.snoc (.inr (.inl ⟨h2',q1,ha1,r1,hc1,rfl,rfl⟩)))
     refine⟨t',b,s',e1,e2,e3,λ{α} k=> ?_⟩
     rw[Bg,dT (by omega),cond_true,hc0,cond_false,am2,ho,hof,cond_false,hx]
     dsimp only
     rw[hy,hkd,afQ,h2,cond_true,hz,if_pos (by omega),hw,SX (by omega) (by omega),SX (by omega) (by omega),e4]
    .have h2':¬(2<=2+x/\2+x<=5\/2+x=8\/2+x=9):=λh=>h2 (decide_eq_true h)
     obtain⟨t',b,s',e1,e2,e3,e4⟩:=next [2+x,a,0,0,0] b2 s2 (by omega) (ht.snoc (.inr (.inr (.inl ⟨by omega,q1,ha1,rfl,rfl,rfl⟩))))
     refine⟨t',b,s',e1,e2,e3,λ{α} k=> ?_⟩
     rw[Bg,dT (by omega),cond_true,hc0,cond_false,am2,ho,hof,cond_false,hx]
     dsimp only
     rw[hy,hkd,afQ,show two (2+x)=false by simpa using h2,cond_false,if_pos (by omega),hw,SX (by omega) (by omega),e4]
theorem G_(m cap:Nat)(hm:10<=m){u:List Int}(hu:Byt u):∃t:List (List Int),mq t/\1<=t.length/\t.length<=7/\
  ∀{α:Type} (k:List (List Int)->Option α),g6 m 0 u.length cap u.length u k=k t:=by
 obtain⟨x,s1,b1,p1,p2,p3,p4,p5,hx⟩:=jf m cap hu (at':=0) (by omega) 0 7 (by omega)
 have hx7:=p2 (by omega)
 obtain⟨d,rfl⟩:∃d:Nat,x=d:=⟨x.toNat,by omega⟩
 obtain⟨t',b,s',e1,e2,e3,e4⟩:=OQ m cap hu (1+d) m b1 s1 [] (by omega) (by omega) (λi hi=>absurd hi (by simp)) (by simp;omega)
 rw[List.length_nil] at e2
 refine⟨t',e1,by omega,by omega,λ{α} k=> ?_⟩
 rw[aHE,atT,aC7]
 refine(hx _).trans ?_
 rw[bP (by omega) (by omega),show(1:Int)+(d:Int)=((1+d:Nat):Int) by omega]
 exact e4 _
theorem mq.aGE{t:List (List Int)}(h:mq t)(hl:t.length<=100):kH t:=by
 have part:∀x∈t,∃(i:Nat) (kd a b p q:Int),i<t.length/\x=[kd,a,b,p,q]/\tV kd a b p q i:=by
  intro x hx
  obtain⟨i,hi,rfl⟩:=List.getElem_of_mem hx
  obtain⟨kd,a,b,p,q,e,ho⟩:=h i hi
  exact⟨i,kd,a,b,p,q,hi,by rw[<-e];simp[List.getD,hi],ho⟩
 refine⟨⟨by omega,λx hx=> ?_⟩,λx hx=> ?_⟩
 .obtain⟨i,kd,a,b,p,q,hi,rfl,ho⟩:=part x hx;rfl
 .obtain⟨i,kd,a,b,p,q,hi,rfl,ho⟩:=part x hx
  refine⟨kd,a,b,p,q,rfl, ?_⟩
  rcases ho with ho|ho|ho|ho<;>omega
theorem mq.aoj{t:List (List Int)}(h:mq t):aX t 0:=by
 intro j _ hj
 obtain⟨kd,a,b,p,q,e,ho⟩:=h j hj
 rw[e];exact ho
theorem cJ{α:Type}{x y:Int}{a b:Option α}(h:x=y):cond (x !=y) a b=b:=by rw[h,bne_self_eq_false];rfl
theorem cB{α:Type}{a b:Option α}:cond (!true) a b=b:=rfl
theorem afD(l:List Int):dI l l=true:=by
 induction l with
 |nil=>rfl
 |cons a l ih=>simp[dI]
theorem cE{α:Type}{q:Bool}{l:List Int}{a b:Option α}:cond (!((q==q)&&(dI l l))) a b=b:=by rw[beq_self_eq_true,afD];rfl
theorem cQ{α:Type}{x:Int}{a b:Option α}:cond (x==x) a b=a:=by rw[beq_self_eq_true];rfl
theorem cS{α:Type}{s:ByteArray}{a b:Option α}:cond (bY s s) a b=a:=by rw[jG.2 rfl];rfl
open Classical in
theorem apG{α:Type}(m c c':Nat)(hm:1048576<m){u v:List Int}(hu:Byt u)(hv:Byt v)(k:Bool->Option α):
  g3 m 0 u.length c 0 v.length c' u.length u v.length v k=k true:=by
 rw[aHo,aEw]
 by_cases hul:u.length<=4096
 case neg=>rw[dT (by omega),cond_true]
 rw[dF (by omega),cond_false,aEw]
 by_cases hvl:v.length<=4096
 case neg=>rw[dT (by omega),cond_true]
 rw[dF (by omega),cond_false]
 obtain⟨t,ht,t1,t7,et⟩:=G_ m c (by omega) hu
 obtain⟨s,hs,s1,s7,es⟩:=G_ m c' (by omega) hv
 obtain⟨x,x0,x1,x2,ex⟩:=GZ m c' hv ((t.length:Nat):Int) (by omega)
 obtain⟨y,y0,y1,y2,ey⟩:=GZ m c hu 10 (by omega)
 obtain⟨j,rfl⟩:∃j:Nat,x=j:=⟨x.toNat,by omega⟩
 obtain⟨n,rfl⟩:∃n:Nat,y=n:=⟨y.toNat,by omega⟩
 have hy10:=y1 (by omega)
 have hj:j<t.length:=by
  by_cases h:1<t.length
  .have:=x1 (by omega);omega
  .have:=x2 (by omega);omega
 have hU:=ht.aGE (by omega)
 have hV:=hs.aGE (by omega)
 have hok:rE t:=⟨⟨t1,by omega⟩,ht.aoj⟩
 have hok2:rE s:=⟨⟨s1,by omega⟩,hs.aoj⟩
 have h7:s.length+t.length<=40:=by omega
 have hcr:=aaQ hok hj
 have hco:=DY hok hj
 have hrl:(pQ t j).length=(mI t (bq t j)).1.length:=by
  rw[yV,List.length_map,(Sd t _).1]
 have hwr:=aaW hok
 have hwo:=wY hok
 have hbr:=aau hV hok2 hok h7
 have hbo:=Du hok2 hok h7
 obtain⟨r,r1,r2,_⟩:=ru hok hj
 generalize hA:M9 t j n=A
 have a0:∀k:Bool->List Int->Int->Option α,g12 m (j:Int) (n:Int) t k=k A.1 A.2.1 A.2.2:=λk=>by rw[<-hA];exact(Gc hU hm hok hj (by omega)).1 k
 have acut:∀k:Bool->List Int->Int->Option α,g17 m (IntKind.wrap .i64 ((((mI t (bq t j)).1.length:Nat):Int)-(1:Int))) (n:Int) (mI t (bq t j)).1 k=k A.1 A.2.1 A.2.2:=λk=>by
  obtain⟨q,hq⟩:∃q,(mI t (bq t j)).1.length=q+1:=⟨(mI t (bq t j)).1.length-1,by have:=hco.1.1;omega⟩
  have hw:IntKind.wrap .i64 ((((mI t (bq t j)).1.length:Nat):Int)-(1:Int))=(q:Int):=by have:=hco.1.2;rw[bP (by omega) (by omega)];omega
  rw[hw,<-hA,<-agu hok hj hq n]
  exact(Gc hcr hm hco (by omega) (by omega)).2 k
 have ash:∀k:Bool->List Int->Int->Option α,g17 m (List.getD (bQ t t.length).2 (0+((j:Nat):Int).toNat) 0) (n:Int) (bQ t t.length).1 k=k A.1 A.2.1 A.2.2:=λk=>by
  rw[Nat.zero_add,Int.toNat_natCast,r1,<-hA,<-agC hok hj r1 n]
  exact(Gc hwr hm hwo r2 (by omega)).2 k
 have ajn:∀k:Bool->List Int->Int->Option α,g17 m (IntKind.wrap .i64 (((s.length:Nat):Int)+((j:Nat):Int))) (n:Int) (joined s t) k=k A.1 A.2.1 A.2.2:=λk=>by
  have hw:IntKind.wrap .i64 (((s.length:Nat):Int)+((j:Nat):Int))=((s.length+j:Nat):Int):=by rw[bP (by omega) (by omega)];omega
  rw[hw,<-hA,<-afX hok2 hok h7 hj n]
  exact(Gc hbr hm hbo (by rw[lM];omega) (by omega)).2 k
 have hagain:∀k:Bool->Option α,g9 m (bQ (bQ t t.length).1 (bQ t t.length).1.length).1 (bQ t t.length).1 k=k true:=λk=>by
  rw[Sw hok]
  exact LD m _ hwr.len hm k
 have hvalid:∀k:Bool->Option α,g16 m (mI t (bq t j)).1 k=k true:=λk=>by
  rw[Zx m 0 hcr (by have:=hco.1.2;omega)]
  congr 1
  exact decide_eq_true hco
 obtain⟨ds,dc,d1,d2⟩:=apx hU hm (j:Int) 3
 obtain⟨gx,gc,g0,g1,g2⟩:=anG hU hm (j:Int)
 have hsl:=(Ch t t.length).2
 refine(et _).trans ?_
 refine(es _).trans ?_
 refine(aAb hU hm hok _).trans ?_
 refine(aos hm hU hok _ _).trans ?_
 refine(LD m t hU.len hm _).trans (cB.trans ?_)
 refine(aAw m t hU.len hm _).trans (cB.trans ?_)
 refine(ex _).trans ?_
 refine(ey _).trans ?_
 refine(a0 _).trans ?_
 refine(aAp m hU hm hok hj _ _).trans ?_
 refine(aAq m hU hok hj hm _).trans ?_
 refine(aAs m hU hm hok hj _ _).trans ?_
 refine(cJ rfl).trans ?_
 refine(LD m _ hcr.len hm _).trans (cB.trans ?_)
 refine(cJ (by rw[hrl])).trans ?_
 refine(hvalid _).trans (cB.trans ?_)
 refine(acut _).trans ?_
 refine(aoH m hU hm hok _ _).trans ?_
 refine(aAy m hU hm hok _ _).trans ?_
 refine(cJ rfl).trans (cE.trans ?_)
 refine(LD m _ hwr.len hm _).trans (cB.trans ?_)
 refine(aAv m t.length hsl hU.len hm _).trans (cB.trans ?_)
 refine(cJ rfl).trans ?_
 refine(if_pos ⟨by omega,by omega⟩).trans ((if_pos (by omega)).trans ?_)
 refine(ash _).trans ?_
 refine(aF5 m hV hU hm hok2 hok h7 _ _).trans ?_
 refine(aF6 m hV hU hm hok2 hok h7 _).trans ?_
 refine(cJ rfl).trans (cE.trans ?_)
 refine(cJ rfl).trans ?_
 refine(LD m _ hbr.len hm _).trans (cB.trans ?_)
 refine(ajn _).trans ?_
 refine(aoH m hwr hm hwo _ _).trans ?_
 refine(cJ rfl).trans (cE.trans ?_)
 refine(hagain _).trans (cB.trans ?_)
 refine(cJ rfl).trans ?_
 refine(d2 _).trans ?_
 refine(d1 _).trans ?_
 refine(g2 _).trans ?_
 refine(g1 _).trans ?_
 refine cQ.trans (cS.trans (cQ.trans (cQ.trans ?_)))
 rw[decide_eq_true (show gx>=0 from g0)]
def aBh:List AP:=[.sl (.int .u8), .sl (.int .u8)]
theorem ahm{l:List Int}(h:EK.Ws (.int .u8) l):Byt l:=λx hx=>aAe (h x hx)
theorem ahR(m:Nat)(hm:1048576<m)(ls:List Lf)(hw:WA aBh ls):g3K (g3 m) ls (λv _ _=>Cb v)=some ():=by
 obtain⟨⟨a1,a2,a3,a4,a5,a6⟩,⟨b1,b2,b3,b4,b5,b6⟩,_⟩:=hw
 unfold g3K
 have e0:(lf ls 0).nat=0:=a1
 have e3:(lf ls 3).nat=0:=b1
 have e1:(lf ls 1).nat=((lf ls 7).ak (.int .u8)).length:=a5.symm
 have e4:(lf ls 4).nat=((lf ls 9).ak (.int .u8)).length:=b5.symm
 have e6:(lf ls 6).nat=(lf ls 1).nat:=a2
 have e8:(lf ls 8).nat=(lf ls 4).nat:=b2
 rw[e6,e8,e0,e3,e1,e4]
 exact apG m _ _ hm (ahm a6) (ahm b6) _
theorem ahQ(ls:List Lf)(hw:WA aBh ls):g3K (g3 1048577) ls (λv _ _=>Cb v)=some ():=ahR 1048577 (by omega) ls hw
theorem ao6(r:List Char):wordsSigns (Char.ofNat 32::r)=[]::wordsSigns r:=by kernel_rfl
theorem asK{c:Char}(h:c≠Char.ofNat 32)(r w:List Char)(ws:List (List Char))(hr:wordsSigns r=w::ws):wordsSigns (c::r)=(c::w)::ws:=by
 rw[wordsSigns,hr]
 exact λe=>h e
theorem GU:∀(w r:List Char),(w.all λc=> !(c==Char.ofNat 32))=true->wordsSigns (w++Char.ofNat 32::r)=w::wordsSigns r
 |[],r,_=>ao6 r
 |c::w,r,h=>by
  simp only[List.all_cons,Bool.and_eq_true,Bool.not_eq_true',beq_eq_false_iff_ne] at h
  exact asK h.1 _ _ _ (GU w r h.2)
def mQ:List Char:=[99,117,116].map Char.ofNat
theorem afl{P:Program}{A B D:List Char}(io:P.initOrder=String.ofList (A++Char.ofNat 32::(B++Char.ofNat 32::(mQ++Char.ofNat 32::D))))
  (hA:(A.all λc=> !(c==Char.ofNat 32))=true) (hB:(B.all λc=> !(c==Char.ofNat 32))=true) (hh:(A== "harness".toList)=true) (hs:isSumSigns B=true):
  ∃X,behindMainWord (wordsSigns P.initOrder.toList)=mQ::X:=by
 refine⟨wordsSigns D, ?_⟩
 rw[io,String.toList_ofList,GU _ _ hA,GU _ _ hB,GU _ _ (by kernel_rfl)]
 generalize wordsSigns D=X
 simp only[behindMainWord,hh,hs,Bool.true_or,Bool.and_self,if_true]
theorem asb{P:Program}(h:∃X,behindMainWord (wordsSigns P.initOrder.toList)=mQ::X):P.make=some .cut:=by
 obtain⟨X,h⟩:=h
 unfold Program.make
 rw[h]
 kernel_rfl
theorem MG{P:Program}(h:∃X,behindMainWord (wordsSigns P.initOrder.toList)=mQ::X):P.liftsFinal=false:=by
 obtain⟨X,h⟩:=h
 unfold Program.liftsFinal Program.headLifts
 simp only[h]
 kernel_rfl
theorem WZ{P:Program}(h:∃X,behindMainWord (wordsSigns P.initOrder.toList)=mQ::X)(h1:P.laysLater=false)(h2:P.bearsReflect=false)(h3:P.doorFits []=true):P.mayEnter=true:=by
 obtain⟨X,h⟩:=h
 unfold Program.mayEnter
 rw[h,h1,h2]
 have hs:(stripLifts liftWords (mQ::X)).1=[]:=by kernel_rfl
 have hd:P.doorFits (stripLifts liftWords (mQ::X)).1=true:=by rw[hs];exact h3
 dsimp only
 rw[hd]
 change _=true
 kernel_rfl
theorem ahS{P:Program}{f:FuncId}{fn:Func}{s:ChangeSpec}{c:OpenClaim}
  (h1:c.wf (OpenSpec.ofChange s)=true) (h2:laidOutB P=true) (h3:mapsRowed P=true)
  (h4:fn.params.all (P.readableRec ·)=true) (h5:namedTie P c.named s.vars=true)
  (h6:((c.stops==[])&&(P.stops==[])&&(c.knobs==[])&&(P.stopKnobs==[]))=true)
  (h7:(c.inPlace==P.inPlace f)=true) (h8:(c.unfollowed==P.unfollowed f)=true) (h9:(c.recurses==P.recurses f)=true) (h10:(c.named==P.varsNamed f)=true)
  (h11:(c.maps==(fn.params.toList++s.plain.varTypes P).any (P.mapsRec ·))=true) (h12:(c.ifaces==(fn.params.toList++s.plain.varTypes P).any (P.ifacesRec ·))=true)
  (h13:(c.mapsOut==P.mapsAmong fn.resultTypes.toList)=true)
  (h14:(c.loops==(fn.params.toList++s.plain.varTypes P).any (P.loopsFrom ·))=true)
  (h15:(c.wideKeys==(fn.params.toList++s.plain.varTypes P++fn.resultTypes.toList).any (P.wideKeysFrom ·))=true)
  (h16:s.vars.all (P.varReadable ·)=true) (h17:fn.resultTypes.all (λt=>P.readableRec t&&decide (t<P.types.size))=true)
  (h18:(c.ifacesOut==fn.resultTypes.toList.any (P.ifacesRec ·))=true) (h19:(c.loopsOut==fn.resultTypes.toList.any (P.loopsFrom ·))=true)
  (h20:(c.plainKeys==P.plainKeys)=true) (h21:c.shortTexts.isNone=true) (h22:P.stopsHeard=true) (h23:P.mayEnter=true) (h24:c.lifted=false) (h24':P.liftsFinal=false)
  (h25:P.make=some .cut) (h25':c.make= .cut)
  (h26:c.kinds=[]) (h26':c.domain=[]) (h27:(c.pinned==c.pinnedBy)=true)
  (h28:(c.veiled==(fn.params.toList++s.plain.varTypes P++fn.resultTypes.toList).any (P.veiledRec ·))=true)
  (h29:c.veiledFits P fn.params.toList (fn.params.toList++s.plain.varTypes P++fn.resultTypes.toList)=true):joinedFacts P f fn s c=true:=by
 simp only[Bool.and_eq_true] at h6
 unfold joinedFacts
 rw[h1,h2,h3,h4,h5,h6.1.1.1,h6.1.1.2,h6.1.2,h6.2,h7,h8,h9,h10,h11,h12,h13,h14,h15,h16,h17,h18,h19,h20,h21,h22,h23,h24,h24',h25,h25',h26,h26',h27,h28,h29]
 kernel_rfl
def ioA:List Char:=[104,97,114,110,101,115,115].map Char.ofNat
def ioB:List Char:=[100,51,57,97,98,51,102,101,52,57,100,102,102,98,102,50,101,98,52,53,54,97,101,54,53,101,50,55,52,50,50,52,100,102,102,99,99,97,102,53,54,101,50,49,101,50,54,102,54,55,49,56,49,49,51,48,53,53,102,56,101,99,98,57].map Char.ofNat
def ioD:List Char:=[97,116,32,108,111,111,112,46,101,120,97,109,112,108,101,47,103,48,49,50,52,50,47,108,97,119,115,46,70,110,83,104,97,114,101,100,32,108,111,111,112,46,101,120,97,109,112,108,101,47,103,48,49,50,52,50,47,108,97,119,115,46,70,110,69,120,97,99,116,68,101,99,105,109,97,108,79,102].map Char.ofNat
theorem io:Go.Proofs.Tryz.prog.initOrder=String.ofList (ioA++Char.ofNat 32::(ioB++Char.ofNat 32::(mQ++Char.ofNat 32::ioD))):=by kernel_rfl
theorem PS:∃X,behindMainWord (wordsSigns Go.Proofs.Tryz.prog.initOrder.toList)=mQ::X:=afl io (by kernel_rfl) (by kernel_rfl) (by kernel_rfl) (by kernel_rfl)
theorem aGk:Go.Proofs.Tryz.prog.make=some .cut:=asb PS
theorem WS:Go.Proofs.Tryz.prog.liftsFinal=false:=MG PS
theorem aax:Go.Proofs.Tryz.prog.laysLater=false:=by kernel_rfl
theorem Mt:Go.Proofs.Tryz.prog.bearsReflect=false:=by kernel_rfl
theorem afB:Go.Proofs.Tryz.prog.doorFits []=true:=by kernel_rfl
theorem af9:Go.Proofs.Tryz.prog.mayEnter=true:=WZ PS aax Mt afB
theorem WQ:laidOutB Go.Proofs.Tryz.prog=true:=by kernel_rfl
theorem aaC:mapsRowed Go.Proofs.Tryz.prog=true:=by kernel_rfl
theorem aAa:Go.Proofs.Tryz.prog.stopsHeard=true:=by kernel_rfl
theorem aH0:ownKnob Go.Proofs.Tryz.prog.godebug=none:=by kernel_rfl
section
variable {P:Program}
theorem af0{name:String}{t n e g:Nat}{kd:IntKind}{L:List Int}{cs:Array Value}{W:World}{fuel:Nat}{p:List MemPlace}(hg:P.globalNamed name=some g)(hv:W.var? P name=some cs)
  (hd:DataW.trod (λ_=>()) P W 0 (λ_=>true) false fuel t cs.toList=some (.agg (L.map λx=> .lit (.int kd x)),p)) (hu:P.underlying t=some (.array n e)) (he:P.underlying e=some (.int kd)) (hc:P.cellsOf e=1) (hct:P.cellsOf t=n):
  g<W.heap.size/\∀(j:Nat),W.cell? ⟨g,j,none⟩=(L[j]?).map (Value.int kd):=by
 refine⟨?_,λj=> ?_⟩
 .simp only[World.var?,hg,Option.bind_some] at hv
  split at hv
  .rename_i h;exact(Array.getElem?_eq_some_iff.1 h).1
  .cases hv
 .rw[World.var?_cell hg hv j,<-Array.getElem?_toList,Lib.cells_of_tab hu he hc hct hd,List.getElem?_map]
end
end Go.Proofs.YtlmmgjngihlpeaaGreatDoor.Sx
