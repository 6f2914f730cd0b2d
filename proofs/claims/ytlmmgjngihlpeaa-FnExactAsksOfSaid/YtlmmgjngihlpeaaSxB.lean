/- A symbolic evaluator for the machine's code, part B: steps of a region, in whatever order. Our own work. -/
import Derived.Test.YtlmmgjngihlpeaaSxA
namespace Go.Proofs.Ytlmmgjngihlpeaa.Sx
open Go
set_option linter.unusedVariables false
variable {P:Program}
structure Agr (ts:List Tmp) (f:Eff) (st st2:St):Prop where
 n:st2.n=st.n
 T:∀t∈ts,st2.T t=st.T t
 rd:∀b∈f.rd,st2.H b=st.H b
 out:∀b∈f.out.map (·.1),st2.H b=st.H b
def Post(w0:World)(S:List Nat)(nb:Nat)(idb:Ids)(st:St)(f:Eff)(a:Act)(v:Value)(w:World):Prop:=
 ∃ids,Rep w0 S nb idb ids (st.appH f) a w∧f.val.R ids v∧∀b∈f.val.nm,((st.appH f).H b).isSome=true
def tmpsOf(o:Oper):List Tmp:=o.op.operands.toList.filterMap fun| .tmp t=>some t|_=>none
def OpS(P:Program)(o:Oper)(st:St)(f:Eff):Prop:=
 ∀st2,Agr (tmpsOf o) f st st2→∀w0 S nb idb a w,RepSt w0 S nb idb st2 a w→∀(K:Act→World→Prop) (Q:Exit→Act→World→Prop),
  (∀v w',Post w0 S nb idb st2 f a v w'→K (a.put o.dst v) w')→o.wp P a w K Q
def dstOk(d:Option Tmp)(n:Nat):Bool:=
 match d with
 |none=>true
 |some d=>Nat.blt d n
theorem dstOk_spec{d:Option Tmp}{n:Nat}(h:dstOk d n=true):∀t,d=some t→t<n:=by
 intro t ht;subst ht;simpa[dstOk] using h
def StepS(P:Program)(ops:Array Oper)(i:Nat)(st:St)(f:Eff):Prop:=
 ∃o,ops[i]? =some o∧∀st2,Agr (o.looksAt ops) f st st2→∀w0 S nb idb a w,RepSt w0 S nb idb st2 a w→
  ∀(K:Act→World→Prop) (Q:Exit→Act→World→Prop),
   (∀v w',RepSt w0 S nb idb (st2.app o.dst f) (a.put o.dst v) w'→K (a.put o.dst v) w')→wpOp P ops Q i K a w
def dstAt(ops:Array Oper)(i:Nat):Option Tmp:=(ops[i]?).bind (·.dst)
def St.go(ops:Array Oper)(st:St)(p:Nat×Eff):St:=st.app (dstAt ops p.1) p.2
def Chain(P:Program)(ops:Array Oper):List (Nat×Eff)→St→St→Prop
 |[],st,st'=>st=st'
 |p::r,st,st'=>StepS P ops p.1 st p.2∧Chain P ops r (st.go ops p) st'
def outNames(f:Eff):List Nat:=f.out.map (·.1)
def disj(a b:List Nat):Bool:=a.all fun x=> !(b.contains x)
theorem disj_spec{a b:List Nat}(h:disj a b=true):∀x∈a,x∉b:=by
 intro x hx;simp only[disj,List.all_eq_true] at h;simpa using h x hx
def indep(ops:Array Oper)(p q:Nat×Eff):Bool:=
 (match ops[p.1]?,ops[q.1]? with
  |some x,some y=>x.apart ops y
  |_,_=>false)&&
 (disj (outNames p.2) (outNames q.2)&&(disj (outNames p.2) q.2.rd&&disj (outNames q.2) p.2.rd))
theorem indep_spec{ops:Array Oper}{p q:Nat×Eff}(h:indep ops p q=true):∃x y,ops[p.1]? =some x∧ops[q.1]? =some y∧x.apart ops y=true∧
  (∀b∈outNames p.2,b∉outNames q.2)∧(∀b∈outNames p.2,b∉q.2.rd)∧(∀b∈outNames q.2,b∉p.2.rd):=by
 simp only[indep,Bool.and_eq_true] at h
 obtain⟨h1,h2,h3,h4⟩:=h
 cases hx:ops[p.1]? with
 |none=>simp[hx] at h1
 |some x=>
  cases hy:ops[q.1]? with
  |none=>simp[hx,hy] at h1
  |some y=>
   simp only[hx,hy] at h1
   exact⟨x,y,rfl,rfl,h1,disj_spec h2,disj_spec h3,disj_spec h4⟩
theorem updH_comm{H:Nat→Option Blk}{o1 o2:List (Nat×Blk)}(h:∀b∈o1.map (·.1),b∉o2.map (·.1)):updH (updH H o1) o2=updH (updH H o2) o1:=by
 funext b
 simp only[updH_eq]
 by_cases h1:b∈o1.map (·.1)
 ·rw[outAt_none (h b h1)];simp
 ·rw[outAt_none h1];simp
theorem putT_comm{T:Nat→TV}{d1 d2:Option Nat}{x1 x2:TV}(h:∀d,d1=some d→d2≠some d):putT (putT T d1 x1) d2 x2=putT (putT T d2 x2) d1 x1:=by
 cases d1 with
 |none=>rfl
 |some d1=>
  cases d2 with
  |none=>rfl
  |some d2=>
   have hne:d1≠d2:=fun e=>h d1 rfl (by rw[e])
   funext t
   simp only[putT]
   cases h1:Nat.beq t d1<;>cases h2:Nat.beq t d2<;>try rfl
   exact absurd ((Nat.eq_of_beq_eq_true h1).symm.trans (Nat.eq_of_beq_eq_true h2)) hne
theorem app_comm{ops:Array Oper}{st:St}{p q:Nat×Eff}(h:indep ops p q=true):(st.go ops p).go ops q=(st.go ops q).go ops p:=by
 obtain⟨x,y,hx,hy,hap,h1,h2,h3⟩:=indep_spec h
 obtain⟨a1,a2,a3⟩:=Oper.apart_spec hap
 simp only[St.go,St.app,St.appH,dstAt,hx,hy,Option.bind_some]
 rw[updH_comm h1,putT_comm a2]
theorem stepS_before{ops:Array Oper}{st:St}{p q:Nat×Eff}(h:indep ops p q=true)(hq:StepS P ops q.1 (st.go ops p) q.2):StepS P ops q.1 st q.2:=by
 obtain⟨x,y,hx,hy,hap,h1,h2,h3⟩:=indep_spec h
 obtain⟨a1,a2,a3⟩:=Oper.apart_spec hap
 obtain⟨o,ho,hs⟩:=hq
 obtain rfl:o=y:=by rw[hy] at ho;exact(Option.some.inj ho).symm
 refine⟨o,ho,fun st2 hag=>hs st2 ⟨?_,fun t ht=> ?_,fun b hb=> ?_,fun b hb=> ?_⟩⟩
 ·simp only[St.go,St.app,St.appH];exact hag.n
 ·rw[hag.T t ht]
  simp only[St.go,St.app,dstAt,hx,Option.bind_some]
  rw[putT_other]
  intro e
  exact a1 t e ht
 ·rw[hag.rd b hb]
  simp only[St.go,St.app,St.appH]
  rw[updH_other (fun hm=>h2 b hm hb)]
 ·rw[hag.out b hb]
  simp only[St.go,St.app,St.appH]
  rw[updH_other (fun hm=>h1 b hm hb)]
theorem stepS_behind{ops:Array Oper}{st:St}{p q:Nat×Eff}(h:indep ops p q=true)(hp:StepS P ops p.1 st p.2):StepS P ops p.1 (st.go ops q) p.2:=by
 obtain⟨x,y,hx,hy,hap,h1,h2,h3⟩:=indep_spec h
 obtain⟨a1,a2,a3⟩:=Oper.apart_spec hap
 obtain⟨o,ho,hs⟩:=hp
 obtain rfl:o=x:=by rw[hx] at ho;exact(Option.some.inj ho).symm
 refine⟨o,ho,fun st2 hag=>hs st2 ⟨?_,fun t ht=> ?_,fun b hb=> ?_,fun b hb=> ?_⟩⟩
 ·exact hag.n
 ·rw[hag.T t ht]
  simp only[St.go,St.app,dstAt,hy,Option.bind_some]
  rw[putT_other]
  intro e
  exact a3 t e ht
 ·rw[hag.rd b hb]
  simp only[St.go,St.app,St.appH]
  rw[updH_other (fun hm=>h3 b hm hb)]
 ·rw[hag.out b hb]
  simp only[St.go,St.app,St.appH]
  rw[updH_other (fun hm=>h1 b hb hm)]
theorem chain_first{ops:Array Oper}{x:Nat×Eff}{l2:List (Nat×Eff)}:∀(l1:List (Nat×Eff)) (st stF:St),(∀p∈l1,indep ops p x=true)→
  Chain P ops (l1++x::l2) st stF→StepS P ops x.1 st x.2∧Chain P ops (l1++l2) (st.go ops x) stF
 |[],st,stF,_,h=>h
 |p::l1,st,stF,hi,h=>by
  obtain⟨hp,hr⟩:=h
  obtain⟨hx,hc⟩:=chain_first l1 (st.go ops p) stF (fun q hq=>hi q (by simp[hq])) hr
  have hpx:=hi p (by simp)
  refine⟨stepS_before hpx hx,stepS_behind hpx hp, ?_⟩
  rw[←app_comm hpx];exact hc
def dep(ops:Array Oper)(i j:Nat):Bool:=((ops[i]?).map fun o=>o.after.toList.any fun e=>Region.binds .any e&&Nat.beq e.on j).getD false
def anc(ops:Array Oper):Nat→Nat→Nat→Bool
 |0,_,_=>false
 |n+1,i,j=>dep ops i j||((ops[i]?).map fun o=>o.after.toList.any fun e=>Region.binds .any e&&anc ops n e.on j).getD false
def okPair(ops:Array Oper)(p q:Nat×Eff):Bool:=indep ops p q||anc ops ops.size q.1 p.1
def okAll(ops:Array Oper):List (Nat×Eff)→Bool
 |[]=>true
 |q::r=>(r.all fun p=>okPair ops p q)&&okAll ops r
def backward(ops:Array Oper):Bool:=(List.range ops.size).all fun i=>((ops[i]?).map fun o=>o.after.toList.all fun e=> !Region.binds .any e||Nat.blt e.on i).getD true
theorem anc_listed{ops:Array Oper}{listed:Array Bool}(hdown:∀m o,ops[m]? =some o→listed.getD m true=true→∀e∈o.after.toList,Region.binds .any e=true→listed.getD e.on false=true):
  ∀(n i j:Nat),(∀o,ops[i]? =some o→∀e∈o.after.toList,Region.binds .any e=true→listed.getD e.on false=true)→anc ops n i j=true→listed.getD j false=true:=by
 intro n
 induction n with
 |zero=>intro i j _ h;simp[anc] at h
 |succ n ih=>
  intro i j hi h
  simp only[anc,Bool.or_eq_true] at h
  rcases h with h|h
  ·cases ho:ops[i]? with
   |none=>simp[dep,ho] at h
   |some o=>
    simp only[dep,ho,Option.map_some,Option.getD_some,List.any_eq_true,Bool.and_eq_true] at h
    obtain⟨e,he,hb,hj⟩:=h
    have:=hi o ho e he hb
    rwa[Nat.eq_of_beq_eq_true hj] at this
  ·cases ho:ops[i]? with
   |none=>simp[ho] at h
   |some o=>
    simp only[ho,Option.map_some,Option.getD_some,List.any_eq_true,Bool.and_eq_true] at h
    obtain⟨e,he,hb,hj⟩:=h
    have hl:=hi o ho e he hb
    refine ih e.on j (fun o' ho' e' he' hb'=>hdown e.on o' ho' ?_ e' he' hb') hj
    have:e.on<listed.size:=by
     rcases Nat.lt_or_ge e.on listed.size with h|h
     ·exact h
     ·simp[Array.getElem?_eq_none h] at hl
    simp[this] at hl⊢;exact hl
theorem mem_ready{ops:Array Oper}{listed:Array Bool}{i:Nat}:i∈Region.ready .any ops listed↔
  i<ops.size∧listed.getD i true=false∧∃o,ops[i]? =some o∧∀e∈o.after.toList,Region.binds .any e=true→listed.getD e.on false=true:=by
 simp only[Region.ready,List.mem_filter,List.mem_range,Bool.and_eq_true,Bool.not_eq_true']
 constructor
 ·rintro ⟨h1,h2,h3⟩
  refine⟨h1,h2, ?_⟩
  cases ho:ops[i]? with
  |none=>simp[ho] at h3
  |some o=>
   refine⟨o,rfl,fun e he hb=> ?_⟩
   simp only[ho,Option.map_some,Option.getD_some,←Array.all_toList,List.all_eq_true] at h3
   have:=h3 e he
   rw[hb] at this
   simpa using this
 ·rintro ⟨h1,h2,o,ho,h3⟩
  refine⟨h1,h2, ?_⟩
  simp only[ho,Option.map_some,Option.getD_some,←Array.all_toList,List.all_eq_true]
  intro e he
  cases hb:Region.binds .any e with
  |false=>rfl
  |true=>simpa[hb] using h3 e he hb
def Left(ops:Array Oper)(listed:Array Bool)(l:List (Nat×Eff)):Prop:=
 l.map (·.1)=(List.range ops.size).filter fun i=> !(listed.getD i true)
theorem any_of_chain{ops:Array Oper}{stF:St}{w0:World}{S:List Nat}{nb:Nat}{idb:Ids}{Q:Exit→Act→World→Prop}
  (hback:backward ops=true) (hQ:∀a w,RepSt w0 S nb idb stF a w→Q .normal a w):
  ∀(fuel:Nat) (listed:Array Bool) (l:List (Nat×Eff)) (st:St) (a:Act) (w:World),listed.size=ops.size→Left ops listed l→l.length≤fuel→
   (∀l1 x l2,l=l1++x::l2→∀p∈l1,okPair ops p x=true)→
   (∀m o,ops[m]? =some o→listed.getD m true=true→∀e∈o.after.toList,Region.binds .any e=true→listed.getD e.on false=true)→
   Chain P ops l st stF→RepSt w0 S nb idb st a w→wpAny P .any ops Q fuel listed a w:=by
 have hmt:∀(listed:Array Bool) (l:List (Nat×Eff)),listed.size=ops.size→Left ops listed l→
   (∀m o,ops[m]? =some o→listed.getD m true=true→∀e∈o.after.toList,Region.binds .any e=true→listed.getD e.on false=true)→
   Region.ready .any ops listed=[]→l=[]:=by
  intro listed l hsz hl hdown hr
  cases l with
  |nil=>rfl
  |cons x r=>
   exfalso
   have hx:x.1∈(List.range ops.size).filter fun i=> !(listed.getD i true):=by rw[←hl];simp
   simp only[List.mem_filter,List.mem_range,Bool.not_eq_true'] at hx
   have hmem:x.1∈Region.ready .any ops listed:=by
    rw[mem_ready]
    refine⟨hx.1,hx.2,ops[x.1],by simp[hx.1],fun e he hb=> ?_⟩
    have hlt:e.on<x.1:=by
     simp only[backward,List.all_eq_true,List.mem_range] at hback
     have h1:=hback x.1 hx.1
     simp only[Array.getElem?_eq_getElem hx.1,Option.map_some,Option.getD_some,List.all_eq_true] at h1
     have:=h1 e he
     rw[hb] at this
     simpa using this
    -- every earlier operation has come up
    have hnot:e.on∉(List.range ops.size).filter fun i=> !(listed.getD i true):=by
     intro hm
     rw[←hl] at hm
     have hs:List.Pairwise (·< ·) ((x::r).map (·.1)):=by
      rw[hl];exact List.Pairwise.filter _ List.pairwise_lt_range
     simp only[List.map_cons,List.pairwise_cons] at hs
     simp only[List.map_cons,List.mem_cons] at hm
     rcases hm with hm|hm
     ·omega
     ·have:=hs.1 _ hm;omega
    simp only[List.mem_filter,List.mem_range,Bool.not_eq_true',not_and] at hnot
    have h2:=hnot (by omega)
    have hlt2:e.on<listed.size:=by omega
    simp[hlt2] at h2⊢;exact h2
   rw[hr] at hmem;cases hmem
 intro fuel
 induction fuel with
 |zero=>
  intro listed l st a w hsz hl hlen hok hdown hc hrep
  have hnil:l=[]:=List.eq_nil_of_length_eq_zero (by omega)
  subst hnil
  have:st=stF:=hc
  subst this
  refine⟨?_,hQ _ _ hrep⟩
  cases hr:Region.ready .any ops listed with
  |nil=>rfl
  |cons i r=>
   exfalso
   have hi:i∈Region.ready .any ops listed:=by rw[hr];simp
   rw[mem_ready] at hi
   have:i∈(List.range ops.size).filter fun i=> !(listed.getD i true):=by simp only[List.mem_filter,List.mem_range];exact⟨hi.1,by simp[hi.2.1]⟩
   rw[←hl] at this;cases this
 |succ fuel ih=>
  intro listed l st a w hsz hl hlen hok hdown hc hrep
  refine⟨fun hr=> ?_,fun i hi=> ?_⟩
  ·have:=hmt listed l hsz hl hdown hr
   subst this
   have:st=stF:=hc
   subst this
   exact hQ _ _ hrep
  ·rw[mem_ready] at hi
   obtain⟨hi1,hi2,o,ho,hi3⟩:=hi
   have hm:i∈l.map (·.1):=by rw[hl];simp only[List.mem_filter,List.mem_range];exact⟨hi1,by simp[hi2]⟩
   obtain⟨x,hx,rfl⟩:=List.mem_map.1 hm
   obtain⟨l1,l2,rfl⟩:=List.append_of_mem hx
   -- those ahead of it do not meet it
   have hind:∀p∈l1,indep ops p x=true:=by
    intro p hp
    have h1:=hok l1 x l2 rfl p hp
    simp only[okPair,Bool.or_eq_true] at h1
    rcases h1 with h1|h1
    ·exact h1
    ·exfalso
     have h2:=anc_listed hdown ops.size x.1 p.1 (fun o' ho'=>by rw[ho] at ho';obtain rfl:=Option.some.inj ho';exact hi3) h1
     have h3:p.1∈(l1++x::l2).map (·.1):=List.mem_map.2 ⟨p,by simp[hp],rfl⟩
     rw[hl] at h3
     simp only[List.mem_filter,List.mem_range,Bool.not_eq_true'] at h3
     have hlt:p.1<listed.size:=by omega
     simp[hlt] at h2 h3
     rw[h2] at h3;exact absurd h3.2 (by simp)
   obtain⟨hs,hc'⟩:=chain_first l1 st stF hind hc
   obtain⟨o',ho',hs⟩:=hs
   obtain rfl:o'=o:=by rw[ho] at ho';exact(Option.some.inj ho').symm
   refine hs st ⟨rfl,fun _ _=>rfl,fun _ _=>rfl,fun _ _=>rfl⟩ w0 S nb idb a w hrep _ _ fun v w' hrep'=> ?_
   have hgo:st.go ops x=st.app o'.dst x.2:=by simp[St.go,dstAt,ho]
   rw[hgo] at hc'
   refine ih (listed.setIfInBounds x.1 true) (l1++l2) _ _ _ (by simpa using hsz) ?_ (by simp at hlen⊢;omega) ?_ ?_ hc' hrep'
   · -- what is left
    have hnd:List.Pairwise (·< ·) ((l1++x::l2).map (·.1)):=by
     rw[hl];exact List.Pairwise.filter _ List.pairwise_lt_range
    have h1:(l1++l2).map (·.1)=((l1++x::l2).map (·.1)).filter fun i=> !(Nat.beq i x.1):=by
     simp only[List.map_append,List.map_cons,List.filter_append,List.filter_cons]
     simp only[List.map_append,List.map_cons,List.pairwise_append,List.pairwise_cons] at hnd
     have hA:(l1.map (·.1)).filter (fun i=> !(Nat.beq i x.1))=l1.map (·.1):=by
      rw[List.filter_eq_self]
      intro y hy
      have:=hnd.2.2 y hy x.1 (by simp)
      cases hb:Nat.beq y x.1 with
      |false=>rfl
      |true=>have:=Nat.eq_of_beq_eq_true hb;omega
     have hB:(l2.map (·.1)).filter (fun i=> !(Nat.beq i x.1))=l2.map (·.1):=by
      rw[List.filter_eq_self]
      intro y hy
      have:=hnd.2.1.1 y hy
      cases hb:Nat.beq y x.1 with
      |false=>rfl
      |true=>have:=Nat.eq_of_beq_eq_true hb;omega
     rw[hA,hB,Nat.beq_refl];rfl
    unfold Left
    rw[h1,hl,List.filter_filter]
    apply List.filter_congr
    intro y hy
    simp only[List.mem_range] at hy
    have hy':y<listed.size:=by omega
    by_cases hyx:y=x.1
    ·subst hyx
     simp[Nat.beq_refl,hy']
    ·have hb:Nat.beq y x.1=false:=by
      cases hb:Nat.beq y x.1 with
      |false=>rfl
      |true=>exact absurd (Nat.eq_of_beq_eq_true hb) hyx
     have hg:(listed.setIfInBounds x.1 true).getD y true=listed.getD y true:=by
      simp[Array.getElem?_setIfInBounds_ne (fun e=>hyx e.symm:x.1≠y)]
     rw[hb,hg];simp
   ·intro m1 y m2 he p hp
    -- p stands ahead of y in the longer list,too
    rcases List.append_eq_append_iff.1 he with⟨c,hc1,hc2⟩|⟨c,hc1,hc2⟩
    · -- m1=l1++c,l2=c++y::m2
     subst hc1;subst hc2
     refine hok (l1++x::c) y m2 (by simp) p ?_
     simp only[List.mem_append,List.mem_cons] at hp⊢
     rcases hp with hp|hp
     ·exact .inl hp
     ·exact .inr (.inr hp)
    · -- l1=m1++c,y::m2=c++l2
     cases c with
     |nil=>
      simp only[List.nil_append,List.append_nil] at hc1 hc2
      subst hc1;subst hc2
      exact hok (l1++[x]) y m2 (by simp) p (by simp[hp])
     |cons z c=>
      simp only[List.cons_append,List.cons.injEq] at hc2
      obtain⟨rfl,rfl⟩:=hc2
      subst hc1
      exact hok m1 y (c++x::l2) (by simp) p hp
   ·intro m om hom hm e he hb
    by_cases hmx:m=x.1
    ·subst hmx
     rw[ho] at hom;obtain rfl:=Option.some.inj hom
     have:=hi3 e he hb
     by_cases hex:e.on=x.1
     ·rw[hex];simp[show x.1<listed.size by omega]
     ·simpa[Array.getElem?_setIfInBounds_ne (fun h=>hex h.symm:x.1≠e.on)] using this
    ·have hm':listed.getD m true=true:=by simpa[Array.getElem?_setIfInBounds_ne (fun h=>hmx h.symm:x.1≠m)] using hm
     have:=hdown m om hom hm' e he hb
     by_cases hex:e.on=x.1
     ·rw[hex];simp[show x.1<listed.size by omega]
     ·simpa[Array.getElem?_setIfInBounds_ne (fun h=>hex h.symm:x.1≠e.on)] using this
end Go.Proofs.Ytlmmgjngihlpeaa.Sx
