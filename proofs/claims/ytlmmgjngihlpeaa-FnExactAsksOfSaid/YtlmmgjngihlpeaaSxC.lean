/- A symbolic evaluator for the machine's code, part C: regions and control flow. Our own work. -/
import Derived.Test.YtlmmgjngihlpeaaSxB
namespace Go.Proofs.Ytlmmgjngihlpeaa.Sx
open Go
set_option linter.unusedVariables false
variable {P:Program}
theorem Rep.drew{w0:World}{S:List Nat}{nb:Nat}{idb ids:Ids}{st:St}{a:Act}{w:World}(h:Rep w0 S nb idb ids st a w):
  Rep w0 S nb idb ids st a {w with drawn:=w.drawn+1}:=
 ⟨⟨h.keeps.os,h.keeps.tape,h.keeps.output,h.keeps.size,h.keeps.block⟩,h.size,h.defers,h.tmps,h.bor,h.blk,h.sep,h.own,h.clT,h.clH,h.lim,h.hid.upd (Nat.le_refl _) (fun b B hb=> .inl ⟨hb,rfl,fun _ _=>rfl⟩) fun _ _ _ _ _=>rfl⟩
theorem RepSt.drew{w0:World}{S:List Nat}{nb:Nat}{idb:Ids}{st:St}{a:Act}{w:World}(h:RepSt w0 S nb idb st a w):
  RepSt w0 S nb idb st a {w with drawn:=w.drawn+1}:=⟨h.choose,h.choose_spec.drew⟩
inductive Ex where
 |normal
 |exit (id:Nat)
 |ret
def Ex.conc:Ex→Exit
 | .normal=> .normal
 | .exit id=> .exit id
 | .ret=> .ret
def CodeS(P:Program)(c:Code)(st:St)(e:Ex)(st':St):Prop:=
 ∀w0 S nb idb a w,RepSt w0 S nb idb st a w→c.wp P (fun e' a' w'=>e'=e.conc∧RepSt w0 S nb idb st' a' w') a w
theorem seq_of_chain{ops:Array Oper}{stF:St}{w0:World}{S:List Nat}{nb:Nat}{idb:Ids}{Q:Exit→Act→World→Prop}
  (hQ:∀a w,RepSt w0 S nb idb stF a w→Q .normal a w):∀(l:List (Nat×Eff)) (st:St) (a:Act) (w:World),
   Chain P ops l st stF→RepSt w0 S nb idb st a w→wpOps P ops Q (l.map (·.1)) a w
 |[],st,a,w,hc,h=>by
  have:st=stF:=hc
  subst this;exact hQ _ _ h
 |p::r,st,a,w,hc,h=>by
  obtain⟨⟨o,ho,hs⟩,hr⟩:=hc
  rw[List.map_cons,wpOps_cons]
  refine hs st ⟨rfl,fun _ _=>rfl,fun _ _=>rfl,fun _ _=>rfl⟩ w0 S nb idb a w h _ _ fun v w' h'=> ?_
  have hgo:st.go ops p=st.app o.dst p.2:=by simp[St.go,dstAt,ho]
  rw[hgo] at hr
  exact seq_of_chain hQ r _ _ _ hr h'
theorem okAll_spec{ops:Array Oper}:∀(r:List (Nat×Eff)),okAll ops r=true→∀l1 x l2,r.reverse=l1++x::l2→∀p∈l1,okPair ops p x=true
 |[],_,l1,x,l2,h,p,hp=>by simp at h
 |q::r,h,l1,x,l2,he,p,hp=>by
  simp only[okAll,Bool.and_eq_true,List.all_eq_true] at h
  rw[List.reverse_cons] at he
  rcases List.append_eq_append_iff.1 he with⟨c,hc1,hc2⟩|⟨c,hc1,hc2⟩
  · -- l1=r.reverse++c,[q]=c++x::l2
   cases c with
   |nil=>
    simp only[List.nil_append,List.cons.injEq,List.append_nil] at hc2 hc1
    obtain⟨rfl,_⟩:=hc2
    rw[hc1] at hp
    exact h.1 p (by simpa using hp)
   |cons z c=>simp at hc2
  ·cases c with
   |nil=>
    simp only[List.append_nil,List.nil_append,List.cons.injEq] at hc1 hc2
    obtain⟨rfl,_⟩:=hc2
    rw[←hc1] at hp
    exact h.1 p (by simpa using hp)
   |cons z c=>
    simp only[List.cons_append,List.cons.injEq] at hc2
    obtain⟨rfl,_⟩:=hc2
    exact okAll_spec r h.2 l1 x c hc1 p hp
theorem region_of_chain{id:Nat}{ops:Array Oper}{draw:Bool}{tr:List (Nat×Eff)}{st stF:St}(hm:P.follows .mixedOrders=true)
  (hb:draw=true→backward ops=true) (hall:tr.reverse.map (·.1)=List.range ops.size) (hok:draw=true→okAll ops tr=true)
  (hc:Chain P ops tr.reverse st stF):CodeS P (.region id ops draw) st .normal stF:=by
 intro w0 S nb idb a w h
 cases draw with
 |false=>
  refine wp_region ?_
  rw[←hall]
  exact seq_of_chain (fun a w h=>⟨rfl,h⟩) tr.reverse st a w hc h
 |true=>
  refine wp_region_any hm ?_
  refine any_of_chain (hb rfl) (fun a w h=>⟨rfl,h⟩) ops.size (Array.replicate ops.size false) tr.reverse st a _ (by simp) ?_ ?_ (okAll_spec tr (hok rfl)) ?_ hc h.drew
  ·unfold Left
   rw[hall]
   symm
   rw[List.filter_eq_self]
   intro i hi
   simp only[List.mem_range] at hi
   simp[hi]
  ·have:=congrArg List.length hall
   simp at this
   simp;omega
  ·intro m o hmo hl
   have hlt:m<ops.size:=by
    rcases Nat.lt_or_ge m ops.size with h|h
    ·exact h
    ·simp[Array.getElem?_eq_none h] at hmo
   simp[hlt] at hl
theorem code_seq{x y:Code}{st st1 st2:St}{e:Ex}(h1:CodeS P x st .normal st1)(h2:CodeS P y st1 e st2):CodeS P (.seq x y) st e st2:=by
 intro w0 S nb idb a w h
 refine wp_seq (wp_mono (h1 w0 S nb idb a w h) ?_)
 rintro e' a' w' ⟨rfl,h'⟩
 exact h2 w0 S nb idb a' w' h'
theorem code_seq_out{x y:Code}{st st1:St}{e:Ex}(hne:e≠ .normal)(h1:CodeS P x st e st1):CodeS P (.seq x y) st e st1:=by
 intro w0 S nb idb a w h
 refine wp_seq (wp_mono (h1 w0 S nb idb a w h) ?_)
 rintro e' a' w' ⟨rfl,h'⟩
 cases e with
 |normal=>exact absurd rfl hne
 |exit id=>exact⟨rfl,h'⟩
 |ret=>exact⟨rfl,h'⟩
theorem code_cond{c:Operand}{x y:Code}{st st':St}{e:Ex}{b:Bool}(hb:∀(ids:Ids) (a:Act),(∀t,(st.T t).R ids (a.tmps.getD t undef))→a.eval c= .bool b)
  (h:CodeS P (if b then x else y) st e st'):CodeS P (.cond c x y) st e st':=by
 intro w0 S nb idb a w hr
 obtain⟨ids,hr'⟩:=hr
 exact wp_cond (hb ids a hr'.tmps) (h w0 S nb idb a w ⟨ids,hr'⟩)
theorem code_skip{st:St}:CodeS P .skip st .normal st:=fun w0 S nb idb a w h=>wp_skip ⟨rfl,h⟩
theorem code_exit{st:St}{id:Nat}:CodeS P (.exit id) st (.exit id) st:=fun w0 S nb idb a w h=>wp_exit ⟨rfl,h⟩
theorem code_ret{st:St}:CodeS P .ret st .ret st:=fun w0 S nb idb a w h=>wp_ret ⟨rfl,h⟩
def Ex.inBlock(id:Nat):Ex→Ex
 | .exit j=>cond (Nat.beq j id) .normal (.exit j)
 |e=>e
theorem code_block{c:Code}{st st':St}{id:Nat}{e:Ex}(h:CodeS P c st e st'):CodeS P (.block id c) st (e.inBlock id) st':=by
 intro w0 S nb idb a w hr
 refine wp_block (wp_mono (h w0 S nb idb a w hr) ?_)
 rintro e' a' w' ⟨rfl,h'⟩
 cases e with
 |normal=>exact⟨rfl,h'⟩
 |ret=>exact⟨rfl,h'⟩
 |exit j=>
  simp only[Ex.conc,Exit.inBlock,Ex.inBlock]
  by_cases hj:j=id
  ·subst hj
   rw[if_pos rfl,Nat.beq_refl];exact⟨rfl,h'⟩
  ·have:Nat.beq j id=false:=by
    cases hb:Nat.beq j id with
    |false=>rfl
    |true=>exact absurd (Nat.eq_of_beq_eq_true hb) hj
   rw[if_neg hj,this];exact⟨rfl,h'⟩
structure St.le (st' st:St):Prop where
 n:st'.n=st.n
 T:∀t,st'.T t=tunk∨st'.T t=st.T t
 H:∀b,st'.H b=none∨st'.H b=st.H b
 clT:∀t,∀b∈(st'.T t).nm,(st'.H b).isSome=true
 clH:∀c B,st'.H c=some B→∀b∈nmL B.2,(st'.H b).isSome=true
theorem Rep.le{w0:World}{S:List Nat}{nb:Nat}{idb ids:Ids}{st st':St}{a:Act}{w:World}(h:Rep w0 S nb idb ids st a w)(hl:st'.le st):
  Rep w0 S nb idb ids st' a w:=by
 have hH:∀b B,st'.H b=some B→st.H b=some B:=fun b B hb=>by
  rcases hl.H b with h1|h1
  ·rw[h1] at hb;cases hb
  ·rw[←h1];exact hb
 refine⟨h.keeps,h.size.trans hl.n.symm,h.defers,fun t=> ?_,h.bor,fun b B hb=>h.blk b B (hH b B hb),fun b c B C hb hc hne=>h.sep b c B C (hH _ _ hb) (hH _ _ hc) hne,
  fun b B hb=>h.own b B (hH _ _ hb),hl.clT,hl.clH,h.lim,⟨fun b B hb=>h.hid.fl b B (hH _ _ hb),fun b B hb=>h.hid.rel b B (hH _ _ hb),fun b B hb=>h.hid.own b B (hH _ _ hb),fun b c B C hb hc=>h.hid.sepL b c B C (hH _ _ hb) (hH _ _ hc),fun b c B C hb hc=>h.hid.sepH b c B C (hH _ _ hb) (hH _ _ hc)⟩⟩
 rcases hl.T t with h1|h1
 ·rw[h1];trivial
 ·rw[h1];exact h.tmps t
theorem RepSt.le{w0:World}{S:List Nat}{nb:Nat}{idb:Ids}{st st':St}{a:Act}{w:World}(h:RepSt w0 S nb idb st a w)(hl:st'.le st):RepSt w0 S nb idb st' a w:=
 ⟨h.choose,h.choose_spec.le hl⟩
def Rounds(P:Program)(c:Code):Nat→St→Ex→St→Prop
 |0,_,_,_=>False
 |n+1,st,e,st'=>(∃st1,CodeS P c st .normal st1∧Rounds P c n st1 e st')∨(e≠ .normal∧CodeS P c st e st')
theorem exists_least{p:Nat→Prop}(h:∃n,p n):∃n,p n∧∀m,p m→n≤m:=by
 obtain⟨n,hn⟩:=h
 induction n using Nat.strongRecOn with
 |_ n ih=>
  by_cases hm:∃m,m<n∧p m
  ·obtain⟨m,hlt,hp⟩:=hm;exact ih m hlt hp
  ·exact⟨n,hn,fun m hp=>Nat.le_of_not_lt fun hlt=>hm ⟨m,hlt,hp⟩⟩
open Classical in
noncomputable def least(p:Nat→Prop):Nat:=if h:∃n,p n then(exists_least h).choose else 0
theorem least_spec{p:Nat→Prop}(h:∃n,p n):p (least p):=by
 unfold least;rw[dif_pos h];exact(exists_least h).choose_spec.1
theorem least_le{p:Nat→Prop}{n:Nat}(h:p n):least p≤n:=by
 unfold least;rw[dif_pos ⟨n,h⟩];exact(exists_least ⟨n,h⟩).choose_spec.2 n h
theorem code_loop{c:Code}{n:Nat}{st st':St}{e:Ex}(h:Rounds P c n st e st'):CodeS P (.loop c) st e st':=by
 intro w0 S nb idb a w hr
 refine wp_loop (fun a w=>∃m st,Rounds P c m st e st'∧RepSt w0 S nb idb st a w) (fun a w=>least fun m=>∃st,Rounds P c m st e st'∧RepSt w0 S nb idb st a w) ⟨n,st,h,hr⟩ ?_
 rintro a w hex
 have hm:=least_spec hex
 generalize hN:(least fun m=>∃st,Rounds P c m st e st'∧RepSt w0 S nb idb st a w)=N at hm
 obtain⟨st1,hrd,hrep⟩:=hm
 cases N with
 |zero=>exact hrd.elim
 |succ N=>
  rcases hrd with⟨st2,h1,h2⟩|⟨hne,h1⟩
  ·refine wp_mono (h1 w0 S nb idb a w hrep) ?_
   rintro e' a' w' ⟨rfl,h'⟩
   refine⟨⟨N,st2,h2,h'⟩, ?_⟩
   have:=least_le (p:=fun m=>∃st,Rounds P c m st e st'∧RepSt w0 S nb idb st a' w') ⟨st2,h2,h'⟩
   exact Nat.lt_succ_of_le this
  ·refine wp_mono (h1 w0 S nb idb a w hrep) ?_
   rintro e' a2 w2 ⟨rfl,h'⟩
   cases e with
   |normal=>exact absurd rfl hne
   |exit id=>exact⟨rfl,h'⟩
   |ret=>exact⟨rfl,h'⟩
end Go.Proofs.Ytlmmgjngihlpeaa.Sx
