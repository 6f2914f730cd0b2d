/- A symbolic evaluator for the machine's code, part L: that it tells the truth of calls. Our own work. -/
import Derived.Test.YtlmmgjngihlpeaaSxK
namespace Go.Proofs.Ytlmmgjngihlpeaa.Sx
open Go
set_option linter.unusedVariables false
set_option linter.unusedSimpArgs false
variable {P:Program} {α:Type} {k:Eff→Option α} {r:α} {st:St} {o:Oper}
theorem idx_lt:∀{l:List Nat} {b:Nat},b∈l→idx l b<l.length∧l.getD (idx l b) 0=b
 |c::l,b,h=>by
  simp only[idx]
  cases hb:Nat.beq b c with
  |true=>simp[Nat.eq_of_beq_eq_true hb]
  |false=>
   have hne:b≠c:=by rintro rfl;rw[Nat.beq_refl] at hb;cases hb
   obtain⟨h1,h2⟩:=idx_lt (l:=l) (b:=b) (by simpa[hne] using h)
   exact⟨by simp[h1],by simpa using h2⟩
 |[],b,h=>by cases h
theorem blt_false{a b:Nat}(h:¬a<b):Nat.blt a b=false:=by
 cases hb:Nat.blt a b with
 |false=>rfl
 |true=>exact absurd (by simpa using hb) h
theorem nodup_spec:∀{l:List Nat},nodupB l=true→l.Nodup
 |[],_=>List.nodup_nil
 |b::r,h=>by
  simp only[nodupB,Bool.and_eq_true,Bool.not_eq_true'] at h
  refine List.nodup_cons.2 ⟨fun hm=> ?_,nodup_spec h.2⟩
  have:has r b=true:=by simp only[has,List.any_eq_true];exact⟨b,hm,Nat.beq_refl b⟩
  rw[h.1] at this;cases this
theorem nodup_get:∀{l:List Nat} {i j b:Nat},l.Nodup→l[i]? =some b→l[j]? =some b→i=j
 |[],i,j,b,_,h,_=>by simp at h
 |c::l,i,j,b,hn,hi,hj=>by
  obtain⟨h1,h2⟩:=List.nodup_cons.1 hn
  cases i<;>cases j
  ·rfl
  ·simp only[List.getElem?_cons_zero,Option.some.injEq,List.getElem?_cons_succ] at hi hj
   subst hi;exact absurd (List.mem_of_getElem? hj) h1
  ·simp only[List.getElem?_cons_zero,Option.some.injEq,List.getElem?_cons_succ] at hi hj
   subst hj;exact absurd (List.mem_of_getElem? hi) h1
  ·simp only[List.getElem?_cons_succ] at hi hj
   rw[nodup_get h2 hi hj]
theorem nameOf_inj{d i j:Nat}(h:nameOf d i=nameOf d j):i=j:=by simp only[nameOf] at h;omega
theorem afterB_length:∀{Bs:List Blk} {Cs:List (List Seg)},Cs.length=Bs.length→(afterB Bs Cs).length=Bs.length
 |[],[],_=>rfl
 |B::r,C::s,h=>by simp[afterB,afterB_length (show s.length=r.length by simpa using h)]
 |[],_::_,h=>by simp at h
 |_::_,[],h=>by simp at h
theorem afterB_get:∀{Bs:List Blk} {Cs:List (List Seg)} {i:Nat} {B:Blk} {C:List Seg},Bs[i]? =some B→Cs[i]? =some C→(afterB Bs Cs)[i]? =some (B.1,cond B.1 C B.2)
 |B::r,C::s,0,B',C',h1,h2=>by simp at h1 h2;subst h1;subst h2;simp[afterB]
 |B::r,C::s,i+1,B',C',h1,h2=>by simpa[afterB] using afterB_get (Bs:=r) (Cs:=s) (by simpa using h1) (by simpa using h2)
 |[],_,i,_,_,h1,_=>by simp at h1
 |_::_,[],i,_,_,_,h2=>by simp at h2
theorem wrOf_mem{ids:Ids}:∀{Bs:List Blk} {i g:Nat},g∈wrOf ids Bs i→∃j B,Bs[j]? =some (true,B)∧Lv B∧g=(ids (i+j)).1
 |[],i,g,h=>by simp[wrOf] at h
 |(b,B)::r,i,g,h=>by
  simp only[wrOf] at h
  cases hb:(b&&lvB B) with
  |false=>
   rw[hb] at h
   obtain⟨j,B',h1,h3,h2⟩:=wrOf_mem (Bs:=r) h
   exact⟨j+1,B',by simpa using h1,h3,by rw[h2];congr 2;omega⟩
  |true=>
   rw[hb] at h
   simp only[Bool.and_eq_true] at hb
   obtain⟨rfl,hb⟩:=hb
   simp only[cond_true,List.mem_cons] at h
   rcases h with h|h
   ·exact⟨0,B,rfl,lvB_iff.1 hb,by simpa using h⟩
   ·obtain⟨j,B',h1,h3,h2⟩:=wrOf_mem (Bs:=r) h
    exact⟨j+1,B',by simpa using h1,h3,by rw[h2];congr 2;omega⟩
theorem outB_names(H:Nat→Option Blk)(ρ':Nat→Nat):∀(names:List Nat) (Cs:List (List Seg)),∀b∈(outB H ρ' names Cs).map (·.1),b∈names
 |[],_,b,h=>by simp[outB] at h
 |c::r,[],b,h=>by simp[outB] at h
 |c::r,C::s,b,h=>by
  simp only[outB] at h
  split at h
  ·simp only[List.map_cons,List.mem_cons] at h⊢
   rcases h with h|h
   ·exact .inl h
   ·exact .inr (outB_names H ρ' r s b h)
  ·exact List.mem_cons_of_mem _ (outB_names H ρ' r s b h)
theorem outB_at(H:Nat→Option Blk)(ρ':Nat→Nat):∀(names:List Nat) (Cs:List (List Seg)) (i b:Nat) (C:List Seg),names.Nodup→names[i]? =some b→Cs[i]? =some C→
  outAt (outB H ρ' names Cs) b=(match H b with|some (true,_)=>some (true,renL ρ' C)|_=>none)
 |[],_,i,b,C,_,h,_=>by simp at h
 |c::r,[],i,b,C,_,_,h=>by simp at h
 |c::r,D::s,i,b,C,hnd,h1,h2=>by
  obtain⟨hc,hnd'⟩:=List.nodup_cons.1 hnd
  cases i with
  |zero=>
   simp only[List.getElem?_cons_zero,Option.some.injEq] at h1 h2
   subst h1;subst h2
   simp only[outB]
   split
   ·rename_i x hH;rw[hH];simp[outAt,Nat.beq_refl]
   ·rename_i hH
    rw[outAt_none (fun hm=>hc (outB_names H ρ' r s _ hm))]
    split
    ·rename_i y hy;exact absurd hy (hH y)
    ·rfl
  |succ i=>
   have h1':r[i]? =some b:=by simpa using h1
   have h2':s[i]? =some C:=by simpa using h2
   have hne:b≠c:=by rintro rfl;exact hc (List.mem_of_getElem? h1')
   have ih:=outB_at H ρ' r s i b C hnd' h1' h2'
   simp only[outB]
   split
   ·simp only[outAt]
    have:Nat.beq b c=false:=by
     cases hb:Nat.beq b c with
     |false=>rfl
     |true=>exact absurd (Nat.eq_of_beq_eq_true hb) hne
    rw[this];exact ih
   ·exact ih
theorem outN_names(d:Nat)(ρ':Nat→Nat):∀(Ns:List (List Seg)) (j0:Nat),∀b∈(outN d ρ' Ns j0).map (·.1),∃j,j<Ns.length∧b=nameOf d (j0+j+1)
 |[],j0,b,h=>by simp[outN] at h
 |N::r,j0,b,h=>by
  simp only[outN,List.map_cons,List.mem_cons] at h
  rcases h with h|h
  ·exact⟨0,by simp,by simpa using h⟩
  ·obtain⟨j,h1,h2⟩:=outN_names d ρ' r (j0+1) b h
   exact⟨j+1,by simp;omega,by rw[h2];congr 1;omega⟩
theorem outN_at(d:Nat)(ρ':Nat→Nat):∀(Ns:List (List Seg)) (j0 j:Nat) (N:List Seg),Ns[j]? =some N→outAt (outN d ρ' Ns j0) (nameOf d (j0+j+1))=some (true,renL ρ' N)
 |[],j0,j,N,h=>by simp at h
 |M::r,j0,0,N,h=>by simp at h;subst h;simp[outN,outAt,Nat.beq_refl]
 |M::r,j0,j+1,N,h=>by
  simp only[outN,outAt]
  have:Nat.beq (nameOf d (j0+(j+1)+1)) (nameOf d (j0+1))=false:=by
   cases hb:Nat.beq (nameOf d (j0+(j+1)+1)) (nameOf d (j0+1)) with
   |false=>rfl
   |true=>have:=nameOf_inj (Nat.eq_of_beq_eq_true hb);omega
  rw[this]
  have ih:=outN_at d ρ' r (j0+1) j N (by simpa using h)
  rw[show j0+(j+1)+1=j0+1+j+1 by omega];exact ih
theorem freshB_spec{H:Nat→Option Blk}{d:Nat}:∀{Ns:List (List Seg)} {j0:Nat},freshB H d Ns j0=true→∀j,j<Ns.length→H (nameOf d (j0+j+1))=none
 |[],j0,_,j,h=>by simp at h
 |N::r,j0,hf,j,h=>by
  simp only[freshB,Bool.and_eq_true] at hf
  cases j with
  |zero=>
   have:=hf.1
   split at this
   ·rename_i hn;simpa using hn
   ·cases this
  |succ j=>
   have:=freshB_spec hf.2 j (by simpa using h)
   rw[show j0+(j+1)+1=j0+1+j+1 by omega];exact this
theorem outAt_append(a b:List (Nat×Blk))(n:Nat):outAt (a++b) n=(outAt a n).or (outAt b n):=by
 induction a with
 |nil=>simp[outAt]
 |cons p r ih=>
  obtain⟨c,B⟩:=p
  simp only[List.cons_append,outAt]
  cases Nat.beq n c<;>simp[ih]
theorem TsR_of{ids:Ids}{st:St}{a:Act}:∀(xs:List Operand),(∀x∈xs,(getO st x).R ids (a.eval x))→TsR ids (xs.map (getO st)) (xs.map a.eval)
 |[],_=>trivial
 |x::xs,h=>⟨h x (by simp),TsR_of xs fun y hy=>h y (by simp[hy])⟩
theorem TsR.ren{ids:Ids}{ρ:Nat→Nat}:∀{xs:List TV} {vs:List Value},TsR ids (xs.map (TV.ren ρ)) vs↔TsR (fun b=>ids (ρ b)) xs vs
 |[],[]=>Iff.rfl
 |x::xs,v::vs=>by simp only[List.map_cons,TsR];rw[TV.ren_R,TsR.ren]
 |[],_::_=>Iff.rfl
 |_::_,[]=>Iff.rfl
theorem TsR.congr{ids ids':Ids}:∀{xs:List TV} {vs:List Value},TsR ids xs vs→(∀x∈xs,∀b∈x.nm,ids' b=ids b)→TsR ids' xs vs
 |[],[],_,_=>trivial
 |x::xs,v::vs,h,e=>⟨h.1.congr (e x (by simp)),TsR.congr h.2 fun y hy=>e y (by simp[hy])⟩
 |[],_::_,h,_=>h.elim
 |_::_,[],h,_=>h.elim
theorem hwOf_mem{w:World}{ids:Ids}:∀{Bs:List Blk} {i g:Nat},g∈hwOf w ids Bs i→∃j B,Bs[j]? =some B∧g∈foot w (ids (i+j)) B.2
 |[],i,g,h=>by simp[hwOf] at h
 |B::r,i,g,h=>by
  simp only[hwOf,List.mem_append] at h
  rcases h with h|h
  ·exact⟨0,B,rfl,h⟩
  ·obtain⟨j,C,h1,h2⟩:=hwOf_mem h
   exact⟨j+1,C,by simpa using h1,by rw[show i+(j+1)=i+1+j by omega];exact h2⟩
theorem hwOf_of{w:World}{ids:Ids}:∀{Bs:List Blk} {i j g:Nat} {B:Blk},Bs[j]? =some B→g∈foot w (ids (i+j)) B.2→g∈hwOf w ids Bs i
 |[],i,j,g,B,h,_=>by simp at h
 |C::r,i,0,g,B,h,hg=>by
  simp only[List.getElem?_cons_zero,Option.some.injEq] at h;subst h
  exact List.mem_append_left _ hg
 |C::r,i,j+1,g,B,h,hg=>List.mem_append_right _ (hwOf_of (i:=i+1) (j:=j) (by simpa using h) (by rw[show i+1+j=i+(j+1) by omega];exact hg))
theorem Rep.sepA{w0:World}{S:List Nat}{nb:Nat}{idb ids:Ids}{st:St}{a:Act}{w:World}(hr:Rep w0 S nb idb ids st a w){b c:Nat}{B:List Seg}{C:Blk}{g:Nat}
  (hb:st.H b=some (true,B)) (hc:st.H c=some C) (hne:b≠c) (h1:inB w ids b B g) (h2:inB w ids c C.2 g):False:=by
 rcases h1 with⟨l1,h1⟩|h1<;>rcases h2 with⟨l2,h2⟩|h2
 ·exact hr.sep b c B C hb hc hne l1 l2 (h1.symm.trans h2)
 ·exact hr.hid.sepL c b C _ hc hb l1 (h1▸h2)
 ·exact hr.hid.sepL b c _ C hb hc l2 (h2▸h1)
 ·exact hr.hid.sepH b c _ C hb hc hne g h1 h2
theorem Rep.inB_lt{w0:World}{S:List Nat}{nb:Nat}{idb ids:Ids}{st:St}{a:Act}{w:World}(hr:Rep w0 S nb idb ids st a w){b:Nat}{B:Blk}{g:Nat}
  (hb:st.H b=some B) (h1:inB w ids b B.2 g):g<w.heap.size:=by
 rcases h1 with⟨l1,h1⟩|h1
 ·rw[h1];exact(hr.blk b B hb).2.2.1 l1
 ·exact(hr.hid.rel b B hb).lt g h1
theorem Rep.inB_own{w0:World}{S:List Nat}{nb:Nat}{idb ids:Ids}{st:St}{a:Act}{w:World}(hr:Rep w0 S nb idb ids st a w){b:Nat}{B:List Seg}{g:Nat}
  (hb:st.H b=some (true,B)) (h1:inB w ids b B g):g∈S∨w0.heap.size≤g:=by
 rcases h1 with⟨l1,h1⟩|h1
 ·rw[h1];exact(hr.own b B hb l1).imp_right And.right
 ·exact hr.hid.own b _ hb g h1
theorem HRep.sepA{ids:Ids}{Bs:List Blk}{w:World}(h:HRep ids Bs w){i j:Nat}{B:List Seg}{C:Blk}{g:Nat}(hb:Bs[i]? =some (true,B))(hc:Bs[j]? =some C)(hne:i≠j)
  (h1:inB w ids i B g) (h2:inB w ids j C.2 g):False:=by
 rcases h1 with⟨l1,h1⟩|h1<;>rcases h2 with⟨l2,h2⟩|h2
 ·exact h.sep i j B C hb hc hne l1 l2 (h1.symm.trans h2)
 ·exact h.hid.sepL j i C _ hc hb l1 (h1▸h2)
 ·exact h.hid.sepL i j _ C hb hc l2 (h2▸h1)
 ·exact h.hid.sepH i j _ C hb hc hne g h1 h2
theorem Rep.called{w0:World}{S:List Nat}{nb:Nat}{idb ids:Ids}{st:St}{a:Act}{w w':World}(hr:Rep w0 S nb idb ids st a w){names:List Nat}{d:Nat}{Bs:List Blk}{v:TV}{Bs' Ns:List (List Seg)}
  {ids':Ids} {cv:Value} (hnd:names.Nodup) (hcl:∀b∈names,∃B,st.H b=some B∧∀c∈nmL B.2,c∈names) (hBs:Bs=names.map (blkOf st.H (idx names))) (hlen:Bs'.length=Bs.length)
  (hfresh:∀j,j<Ns.length→st.H (nameOf d (j+1))=none) (hnb:nb≤1000) (hret:RetOk Bs v Bs' Ns (fun i=>ids (names.getD i 0)) w ids' cv w'):
  ∃idsN:Ids,(Rep w0 S nb idb idsN (st.appH ⟨v.ren (backTo names d),[],outB st.H (backTo names d) names Bs'++outN d (backTo names d) Ns 0⟩) a w'∧
   (v.ren (backTo names d)).R idsN cv∧∀b∈(v.ren (backTo names d)).nm,(updH st.H (outB st.H (backTo names d) names Bs'++outN d (backTo names d) Ns 0) b).isSome=true)∧
   (∀b,(st.H b).isSome=true→idsN b=ids b)∧(∀g,g<w.heap.size→(∀b B,b∈names→st.H b=some (true,B)→¬inB w ids b B g)→w'.heap[g]? =w.heap[g]?):=by
 have hBl:Bs.length=names.length:=by rw[hBs];simp
 have hget:∀i,i<names.length→names[i]? =some (names.getD i 0):=fun i hi=>by simp[List.getElem?_eq_getElem hi]
 have hBget:∀i b B,names[i]? =some b→st.H b=some B→Bs[i]? =some (B.1,renL (idx names) B.2):=fun i b B h1 h2=>by
  rw[hBs,List.getElem?_map,h1];simp[blkOf,h2]
 -- the names behind the call
 let isNew:Nat→Prop:=fun b=>∃j,j<Ns.length∧b=nameOf d (j+1)
 have hnewH:∀b,isNew b→st.H b=none:=by rintro b ⟨j,hj,rfl⟩;exact hfresh j hj
 have hnewN:∀b,isNew b→b∉names:=fun b hb hm=>by
  obtain⟨B,h1,_⟩:=hcl b hm
  rw[hnewH b hb] at h1;cases h1
 obtain⟨idsN,hN1,hN2⟩:∃idsN:Ids,(∀j,j<Ns.length→idsN (nameOf d (j+1))=ids' (Bs.length+j))∧(∀b,¬isNew b→idsN b=ids b):=by
  classical
  refine⟨fun b=>if h:isNew b then ids' (Bs.length+h.choose) else ids b,fun j hj=> ?_,fun b hb=>by simp[hb]⟩
  have h:isNew (nameOf d (j+1)):=⟨j,hj,rfl⟩
  simp only[h,dif_pos]
  have:=h.choose_spec.2
  have:=nameOf_inj this
  congr 2;omega
 have hold:∀b,(st.H b).isSome=true→idsN b=ids b:=fun b hb=>hN2 b fun hn=>by rw[hnewH b hn] at hb;cases hb
 have hback:∀i,i<Bs.length+Ns.length→idsN (backTo names d i)=ids' i:=by
  intro i hi
  unfold backTo
  by_cases hlt:i<names.length
  ·rw[show Nat.blt i names.length=true by simpa using hlt]
   simp only[cond_true]
   have hm:names.getD i 0∈names:=List.mem_of_getElem? (hget i hlt)
   obtain⟨B,h1,_⟩:=hcl _ hm
   rw[hold _ (by rw[h1];rfl),hret.same i (by omega)]
  ·rw[blt_false hlt]
   simp only[cond_false]
   rw[hN1 (i-names.length) (by omega)];congr 1;omega
 -- what a name holds behind the call
 let out:=outB st.H (backTo names d) names Bs'++outN d (backTo names d) Ns 0
 have hoB:∀b,isNew b→outAt (outB st.H (backTo names d) names Bs') b=none:=fun b hb=>outAt_none fun hm=>hnewN b hb (outB_names _ _ _ _ b hm)
 have hoN:∀b,¬isNew b→outAt (outN d (backTo names d) Ns 0) b=none:=fun b hb=>outAt_none fun hm=>by
  obtain⟨j,h1,h2⟩:=outN_names _ _ _ _ b hm
  exact hb ⟨j,h1,by simpa using h2⟩
 have hcase:∀b B,updH st.H out b=some B→(∃i C,(afterB Bs Bs'++Ns.map fun N=>(true,N))[i]? =some (B.1,C)∧B.2=renL (backTo names d) C∧b=backTo names d i∧
    (i<names.length→names[i]? =some b∧∃B0,st.H b=some (B.1,B0)))∨(b∉names∧¬isNew b∧st.H b=some B):=by
  intro b B hb
  rw[updH_eq,outAt_append] at hb
  by_cases hn:isNew b
  ·left
   rw[hoB b hn,Option.none_or] at hb
   obtain⟨j,hj,rfl⟩:=hn
   obtain⟨N,hN⟩:∃N,Ns[j]? =some N:=⟨Ns[j],by simp[hj]⟩
   have h1:=outN_at d (backTo names d) Ns 0 j N hN
   rw[Nat.zero_add] at h1
   rw[h1] at hb
   obtain rfl:=Option.some.inj hb
   refine⟨Bs.length+j,N, ?_,rfl, ?_,fun h=>by omega⟩
   ·rw[List.getElem?_append_right (by rw[afterB_length hlen];omega),afterB_length hlen,show Bs.length+j-Bs.length=j by omega,List.getElem?_map,hN];rfl
   ·unfold backTo
    rw[blt_false (show¬Bs.length+j<names.length by omega)]
    simp only[cond_false];congr 1;omega
  ·rw[hoN b hn,Option.or_none] at hb
   by_cases hm:b∈names
   ·left
    obtain⟨i,hi,hib⟩:=List.mem_iff_getElem.1 hm
    have hib':names[i]? =some b:=by rw[List.getElem?_eq_getElem hi,hib]
    obtain⟨B0,hB0,hB0c⟩:=hcl b hm
    obtain⟨C,hC⟩:∃C,Bs'[i]? =some C:=⟨Bs'[i]'(by omega),by rw[List.getElem?_eq_getElem]⟩
    have hA:=afterB_get (hBget i b B0 hib' hB0) hC
    have h1:=outB_at st.H (backTo names d) names Bs' i b C hnd hib' hC
    have hbk:b=backTo names d i:=by
     unfold backTo
     rw[show Nat.blt i names.length=true by simpa using hi]
     simp only[cond_true];simp[hib']
    have hAi:(afterB Bs Bs'++Ns.map fun N=>(true,N))[i]? =some (B0.1,cond B0.1 C (renL (idx names) B0.2)):=by
     rw[List.getElem?_append_left (by rw[afterB_length hlen];omega)];exact hA
    obtain⟨wr,B0⟩:=B0
    cases wr with
    |true=>
     replace h1:outAt (outB st.H (backTo names d) names Bs') b=some (true,renL (backTo names d) C):=by rw[h1,hB0]
     rw[h1] at hb
     obtain rfl:=Option.some.inj hb
     exact⟨i,C,hAi,rfl,hbk,fun _=>⟨hib',B0,hB0⟩⟩
    |false=>
     replace h1:outAt (outB st.H (backTo names d) names Bs') b=none:=by rw[h1,hB0]
     rw[h1,Option.none_or,hB0] at hb
     obtain rfl:=Option.some.inj hb
     refine⟨i,renL (idx names) B0,hAi, ?_,hbk,fun _=>⟨hib',B0,hB0⟩⟩
     simp only
     have hid:∀s∈B0,Seg.ren (backTo names d) (Seg.ren (idx names) s)=s:=by
      intro s hs
      cases s with
      |seq E n l=>rfl
      |gro E l=>rfl
      |mp=>rfl
      |rws E ll hh=>
       cases hh with
       |none=>rfl
       |some q=>
        have hcn:=hB0c q.2 (List.mem_flatMap.2 ⟨_,hs,by simp[Seg.nm]⟩)
        obtain⟨h1,h2⟩:=idx_lt hcn
        have:backTo names d (idx names q.2)=q.2:=by
         unfold backTo
         rw[show Nat.blt (idx names q.2) names.length=true by simpa using h1]
         exact h2
        simp only[Seg.ren,holeRen,this]
      |one x=>
       have hx:∀c∈x.nm,backTo names d (idx names c)=c:=by
        intro c hc
        have hcn:=hB0c c (List.mem_flatMap.2 ⟨.one x,hs,hc⟩)
        obtain⟨h1,h2⟩:=idx_lt hcn
        unfold backTo
        rw[show Nat.blt (idx names c) names.length=true by simpa using h1]
        exact h2
       simp only[Seg.ren]
       congr 1
       cases x with
       |clo f ps=>
        simp only[SV.ren,List.map_map]
        congr 1
        conv=>rhs;rw[←List.map_id ps]
        apply List.map_congr_left
        intro p hp
        simp only[Function.comp,id]
        rw[hx p.1 (by simp only[SV.nm,List.mem_map];exact⟨p,hp,rfl⟩)]
       |_=>first|rfl|(simp only[SV.ren];rw[hx _ (by simp[SV.nm])])
     simp only[renL,List.map_map]
     conv=>lhs;rw[←List.map_id B0]
     apply List.map_congr_left
     intro s hs
     simp only[id,Function.comp];exact(hid s hs).symm
   ·right
    have h1:outAt (outB st.H (backTo names d) names Bs') b=none:=outAt_none fun h=>hm (outB_names _ _ _ _ b h)
    rw[h1,Option.none_or] at hb
    exact⟨hm,hn,hb⟩
 -- what the call may write
 have hwr:∀g,g∈wrAll w (fun i=>ids (names.getD i 0)) Bs→∃b B,b∈names∧st.H b=some (true,B)∧inB w ids b B g:=by
  intro g hw
  rcases List.mem_append.1 hw with hw|hw
  ·obtain⟨j,C,hj,hC,hg⟩:=wrOf_mem hw
   have hjl:j<names.length:=by have:=(List.getElem?_eq_some_iff.1 hj).1;omega
   have hjn:=List.mem_of_getElem? (hget j hjl)
   obtain⟨C0,hC0,_⟩:=hcl _ hjn
   have:=hBget j _ C0 (hget j hjl) hC0
   rw[hj] at this
   obtain⟨wr,C0⟩:=C0
   simp only[Option.some.injEq,Prod.mk.injEq] at this
   obtain⟨rfl,rfl⟩:=this
   exact⟨_,C0,hjn,hC0, .inl ⟨renL_Lv.1 hC,by rw[hg,Nat.zero_add]⟩⟩
  ·obtain⟨j,C,hj,hg⟩:=hwOf_mem hw
   have hjl:j<names.length:=by have:=(List.getElem?_eq_some_iff.1 hj).1;omega
   have hjn:=List.mem_of_getElem? (hget j hjl)
   obtain⟨C0,hC0,_⟩:=hcl _ hjn
   have:=hBget j _ C0 (hget j hjl) hC0
   rw[hj] at this
   obtain rfl:=Option.some.inj this
   rw[Nat.zero_add] at hg
   dsimp only at hg
   rw[foot_ren] at hg
   have hfl:=hr.hid.fl _ _ hC0 (by
    obtain⟨E,ll,hh,he⟩:=foot_of hg
    rw[he];rfl)
   obtain⟨wr,C0⟩:=C0
   simp only at hfl
   subst hfl
   exact⟨_,C0,hjn,hC0, .inr hg⟩
 have hkeepA:∀b B,b∉names→st.H b=some B→∀g,inB w ids b B.2 g→w'.heap[g]? =w.heap[g]? :=by
  intro b B hm hb g hg
  refine hret.keeps.block _ (hr.inB_lt hb hg) fun hw=> ?_
  obtain⟨c,C,h1,h2,h3⟩:=hwr _ hw
  exact hr.sepA h2 hb (fun e=>hm (by rw[←e];exact h1)) h3 hg
 have hkeepB:∀b B,b∉names→st.H b=some B→Lv B.2→w'.heap[(ids b).1]? =w.heap[(ids b).1]? :=fun b B hm hb hlv=>hkeepA b B hm hb _ (.inl ⟨hlv,rfl⟩)
 have hdom:∀b,(st.H b).isSome=true→(updH st.H out b).isSome=true:=fun b hb=>by
  rw[updH_eq];cases outAt out b<;>simp[hb]
 have hdomb:∀i,i<Bs.length+Ns.length→(updH st.H out (backTo names d i)).isSome=true:=by
  intro i hi
  unfold backTo
  by_cases hlt:i<names.length
  ·rw[show Nat.blt i names.length=true by simpa using hlt]
   simp only[cond_true]
   obtain⟨B,h1,_⟩:=hcl _ (List.mem_of_getElem? (hget i hlt))
   exact hdom _ (by rw[h1];rfl)
  ·rw[blt_false hlt]
   simp only[cond_false]
   obtain⟨N,hN⟩:∃N,Ns[i-names.length]? =some N:=⟨Ns[i-names.length]'(by omega),by rw[List.getElem?_eq_getElem]⟩
   have h1:=outN_at d (backTo names d) Ns 0 _ N hN
   rw[Nat.zero_add] at h1
   rw[updH_eq,outAt_append,h1]
   cases outAt (outB st.H (backTo names d) names Bs') (nameOf d (i-names.length+1))<;>rfl
 have hlenA:(afterB Bs Bs'++Ns.map fun N=>(true,N)).length=Bs.length+Ns.length:=by simp[afterB_length hlen]
 have hsizeN:∀i C,names.length≤i→(afterB Bs Bs'++Ns.map fun N=>(true,N))[i]? =some C→Lv C.2→w.heap.size≤(ids' i).1∨∃b B,b∈names∧st.H b=some (true,B)∧inB w ids b B (ids' i).1:=fun i C h1 h2 h3=>by
  rw[List.getElem?_append_right (by rw[afterB_length hlen];omega),afterB_length hlen,List.getElem?_map] at h2
  simp only[Option.map_eq_some_iff] at h2
  obtain⟨N,hN,rfl⟩:=h2
  have:=hret.new (i-Bs.length) N hN h3
  rw[show Bs.length+(i-Bs.length)=i by omega] at this
  rcases this with h|h
  ·exact .inl h
  ·exact .inr (hwr _ h)
 -- what has a place behind the call had one ahead of it
 have hshr:∀i (C:Blk) b (B0:Blk),i<names.length→(afterB Bs Bs'++Ns.map fun N=>(true,N))[i]? =some C→Lv C.2→names[i]? =some b→st.H b=some B0→Lv B0.2:=by
  intro i C b B0 hi hC hlv hib hB0
  rw[List.getElem?_append_left (by rw[afterB_length hlen];omega)] at hC
  have g1:=hBget i b _ hib hB0
  obtain⟨C',hC'⟩:∃C',Bs'[i]? =some C':=⟨Bs'[i]'(by omega),by rw[List.getElem?_eq_getElem]⟩
  rw[afterB_get g1 hC'] at hC
  obtain rfl:=Option.some.inj hC
  obtain⟨wr,B0⟩:=B0
  cases wr with
  |true=>exact renL_Lv.1 (hret.shr i _ _ g1 hC' hlv)
  |false=>exact renL_Lv.1 hlv
 have hcase1:∀b (B:Blk) i C,(afterB Bs Bs'++Ns.map fun N=>(true,N))[i]? =some (B.1,C)→B.2=renL (backTo names d) C→b=backTo names d i→∀g,inB w' idsN b B.2 g→inB w' ids' i C g:=by
  intro b B i C h1 h2 h3 g hg
  have hi:i<Bs.length+Ns.length:=by have:=(List.getElem?_eq_some_iff.1 h1).1;rw[hlenA] at this;exact this
  unfold inB at*
  rw[h2,foot_ren,h3,hback i hi] at hg
  exact hg.imp_left fun h=>⟨renL_Lv.1 h.1,h.2⟩
 have horig:∀b (B:Blk) i C,(afterB Bs Bs'++Ns.map fun N=>(true,N))[i]? =some (B.1,C)→(i<names.length→names[i]? =some b∧∃B0,st.H b=some (B.1,B0))→∀g,inB w' ids' i C g→
   w.heap.size≤g∨∃c Cc,c∈names∧st.H c=some Cc∧inB w ids c Cc.2 g∧(B.1=true→Cc.1=true):=by
  intro b B i C h1 h4 g hg
  have hlift:(∃c Cc,c∈names∧st.H c=some (true,Cc)∧inB w ids c Cc g)→∃c Cc,c∈names∧st.H c=some Cc∧inB w ids c Cc.2 g∧(B.1=true→Cc.1=true):=
   fun⟨c,Cc,k1,k2,k3⟩=>⟨c,_,k1,k2,k3,fun _=>rfl⟩
  rcases hg with⟨hlv,hg⟩|hg
  ·by_cases hin:i<names.length
   ·obtain⟨q1,B0,q2⟩:=h4 hin
    right
    refine⟨b,_,List.mem_of_getElem? q1,q2, .inl ⟨hshr i _ b _ hin h1 hlv q1 q2, ?_⟩,fun h=>h⟩
    have hbi:names.getD i 0=b:=by simp[List.getD,q1]
    rw[hg,hret.same i (by omega),hbi]
   ·rcases hsizeN i _ (by omega) h1 hlv with h|h
    ·exact .inl (by rw[hg];exact h)
    ·rw[←hg] at h;exact .inr (hlift h)
  ·rcases hret.hnew i _ h1 g hg with h|h
   ·exact .inl h
   ·exact .inr (hlift (hwr _ h))
 have hsepA:∀b c B (C:Blk) g,updH st.H out b=some (true,B)→updH st.H out c=some C→b≠c→inB w' idsN b B g→inB w' idsN c C.2 g→False:=by
  intro b c B C g hb hc hne hgb hgc
  rcases hcase b _ hb with⟨i,D,h1,h2,h3,h4⟩|⟨h1,h2,h3⟩<;>rcases hcase c _ hc with⟨j,E,g1,g2,g3,g4⟩|⟨g1,g2,g3⟩
  ·exact hret.heap.sepA h1 g1 (fun e=>hne (by rw[h3,g3,e])) (hcase1 b (true,B) i D h1 h2 h3 g hgb) (hcase1 c C j E g1 g2 g3 g hgc)
  ·have hgc':inB w ids c C.2 g:=by unfold inB at*;rw[hN2 c g2] at hgc;rw[←foot_congr (w':=w') fun hm=>hkeepA c C g1 g3 _ (.inr hm)];exact hgc
   rcases horig b (true,B) i D h1 h4 g (hcase1 b (true,B) i D h1 h2 h3 g hgb) with h|⟨e,E',k1,k2,k3,k4⟩
   ·have:=hr.inB_lt g3 hgc';omega
   ·obtain⟨wr,E'⟩:=E'
    have:=k4 rfl
    simp only at this
    subst this
    exact hr.sepA k2 g3 (fun he=>g1 (by rw[←he];exact k1)) k3 hgc'
  ·have hgb':inB w ids b B g:=by unfold inB at*;rw[hN2 b h2] at hgb;rw[←foot_congr (w':=w') fun hm=>hkeepA b (true,B) h1 h3 _ (.inr hm)];exact hgb
   rcases horig c C j E g1 g4 g (hcase1 c C j E g1 g2 g3 g hgc) with h|⟨e,E',k1,k2,k3,k4⟩
   ·have:=hr.inB_lt h3 hgb';omega
   ·exact hr.sepA h3 k2 (fun he=>h1 (by rw[he];exact k1)) hgb' k3
  ·have hgb':inB w ids b B g:=by unfold inB at*;rw[hN2 b h2] at hgb;rw[←foot_congr (w':=w') fun hm=>hkeepA b (true,B) h1 h3 _ (.inr hm)];exact hgb
   have hgc':inB w ids c C.2 g:=by unfold inB at*;rw[hN2 c g2] at hgc;rw[←foot_congr (w':=w') fun hm=>hkeepA c C g1 g3 _ (.inr hm)];exact hgc
   exact hr.sepA h3 g3 hne hgb' hgc'
 have hfl:∀b B,updH st.H out b=some B→noRws B.2=false→B.1=true:=by
  intro b B hb hno
  rcases hcase b B hb with⟨i,C,h1,h2,h3,h4⟩|⟨h1,h2,h3⟩
  ·rw[h2,noRws_ren] at hno;exact hret.heap.hid.fl i (B.1,C) h1 hno
  ·exact hr.hid.fl b B h3 hno
 have hfl':∀b B g,updH st.H out b=some B→g∈foot w' (idsN b) B.2→B=(true,B.2):=fun b B g hb hg=>Prod.ext (hfl b B hb (by
  obtain⟨E,ll,hh,he⟩:=foot_of hg
  rw[he];rfl)) rfl
 refine⟨idsN,⟨⟨?_,hr.size,hr.defers,fun t=> ?_,fun i hi=> ?_,fun b B hb=> ?_,fun b c B C hb hc hne=> ?_,fun b B hb=> ?_,fun t b hb=> ?_,fun c B hc b hb=> ?_,hr.lim,⟨hfl,fun b B hb=> ?_,fun b B hb g hg=> ?_,fun b c B C hb hc lc hg=> ?_,fun b c B C hb hc hne g hg hg2=> ?_⟩⟩, ?_,fun b hb=> ?_⟩,hold,fun g hg hno=> ?_⟩
 rotate_right
 ·refine hret.keeps.block g hg fun hw=> ?_
  obtain⟨c,C,h1,h2,h3⟩:=hwr _ hw
  exact hno c C h1 h2 h3
 · -- keeps
  refine⟨hret.keeps.os.trans hr.keeps.os,hret.keeps.tape.trans hr.keeps.tape,hret.keeps.output.trans hr.keeps.output,Nat.le_trans hr.keeps.size hret.keeps.size,fun q hq hS=> ?_⟩
  rw[←hr.keeps.block q hq hS]
  refine hret.keeps.block q (by have:=hr.keeps.size;omega) fun hw=> ?_
  obtain⟨c,C,h1,h2,h3⟩:=hwr _ hw
  rcases hr.inB_own h2 h3 with h|h
  ·exact hS h
  ·omega
 ·exact(hr.tmps t).congr fun b hb=>hold b (hr.clT t b hb)
 ·rw[hN2 i (by
   rintro ⟨j,hj,rfl⟩
   have:=hr.lim
   simp only[nameOf] at hi;omega)]
  exact hr.bor i hi
 ·rcases hcase b B hb with⟨i,C,h1,h2,h3,h4⟩|⟨h1,h2,h3⟩
  ·have hi:i<Bs.length+Ns.length:=by have:=(List.getElem?_eq_some_iff.1 h1).1;rw[hlenA] at this;exact this
   obtain⟨q1,qg,q2,q3⟩:=hret.heap.blk i _ h1
   simp only at q1 qg q2 q3
   refine⟨by rw[h2];exact renL_ok.2 q1,by rw[h2,h3,hback i hi];exact qg.ren,by rw[h2,h3,hback i hi];exact fun hl=>q2 (renL_Lv.1 hl),fun j x hx=> ?_⟩
   rw[h2,renL_cells,List.getElem?_map] at hx
   simp only[Option.map_eq_some_iff] at hx
   obtain⟨y,hy,rfl⟩:=hx
   obtain⟨u,u1,u2,u3⟩:=q3 j y hy
   rw[h3,hback i hi]
   refine⟨u,u1,SV.ren_R.2 (u2.congr fun c hc=>hback c ?_),u3⟩
   have:=hret.heap.cl i _ h1 c (cellsL_nm _ y (List.mem_of_getElem? hy) c hc)
   rw[hlenA] at this;exact this
  ·refine(hr.blk b B h3).congr (hold b (by rw[h3];rfl)) (fun c hc=>hold c (hr.clH b B h3 c hc)) hret.keeps.size (hkeepB b B h1 h3)
 ·intro lvB lvC e
  exact hsepA b c B C _ hb hc hne (.inl ⟨lvB,rfl⟩) (.inl ⟨lvC,e⟩)
 ·intro lvB
  rcases hcase b _ hb with⟨i,D,h1,h2,h3,h4⟩|⟨h1,h2,h3⟩
  ·have hi:i<Bs.length+Ns.length:=by have:=(List.getElem?_eq_some_iff.1 h1).1;rw[hlenA] at this;exact this
   dsimp only at h2
   rw[h2] at lvB
   have lvD:=renL_Lv.1 lvB
   by_cases hin:i<names.length
   ·obtain⟨q1,B0,q2⟩:=h4 hin
    rw[hold b (by rw[q2];rfl)]
    exact hr.own b B0 q2 (hshr i _ b _ hin h1 lvD q1 q2)
   ·have hbn:nb≤b:=by
     have:=hr.lim
     rw[h3];unfold backTo
     rw[blt_false hin]
     simp only[cond_false,nameOf];omega
    rw[h3,hback i hi]
    rcases hsizeN i _ (by omega) h1 lvD with h|⟨e,E',k1,k2,k3⟩
    ·right
     have:=hr.keeps.size
     exact⟨by rw[←h3];exact hbn,by omega⟩
    ·exact(hr.inB_own k2 k3).imp_right fun h=>⟨by rw[←h3];exact hbn,h⟩
  ·rw[hN2 b h2];exact hr.own b B h3 lvB
 ·exact hdom b (hr.clT t b hb)
 ·rcases hcase c B hc with⟨i,D,h1,h2,h3,h4⟩|⟨h1,h2,h3⟩
  ·rw[h2,renL_nm,List.mem_map] at hb
   obtain⟨e,he,rfl⟩:=hb
   have:=hret.heap.cl i _ h1 e he
   rw[hlenA] at this
   exact hdomb e this
  ·exact hdom b (hr.clH c B h3 b hb)
 ·rcases hcase b B hb with⟨i,C,h1,h2,h3,h4⟩|⟨h1,h2,h3⟩
  ·have hi:i<Bs.length+Ns.length:=by have:=(List.getElem?_eq_some_iff.1 h1).1;rw[hlenA] at this;exact this
   rw[h2,h3]
   refine(hret.heap.hid.rel i _ h1).ren (hback i hi) fun c hc=>hback c ?_
   have:=hret.heap.cl i _ h1 c hc
   rw[hlenA] at this;exact this
  ·exact(hr.hid.rel b B h3).congr (hold b (by rw[h3];rfl)) (fun c hc=>hold c (hr.clH b B h3 c hc)) hret.keeps.size fun g hg=>hkeepA b B h1 h3 g (.inr hg)
 ·rcases hcase b B hb with⟨i,C,h1,h2,h3,h4⟩|⟨h1,h2,h3⟩
  ·rcases horig b B i C h1 h4 g (hcase1 b B i C h1 h2 h3 g (.inr hg)) with h|⟨e,E',k1,k2,k3,k4⟩
   ·right;have:=hr.keeps.size;omega
   ·obtain⟨wr,E'⟩:=E'
    have:=k4 (hfl b B hb (by
     obtain⟨E,ll,hh,he⟩:=foot_of hg
     rw[he];rfl))
    simp only at this
    subst this
    exact hr.inB_own k2 k3
  ·rw[hN2 b h2,foot_congr fun hm=>hkeepA b B h1 h3 _ (.inr hm)] at hg
   exact hr.hid.own b B h3 g hg
 ·have hB:=hfl' b B _ hb hg
  rw[hB] at hb hg
  exact hsepA b c _ C _ hb hc (fun e=>by
   subst e
   rw[hb] at hc
   obtain rfl:=Option.some.inj hc
   obtain⟨E,ll,hh,he⟩:=foot_of hg
   dsimp only at he lc
   rw[he] at lc
   exact lc) (.inr hg) (.inl ⟨lc,rfl⟩)
 ·have hB:=hfl' b B _ hb hg
  rw[hB] at hb hg
  exact hsepA b c _ C _ hb hc hne (.inr hg) (.inr hg2)
 ·exact TV.ren_R.2 (hret.val.congr fun b hb=>hback b (hret.nm b hb))
 ·simp only[TV.ren_nm,List.mem_map] at hb
  obtain⟨e,he,rfl⟩:=hb
  exact hdomb e (hret.nm e he)
theorem demote_some{L:List Nat}{H:Nat→Option Blk}{b:Nat}{B:Blk}(h:demote L H b=some B):∃B0,H b=some B0∧B.2=B0.2∧B.1=(B0.1&& !(has L b)):=by
 unfold demote at h
 split at h
 ·rename_i B0 h0;cases h;exact⟨B0,h0,rfl,rfl⟩
 ·cases h
theorem demote_of{L:List Nat}{H:Nat→Option Blk}{b:Nat}{B:Blk}(h:H b=some B):demote L H b=some (B.1&& !(has L b),B.2):=by
 unfold demote;rw[h]
theorem demote_isSome{L:List Nat}{H:Nat→Option Blk}{b:Nat}:(demote L H b).isSome=(H b).isSome:=by
 unfold demote;cases H b<;>rfl
theorem BlkR.weak{ids:Ids}{w:World}{b:Nat}{B C:Blk}(h:BlkR ids w b B)(h2:C.2=B.2)(h1:C.1=true→B.1=true):BlkR ids w b C:=by
 obtain⟨q1,qg,q2,q3⟩:=h
 refine⟨by rw[h2];exact q1,by rw[h2];exact qg.weak h1,by rw[h2];exact q2,fun j x hx=> ?_⟩
 rw[h2] at hx
 obtain⟨v,v1,v2,v3⟩:=q3 j x hx
 exact⟨v,v1,v2,fun h=>v3 (h1 h)⟩
theorem Rep.demote{w0:World}{S:List Nat}{nb:Nat}{idb ids:Ids}{st:St}{a:Act}{w:World}(hr:Rep w0 S nb idb ids st a w)(L:List Nat)(hL:∀b B,has L b=true→st.H b=some B→noRws B.2=true):
  Rep w0 S nb idb ids {st with H:=demote L st.H} a w:=by
 have hflag:∀{b:Nat} {B:List Seg},Sx.demote L st.H b=some (true,B)→st.H b=some (true,B):=by
  intro b B h
  obtain⟨⟨b0,B0⟩,h1,h2,h3⟩:=demote_some h
  simp only at h2 h3
  subst h2
  cases b0 with
  |true=>exact h1
  |false=>cases h3
 refine⟨hr.keeps,hr.size,hr.defers,hr.tmps,hr.bor,fun b B hb=> ?_,fun b c B C hb hc hne=> ?_,fun b B hb=>hr.own b B (hflag hb),fun t b hb=> ?_,fun c B hc b hb=> ?_,hr.lim,⟨fun b B hb hno=> ?_,fun b B hb=> ?_,fun b B hb=> ?_,fun b c B C hb hc=> ?_,fun b c B C hb hc=> ?_⟩⟩
 rotate_right 5
 ·obtain⟨B0,h1,h2,h3⟩:=demote_some hb
  rw[h2] at hno
  rw[h3,hr.hid.fl b B0 h1 hno]
  cases hLb:has L b with
  |false=>rfl
  |true=>rw[hL b B0 hLb h1] at hno;cases hno
 ·obtain⟨B0,h1,h2,h3⟩:=demote_some hb
  rw[h2];exact hr.hid.rel b B0 h1
 ·obtain⟨B0,h1,h2,h3⟩:=demote_some hb
  rw[h2];exact hr.hid.own b B0 h1
 ·obtain⟨B0,h1,h2,h3⟩:=demote_some hb
  obtain⟨C0,g1,g2,g3⟩:=demote_some hc
  rw[h2,g2];exact hr.hid.sepL b c B0 C0 h1 g1
 ·obtain⟨B0,h1,h2,h3⟩:=demote_some hb
  obtain⟨C0,g1,g2,g3⟩:=demote_some hc
  rw[h2,g2];exact hr.hid.sepH b c B0 C0 h1 g1
 ·obtain⟨B0,h1,h2,h3⟩:=demote_some hb
  exact(hr.blk b B0 h1).weak h2 fun h=>by rw[h3,Bool.and_eq_true] at h;exact h.1
 ·obtain⟨C0,h1,h2,_⟩:=demote_some hc
  rw[h2]
  exact hr.sep b c B C0 (hflag hb) h1 hne
 ·show(Sx.demote L st.H b).isSome=true
  rw[demote_isSome];exact hr.clT t b hb
 ·show(Sx.demote L st.H b).isSome=true
  obtain⟨B0,h1,h2,_⟩:=demote_some hc
  rw[demote_isSome]
  rw[h2] at hb
  exact hr.clH c B0 h1 b hb
theorem outB_flag{H:Nat→Option Blk}{ρ':Nat→Nat}:∀{names:List Nat} {Cs:List (List Seg)},∀p∈outB H ρ' names Cs,p.2.1=true∧∃B,H p.1=some (true,B)
 |[],Cs,p,h=>by cases Cs<;>cases h
 |b::r,[],p,h=>by cases h
 |b::r,C::s,p,h=>by
  simp only[outB] at h
  split at h
  ·rename_i B hB
   rcases List.mem_cons.1 h with rfl|h
   ·exact⟨rfl,B,hB⟩
   ·exact outB_flag p h
  ·exact outB_flag p h
theorem outN_flag{d:Nat}{ρ':Nat→Nat}:∀{Ns:List (List Seg)} {j:Nat},∀p∈outN d ρ' Ns j,p.2.1=true
 |[],j,p,h=>by cases h
 |N::r,j,p,h=>by
  simp only[outN,List.mem_cons] at h
  rcases h with rfl|h
  ·rfl
  ·exact outN_flag p h
theorem outAt_mem':∀{out:List (Nat×Blk)} {b:Nat} {B:Blk},outAt out b=some B→(b,B)∈out
 |(c,C)::r,b,B,h=>by
  simp only[outAt] at h
  cases hb:Nat.beq b c with
  |true=>rw[hb] at h;cases h;rw[Nat.eq_of_beq_eq_true hb];simp
  |false=>rw[hb] at h;exact List.mem_cons_of_mem _ (outAt_mem' h)
theorem Rep.calledRo{w0:World}{S:List Nat}{nb:Nat}{idb ids:Ids}{st:St}{a:Act}{w w':World}(hr:Rep w0 S nb idb ids st a w){L names:List Nat}{d:Nat}{Bs:List Blk}{v:TV}{Bs' Ns:List (List Seg)}
  {ids':Ids} {cv:Value} (hL:∀b B,has L b=true→st.H b=some B→noRws B.2=true) (hnd:names.Nodup) (hcl:∀b∈names,∃B,st.H b=some B∧∀c∈nmL B.2,c∈names) (hBs:Bs=names.map (blkOf (Sx.demote L st.H) (idx names))) (hlen:Bs'.length=Bs.length)
  (hfresh:∀j,j<Ns.length→st.H (nameOf d (j+1))=none) (hnb:nb≤1000) (hret:RetOk Bs v Bs' Ns (fun i=>ids (names.getD i 0)) w ids' cv w') {rd:List Nat}:
  Post w0 S nb idb st ⟨v.ren (backTo names d),rd,outB (Sx.demote L st.H) (backTo names d) names Bs'++outN d (backTo names d) Ns 0⟩ a cv w':=by
 obtain⟨idsN,⟨h1,h2,h3⟩,hold,hheap⟩:=(hr.demote L hL).called hnd (fun b hb=>by
  obtain⟨B,g1,g2⟩:=hcl b hb
  exact⟨_,demote_of g1,g2⟩) hBs hlen (fun j hj=>by
   have:=hfresh j hj
   show Sx.demote L st.H _=none
   unfold Sx.demote;rw[this]) hnb hret
 generalize hout:outB (Sx.demote L st.H) (backTo names d) names Bs'++outN d (backTo names d) Ns 0=out at*
 have hflag:∀b B,outAt out b=some B→B.1=true:=by
  intro b B h
  have hm:=outAt_mem' h
  rw[←hout] at hm
  rcases List.mem_append.1 hm with hm|hm
  ·exact(outB_flag _ hm).1
  ·exact outN_flag _ hm
 have hold':∀b B,st.H b=some B→idsN b=ids b:=fun b B h=>hold b (by show(Sx.demote L st.H b).isSome=true;rw[demote_isSome,h];rfl)
 have hcase:∀b B,updH st.H out b=some B→(outAt out b=some B∧updH (Sx.demote L st.H) out b=some B)∨(st.H b=some B∧updH (Sx.demote L st.H) out b=some (B.1&& !(has L b),B.2)):=by
  intro b B h
  rw[updH_eq] at h
  cases ho:outAt out b with
  |some C=>
   rw[ho] at h
   obtain rfl:=Option.some.inj h
   exact .inl ⟨rfl,by rw[updH_eq,ho];rfl⟩
  |none=>
   rw[ho,Option.none_or] at h
   exact .inr ⟨h,by rw[updH_eq,ho,Option.none_or];exact demote_of h⟩
 have hsome:∀b,(updH st.H out b).isSome=(updH (Sx.demote L st.H) out b).isSome:=by
  intro b
  rw[updH_eq,updH_eq]
  cases outAt out b with
  |some _=>rfl
  |none=>rw[Option.none_or,Option.none_or,demote_isSome]
 have hquiet:∀b B,st.H b=some (true,B)→has L b=true→Lv B→w'.heap[(ids b).1]? =w.heap[(ids b).1]? :=by
  intro b B hb hLb hlv
  refine hheap _ ((hr.blk b _ hb).2.2.1 hlv) fun c C hcn hcC hin=> ?_
  obtain⟨⟨c0,C1⟩,g1,g2,g3⟩:=demote_some hcC
  simp only at g2 g3
  have g3':=g3.symm
  simp only[Bool.and_eq_true,Bool.not_eq_true'] at g3'
  obtain⟨rfl,hcl'⟩:=g3'
  subst g2
  exact hr.sepA g1 hb (fun e=>by rw[e,hLb] at hcl';cases hcl') hin (.inl ⟨hlv,rfl⟩)
 have hwk:∀b B,updH st.H out b=some B→∃D,updH (Sx.demote L st.H) out b=some D∧D.2=B.2∧(D.1=true→B.1=true):=by
  intro b B hb
  rcases hcase b B hb with⟨_,g⟩|⟨_,g⟩
  ·exact⟨_,g,rfl,fun h=>h⟩
  ·exact⟨_,g,rfl,fun h=>by simp only[Bool.and_eq_true] at h;exact h.1⟩
 refine⟨idsN,⟨h1.keeps,h1.size,h1.defers,h1.tmps,h1.bor,fun b B hb=> ?_,fun b c B C hb hc hne=> ?_,fun b B hb=> ?_,fun t b hb=> ?_,fun c B hc b hb=> ?_,h1.lim,
  ⟨fun b B hb hno=> ?_,fun b B hb=> ?_,fun b B hb=> ?_,fun b c B C hb hc=> ?_,fun b c B C hb hc=> ?_⟩⟩,h2,fun b hb=> ?_⟩
 rotate_right 6
 ·obtain⟨D,g1,g2,g3⟩:=hwk b B hb
  rw[←g2] at hno;exact g3 (h1.hid.fl b D g1 hno)
 ·obtain⟨D,g1,g2,g3⟩:=hwk b B hb
  rw[←g2];exact h1.hid.rel b D g1
 ·obtain⟨D,g1,g2,g3⟩:=hwk b B hb
  rw[←g2];exact h1.hid.own b D g1
 ·obtain⟨D,g1,g2,g3⟩:=hwk b B hb
  obtain⟨E,e1,e2,e3⟩:=hwk c C hc
  rw[←g2,←e2];exact h1.hid.sepL b c D E g1 e1
 ·obtain⟨D,g1,g2,g3⟩:=hwk b B hb
  obtain⟨E,e1,e2,e3⟩:=hwk c C hc
  rw[←g2,←e2];exact h1.hid.sepH b c D E g1 e1
 ·show(updH st.H out b).isSome=true
  rw[hsome];exact h3 b hb
 ·rcases hcase b B hb with⟨_,g⟩|⟨g1,g2⟩
  ·exact h1.blk b B g
  ·obtain⟨q1,qg,q2,q3⟩:=h1.blk b _ g2
   obtain⟨r1,rg,r2,r3⟩:=hr.blk b B g1
   refine⟨q1, ?_,q2,fun j x hx=> ?_⟩
   ·cases hL:has L b with
    |false=>rw[hL] at qg;simpa using qg
    |true=>
     obtain⟨wr,B0⟩:=B
     cases wr with
     |false=>simpa using qg
     |true=>
      rw[hold' b _ g1]
      exact rg.congr (hquiet b B0 g1 hL)
   obtain⟨v,v1,v2,v3⟩:=q3 j x hx
   refine⟨v,v1,v2,fun ht=> ?_⟩
   cases hL:has L b with
   |false=>exact v3 (by simp[ht,hL])
   |true=>
    obtain⟨u,u1,u2,u3⟩:=r3 j x hx
    obtain⟨wr,B0⟩:=B
    simp only at ht
    subst ht
    rw[hold' b _ g1]
    rw[World.frozen?_of_block (w:=w) (hquiet b B0 g1 hL (lv_of_get hx))]
    exact u3 rfl
 ·obtain⟨D,hD,hDC⟩:∃D,updH (Sx.demote L st.H) out c=some D∧D.2=C.2:=by
   rcases hcase c _ hc with⟨_,g⟩|⟨_,g⟩<;>exact⟨_,g,rfl⟩
  rw[←hDC]
  rcases hcase b _ hb with⟨_,g⟩|⟨g1,g2⟩
  ·exact h1.sep b c B D g hD hne
  ·cases hL:has L b with
   |false=>
    refine h1.sep b c B D ?_ hD hne
    show updH (Sx.demote L st.H) out b=some (true,B)
    rw[g2,hL];rfl
   |true=>
    rw[hDC]
    rcases hcase c _ hc with⟨ho,g⟩|⟨e1,e2⟩
    ·have hC:=hflag c C ho
     obtain⟨wr,C0⟩:=C
     simp only at hC
     subst hC
     exact fun lb lc e=>h1.sep c b C0 _ g g2 (fun e=>hne e.symm) lc lb e.symm
    ·rw[hold' b _ g1,hold' c _ e1]
     exact hr.sep b c B C g1 e1 hne
 ·rcases hcase b _ hb with⟨_,g⟩|⟨g1,g2⟩
  ·exact h1.own b B g
  ·rw[hold' b _ g1];exact hr.own b B g1
 ·show(updH st.H out b).isSome=true
  rw[hsome];exact h1.clT t b hb
 ·show(updH st.H out b).isSome=true
  rw[hsome]
  rcases hcase c B hc with⟨_,g⟩|⟨g1,g2⟩
  ·exact h1.clH c B g b hb
  ·exact h1.clH c _ g2 b hb
end Go.Proofs.Ytlmmgjngihlpeaa.Sx
