/- A symbolic evaluator for the machine's code, part N: whole functions, loops. Our own work. -/
import Derived.Test.YtlmmgjngihlpeaaSxM
namespace Go.Proofs.Ytlmmgjngihlpeaa.Sx
open Go
set_option linter.unusedVariables false
set_option linter.unusedSimpArgs false
variable {P:Program}
def evResV(tab:Tab)(t:TypeId)(R:List Seg):Option Val:=
 cond (has tab.sca t) (match R with| .one y::_=>some (.sv y)|_=>none) (match alook tab.agg t with|some n=>(segTake R n).map Val.agg|none=>none)
def evRes(tab:Tab)(st:St):ResultVar→Option Val
 | .tmp t=>match st.T t with
  | .vl x=>some x
  |_=>none
 | .cell t ty=>match st.T t with
  | .vl (.sv (.ptr b o))=>match st.H b with
   |some B=>match segAt B.2 o with
    |some R=>evResV tab ty R
    |none=>none
   |none=>none
  |_=>none
def evResL(tab:Tab)(st:St):List ResultVar→Option (List Val)
 |[]=>some []
 |r::rs=>match evRes tab st r with
  |some x=>match evResL tab st rs with
   |some xs=>some (x::xs)
   |none=>none
  |none=>none
def oneOf:List Val→TV
 |[x]=> .vl x
 |xs=> .tup xs
def bNames(H:Nat→Option Blk):List Nat→List Nat
 |[]=>[]
 |b::r=>(match H b with|some B=>nmL B.2|none=>[])++bNames H r
def cont(H:Nat→Option Blk)(b:Nat):List Seg:=match H b with|some B=>B.2|none=>[]
def newsOf(H:Nat→Option Blk)(nb:Nat)(ws:List Nat):List Nat:=(gather H 80 ws []).filter fun b=> !(Nat.blt b nb)
def toIdx(nb:Nat)(news:List Nat)(b:Nat):Nat:=cond (Nat.blt b nb) b (nb+idx news b)
def closedR(H:Nat→Option Blk)(nb:Nat)(news:List Nat)(bs:List Nat):Bool:=bs.all fun b=>Nat.blt b nb||has news b
def kindOk:List Seg→List Seg→Bool
 |_,[]=>true
 |[.rws _ _ _],[.rws _ _ _]=>true
 |[.rws _ _ _],_=>false
 |_,[.rws _ _ _]=>false
 |[.gro _ _],[.gro _ _]=>true
 |[.gro _ _],_=>false
 |[],_=>false
 |_,_=>true
def kindsOk(H:Nat→Option Blk):List Blk→Nat→Bool
 |[],_=>true
 |B::r,i=>cond B.1 (match H i with|some C=>kindOk B.2 C.2|none=>false) true&&kindsOk H r (i+1)
theorem kindOk_spec{B C:List Seg}(h:kindOk B C=true)(hC:Lv C)(hl:∀E l E' l',B=[.gro E l]→C=[.gro E' l']→l.length=l'.length):Lv B:=by
 by_cases hB:∃E l,B=[.gro E l]
 ·obtain⟨E,l,rfl⟩:=hB
  by_cases hC':∃E' l',C=[.gro E' l']
  ·obtain⟨E',l',rfl⟩:=hC'
   have:=hl E l E' l' rfl rfl
   intro h0
   subst h0
   exact hC (List.eq_nil_of_length_eq_zero this.symm)
  ·unfold kindOk at h
   split at h
   ·exact hC.elim
   ·exact hC.elim
   ·cases h
   ·exact hC.elim
   ·exact(hC' ⟨_,_,rfl⟩).elim
   ·cases h
   ·cases h
   ·rename_i r4 r3 r2 r1 r0;exact(r3 _ _ rfl).elim
 ·unfold kindOk at h
  split at h
  ·exact hC.elim
  ·exact hC.elim
  ·cases h
  ·exact hC.elim
  ·exact(hB ⟨_,_,rfl⟩).elim
  ·exact(hB ⟨_,_,rfl⟩).elim
  ·cases h
  ·unfold Lv
   split
   ·simp_all
   ·exact(hB ⟨_,_,rfl⟩).elim
   ·rename_i r4 r3 r2 r1 r0;exact(r4 _ _ _ rfl).elim
   ·trivial
theorem kinds_spec{H:Nat→Option Blk}:∀{Bs:List Blk} {i0:Nat},kindsOk H Bs i0=true→∀j B C,Bs[j]? =some (true,B)→H (i0+j)=some C→kindOk B C.2=true
 |[],i0,_,j,B,C,h,_=>by simp at h
 |(b,D)::r,i0,hf,j,B,C,h,hC=>by
  simp only[kindsOk,Bool.and_eq_true] at hf
  cases j with
  |zero=>
   simp only[List.getElem?_cons_zero,Option.some.injEq,Prod.mk.injEq] at h
   obtain⟨rfl,rfl⟩:=h
   rw[Nat.add_zero] at hC
   have:=hf.1
   rw[hC] at this
   exact this
  |succ j=>exact kinds_spec hf.2 j B C (by simpa using h) (by rw[show i0+1+j=i0+(j+1) by omega];exact hC)
section
variable {α:Type}
def flagsOk(H:Nat→Option Blk):List Blk→Nat→Bool
 |[],_=>true
 |B::r,i=>cond B.1 (match H i with|some (true,_)=>flagsOk H r (i+1)|_=>false) (flagsOk H r (i+1))
def evEnd(tab:Tab)(rs:List ResultVar)(Bs:List Blk)(nb:Nat)(bor:List Nat)(st:St)(k:TV→List (List Seg)→List (List Seg)→Option α):Option α:=
 match evResL tab st rs with
 |none=>none
 |some vals=>
  let v:=oneOf vals
  let news:=newsOf st.H nb (v.nm++bNames st.H bor)
  cond (nodupB news&&(closedR st.H nb news v.nm&&(closedR st.H nb news (bNames st.H bor)&&(closedR st.H nb news (bNames st.H news)&&(flagsOk st.H Bs 0&&(kindsOk st.H Bs 0&&news.all fun b=>match st.H b with|some (true,_)=>true|_=>false))))))
   (k (v.ren (toIdx nb news)) (bor.map fun b=>renL (toIdx nb news) (cont st.H b)) (news.map fun b=>renL (toIdx nb news) (cont st.H b))) none
def st0(args:List TV)(Bs:List Blk)(n:Nat):St:={T:=fun t=>match nth args t with|some x=>x|none=>tunk,H:=fun b=>nth Bs b,n:=n}
def evFun(tab:Tab)(h:Hd)(fn:Func)(args:List TV)(Bs:List Blk)(k:TV→List (List Seg)→List (List Seg)→Option α):Option α:=
 match fn.body with
 |none=>none
 |some c=>cond (Nat.ble args.length fn.ntmps&&Nat.ble Bs.length 1000)
   (ev tab h c (st0 args Bs fn.ntmps) fun e st=>match e with
    | .exit _=>none
    |_=>evEnd tab fn.results.toList Bs Bs.length (List.range Bs.length) st k) none
end
theorem load_val{tab:Tab}(ht:TabOk P tab){w0:World}{S:List Nat}{nb:Nat}{idb ids:Ids}{st:St}{a:Act}{w:World}(hr:Rep w0 S nb idb ids st a w){b o:Nat}{B:Blk}{R:List Seg}{t:TypeId}{x:Val}
  (hB:st.H b=some B) (hR:segAt B.2 o=some R) (h:evResV tab t R=some x):
  ∃v,(loadVar t ⟨(ids b).1,(ids b).2.1+o,none⟩).run P w= .ok v w∧x.R ids v∧∀c∈x.nm,(st.H c).isSome=true:=by
 obtain⟨q1,q2,q3,q4⟩:=segAt_spec (hr.blk b B hB).1 hR
 unfold evResV at h
 cases hs:has tab.sca t with
 |true=>
  rw[hs] at h
  simp only[cond_true] at h
  split at h
  ·rename_i y R'
   obtain rfl:=Option.some.inj h
   obtain⟨⟨d,hu,hd⟩,i,hi,hsz⟩:=ht.sca t hs
   obtain⟨_,_,_,hc⟩:=hr.blk b B hB
   have hy:(cellsL B.2)[o]? =some y:=by
    have hz:(cellsL (Seg.one y::R'))[0]? =some y:=by simp[cellsL,Seg.cells]
    rw[q2,List.getElem?_drop] at hz
    simpa using hz
   obtain⟨v,g1,g2,_⟩:=hc o y hy
   refine⟨v, ?_,g2,fun c hc'=>hr.clH b B hB c (cellsL_nm _ y (List.mem_of_getElem? hy) c hc')⟩
   simp[loadVar,isAgg_run hu,hd,g1]
  ·cases h
 |false=>
  rw[hs] at h
  simp only[cond_false] at h
  split at h
  ·rename_i n hn
   simp only[Option.map_eq_some_iff] at h
   obtain⟨l,hl,rfl⟩:=h
   obtain⟨p1,p2,p3,p4⟩:=segTake_spec q3 hl
   obtain⟨⟨d,hu,hd⟩,i,hi,hsz⟩:=ht.agg t n hn
   have hlen:o+n≤(cellsL B.2).length:=by rw[q2] at p1;simp at p1;omega
   obtain⟨cs,g1,g2⟩:=run_loadCells_rep (P:=P) hr hB hlen
   refine⟨.agg cs, ?_,⟨cs,rfl,p3,by rw[p2,q2];exact g2⟩,fun c hc=>hr.clH b B hB c (q4 c (p4 c hc))⟩
   simp[loadVar,isAgg_run hu,hd,sizeOf,typeInfo,hi,hsz,g1]
  ·cases h
def resSem(tmps:Array Value):ResultVar→Sem Value
 | .tmp t=>pure (tmps.getD t undef)
 | .cell a t=>do loadVar t (←asAddr (tmps.getD a undef))
theorem evResL_run{tab:Tab}(ht:TabOk P tab){w0:World}{S:List Nat}{nb:Nat}{idb ids:Ids}{st:St}{a:Act}{w:World}(hr:Rep w0 S nb idb ids st a w):
  ∀(rs:List ResultVar) (xs:List Val),evResL tab st rs=some xs→∃vs,(rs.mapM (resSem a.tmps)).run P w= .ok vs w∧VsR ids xs vs∧(∀c∈xs.flatMap Val.nm,(st.H c).isSome=true)∧vs.length=xs.length
 |[],xs,h=>by
  simp only[evResL,Option.some.injEq] at h;subst h
  exact⟨[],by simp,trivial,by simp,rfl⟩
 |r::rs,xs,h=>by
  simp only[evResL] at h
  split at h
  ·rename_i x hx
   split at h
   ·rename_i xs' hxs
    obtain rfl:=Option.some.inj h
    obtain⟨vs,h1,h2,h3,h4⟩:=evResL_run ht hr rs xs' hxs
    have hone:∃v,(resSem a.tmps r).run P w= .ok v w∧x.R ids v∧∀c∈x.nm,(st.H c).isSome=true:=by
     cases r with
     |tmp t=>
      simp only[evRes] at hx
      split at hx
      ·rename_i y hy
       obtain rfl:=Option.some.inj hx
       have e1:=hr.tmps t;have e2:=hr.clT t
       rw[hy] at e1 e2
       exact⟨_,rfl,e1,e2⟩
      ·cases hx
     |cell t ty=>
      simp only[evRes] at hx
      split at hx
      ·rename_i b o hp
       split at hx
       ·rename_i B hB
        split at hx
        ·rename_i R hR
         obtain⟨v,g1,g2,g3⟩:=load_val ht hr hB hR hx
         have e1:=hr.tmps t
         rw[hp] at e1
         have e1':a.tmps.getD t undef= .pointer (some ⟨(ids b).1,(ids b).2.1+o,none⟩):=e1
         refine⟨v, ?_,g2,g3⟩
         simp only[resSem,Sem.run_bind,e1',asAddr,Sem.run_pure,Result.andThen_ok]
         exact g1
        ·cases hx
       ·cases hx
      ·cases hx
    obtain⟨v,g1,g2,g3⟩:=hone
    refine⟨v::vs, ?_,⟨g2,h2⟩,fun c hc=> ?_,by simp[h4]⟩
    ·rw[List.mapM_cons];simp[g1,h1]
    ·simp only[List.flatMap_cons,List.mem_append] at hc
     rcases hc with hc|hc
     ·exact g3 c hc
     ·exact h3 c hc
   ·cases h
  ·cases h
theorem results_run{fn:Func}{tmps:Array Value}{w:World}{vs:List Value}(h:(fn.results.toList.mapM (resSem tmps)).run P w= .ok vs w):
  (results fn tmps).run P w= .ok (if hh:vs.length=1 then vs[0] else .tuple vs.toArray) w:=by
 have hm:(fn.results.mapM (resSem tmps)).run P w= .ok vs.toArray w:=by
  rw[Array.mapM_eq_mapM_toList]
  simp[h]
 have hres:results fn tmps=(do let vs←fn.results.mapM (resSem tmps);pure (if h:vs.size=1 then vs[0] else .tuple vs)):=by
  unfold results resSem
  congr 1
 rw[hres,Sem.run_bind,hm]
 simp
theorem oneOf_R{ids:Ids}:∀{xs:List Val} {vs:List Value},VsR ids xs vs→xs≠ []→(oneOf xs).R ids (if hh:vs.length=1 then vs[0] else .tuple vs.toArray)
 |[x],[v],h,_=>h.1
 |x::y::xs,v::u::vs,h,_=>by
  simp only[oneOf,TV.R]
  exact⟨(v::u::vs).toArray,by simp,by simpa using h⟩
 |[x],v::u::vs,h,_=>h.2.elim
 |x::y::xs,[v],h,_=>h.2.elim
 |[],_,_,hne=>absurd rfl hne
 |_::_,[],h,_=>h.elim
theorem oneOf_R0{ids:Ids}{vs:List Value}(h:VsR ids [] vs):(oneOf []).R ids (if hh:vs.length=1 then vs[0] else .tuple vs.toArray):=by
 cases vs with
 |nil=>exact⟨#[],rfl,trivial⟩
 |cons v vs=>exact h.elim
theorem wrOf_of{ids:Ids}:∀{Bs:List Blk} {i j:Nat} {B:List Seg},Bs[j]? =some (true,B)→Lv B→(ids (i+j)).1∈wrOf ids Bs i
 |[],i,j,B,h,_=>by simp at h
 |(b,C)::r,i,0,B,h,hl=>by simp at h;obtain⟨rfl,rfl⟩:=h;simp[wrOf,lvB_iff.2 hl]
 |(b,C)::r,i,j+1,B,h,hl=>by
  have:=wrOf_of (ids:=ids) (Bs:=r) (i:=i+1) (j:=j) (by simpa using h) hl
  rw[show i+1+j=i+(j+1) by omega] at this
  cases hb:(b&&lvB C)<;>simp[wrOf,this,hb]
theorem rep_start{ids:Ids}{Bs:List Blk}{w:World}{args:List TV}{cargs:List Value}{n:Nat}(hH:HRep ids Bs w)(hA:TsR ids args cargs)(hnm:∀x∈args,∀b∈x.nm,b<Bs.length)(hl:Bs.length≤1000)(hn:args.length≤n):
  Rep w (wrAll w ids Bs) Bs.length ids ids (st0 args Bs n) {tmps:=cargs.toArray++Array.replicate (n-cargs.toArray.size) undef,defers:=[]} w:=by
 have hlen:∀{xs:List TV} {vs:List Value},TsR ids xs vs→xs.length=vs.length:=by
  intro xs
  induction xs with
  |nil=>intro vs h;cases vs<;>first|rfl|exact h.elim
  |cons x xs ih=>intro vs h;cases vs<;>first|exact h.elim|(simp[ih h.2])
 have hcl:=hlen hA
 have hget:∀{xs:List TV} {vs:List Value} (t:Nat),TsR ids xs vs→(match nth xs t with|some x=>x|none=>tunk).R ids (vs.getD t undef):=by
  intro xs
  induction xs with
  |nil=>intro vs t h;trivial
  |cons x xs ih=>
   intro vs t h
   cases vs with
   |nil=>exact h.elim
   |cons v vs=>
    cases t with
    |zero=>simpa[nth] using h.1
    |succ t=>simpa[nth] using ih t h.2
 refine⟨⟨rfl,rfl,rfl,Nat.le_refl _,fun _ _ _=>rfl⟩,(by simp[st0];omega),rfl,fun t=> ?_,fun _ _=>rfl,fun b B hb=>hH.blk b B (by rw[←nth_eq];exact hb),fun b c B C hb hc hne=>hH.sep b c B C (by rw[←nth_eq];exact hb) (by rw[←nth_eq];exact hc) hne,
  fun b B hb hlv=> ?_,fun t b hb=> ?_,fun c B hc b hb=> ?_,hl, ?_⟩
 ·have h1:=hget (vs:=cargs) t hA
  by_cases ht:t<cargs.length
  ·have:(cargs.toArray++Array.replicate (n-cargs.toArray.size) undef).getD t undef=cargs.getD t undef:=by
    simp[Array.getElem?_append,ht]
   show TV.R ids _ ((cargs.toArray++Array.replicate (n-cargs.toArray.size) undef).getD t undef)
   rw[this];exact h1
  ·have:nth args t=none:=by rw[nth_eq,List.getElem?_eq_none];omega
   simp only[st0,this]
   trivial
 ·left
  have:=wrOf_of (ids:=ids) (Bs:=Bs) (i:=0) (j:=b) (B:=B) (by rw[←nth_eq];exact hb) hlv
  exact List.mem_append_left _ (by simpa using this)
 ·show((fun b=>nth Bs b) b).isSome=true
  have hb':b<Bs.length:=by
   simp only[st0] at hb
   split at hb
   ·rename_i x hx
    rw[nth_eq] at hx
    exact hnm x (List.mem_of_getElem? hx) b hb
   ·cases hb
  simp[nth_eq,hb']
 ·show((fun b=>nth Bs b) b).isSome=true
  have:=hH.cl c B (by rw[←nth_eq];exact hc) b hb
  simp[nth_eq,this]
 ·have he:(st0 args Bs n).H=fun i=>Bs[i]? :=by funext i;exact nth_eq Bs i
  rw[he]
  exact⟨hH.hid.fl,hH.hid.rel,fun b B hb g hg=>(hH.hid.own b B hb g hg).imp_left fun h=>List.mem_append_right _ h,hH.hid.sepL,hH.hid.sepH⟩
theorem flags_spec{H:Nat→Option Blk}:∀{Bs:List Blk} {i0:Nat},flagsOk H Bs i0=true→∀j B,Bs[j]? =some (true,B)→∃C,H (i0+j)=some (true,C)
 |[],i0,_,j,B,h=>by simp at h
 |(b,C)::r,i0,hf,j,B,h=>by
  simp only[flagsOk] at hf
  cases j with
  |zero=>
   simp only[List.getElem?_cons_zero,Option.some.injEq,Prod.mk.injEq] at h
   obtain⟨rfl,rfl⟩:=h
   simp only[cond_true] at hf
   split at hf
   ·rename_i D hD;exact⟨D,hD⟩
   ·cases hf
  |succ j=>
   have hr:flagsOk H r (i0+1)=true:=by
    cases b with
    |false=>exact hf
    |true=>
     simp only[cond_true] at hf
     split at hf
     ·exact hf
     ·cases hf
   obtain⟨D,hD⟩:=flags_spec hr j B (by simpa using h)
   exact⟨D,by rw[show i0+(j+1)=i0+1+j by omega];exact hD⟩
theorem closedR_spec{H:Nat→Option Blk}{nb:Nat}{news bs:List Nat}(h:closedR H nb news bs=true):∀b∈bs,b<nb∨b∈news:=by
 intro b hb
 simp only[closedR,List.all_eq_true,Bool.or_eq_true] at h
 rcases h b hb with h|h
 ·exact .inl (by simpa using h)
 ·exact .inr (has_mem h)
theorem bNames_mem{H:Nat→Option Blk}:∀{l:List Nat} {b:Nat} {B:Blk},b∈l→H b=some B→∀c∈nmL B.2,c∈bNames H l
 |c::l,b,B,hb,hH,x,hx=>by
  simp only[bNames,List.mem_append]
  rcases List.mem_cons.1 hb with rfl|hb
  ·left;rw[hH];exact hx
  ·exact .inr (bNames_mem hb hH x hx)
theorem newsOf_ge{H:Nat→Option Blk}{nb:Nat}{ws:List Nat}:∀b∈newsOf H nb ws,nb≤b:=by
 intro b hb
 simp only[newsOf,List.mem_filter,Bool.not_eq_true'] at hb
 have:=hb.2
 rcases Nat.lt_or_ge b nb with h|h
 ·rw[show Nat.blt b nb=true by simpa using h] at this;cases this
 ·exact h
theorem wrAll_mem{ids:Ids}{Bs:List Blk}{w:World}(hH:HRep ids Bs w){g:Nat}(h:g∈wrAll w ids Bs):∃m D,Bs[m]? =some (true,D)∧inB w ids m D g:=by
 rcases List.mem_append.1 h with h|h
 ·obtain⟨m,D,h1,h2,h3⟩:=wrOf_mem h
  rw[Nat.zero_add] at h3
  exact⟨m,D,h1, .inl ⟨h2,h3⟩⟩
 ·obtain⟨m,D,h1,h2⟩:=hwOf_mem h
  rw[Nat.zero_add] at h2
  obtain⟨wr,D⟩:=D
  have:=hH.hid.fl m _ h1 (by
   obtain⟨E,ll,hh,he⟩:=foot_of h2
   rw[he];rfl)
  simp only at this
  subst this
  exact⟨m,D,h1, .inr h2⟩
theorem HRep.inB_lt{ids:Ids}{Bs:List Blk}{w:World}(hH:HRep ids Bs w){i:Nat}{B:Blk}{g:Nat}(hb:Bs[i]? =some B)(h:inB w ids i B.2 g):g<w.heap.size:=by
 rcases h with⟨l1,h1⟩|h1
 ·rw[h1];exact(hH.blk i B hb).2.2.1 l1
 ·exact(hH.hid.rel i B hb).lt g h1
theorem HRep.quiet{ids:Ids}{Bs:List Blk}{w w':World}(hH:HRep ids Bs w)(hk:Keeps w w' (wrAll w ids Bs)){i:Nat}{B:List Seg}{g:Nat}(hb:Bs[i]? =some (false,B))(h:inB w ids i B g):w'.heap[g]? =w.heap[g]? :=by
 refine hk.block g (hH.inB_lt hb h) fun hw=> ?_
 obtain⟨m,D,h1,h2⟩:=wrAll_mem hH hw
 exact hH.sepA h1 hb (by rintro rfl;rw[h1] at hb;cases hb) h2 h
theorem evFunG_sound{α:Type}{tab:Tab}{h:Hd}(ht:TabOk P tab)(hc:h.CallsOk P)(hm:P.follows .mixedOrders=true){f:FuncId}{fn:Func}(hf:P.funcs[f]? =some fn)
  (hname:(fn.name== "runtime.NumGoroutine")=false) (hl:∀c,fn.body=some c→LoopsOk P h c) {args:List TV} {Bs:List Blk} {k:TV→List (List Seg)→List (List Seg)→Option α} {r:α} {c:Code} (hbody:fn.body=some c)
  (hcond:(Nat.ble args.length fn.ntmps&&Nat.ble Bs.length 1000)=true) {st1:St} (hto:∀w0 S nb idb a w,RepSt w0 S nb idb (st0 args Bs fn.ntmps) a w→RepSt w0 S nb idb st1 a w)
  (hev:(ev tab h c st1 fun e st=>match e with
    | .exit _=>none
    |_=>evEnd tab fn.results.toList Bs Bs.length (List.range Bs.length) st k)=some r):∃v Bs' Ns,k v Bs' Ns=some r∧FnS P f args Bs v Bs' Ns:=by
   simp only[Bool.and_eq_true] at hcond
   obtain⟨e,stF,hend,hcode⟩:=ev_sound ht hc hm c _ _ r (hl c hbody) hev
   have hend':evEnd tab fn.results.toList Bs Bs.length (List.range Bs.length) stF k=some r∧(e= .normal∨e= .ret):=by
    cases e with
    |normal=>exact⟨hend, .inl rfl⟩
    |ret=>exact⟨hend, .inr rfl⟩
    |exit id=>cases hend
   obtain⟨hend,he⟩:=hend'
   unfold evEnd at hend
   split at hend
   ·cases hend
   ·rename_i vals hvals
    simp only at hend
    generalize hnews:newsOf stF.H Bs.length ((oneOf vals).nm++bNames stF.H (List.range Bs.length))=news at hend
    cases hchk:(nodupB news&&(closedR stF.H Bs.length news (oneOf vals).nm&&(closedR stF.H Bs.length news (bNames stF.H (List.range Bs.length))&&(closedR stF.H Bs.length news (bNames stF.H news)&&
      (flagsOk stF.H Bs 0&&(kindsOk stF.H Bs 0&&news.all fun b=>match stF.H b with|some (true,_)=>true|_=>false)))))) with
    |false=>rw[hchk] at hend;cases hend
    |true=>
     rw[hchk] at hend
     simp only[cond_true] at hend
     simp only[Bool.and_eq_true] at hchk
     obtain⟨k1,k2,k3,k4,k5,k7,k6⟩:=hchk
     refine⟨_,_,_,hend,by simp,⟨fn,hf,by rw[hbody];rfl,hname⟩,fun ids w cargs hH hA hnm hle=> ?_⟩
     have hnd:=nodup_spec k1
     have c2:=closedR_spec k2
     have c3:=closedR_spec k3
     have c4:=closedR_spec k4
     have c5:=flags_spec k5
     have c7:=kinds_spec k7
     have hge:∀b∈news,Bs.length≤b:=by rw[←hnews];exact newsOf_ge
     have c6:∀b∈news,∃C,stF.H b=some (true,C):=by
      intro b hb
      simp only[List.all_eq_true] at k6
      have:=k6 b hb
      split at this
      ·rename_i C hC;exact⟨C,hC⟩
      ·cases this
     have hstart:=rep_start hH hA hnm hle (Nat.le_of_ble_eq_true hcond.1)
     refine calls_of_wp hf hbody (wp_mono (hcode w (wrAll w ids Bs) Bs.length ids _ w (hto _ _ _ _ _ _ ⟨ids,hstart⟩)) ?_)
     rintro e' a' w' ⟨rfl,idsF,hr⟩
     obtain⟨vs,r1,r2,r3,r4⟩:=evResL_run ht hr fn.results.toList vals hvals
     have hres:=results_run r1
     generalize hcv:(if hh:vs.length=1 then vs[0] else Value.tuple vs.toArray)=cv at hres
     have hval:(oneOf vals).R idsF cv:=by
      rw[←hcv]
      cases vals with
      |nil=>exact oneOf_R0 r2
      |cons x xs=>exact oneOf_R r2 (by simp)
     have hbp:bodyPost P fn (fun e w'=>∃ids' cv',e= .returned cv'∧RetOk Bs ((oneOf vals).ren (toIdx Bs.length news)) ((List.range Bs.length).map fun b=>renL (toIdx Bs.length news) (cont stF.H b))
       (news.map fun b=>renL (toIdx Bs.length news) (cont stF.H b)) ids w ids' cv' w') .ret a' w':=by
      refine⟨hr.defers,cv,hres,fun i=>cond (Nat.blt i Bs.length) (idsF i) (idsF (news.getD (i-Bs.length) 0)),cv,rfl, ?_⟩
      have hlow:∀i,i<Bs.length→(cond (Nat.blt i Bs.length) (idsF i) (idsF (news.getD (i-Bs.length) 0)))=idsF i:=fun i hi=>by
       rw[show Nat.blt i Bs.length=true by simpa using hi];rfl
      have hhigh:∀j,(cond (Nat.blt (Bs.length+j) Bs.length) (idsF (Bs.length+j)) (idsF (news.getD (Bs.length+j-Bs.length) 0)))=idsF (news.getD j 0):=fun j=>by
       rw[blt_false (show¬Bs.length+j<Bs.length by omega)]
       show idsF _=_
       congr 2;omega
      have hto:∀b,(b<Bs.length∨b∈news)→(fun i=>cond (Nat.blt i Bs.length) (idsF i) (idsF (news.getD (i-Bs.length) 0))) (toIdx Bs.length news b)=idsF b∧toIdx Bs.length news b<Bs.length+news.length:=by
       intro b hb
       by_cases hlt:b<Bs.length
       ·have:toIdx Bs.length news b=b:=by unfold toIdx;rw[show Nat.blt b Bs.length=true by simpa using hlt];rfl
        rw[this];exact⟨hlow b hlt,by omega⟩
       ·have hbn:b∈news:=hb.resolve_left hlt
        have:toIdx Bs.length news b=Bs.length+idx news b:=by unfold toIdx;rw[blt_false hlt];rfl
        rw[this]
        obtain⟨h1,h2⟩:=idx_lt hbn
        refine⟨?_,by omega⟩
        have:=hhigh (idx news b)
        simp only at this⊢
        rw[this,h2]
      have hsame:∀i,i<Bs.length→idsF i=ids i:=hr.bor
      have hblkF:∀(b:Nat) (C:Blk),stF.H b=some C→(b<Bs.length∨b∈news)→∀q,(cond (Nat.blt q Bs.length) (idsF q) (idsF (news.getD (q-Bs.length) 0)))=idsF b→
        (∀c∈nmL C.2,c<Bs.length∨c∈news)→BlkR (fun i=>cond (Nat.blt i Bs.length) (idsF i) (idsF (news.getD (i-Bs.length) 0))) w' q (C.1,renL (toIdx Bs.length news) C.2):=by
       intro b C hC hb q hq hn
       obtain⟨g1,gg,g2,g3⟩:=hr.blk b C hC
       refine⟨renL_ok.2 g1,by simp only[hq];exact gg.ren,by simp only[hq];exact fun hl=>g2 (renL_Lv.1 hl),fun j x hx=> ?_⟩
       simp only[renL_cells,List.getElem?_map,Option.map_eq_some_iff] at hx
       obtain⟨y,hy,rfl⟩:=hx
       obtain⟨u,u1,u2,u3⟩:=g3 j y hy
       simp only[hq]
       exact⟨u,u1,SV.ren_R.2 (u2.congr fun c hc=>(hto c (hn c (cellsL_nm _ y (List.mem_of_getElem? hy) c hc))).1),u3⟩
      have hnget:∀j,j<news.length→news.getD j 0∈news:=fun j hj=>by
       have:news[j]? =some (news.getD j 0):=by simp[List.getElem?_eq_getElem hj]
       exact List.mem_of_getElem? this
      have hlenA:(afterB Bs ((List.range Bs.length).map fun b=>renL (toIdx Bs.length news) (cont stF.H b))).length=Bs.length:=afterB_length (by simp)
      have hAfter:∀i (hi:i<Bs.length),(afterB Bs ((List.range Bs.length).map fun b=>renL (toIdx Bs.length news) (cont stF.H b)))[i]? =some (Bs[i].1,cond Bs[i].1 (renL (toIdx Bs.length news) (cont stF.H i)) Bs[i].2):=fun i hi=>
       afterB_get (by simp[hi]) (by simp[hi])
      -- an entry of the list behind the call
      have hent:∀(i:Nat) (B:Blk),(afterB Bs ((List.range Bs.length).map fun b=>renL (toIdx Bs.length news) (cont stF.H b))++(news.map fun b=>renL (toIdx Bs.length news) (cont stF.H b)).map fun N=>(true,N))[i]? =some B→
        (i<Bs.length∧∃B0,Bs[i]? =some B0∧B.1=B0.1∧((B0.1=true∧∃C,stF.H i=some (true,C)∧B.2=renL (toIdx Bs.length news) C)∨(B0.1=false∧B.2=B0.2)))∨
        (∃j,j<news.length∧i=Bs.length+j∧∃C,stF.H (news.getD j 0)=some (true,C)∧B=(true,renL (toIdx Bs.length news) C)):=by
       intro i B hB
       by_cases hi:i<Bs.length
       ·left
        rw[List.getElem?_append_left (by rw[hlenA];exact hi),hAfter i hi] at hB
        obtain rfl:=Option.some.inj hB
        refine⟨hi,Bs[i],by simp[hi],rfl, ?_⟩
        cases hwr:Bs[i].1 with
        |true=>
         left
         obtain⟨C,hC⟩:=c5 i Bs[i].2 (by rw[List.getElem?_eq_getElem hi,←hwr])
         rw[Nat.zero_add] at hC
         exact⟨rfl,C,hC,by simp[cont,hC]⟩
        |false=>right;exact⟨rfl,rfl⟩
       ·right
        rw[List.getElem?_append_right (by rw[hlenA];omega),hlenA,List.getElem?_map,List.getElem?_map] at hB
        simp only[Option.map_eq_some_iff] at hB
        obtain⟨N,⟨b,hb,rfl⟩,rfl⟩:=hB
        have hjl:i-Bs.length<news.length:=(List.getElem?_eq_some_iff.1 hb).1
        have hgb:news.getD (i-Bs.length) 0=b:=by simp[List.getD,hb]
        obtain⟨C,hC⟩:=c6 b (List.mem_of_getElem? hb)
        exact⟨i-Bs.length,hjl,by omega,C,by rw[hgb];exact hC,by simp[cont,hC]⟩
      have hrange:∀i,i<Bs.length→∀C,stF.H i=some C→∀c∈nmL C.2,c<Bs.length∨c∈news:=fun i hi C hC c hc=>c3 c (bNames_mem (List.mem_range.2 hi) hC c hc)
      have hnewsn:∀b∈news,∀C,stF.H b=some C→∀c∈nmL C.2,c<Bs.length∨c∈news:=fun b hb C hC c hc=>c4 c (bNames_mem hb hC c hc)
      have hmid:∀(i:Nat) (B:Blk) (g:Nat),(afterB Bs ((List.range Bs.length).map fun b=>renL (toIdx Bs.length news) (cont stF.H b))++(news.map fun b=>renL (toIdx Bs.length news) (cont stF.H b)).map fun N=>(true,N))[i]? =some B→
        inB w' (fun i=>cond (Nat.blt i Bs.length) (idsF i) (idsF (news.getD (i-Bs.length) 0))) i B.2 g→
        (∃b C,stF.H b=some (true,C)∧inB w' idsF b C g∧B=(true,renL (toIdx Bs.length news) C)∧((i<Bs.length∧b=i)∨(Bs.length≤i∧Bs.length≤b∧news[i-Bs.length]? =some b)))∨
        (∃B0,Bs[i]? =some (false,B0)∧inB w ids i B0 g):=by
       intro i B g hB hg
       rcases hent i B hB with⟨hi,B0,hB0,e1,⟨e2,C,hC,e3⟩|⟨e2,e3⟩⟩|⟨j,hj,rfl,C,hC,rfl⟩
       ·refine .inl ⟨i,C,hC, ?_,Prod.ext (e1.trans e2) e3, .inl ⟨hi,rfl⟩⟩
        unfold inB at*
        rw[e3,foot_ren] at hg
        simp only[hlow i hi] at hg
        exact hg.imp_left fun h=>⟨renL_Lv.1 h.1,h.2⟩
       ·obtain⟨wr,B0⟩:=B0
        simp only at e2 e3
        subst e2
        refine .inr ⟨B0,hB0, ?_⟩
        unfold inB at*
        rw[e3] at hg
        simp only[hlow i hi] at hg
        rw[hsame i hi] at hg
        refine hg.imp_right fun h=> ?_
        rwa[foot_congr fun hm=>hH.quiet hr.keeps hB0 (.inr hm)] at h
       ·refine .inl ⟨_,C,hC, ?_,rfl, .inr ⟨by omega,hge _ (hnget j hj),by rw[show Bs.length+j-Bs.length=j by omega];simp[List.getElem?_eq_getElem hj]⟩⟩
        unfold inB at*
        rw[foot_ren] at hg
        simp only[hhigh] at hg
        exact hg.imp_left fun h=>⟨renL_Lv.1 h.1,h.2⟩
      have hsepA:∀(i j:Nat) (B:List Seg) (C:Blk) (g:Nat),(afterB Bs ((List.range Bs.length).map fun b=>renL (toIdx Bs.length news) (cont stF.H b))++(news.map fun b=>renL (toIdx Bs.length news) (cont stF.H b)).map fun N=>(true,N))[i]? =some (true,B)→
        (afterB Bs ((List.range Bs.length).map fun b=>renL (toIdx Bs.length news) (cont stF.H b))++(news.map fun b=>renL (toIdx Bs.length news) (cont stF.H b)).map fun N=>(true,N))[j]? =some C→i≠j→
        inB w' (fun i=>cond (Nat.blt i Bs.length) (idsF i) (idsF (news.getD (i-Bs.length) 0))) i B g→inB w' (fun i=>cond (Nat.blt i Bs.length) (idsF i) (idsF (news.getD (i-Bs.length) 0))) j C.2 g→False:=by
       intro i j B C g hB hC hne h1 h2
       have hflag:∀B0,Bs[i]? =some (false,B0)→False:=by
        intro B0 h0
        have hi:i<Bs.length:=(List.getElem?_eq_some_iff.1 h0).1
        rw[List.getElem?_append_left (by rw[hlenA];exact hi),hAfter i hi] at hB
        have:=congrArg Prod.fst (Option.some.inj hB)
        rw[List.getElem?_eq_getElem hi] at h0
        rw[Option.some.inj h0] at this
        cases this
       rcases hmid i _ g hB h1 with⟨b,D,b1,b2,b3,b4⟩|⟨B0,b1,b2⟩
       ·rcases hmid j _ g hC h2 with⟨c,E,d1,d2,d3,d4⟩|⟨C0,d1,d2⟩
        ·refine hr.sepA b1 d1 (fun e=> ?_) b2 d2
         subst e
         rcases b4 with⟨b4,b5⟩|⟨b4,b5,b6⟩<;>rcases d4 with⟨d4,d5⟩|⟨d4,d5,d6⟩
         ·exact hne (b5.symm.trans d5)
         ·omega
         ·omega
         ·have:=nodup_get hnd b6 d6
          exact hne (by omega)
        ·rcases hr.inB_own b1 b2 with h|h
         ·obtain⟨m,F,f1,f2⟩:=wrAll_mem hH h
          exact hH.sepA f1 d1 (by rintro rfl;rw[f1] at d1;cases d1) f2 d2
         ·have:=hH.inB_lt d1 d2;omega
       ·exact hflag _ b1
      have hAfl:∀(i:Nat) (B:Blk),(afterB Bs ((List.range Bs.length).map fun b=>renL (toIdx Bs.length news) (cont stF.H b))++(news.map fun b=>renL (toIdx Bs.length news) (cont stF.H b)).map fun N=>(true,N))[i]? =some B→noRws B.2=false→B.1=true:=by
       intro i B hB hno
       rcases hent i B hB with⟨hi,B0,hB0,e1,⟨e2,C,hC,e3⟩|⟨e2,e3⟩⟩|⟨j,hj,rfl,C,hC,rfl⟩
       ·exact e1.trans e2
       ·rw[e3] at hno;exact e1.trans (hH.hid.fl i B0 hB0 hno)
       ·rfl
      have hAfl':∀(i:Nat) (B:Blk) (p:Nat×Nat×Nat×Nat) (g:Nat),(afterB Bs ((List.range Bs.length).map fun b=>renL (toIdx Bs.length news) (cont stF.H b))++(news.map fun b=>renL (toIdx Bs.length news) (cont stF.H b)).map fun N=>(true,N))[i]? =some B→g∈foot w' p B.2→B=(true,B.2):=
       fun i B p g hB hg=>Prod.ext (hAfl i B hB (by
        obtain⟨E,ll,hh,he⟩:=foot_of hg
        rw[he];rfl)) rfl
      refine⟨fun i hi=> ?_, ?_,⟨fun i B hB=> ?_,fun i j B C hB hC hne=> ?_,fun i B hB b hb=> ?_,⟨hAfl,fun i B hB=> ?_,fun i B hB g hg=> .inl (hwOf_of (i:=0) hB (by rw[Nat.zero_add];exact hg)),fun i j B C hB hC lc hg=> ?_,fun i j B C hB hC hne g hg hg2=> ?_⟩⟩,hr.keeps,fun i B C hB hC hl=> ?_,fun j N hj hl=> ?_,fun i B hB g hg=> ?_,fun b hb=> ?_⟩
      ·simp only[hlow i hi];exact hsame i hi
      ·exact TV.ren_R.2 (hval.congr fun b hb=>(hto b (c2 b hb)).1)
      ·rcases hent i B hB with⟨hi,B0,hB0,e1,⟨e2,C,hC,e3⟩|⟨e2,e3⟩⟩|⟨j,hj,rfl,C,hC,rfl⟩
       ·have:=hblkF i (true,C) hC (.inl hi) i (hlow i hi) (hrange i hi _ hC)
        rw[show B=(true,renL (toIdx Bs.length news) C) from Prod.ext (e1.trans e2) e3]
        exact this
       · -- not written:as it was
        have h0:=hH.blk i B0 hB0
        have hBB:B=B0:=Prod.ext e1 e3
        rw[hBB]
        refine h0.congr (by simp only[hlow i hi];exact hsame i hi) (fun c hc=> ?_) hr.keeps.size (fun hlv=> ?_)
        ·have:=hH.cl i B0 hB0 c hc
         simp only[hlow c this];exact hsame c this
        ·obtain⟨wr,B0⟩:=B0
         simp only at e2
         subst e2
         exact hH.quiet hr.keeps hB0 (.inl ⟨hlv,rfl⟩)
       ·exact hblkF (news.getD j 0) (true,C) hC (.inr (hnget j hj)) (Bs.length+j) (hhigh j) (hnewsn _ (hnget j hj) _ hC)
      ·intro lb lc e
       exact hsepA i j B C _ hB hC hne (.inl ⟨lb,rfl⟩) (.inl ⟨lc,e⟩)
      ·have hlenT:(afterB Bs ((List.range Bs.length).map fun b=>renL (toIdx Bs.length news) (cont stF.H b))++(news.map fun b=>renL (toIdx Bs.length news) (cont stF.H b)).map fun N=>((true,N):Blk)).length=Bs.length+news.length:=by
        rw[List.length_append,hlenA];simp
       rw[hlenT]
       rcases hent i B hB with⟨hi,B0,hB0,e1,⟨e2,C,hC,e3⟩|⟨e2,e3⟩⟩|⟨j,hj,rfl,C,hC,rfl⟩
       ·rw[e3,renL_nm,List.mem_map] at hb
        obtain⟨c,hc,rfl⟩:=hb
        exact(hto c (hrange i hi _ hC c hc)).2
       ·rw[e3] at hb
        have:=hH.cl i B0 hB0 b hb;omega
       ·simp only[renL_nm,List.mem_map] at hb
        obtain⟨c,hc,rfl⟩:=hb
        exact(hto c (hnewsn _ (hnget j hj) _ hC c hc)).2
      ·rcases hent i B hB with⟨hi,B0,hB0,e1,⟨e2,C,hC,e3⟩|⟨e2,e3⟩⟩|⟨j,hj,rfl,C,hC,rfl⟩
       ·rw[e3]
        exact(hr.hid.rel i _ hC).ren (by simp only[hlow i hi]) fun c hc=>(hto c (hrange i hi _ hC c hc)).1
       ·refine .of_no ?_
        cases hno:noRws B.2 with
        |true=>rfl
        |false=>
         have:=hAfl i B hB hno
         rw[e1,e2] at this;cases this
       ·exact(hr.hid.rel _ _ hC).ren (by simp only[hhigh j]) fun c hc=>(hto c (hnewsn _ (hnget j hj) _ hC c hc)).1
      ·have hB':=hAfl' i B _ _ hB hg
       rw[hB'] at hB hg
       refine hsepA i j _ C _ hB hC (fun e=> ?_) (.inr hg) (.inl ⟨lc,rfl⟩)
       subst e
       rw[hB] at hC
       obtain rfl:=Option.some.inj hC
       obtain⟨E,ll,hh,he⟩:=foot_of hg
       dsimp only at he lc
       rw[he] at lc
       exact lc
      ·have hB':=hAfl' i B _ _ hB hg
       rw[hB'] at hB hg
       exact hsepA i j _ C _ hB hC hne (.inr hg) (.inr hg2)
      ·have hi:i<Bs.length:=(List.getElem?_eq_some_iff.1 hB).1
       obtain⟨D,hD⟩:=c5 i B hB
       rw[Nat.zero_add] at hD
       simp only[List.getElem?_map,List.getElem?_range hi,Option.map_some,Option.some.injEq] at hC
       subst hC
       rw[show cont stF.H i=D by simp[cont,hD]] at hl
       have lD:=renL_Lv.1 hl
       refine kindOk_spec (c7 i B (true,D) hB (by rw[Nat.zero_add];exact hD)) lD fun E1 l1 E2 l2 h1 h2=> ?_
       have b1:=(hH.blk i _ hB).2.1
       have b2:=(hr.blk i _ hD).2.1
       simp only at h2
       subst h1;subst h2
       rw[←b1.1,←b2.1,hsame i hi]
      ·have hjl:j<news.length:=by simpa using(List.getElem?_eq_some_iff.1 hj).1
       obtain⟨C,hC⟩:=c6 _ (hnget j hjl)
       simp only[List.getElem?_map,List.getElem?_eq_getElem hjl,Option.map_some,Option.some.injEq] at hj
       have hgd:news.getD j 0=news[j]:=by simp[List.getElem?_eq_getElem hjl]
       rw[←hgd,show cont stF.H (news.getD j 0)=C by unfold cont;rw[hC]] at hj
       subst hj
       have:=(hr.own _ C hC (renL_Lv.1 hl)).imp_right And.right
       simp only[hhigh];exact this.symm
      ·rcases hmid i B g hB (.inr hg) with⟨b,C,b1,b2,b3,b4⟩|⟨B0,b1,b2⟩
       ·exact(hr.inB_own b1 b2).symm
       ·have hB':=hAfl' i B _ _ hB hg
        have hi:i<Bs.length:=(List.getElem?_eq_some_iff.1 b1).1
        rw[List.getElem?_append_left (by rw[hlenA];exact hi),hAfter i hi] at hB
        have:=congrArg Prod.fst (Option.some.inj hB)
        rw[List.getElem?_eq_getElem hi] at b1
        rw[Option.some.inj b1,hB'] at this
        cases this
      ·simp only[TV.ren_nm,List.mem_map] at hb
       obtain⟨c,hc,rfl⟩:=hb
       simpa using(hto c (c2 c hc)).2
     rcases he with rfl|rfl
     ·exact hbp
     ·exact hbp
theorem evFun_sound{α:Type}{tab:Tab}{h:Hd}(ht:TabOk P tab)(hc:h.CallsOk P)(hm:P.follows .mixedOrders=true){f:FuncId}{fn:Func}(hf:P.funcs[f]? =some fn)
  (hname:(fn.name== "runtime.NumGoroutine")=false) (hl:∀c,fn.body=some c→LoopsOk P h c) {args:List TV} {Bs:List Blk} {k:TV→List (List Seg)→List (List Seg)→Option α} {r:α}
  (hev:evFun tab h fn args Bs k=some r):∃v Bs' Ns,k v Bs' Ns=some r∧FnS P f args Bs v Bs' Ns:=by
 unfold evFun at hev
 split at hev
 ·cases hev
 ·rename_i c hbody
  cases hcond:(Nat.ble args.length fn.ntmps&&Nat.ble Bs.length 1000) with
  |false=>rw[hcond] at hev;cases hev
  |true=>
   rw[hcond] at hev
   exact evFunG_sound ht hc hm hf hname hl hbody hcond (fun _ _ _ _ _ _ h=>h) hev
def mvR(b c x:Nat):Nat:=cond (Nat.beq x b) c x
def moveSt(st:St)(b c:Nat):St where
 T:=fun t=>(st.T t).ren (mvR b c)
 H:=fun x=>cond (Nat.beq x c) (st.H b) (cond (Nat.beq x b) (some (true,[])) (match st.H x with|some B=>some (B.1,renL (mvR b c) B.2)|none=>none))
 n:=st.n
theorem Rep.move{w0:World}{S:List Nat}{nb:Nat}{idb ids:Ids}{st:St}{a:Act}{w:World}(h:Rep w0 S nb idb ids st a w){b c:Nat}{E:EK}{l:List E.T}(hb:st.H b=some (true,[.gro E l]))(hc:st.H c=none)(hnb:nb≤c):
  Rep w0 S nb idb (freshIds ids c (ids b)) (moveSt st b c) a w:=by
 have hdom:∀d,(st.H d).isSome=true→d≠c:=fun d hd e=>by subst e;rw[hc] at hd;cases hd
 have hbc:b≠c:=hdom b (by rw[hb];rfl)
 have hmv:∀d,(st.H d).isSome=true→freshIds ids c (ids b) (mvR b c d)=ids d:=fun d hd=>by
  unfold mvR
  by_cases hdb:d=b
  ·subst hdb;rw[Nat.beq_refl];exact freshIds_eq
  ·rw[beq_ne hdb];exact freshIds_ne (hdom d hd)
 have hH:∀x,(moveSt st b c).H x=if x=c then some (true,[.gro E l]) else if x=b then some (true,[]) else(match st.H x with|some B=>some (B.1,renL (mvR b c) B.2)|none=>none):=fun x=>by
  simp only[moveSt]
  by_cases hxc:x=c
  ·subst hxc;rw[Nat.beq_refl,if_pos rfl];exact hb
  ·rw[beq_ne hxc,if_neg hxc]
   by_cases hxb:x=b
   ·subst hxb;rw[Nat.beq_refl,if_pos rfl];rfl
   ·rw[beq_ne hxb,if_neg hxb];rfl
 have hcase:∀d D,(moveSt st b c).H d=some D→(d=c∧D=(true,[.gro E l]))∨(d=b∧D=(true,[]))∨(d≠c∧d≠b∧∃D0,st.H d=some D0∧D=(D0.1,renL (mvR b c) D0.2)):=fun d D hd=>by
  rw[hH] at hd
  by_cases hdc:d=c
  ·rw[if_pos hdc] at hd;exact .inl ⟨hdc,(Option.some.inj hd).symm⟩
  ·rw[if_neg hdc] at hd
   by_cases hdb:d=b
   ·rw[if_pos hdb] at hd;exact .inr (.inl ⟨hdb,(Option.some.inj hd).symm⟩)
   ·rw[if_neg hdb] at hd
    refine .inr (.inr ⟨hdc,hdb, ?_⟩)
    cases hD:st.H d with
    |none=>rw[hD] at hd;cases hd
    |some D0=>rw[hD] at hd;exact⟨D0,rfl,(Option.some.inj hd).symm⟩
 have hs:∀d,(st.H d).isSome=true→((moveSt st b c).H (mvR b c d)).isSome=true:=fun d hd=>by
  rw[hH]
  unfold mvR
  by_cases hdb:d=b
  ·subst hdb;rw[Nat.beq_refl];simp
  ·rw[beq_ne hdb]
   simp only[cond_false]
   rw[if_neg (hdom d hd),if_neg hdb]
   cases hD:st.H d with
   |none=>rw[hD] at hd;cases hd
   |some D0=>rfl
 have hfr:∀d,d≠c→freshIds ids c (ids b) d=ids d:=fun d hd=>freshIds_ne hd
 -- what a block's objects are
 have hin:∀d (D:Blk) g,(moveSt st b c).H d=some D→inB w (freshIds ids c (ids b)) d D.2 g→∃e E',st.H e=some (D.1,E')∧inB w ids e E' g∧((d=c∧e=b)∨(d≠c∧d≠b∧e=d)):=fun d D g hd hg=>by
  rcases hcase d D hd with⟨rfl,rfl⟩|⟨rfl,rfl⟩|⟨h1,h2,D0,h3,rfl⟩
  ·refine⟨b,_,hb, ?_, .inl ⟨rfl,rfl⟩⟩
   unfold inB at*
   rw[freshIds_eq] at hg;exact hg
  ·rcases hg with⟨hg,_⟩|hg
   ·exact hg.elim
   ·rw[foot_no rfl] at hg;cases hg
  ·refine⟨d,D0.2,h3, ?_, .inr ⟨h1,h2,rfl⟩⟩
   unfold inB at*
   rw[hfr d h1,foot_ren] at hg
   exact hg.imp_left fun h=>⟨renL_Lv.1 h.1,h.2⟩
 have hsepA:∀d e D F g,(moveSt st b c).H d=some (true,D)→(moveSt st b c).H e=some F→d≠e→inB w (freshIds ids c (ids b)) d D g→inB w (freshIds ids c (ids b)) e F.2 g→False:=fun d e D F g hd he hne h1 h2=>by
  obtain⟨d',D',q1,q2,q3⟩:=hin d _ g hd h1
  obtain⟨e',F',p1,p2,p3⟩:=hin e F g he h2
  refine h.sepA q1 p1 (fun he'=> ?_) q2 p2
  subst he'
  rcases q3 with⟨q3,q4⟩|⟨q3,q4,q5⟩<;>rcases p3 with⟨p3,p4⟩|⟨p3,p4,p5⟩
  ·exact hne (q3.trans p3.symm)
  ·exact p4 (p5.symm.trans q4)
  ·exact q4 (q5.symm.trans p4)
  ·exact hne (q5.symm.trans p5)
 have hfl:∀d D,(moveSt st b c).H d=some D→noRws D.2=false→D.1=true:=fun d D hd hno=>by
  rcases hcase d D hd with⟨rfl,rfl⟩|⟨rfl,rfl⟩|⟨h1,h2,D0,h3,rfl⟩
  ·rfl
  ·rfl
  ·dsimp only at hno⊢;rw[noRws_ren] at hno;exact h.hid.fl d D0 h3 hno
 have hfl':∀d D p g,(moveSt st b c).H d=some D→g∈foot w p D.2→D=(true,D.2):=fun d D p g hd hg=>Prod.ext (hfl d D hd (by
  obtain⟨E,ll,hh,he⟩:=foot_of hg
  rw[he];rfl)) rfl
 refine⟨h.keeps,h.size,h.defers,fun t=> ?_,fun j hj=> ?_,fun d D hd=> ?_,fun d e D F hd he hne ld le heq=> ?_,fun d D hd ld=> ?_,fun t d hd=> ?_,fun d D hd e he=> ?_,h.lim,
  ⟨hfl,fun d D hd=> ?_,fun d D hd g hg=> ?_,fun d e D F hd he le hg=> ?_,fun d e D F hd he hne g hg hg2=> ?_⟩⟩
 ·show((st.T t).ren (mvR b c)).R _ _
  exact TV.ren_R.2 ((h.tmps t).congr fun d hd=>hmv d (h.clT t d hd))
 ·rw[hfr j (by omega)];exact h.bor j hj
 ·rcases hcase d D hd with⟨rfl,rfl⟩|⟨rfl,rfl⟩|⟨h1,h2,D0,h3,rfl⟩
  ·exact(h.blk b _ hb).at rfl freshIds_eq
  ·exact⟨(fun s hs=>nomatch hs),trivial,fun hl=>hl.elim,fun j x hx=>by simp[cellsL] at hx⟩
  ·obtain⟨q1,qg,q2,q3⟩:=h.blk d D0 h3
   refine⟨renL_ok.2 q1,by rw[hfr d h1];exact qg.ren,by rw[hfr d h1];exact fun hl=>q2 (renL_Lv.1 hl),fun j x hx=> ?_⟩
   simp only[renL_cells,List.getElem?_map,Option.map_eq_some_iff] at hx
   obtain⟨y,hy,rfl⟩:=hx
   obtain⟨u,u1,u2,u3⟩:=q3 j y hy
   rw[hfr d h1]
   exact⟨u,u1,SV.ren_R.2 (u2.congr fun e he=>hmv e (h.clH d D0 h3 e (cellsL_nm _ y (List.mem_of_getElem? hy) e he))),u3⟩
 ·exact hsepA d e D F _ hd he hne (.inl ⟨ld,rfl⟩) (.inl ⟨le,heq⟩)
 ·obtain⟨e,E',q1,q2,q3⟩:=hin d _ _ hd (.inl ⟨ld,rfl⟩)
  rcases hcase d _ hd with⟨rfl,e1⟩|⟨rfl,e1⟩|⟨h1,h2,D0,h3,e1⟩
  ·rw[freshIds_eq]
   simp only[Prod.mk.injEq,true_and] at e1
   subst e1
   exact(h.own b _ hb ld).imp_right fun h=>⟨hnb,h.2⟩
  ·simp only[Prod.mk.injEq,true_and] at e1;subst e1;exact ld.elim
  ·rw[hfr d h1]
   obtain⟨wr,D0⟩:=D0
   simp only[Prod.mk.injEq] at e1
   obtain⟨rfl,rfl⟩:=e1
   exact h.own d D0 h3 (renL_Lv.1 ld)
 ·have hd':d∈((st.T t).ren (mvR b c)).nm:=hd
  rw[TV.ren_nm,List.mem_map] at hd'
  obtain⟨e,he,rfl⟩:=hd'
  exact hs e (h.clT t e he)
 ·rcases hcase d D hd with⟨rfl,rfl⟩|⟨rfl,rfl⟩|⟨h1,h2,D0,h3,rfl⟩
  ·simp[nmL,Seg.nm] at he
  ·simp[nmL] at he
  ·simp only[renL_nm,List.mem_map] at he
   obtain⟨e0,he0,rfl⟩:=he
   exact hs e0 (h.clH d D0 h3 e0 he0)
 ·rcases hcase d D hd with⟨rfl,rfl⟩|⟨rfl,rfl⟩|⟨h1,h2,D0,h3,rfl⟩
  ·exact .of_no rfl
  ·exact .of_no rfl
  ·exact(h.hid.rel d D0 h3).ren (hfr d h1) fun e he=>hmv e (h.clH d D0 h3 e he)
 ·have hD:=hfl' d D _ g hd hg
  rw[hD] at hd
  obtain⟨e,E',q1,q2,q3⟩:=hin d _ g hd (.inr hg)
  exact h.inB_own q1 q2
 ·have hD:=hfl' d D _ _ hd hg
  rw[hD] at hd hg
  refine hsepA d e _ F _ hd he (fun h0=> ?_) (.inr hg) (.inl ⟨le,rfl⟩)
  subst h0
  rw[hd] at he
  obtain rfl:=Option.some.inj he
  obtain⟨E,ll,hh,h1⟩:=foot_of hg
  dsimp only at h1 le
  rw[h1] at le
  exact le
 ·have hD:=hfl' d D _ _ hd hg
  rw[hD] at hd hg
  exact hsepA d e _ F _ hd he hne (.inr hg) (.inr hg2)
def mvOk(st:St)(b c:Nat):Bool:=match st.H b with
 |some (true,[.gro _ _])=>match st.H c with
  |none=>true
  |some _=>false
 |_=>false
def evFunM{α:Type}(tab:Tab)(h:Hd)(fn:Func)(b:Nat)(args:List TV)(Bs:List Blk)(k:TV→List (List Seg)→List (List Seg)→Option α):Option α:=
 match fn.body with
 |none=>none
 |some c=>cond (Nat.ble args.length fn.ntmps&&(Nat.ble Bs.length 1000&&mvOk (st0 args Bs fn.ntmps) b (500000+b)))
   (ev tab h c (moveSt (st0 args Bs fn.ntmps) b (500000+b)) fun e st=>match e with
    | .exit _=>none
    |_=>evEnd tab fn.results.toList Bs Bs.length (List.range Bs.length) st k) none
theorem evFunM_sound{α:Type}{tab:Tab}{h:Hd}(ht:TabOk P tab)(hc:h.CallsOk P)(hm:P.follows .mixedOrders=true){f:FuncId}{fn:Func}(hf:P.funcs[f]? =some fn)
  (hname:(fn.name== "runtime.NumGoroutine")=false) (hl:∀c,fn.body=some c→LoopsOk P h c) {b:Nat} {args:List TV} {Bs:List Blk} {k:TV→List (List Seg)→List (List Seg)→Option α} {r:α}
  (hev:evFunM tab h fn b args Bs k=some r):∃v Bs' Ns,k v Bs' Ns=some r∧FnS P f args Bs v Bs' Ns:=by
 unfold evFunM at hev
 split at hev
 ·cases hev
 ·rename_i c hbody
  obtain⟨hcond,hev⟩:=condSome hev
  simp only[Bool.and_eq_true] at hcond
  obtain⟨h1,h2,h3⟩:=hcond
  refine evFunG_sound ht hc hm hf hname hl hbody (by simp only[Bool.and_eq_true];exact⟨h1,h2⟩) ?_ hev
  rintro w0 S nb idb a w ⟨ids,hr⟩
  unfold mvOk at h3
  split at h3
  ·rename_i E l hb
   split at h3
   ·rename_i hcn
    exact⟨_,hr.move hb hcn (by have:=hr.lim;omega)⟩
   ·cases h3
  ·cases h3
end Go.Proofs.Ytlmmgjngihlpeaa.Sx
