/- A symbolic evaluator for the machine's code, part Q: a law's arguments, opened. Our own work. -/
import Derived.Test.YtlmmgjngihlpeaaDoorSxO
import Derived.Carry
import Derived.RowKit
import Derived.OpenShut
import Derived.ChangeArms
namespace Go.Proofs.YtlmmgjngihlpeaaDoor.Sx
open Go
set_option linter.unusedVariables false
set_option linter.unusedSimpArgs false
variable {P:Program}
def CK.W:CK→Value→Prop
 | .int k,v=>∃n,v= .int k n∧(Lit.int k n).wf=true
 | .bool,v=>∃b,v= .bool b
 | .str,v=>∃s:ByteArray,v= .string s∧s.size≤maxLen
def KW:List CK→List Value→Prop
 |[],[]=>True
 |k::ks,v::vs=>k.W v∧KW ks vs
 |_,_=>False
theorem KW.length:∀{ks:List CK} {vs:List Value},KW ks vs→ks.length=vs.length
 |[],[],_=>rfl
 |_::_,_::_,h=>by simp[KW.length h.2]
 |[],_::_,h=>h.elim
 |_::_,[],h=>h.elim
theorem KW.append:∀{ks js:List CK} {vs us:List Value},KW ks vs→KW js us→KW (ks++js) (vs++us)
 |[],js,[],us,_,h=>h
 |k::ks,js,v::vs,us,h,h'=>⟨h.1,KW.append h.2 h'⟩
 |[],_,_::_,_,h,_=>h.elim
 |_::_,_,[],_,h,_=>h.elim
theorem KW.split:∀{ks js:List CK} {vs:List Value},KW (ks++js) vs→∃us ws,vs=us++ws∧KW ks us∧KW js ws
 |[],js,vs,h=>⟨[],vs,rfl,trivial,h⟩
 |k::ks,js,v::vs,h=>by
  obtain⟨us,ws,e,h1,h2⟩:=KW.split (ks:=ks) (js:=js) h.2
  exact⟨v::us,ws,by rw[e];rfl,⟨h.1,h1⟩,h2⟩
 |_::_,_,[],h=>h.elim
section
variable {H:Type} {enc:TypeId×Value→H} {w:World} {base:Nat} {sp:Nat→Bool} {held:Bool}
theorem sizeB_spec{t:TypeId}{ks:List CK}(h:sizeB P t ks=true):P.cellsOf t=ks.length:=by
 unfold sizeB at h
 split at h
 ·rename_i j hj;rw[←Nat.eq_of_beq_eq_true h];simp[Program.cellsOf,hj]
 ·cases h
theorem take_split{β:Type _}(l:List β)(n k:Nat)(h:n≤k):l.take k=l.take n++(l.drop n).take (k-n):=by
 conv=>lhs;rw[show k=n+(k-n) by omega,List.take_add]
theorem items_kw{m fuel:Nat}{e:TypeId}{s:Nat}{cs:List Value}(IH:∀ks c x,flatB P m e ks=true→DataW.trod enc P w base sp held fuel e c=some x→KW ks c):∀(n j:Nat) (ks:List CK) (ys:List (DataW H×List MemPlace)),
  flatA (flatB P m e) s n ks=true→((List.range' j n).mapM fun i=>DataW.trod enc P w base sp held fuel e ((cs.drop (i*s)).take s))=some ys→KW ks ((cs.drop (j*s)).take ks.length)
 |0,j,ks,ys,hf,_=>by
  simp only[flatA,List.isEmpty_iff] at hf
  subst hf;simp[KW]
 |n+1,j,ks,ys,hf,hm=>by
  simp only[flatA,Bool.and_eq_true] at hf
  obtain⟨h1,h2,h3⟩:=hf
  have hle:=Nat.le_of_ble_eq_true h2
  rw[List.range'_succ,List.mapM_cons] at hm
  simp only[bind,Option.bind_eq_some_iff,pure,Option.some.injEq] at hm
  obtain⟨y,hy,ys',hys,rfl⟩:=hm
  have g1:=IH _ _ _ h1 hy
  have g2:=items_kw IH n (j+1) (ks.drop s) ys' h3 hys
  rw[take_split _ s _ hle,List.drop_drop,←List.take_append_drop s ks]
  have hl:((List.take s ks++List.drop s ks).length-s)=(ks.drop s).length:=by simp
  rw[hl,show j*s+s=(j+1)*s by rw[Nat.succ_mul]]
  exact g1.append g2
theorem fields_kw{m fuel:Nat}{cs:List Value}(IH:∀t ks c x,flatB P m t ks=true→DataW.trod enc P w base sp held fuel t c=some x→KW ks c):∀(fs:List Field) (off:Nat) (ks:List CK) (ys:List (DataW H×List MemPlace)),
  flatF (flatB P m) P fs off ks=true→(fs.mapM fun f=>DataW.trod enc P w base sp held fuel f.type ((cs.drop f.offset).take (P.cellsOf f.type)))=some ys→KW ks ((cs.drop off).take ks.length)
 |[],off,ks,ys,hf,_=>by
  simp only[flatF,List.isEmpty_iff] at hf
  subst hf;simp[KW]
 |f::fs,off,ks,ys,hf,hm=>by
  simp only[flatF,Bool.and_eq_true] at hf
  obtain⟨h1,h2,h3⟩:=hf
  split at h3
  ·rename_i i hi
   simp only[Bool.and_eq_true] at h3
   obtain⟨g1,g2,g3⟩:=h3
   have hle:=Nat.le_of_ble_eq_true g2
   have hoff:=Nat.eq_of_beq_eq_true h2
   rw[List.mapM_cons] at hm
   simp only[bind,Option.bind_eq_some_iff,pure,Option.some.injEq] at hm
   obtain⟨y,hy,ys',hys,rfl⟩:=hm
   have hsz:P.cellsOf f.type=i.size:=by simp[Program.cellsOf,hi]
   rw[hsz,hoff] at hy
   have q1:=IH _ _ _ _ g1 hy
   have q2:=fields_kw IH fs (off+i.size) (ks.drop i.size) ys' g3 hys
   rw[take_split _ i.size _ hle,List.drop_drop,←List.take_append_drop i.size ks]
   have hl:((List.take i.size ks++List.drop i.size ks).length-i.size)=(ks.drop i.size).length:=by simp
   rw[hl]
   exact q1.append q2
  ·cases h3
theorem trod_flat:∀(m:Nat) {fuel:Nat} {t:TypeId} {ks:List CK} {cs:List Value} {x:DataW H×List MemPlace},flatB P m t ks=true→DataW.trod enc P w base sp held fuel t cs=some x→KW ks cs
 |0,_,_,_,_,_,hf,_=>by simp[flatB] at hf
 |m+1,0,t,ks,cs,x,hf,h=>by simp[DataW.trod] at h
 |m+1,fuel+1,t,ks,cs,x,hf,h=>by
  simp only[flatB] at hf
  split at hf
  ·rename_i hu
   obtain rfl:=of_decide_eq_true hf
   obtain⟨b,rfl,_⟩:=DataW.trod_bool hu h
   exact⟨⟨_,rfl⟩,trivial⟩
  ·rename_i k hu
   obtain rfl:=of_decide_eq_true hf
   obtain⟨n,rfl,_,hw⟩:=DataW.trod_int hu h
   exact⟨⟨_,rfl,hw⟩,trivial⟩
  ·rename_i hu
   obtain rfl:=of_decide_eq_true hf
   obtain⟨z,rfl,_,hw⟩:=DataW.trod_string hu h
   exact⟨⟨_,rfl,hw⟩,trivial⟩
  ·rename_i n e hu
   simp only[Bool.and_eq_true] at hf
   obtain⟨hs,hf⟩:=hf
   split at hf
   ·rename_i i hi
    have hsz:P.cellsOf e=i.size:=by simp[Program.cellsOf,hi]
    unfold DataW.trod at h
    rw[hu] at h
    split at h<;>first|(simp_all;done)|skip
    rename_i n' e' hn
    simp only[Option.some.injEq,TypeDesc.array.injEq] at hn
    obtain⟨rfl,rfl⟩:=hn
    split at h
    ·rename_i hlen
     simp only[Option.map_eq_some_iff] at h
     obtain⟨ys,hys,_⟩:=h
     rw[List.range_eq_range',hsz] at hys
     have:=items_kw (fun ks c x h1 h2=>trod_flat m h1 h2) _ 0 ks ys hf hys
     rw[Nat.zero_mul,List.drop_zero,←sizeB_spec hs,←hlen,List.take_length] at this
     exact this
    ·cases h
   ·cases hf
  ·rename_i fs hu
   simp only[Bool.and_eq_true] at hf
   obtain⟨_,hs,hf⟩:=hf
   unfold DataW.trod at h
   rw[hu] at h
   split at h<;>first|(simp_all;done)|skip
   rename_i fs' hn
   simp only[Option.some.injEq,TypeDesc.struct.injEq] at hn
   obtain rfl:=hn
   split at h
   ·rename_i hlen
    simp only[Option.map_eq_some_iff] at h
    obtain⟨ys,hys,_⟩:=h
    have:=fields_kw (fun t ks c x h1 h2=>trod_flat m h1 h2) _ 0 ks ys hf hys
    rw[List.drop_zero,←sizeB_spec hs,←hlen,List.take_length] at this
    exact this
   ·cases h
  ·cases hf
end
def GP.ks:GP→Option (List CK)
 | .one (.int k)=>some [.int k]
 | .one .bool=>some [.bool]
 | .one .str=>some [.str]
 | .seq (.int k) n=>some (List.replicate n (.int k))
 | .seq .bool n=>some (List.replicate n .bool)
 |_=>none
def ksG:List GP→Option (List CK)
 |[]=>some []
 |p::r=>match p.ks with
  |some k=>match ksG r with
   |some ks=>some (k++ks)
   |none=>none
  |none=>none
def GP.W:GP→List Lf→Prop
 | .one (.int k),ls=>(Lit.int k (hdL ls).int).wf=true
 | .one .str,ls=>(hdL ls).str.size≤maxLen
 | .seq (.int k) n,ls=>((hdL ls).lst (.int k)).length=n∧∀x∈((hdL ls).lst (.int k)),(Lit.int k x).wf=true
 | .seq .bool n,ls=>((hdL ls).lst .bool).length=n
 |_,_=>True
def WG:List GP→List Lf→Prop
 |[],_=>True
 |p::r,ls=>p.W ls∧WG r (p.fill ls).2
theorem kw_ints{k:IntKind}:∀{n:Nat} {vs:List Value},KW (List.replicate n (.int k)) vs→∃l:List Int,vs=l.map (Value.int k)∧l.length=n∧∀x∈l,(Lit.int k x).wf=true
 |0,[],_=>⟨[],rfl,rfl,by simp⟩
 |n+1,v::vs,h=>by
  obtain⟨⟨x,rfl,hx⟩,h2⟩:=h
  obtain⟨l,rfl,hl,hw⟩:=kw_ints (n:=n) (vs:=vs) h2
  exact⟨x::l,rfl,by simp[hl],by simpa using⟨hx,hw⟩⟩
 |0,_::_,h=>h.elim
 |n+1,[],h=>h.elim
theorem kw_bools:∀{n:Nat} {vs:List Value},KW (List.replicate n .bool) vs→∃l:List Bool,vs=l.map Value.bool∧l.length=n
 |0,[],_=>⟨[],rfl,rfl⟩
 |n+1,v::vs,h=>by
  obtain⟨⟨x,rfl⟩,h2⟩:=h
  obtain⟨l,rfl,hl⟩:=kw_bools (n:=n) (vs:=vs) h2
  exact⟨x::l,rfl,by simp[hl]⟩
 |0,_::_,h=>h.elim
 |n+1,[],h=>h.elim
theorem CR_of_ints{ids:Ids}{k:IntKind}:∀(l:List Int),CR ids (l.flatMap (EK.enc (.int k))) (l.map (Value.int k))
 |[]=>trivial
 |x::l=>⟨rfl,CR_of_ints l⟩
theorem CR_of_bools{ids:Ids}:∀(l:List Bool),CR ids (l.flatMap (EK.enc .bool)) (l.map Value.bool)
 |[]=>trivial
 |x::l=>⟨rfl,CR_of_bools l⟩
theorem kw_seg{ids:Ids}{p:GP}{k:List CK}{vs:List Value}(hp:p.ks=some k)(h:KW k vs):∃ls,(∀r,(p.fill (ls++r)).2=r∧p.W (ls++r)∧(p.fill (ls++r)).1.ok∧CR ids (p.fill (ls++r)).1.cells vs):=by
 unfold GP.ks at hp
 split at hp
 ·cases hp
  match vs,h with
  |[v],h=>
   obtain⟨⟨n,rfl,hw⟩,_⟩:=h
   exact⟨[.i n],fun r=>⟨rfl,hw,trivial,rfl,trivial⟩⟩
 ·cases hp
  match vs,h with
  |[v],h=>
   obtain⟨⟨n,rfl⟩,_⟩:=h
   exact⟨[.b n],fun r=>⟨rfl,trivial,trivial,rfl,trivial⟩⟩
 ·cases hp
  match vs,h with
  |[v],h=>
   obtain⟨⟨n,rfl,hw⟩,_⟩:=h
   exact⟨[.s n],fun r=>⟨rfl,hw,trivial,rfl,trivial⟩⟩
 ·rename_i q n
  cases hp
  obtain⟨l,rfl,hl,hw⟩:=kw_ints h
  have e:∀r,(hdL ([Lf.l (.int q) l]++r)).lst (.int q)=l:=fun r=>Lf.lst_l (.int q) l
  refine⟨[.l (.int q) l],fun r=>⟨rfl,⟨by rw[e];exact hl,by rw[e];exact hw⟩, ?_, ?_⟩⟩
  ·show List.length ((hdL ([Lf.l (.int q) l]++r)).lst (.int q))=n
   rw[e];exact hl
  ·show CR ids (((hdL ([Lf.l (.int q) l]++r)).lst (.int q)).flatMap (EK.enc (.int q))) _
   rw[e];exact CR_of_ints l
 ·rename_i n
  cases hp
  obtain⟨l,rfl,hl⟩:=kw_bools h
  have e:∀r,(hdL ([Lf.l .bool l]++r)).lst .bool=l:=fun r=>Lf.lst_l .bool l
  refine⟨[.l .bool l],fun r=>⟨rfl,by show List.length ((hdL ([Lf.l .bool l]++r)).lst .bool)=n;rw[e];exact hl, ?_, ?_⟩⟩
  ·show List.length ((hdL ([Lf.l .bool l]++r)).lst .bool)=n
   rw[e];exact hl
  ·show CR ids (((hdL ([Lf.l .bool l]++r)).lst .bool).flatMap (EK.enc .bool)) _
   rw[e];exact CR_of_bools l
 ·cases hp
theorem kw_segs{ids:Ids}:∀{ps:List GP} {k:List CK} {vs:List Value},ksG ps=some k→KW k vs→∃ls,(∀r,(fillG ps (ls++r)).2=r∧WG ps (ls++r)∧oksL (fillG ps (ls++r)).1∧CR ids (cellsL (fillG ps (ls++r)).1) vs)
 |[],k,vs,hp,h=>by
  cases hp
  match vs,h with
  |[],_=>exact⟨[],fun r=>⟨rfl,trivial,(fun s hs=>by cases hs),trivial⟩⟩
 |p::ps,k,vs,hp,h=>by
  simp only[ksG] at hp
  split at hp
  ·rename_i k1 h1
   split at hp
   ·rename_i k2 h2
    cases hp
    obtain⟨us,ws,rfl,g1,g2⟩:=h.split
    obtain⟨l1,q1⟩:=kw_seg (ids:=ids) h1 g1
    obtain⟨l2,q2⟩:=kw_segs (ids:=ids) h2 g2
    refine⟨l1++l2,fun r=> ?_⟩
    rw[List.append_assoc]
    obtain⟨a1,a2,a3,a4⟩:=q1 (l2++r)
    obtain⟨b1,b2,b3,b4⟩:=q2 r
    simp only[fillG,WG,a1]
    refine⟨b1,⟨a2,b2⟩, ?_, ?_⟩
    ·intro s hs
     rcases List.mem_cons.1 hs with rfl|hs
     ·exact a3
     ·exact b3 s hs
    ·rw[show cellsL ((p.fill (l1++(l2++r))).1::(fillG ps (l2++r)).1)=(p.fill (l1++(l2++r))).1.cells++cellsL (fillG ps (l2++r)).1 by simp[cellsL]]
     exact a4.append b4
   ·cases hp
  ·cases hp
def TP.W:TP→List Lf→Prop
 | .vl (.sv p),ls=>(GP.one p).W ls
 | .vl (.agg l),ls=>WG l ls
 |_,_=>True
def tpOk(P:Program)(t:TypeId):TP→Bool
 | .vl (.sv p)=>match(GP.one p).ks with
  |some ks=>flatB P 8 t ks&& !(isAggT P t)
  |none=>false
 | .vl (.agg l)=>match ksG l with
  |some ks=>flatB P 8 t ks&&isAggT P t
  |none=>false
 |_=>false
theorem okWide_agg{W:World}{r:Reach}{b0:Nat}{t:TypeId}{v:Value}(h:Value.okWide P W r b0 t v)(ha:isAggT P t=true):∃cs,v= .agg cs:=by
 unfold Value.okWide at h
 unfold isAggT at ha
 split at h
 ·obtain⟨cs,e,_⟩:=h;exact⟨cs,e⟩
 ·obtain⟨cs,e,_⟩:=h;exact⟨cs,e⟩
 ·rename_i h1 h2
  split at ha
  ·rename_i fs hu;exact absurd hu (h1 fs)
  ·rename_i n e hu;exact absurd hu (h2 n e)
  ·cases ha
theorem arg_open{H:Type}{enc:TypeId×Value→H}{W:World}{b0:Nat}{sp:Nat→Bool}{held:Bool}{ids:Ids}{t:TypeId}{p:TP}{v:Value}{d:DataW H}{ps:List MemPlace}(hp:tpOk P t p=true)
  (hv:Value.okWide P W .any b0 t v) (h:DataW.Trod enc P W 0 sp held t v d ps):
  ∃ls,∀r,(p.fill (ls++r)).2=r∧p.W (ls++r)∧(p.fill (ls++r)).1.R ids v∧(p.fill (ls++r)).1.nm=[]:=by
 obtain⟨fuel,h⟩:=h
 unfold tpOk at hp
 split at hp
 ·rename_i q
  split at hp
  ·rename_i ks hks
   simp only[Bool.and_eq_true,Bool.not_eq_true'] at hp
   have hk:=trod_flat 8 hp.1 h
   obtain⟨l,hl⟩:=kw_seg (ids:=ids) hks hk
   refine⟨l,fun r=> ?_⟩
   obtain⟨a1,a2,a3,a4⟩:=hl r
   refine⟨a1,a2, ?_, ?_⟩
   · -- one cell
    have hone:∃u,v.cells.toList=[u]:=by
     have:=CR.length a4
     simp only[GP.fill,Seg.cells,List.length_cons,List.length_nil] at this
     match hc:v.cells.toList,this with
     |[u],_=>exact⟨u,rfl⟩
    obtain⟨u,hu⟩:=hone
    rw[hu] at a4
    have hvu:v=u:=by
     cases v with
     |agg cs=>
      exfalso
      unfold Value.okWide at hv
      have ha:=hp.2
      unfold isAggT at ha
      split at hv
      ·rename_i hu;rw[hu] at ha;cases ha
      ·rename_i hu;rw[hu] at ha;cases ha
      ·unfold Cell.okWide at hv
       split at hv<;>first|(simp_all;done)|skip
       unfold Cell.ok at hv
       split at hv<;>simp_all
     |_=>simpa[Value.cells] using hu
    rw[hvu]
    exact a4.1
   ·clear hl hk
    cases q<;>first|rfl|(simp only[GP.ks,reduceCtorEq] at hks)
  ·cases hp
 ·rename_i l
  split at hp
  ·rename_i ks hks
   simp only[Bool.and_eq_true] at hp
   have hk:=trod_flat 8 hp.1 h
   obtain⟨ls,hl⟩:=kw_segs (ids:=ids) hks hk
   obtain⟨cs,rfl⟩:=okWide_agg hv hp.2
   refine⟨ls,fun r=> ?_⟩
   obtain⟨a1,a2,a3,a4⟩:=hl r
   refine⟨a1,a2,⟨cs,rfl,a3,a4⟩, ?_⟩
   clear hl a1 a2 a3 a4 hk
   have:∀(l:List GP) (ls:List Lf) (ks:List CK),ksG l=some ks→nmL (fillG l ls).1=[]:=by
    intro l
    induction l with
    |nil=>intro ls ks _;rfl
    |cons p l ih=>
     intro ls ks hk
     simp only[ksG] at hk
     split at hk
     ·rename_i k1 h1
      split at hk
      ·rename_i k2 h2
       simp only[fillG,nmL,List.flatMap_cons,List.append_eq_nil_iff]
       refine⟨?_,ih _ _ h2⟩
       unfold GP.ks at h1
       split at h1<;>first|rfl|(simp_all;done)
      ·cases hk
     ·cases hk
   exact this l _ ks hks
  ·cases hp
 ·cases hp
def WT:List TP→List Lf→Prop
 |[],_=>True
 |p::r,ls=>p.W ls∧WT r (p.fill ls).2
def tpsOk(P:Program):List TypeId→List TP→Bool
 |[],[]=>true
 |t::ts,p::ps=>tpOk P t p&&tpsOk P ts ps
 |_,_=>false
theorem args_open{H:Type}{enc:TypeId×Value→H}{W:World}{sp:Nat→Bool}{held:Bool}{ids:Ids}{base:Nat}:∀{ts:List TypeId} {tps:List TP} {vs:List Value} {ds:List (DataW H)} {ps:List MemPlace},tpsOk P ts tps=true→
  (∀(j:Nat) t v,ts[j]? =some t→vs[j]? =some v→Value.okWide P W .any base t v)→DataW.TrodAll enc P W 0 sp held ts vs ds ps→
  ∃ls,∀r,(fillT tps (ls++r)).2=r∧WT tps (ls++r)∧TsR ids (fillT tps (ls++r)).1 vs∧∀x∈(fillT tps (ls++r)).1,x.nm=[]
 |[],[],[],ds,ps,_,_,_=>⟨[],fun r=>⟨rfl,trivial,trivial,fun x hx=>by cases hx⟩⟩
 |[],[],_::_,ds,ps,_,_,h=>by cases ds<;>exact h.elim
 |t::ts,p::tps,[],ds,ps,_,_,h=>by cases ds<;>exact h.elim
 |t::ts,p::tps,v::vs,[],ps,_,_,h=>h.elim
 |t::ts,p::tps,v::vs,d::ds,ps,hp,hv,⟨p1,p2,h1,h2,_⟩=>by
  simp only[tpsOk,Bool.and_eq_true] at hp
  obtain⟨l1,q1⟩:=arg_open (ids:=ids) hp.1 (hv 0 t v rfl rfl) h1
  obtain⟨l2,q2⟩:=args_open (ids:=ids) hp.2 (fun j t v ht hv'=>hv (j+1) t v (by simpa using ht) (by simpa using hv')) h2
  refine⟨l1++l2,fun r=> ?_⟩
  rw[List.append_assoc]
  obtain⟨a1,a2,a3,a4⟩:=q1 (l2++r)
  obtain⟨b1,b2,b3,b4⟩:=q2 r
  simp only[fillT,WT,a1]
  refine⟨b1,⟨a2,b2⟩,⟨a3,b3⟩,fun x hx=> ?_⟩
  rcases List.mem_cons.1 hx with rfl|hx
  ·exact a4
  ·exact b4 x hx
 |[],_::_,_,_,_,hp,_,_=>by cases hp
 |_::_,[],_,_,_,hp,_,_=>by cases hp
theorem trodAll_stays{H:Type}{enc:TypeId×Value→H}{W W':World}(hl:laidOutB P=true)(hb:RowKit.Below W.heap.size W W'):∀{ts:List TypeId} {vs:List Value} {ds:List (DataW H)} {ps:List MemPlace},
  (ts.all fun t=>P.readableRec t&&decide (t<P.types.size))=true→(∀x∈ps,x.block<W.heap.size)→DataW.TrodAll enc P W 0 (fun _=>true) true ts vs ds ps→
  DataW.TrodAll enc P W' 0 (fun b=>decide (b<W.heap.size)) true ts vs ds ps
 |[],[],[],ps,_,_,h=>h
 |t::ts,v::vs,d::ds,ps,hr,hlt,⟨p1,p2,h1,h2,e⟩=>by
  subst e
  simp only[List.all_cons,Bool.and_eq_true,decide_eq_true_eq] at hr
  exact⟨p1,p2,RowKit.Below.trod hl hr.1.1 hr.1.2 h1 hb (fun x hx=>hlt x (List.mem_append_left _ hx)),
   trodAll_stays hl hb (by simpa using hr.2) (fun x hx=>hlt x (List.mem_append_right _ hx)) h2,rfl⟩
 |[],[],_::_,_,_,_,h=>h.elim
 |[],_::_,ds,_,_,_,h=>by cases ds<;>exact h.elim
 |_::_,[],ds,_,_,_,h=>by cases ds<;>exact h.elim
 |_::_,_::_,[],_,_,_,h=>h.elim
def saysTrue(v:TV):Option Unit:=match v with
 | .vl (.sv (.bool b))=>cond b (some ()) none
 |_=>none
theorem law_post{f:FuncId}{fn:Func}{s:ChangeSpec}{tb:TypeId}{tps:List TP}{F:{α:Type}→List Lf→(TV→List (List Seg)→List (List Seg)→Option α)→Option α}
  {W:World} (hgl:GlobOk W []) (hrow:FnOk P f tps [] F) (hlaw:∀ls,WT tps ls→F ls (fun v _ _=>saysTrue v)=some ())
  (htps:tpsOk P fn.params.toList tps=true) (hl:laidOutB P=true) (hr:(fn.params.toList.all fun t=>P.readableRec t&&decide (t<P.types.size))=true)
  (hvars:s.vars=[]) (hs:∀(H:Type) (ds:List (DataW H)),ds.length=fn.params.size→s.fn H ds={results:=[.lit (.bool true)],args:=ds})
  (hres:fn.resultTypes= #[tb]) (hb:P.underlying tb=some .bool)
  {H:Type} {enc:TypeId×Value→H} {base:Nat} {args:Array Value} {ds gs:List (DataW H)} {before:List MemPlace}
  (hval:∀(j:Nat) t v,fn.params[j]? =some t→args[j]? =some v→Value.okWide P W .any base t v) (hW:DataW.Whole enc P fn.params.toList s.vars false W args.toList ds gs before):
  Calls P f args W fun e W'=>∃v,e= .returned v∧s.post enc P fn false true false false W args v W':=by
 have hW':=hW
 obtain⟨p,q,hA,hV,rfl,hfz,hnd⟩:=hW
 have hlen:∀{ts:List TypeId} {vs:List Value} {ds:List (DataW H)} {ps:List MemPlace},DataW.TrodAll enc P W 0 (fun _=>true) true ts vs ds ps→ds.length=ts.length:=by
  intro ts
  induction ts with
  |nil=>intro vs ds ps h;cases vs<;>cases ds<;>first|rfl|exact h.elim
  |cons t ts ih=>
   intro vs ds ps h
   cases vs<;>cases ds<;>first|exact h.elim|skip
   obtain⟨_,_,_,h2,_⟩:=h
   simp[ih h2]
 have hdl:ds.length=fn.params.size:=by simpa using hlen hA
 rw[hvars] at hV
 have hg:gs=[]∧q=[]:=by
  cases gs with
  |nil=>exact⟨rfl,hV⟩
  |cons _ _=>exact hV.elim
 obtain⟨rfl,rfl⟩:=hg
 obtain⟨ls,hls⟩:=args_open (ids:=fun _=>(0,0,0,0)) htps (fun j t v ht hv=>hval j t v (by simpa using ht) (by simpa using hv)) hA
 obtain⟨a1,a2,a3,a4⟩:=hls []
 obtain⟨v,Bs',Ns,hk,hF⟩:=hrow Unit _ _ _ (hlaw _ a2)
 obtain⟨hbl,_,hcall⟩:=hF
 have hcalls:=hcall (fun _=>(0,0,0,0)) W args.toList ⟨fun i B h=>by simp[fillB] at h,fun i j B C h=>by simp[fillB] at h,fun i B h=>by simp[fillB] at h,⟨fun i B h=>by simp[fillB] at h,fun i B h=>by simp[fillB] at h,fun i B h=>by simp[fillB] at h,fun i j B C h=>by simp[fillB] at h,fun i j B C h=>by simp[fillB] at h⟩⟩ a3
  (fun x hx b hb=>by rw[a4 x hx] at hb;cases hb) (by simp[fillB]) hgl
 rw[show args.toList.toArray=args by simp] at hcalls
 refine hcalls.mono ?_
 rintro e W' ⟨ids',cv,rfl,hret⟩
 have hv:v= .vl (.sv (.bool true)):=by
  unfold saysTrue at hk
  split at hk
  ·rename_i b
   cases b with
   |true=>rfl
   |false=>cases hk
  ·cases hk
 subst hv
 have hcv:cv= .bool true:=hret.val
 subst hcv
 have hkeep:Keeps W W' []:=by
  have:=hret.keeps
  simpa[fillB,wrOf,wrAll,hwOf] using this
 have bel:RowKit.Below W.heap.size W W':=⟨hkeep.os,hkeep.tape,hkeep.output,hkeep.size,fun k hk=>hkeep.block k hk (by simp)⟩
 refine⟨_,rfl,ds,[],_,[],p,[],hW', ?_, ?_, ?_, ?_,fun h=>by cases h⟩
 ·rw[List.append_nil,hs H ds hdl,hres]
  exact ChangeShapes.trodAll_mk1 (RowKit.shut_bool hb _)
 ·rw[List.append_nil,hs H ds hdl]
  refine trodAll_stays hl bel hr (fun x hx=>hW'.lt x (List.mem_append_left _ hx)) hA
 ·rw[List.append_nil,hs H ds hdl,hvars];rfl
 ·exact bel.frame _
inductive AK where
 |c (k:CK)
 |s (E:EK)
inductive AP where
 |flat (p:TP)
 |sl (E:EK)
 |st (ks:List AK)
section
variable {H:Type} {enc:TypeId×Value→H} {w:World} {sp:Nat→Bool} {held:Bool}
end
def AK.sp:AK→Nat→SP
 | .c (.int k),_=> .int k
 | .c .bool,_=> .bool
 | .c .str,_=> .str
 | .s E,b=> .sla b 0 E.s
def AK.nb:AK→Nat
 | .c _=>0
 | .s _=>1
def gpsK:List AK→Nat→List GP
 |[],_=>[]
 |k::r,b=> .one (k.sp b)::gpsK r (b+k.nb)
def nbK:List AK→Nat
 |[]=>0
 |k::r=>k.nb+nbK r
def eksK:List AK→List EK
 |[]=>[]
 | .c _::r=>eksK r
 | .s E::r=>E::eksK r
def AP.tp:AP→Nat→TP
 | .flat p,_=>p
 | .sl E,b=> .vl (.sv (.sla b 0 E.s))
 | .st ks,b=> .vl (.agg (gpsK ks b))
def AP.nb:AP→Nat
 | .flat _=>0
 | .sl _=>1
 | .st ks=>nbK ks
def AP.eks:AP→List EK
 | .flat _=>[]
 | .sl E=>[E]
 | .st ks=>eksK ks
def bpE(l:List EK):List BP:=l.map fun E=>(false,[.seqv E])
def skipE:List EK→List Lf→List Lf
 |[],lb=>lb
 |_::r,lb=>skipE r (tlL (tlL lb))
abbrev Ads:=List (Nat×Nat×Nat×Nat)
def Fits(ids:Ids)(nb:Nat)(ad:Ads):Prop:=∀i x,ad[i]? =some x→ids (nb+i)=x
theorem Fits.left{ids:Ids}{nb:Nat}{a b:Ads}(h:Fits ids nb (a++b)):Fits ids nb a:=fun i x hx=>h i x (by rw[List.getElem?_append_left (List.getElem?_eq_some_iff.1 hx).1];exact hx)
theorem Fits.right{ids:Ids}{nb:Nat}{a b:Ads}(h:Fits ids nb (a++b)):Fits ids (nb+a.length) b:=fun i x hx=>by
 have:=h (a.length+i) x (by rw[List.getElem?_append_right (by omega),Nat.add_sub_cancel_left];exact hx)
 rw[Nat.add_assoc];exact this
structure Opened (w:World) (nb:Nat) (eks:List EK) (lb:List Lf) (ad:Ads) (Bs:List Blk):Prop where
 len:ad.length=eks.length
 lenB:Bs.length=eks.length
 fill:∀r,fillB (bpE eks) (lb++r)=(Bs,r)
 skip:∀r,skipE eks (lb++r)=r
 blk:∀ids,Fits ids nb ad→∀i B,Bs[i]? =some B→B.1=false∧nmL B.2=[]∧BlkR ids w (nb+i) B
theorem Opened.nil{w:World}{nb:Nat}:Opened w nb [] [] [] []:=⟨rfl,rfl,fun _=>rfl,fun _=>rfl,fun ids _ i B h=>by simp at h⟩
theorem skipE_append:∀(a b:List EK) (l:List Lf),skipE (a++b) l=skipE b (skipE a l)
 |[],_,_=>rfl
 |_::a,b,l=>skipE_append a b _
theorem fillB_append:∀(a b:List BP) (l:List Lf),fillB (a++b) l=((fillB a l).1++(fillB b (fillB a l).2).1,(fillB b (fillB a l).2).2)
 |[],_,_=>rfl
 |p::a,b,l=>by simp only[List.cons_append,fillB,fillB_append a b]
theorem Opened.append{w:World}{nb:Nat}{e1 e2:List EK}{l1 l2:List Lf}{a1 a2:Ads}{B1 B2:List Blk}(h1:Opened w nb e1 l1 a1 B1)(h2:Opened w (nb+e1.length) e2 l2 a2 B2):
  Opened w nb (e1++e2) (l1++l2) (a1++a2) (B1++B2):=by
 refine⟨by simp[h1.len,h2.len],by simp[h1.lenB,h2.lenB],fun r=> ?_,fun r=> ?_,fun ids hf i B hi=> ?_⟩
 ·rw[bpE,List.map_append,fillB_append,List.append_assoc]
  have g1:=h1.fill (l2++r)
  have g2:=h2.fill r
  unfold bpE at g1 g2
  simp only[g1,g2]
 ·rw[skipE_append,List.append_assoc,h1.skip,h2.skip]
 ·by_cases hlt:i<B1.length
  ·rw[List.getElem?_append_left hlt] at hi
   exact h1.blk ids hf.left i B hi
  ·rw[List.getElem?_append_right (by omega)] at hi
   have hr:=hf.right
   rw[h1.len] at hr
   have:=h2.blk ids hr (i-B1.length) B hi
   rw[h1.lenB] at this
   have e:nb+e1.length+(i-e1.length)=nb+i:=by have:=h1.lenB;omega
   rw[e] at this;exact this
section
variable {H:Type} {enc:TypeId×Value→H} {w:World} {sp:Nat→Bool} {held:Bool}
end
end Go.Proofs.YtlmmgjngihlpeaaDoor.Sx
