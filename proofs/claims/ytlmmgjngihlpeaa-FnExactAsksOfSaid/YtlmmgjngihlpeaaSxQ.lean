/- A symbolic evaluator for the machine's code, part Q: a law's arguments, opened. Our own work. -/
import Derived.Test.YtlmmgjngihlpeaaSxO
import Derived.Carry
import Derived.RowKit
import Derived.OpenShut
import Derived.ChangeArms
namespace Go.Proofs.Ytlmmgjngihlpeaa.Sx
open Go
set_option linter.unusedVariables false
set_option linter.unusedSimpArgs false
variable {P:Program}
def CK.W:CK→Value→Prop
 | .int k,v=>∃n,v= .int k n∧(Lit.int k n).wf=true
 | .bool,v=>∃b,v= .bool b
 | .str,v=>∃s:ByteArray,v= .string s∧s.size≤maxLen
def KW:List CK→List Value→Prop
 |[],[]=>True
 |k::ks,v::vs=>k.W v∧KW ks vs
 |_,_=>False
theorem KW.length:∀{ks:List CK} {vs:List Value},KW ks vs→ks.length=vs.length
 |[],[],_=>rfl
 |_::_,_::_,h=>by simp[KW.length h.2]
 |[],_::_,h=>h.elim
 |_::_,[],h=>h.elim
theorem KW.append:∀{ks js:List CK} {vs us:List Value},KW ks vs→KW js us→KW (ks++js) (vs++us)
 |[],js,[],us,_,h=>h
 |k::ks,js,v::vs,us,h,h'=>⟨h.1,KW.append h.2 h'⟩
 |[],_,_::_,_,h,_=>h.elim
 |_::_,_,[],_,h,_=>h.elim
theorem KW.split:∀{ks js:List CK} {vs:List Value},KW (ks++js) vs→∃us ws,vs=us++ws∧KW ks us∧KW js ws
 |[],js,vs,h=>⟨[],vs,rfl,trivial,h⟩
 |k::ks,js,v::vs,h=>by
  obtain⟨us,ws,e,h1,h2⟩:=KW.split (ks:=ks) (js:=js) h.2
  exact⟨v::us,ws,by rw[e];rfl,⟨h.1,h1⟩,h2⟩
 |_::_,_,[],h=>h.elim
section
variable {H:Type} {enc:TypeId×Value→H} {w:World} {base:Nat} {sp:Nat→Bool} {held:Bool}
theorem sizeB_spec{t:TypeId}{ks:List CK}(h:sizeB P t ks=true):P.cellsOf t=ks.length:=by
 unfold sizeB at h
 split at h
 ·rename_i j hj;rw[←Nat.eq_of_beq_eq_true h];simp[Program.cellsOf,hj]
 ·cases h
theorem take_split{β:Type _}(l:List β)(n k:Nat)(h:n≤k):l.take k=l.take n++(l.drop n).take (k-n):=by
 conv=>lhs;rw[show k=n+(k-n) by omega,List.take_add]
theorem items_kw{m fuel:Nat}{e:TypeId}{s:Nat}{cs:List Value}(IH:∀ks c x,flatB P m e ks=true→DataW.trod enc P w base sp held fuel e c=some x→KW ks c):∀(n j:Nat) (ks:List CK) (ys:List (DataW H×List MemPlace)),
  flatA (flatB P m e) s n ks=true→((List.range' j n).mapM fun i=>DataW.trod enc P w base sp held fuel e ((cs.drop (i*s)).take s))=some ys→KW ks ((cs.drop (j*s)).take ks.length)
 |0,j,ks,ys,hf,_=>by
  simp only[flatA,List.isEmpty_iff] at hf
  subst hf;simp[KW]
 |n+1,j,ks,ys,hf,hm=>by
  simp only[flatA,Bool.and_eq_true] at hf
  obtain⟨h1,h2,h3⟩:=hf
  have hle:=Nat.le_of_ble_eq_true h2
  rw[List.range'_succ,List.mapM_cons] at hm
  simp only[bind,Option.bind_eq_some_iff,pure,Option.some.injEq] at hm
  obtain⟨y,hy,ys',hys,rfl⟩:=hm
  have g1:=IH _ _ _ h1 hy
  have g2:=items_kw IH n (j+1) (ks.drop s) ys' h3 hys
  rw[take_split _ s _ hle,List.drop_drop,←List.take_append_drop s ks]
  have hl:((List.take s ks++List.drop s ks).length-s)=(ks.drop s).length:=by simp
  rw[hl,show j*s+s=(j+1)*s by rw[Nat.succ_mul]]
  exact g1.append g2
theorem fields_kw{m fuel:Nat}{cs:List Value}(IH:∀t ks c x,flatB P m t ks=true→DataW.trod enc P w base sp held fuel t c=some x→KW ks c):∀(fs:List Field) (off:Nat) (ks:List CK) (ys:List (DataW H×List MemPlace)),
  flatF (flatB P m) P fs off ks=true→(fs.mapM fun f=>DataW.trod enc P w base sp held fuel f.type ((cs.drop f.offset).take (P.cellsOf f.type)))=some ys→KW ks ((cs.drop off).take ks.length)
 |[],off,ks,ys,hf,_=>by
  simp only[flatF,List.isEmpty_iff] at hf
  subst hf;simp[KW]
 |f::fs,off,ks,ys,hf,hm=>by
  simp only[flatF,Bool.and_eq_true] at hf
  obtain⟨h1,h2,h3⟩:=hf
  split at h3
  ·rename_i i hi
   simp only[Bool.and_eq_true] at h3
   obtain⟨g1,g2,g3⟩:=h3
   have hle:=Nat.le_of_ble_eq_true g2
   have hoff:=Nat.eq_of_beq_eq_true h2
   rw[List.mapM_cons] at hm
   simp only[bind,Option.bind_eq_some_iff,pure,Option.some.injEq] at hm
   obtain⟨y,hy,ys',hys,rfl⟩:=hm
   have hsz:P.cellsOf f.type=i.size:=by simp[Program.cellsOf,hi]
   rw[hsz,hoff] at hy
   have q1:=IH _ _ _ _ g1 hy
   have q2:=fields_kw IH fs (off+i.size) (ks.drop i.size) ys' g3 hys
   rw[take_split _ i.size _ hle,List.drop_drop,←List.take_append_drop i.size ks]
   have hl:((List.take i.size ks++List.drop i.size ks).length-i.size)=(ks.drop i.size).length:=by simp
   rw[hl]
   exact q1.append q2
  ·cases h3
theorem trod_flat:∀(m:Nat) {fuel:Nat} {t:TypeId} {ks:List CK} {cs:List Value} {x:DataW H×List MemPlace},flatB P m t ks=true→DataW.trod enc P w base sp held fuel t cs=some x→KW ks cs
 |0,_,_,_,_,_,hf,_=>by simp[flatB] at hf
 |m+1,0,t,ks,cs,x,hf,h=>by simp[DataW.trod] at h
 |m+1,fuel+1,t,ks,cs,x,hf,h=>by
  simp only[flatB] at hf
  split at hf
  ·rename_i hu
   obtain rfl:=of_decide_eq_true hf
   obtain⟨b,rfl,_⟩:=DataW.trod_bool hu h
   exact⟨⟨_,rfl⟩,trivial⟩
  ·rename_i k hu
   obtain rfl:=of_decide_eq_true hf
   obtain⟨n,rfl,_,hw⟩:=DataW.trod_int hu h
   exact⟨⟨_,rfl,hw⟩,trivial⟩
  ·rename_i hu
   obtain rfl:=of_decide_eq_true hf
   obtain⟨z,rfl,_,hw⟩:=DataW.trod_string hu h
   exact⟨⟨_,rfl,hw⟩,trivial⟩
  ·rename_i n e hu
   simp only[Bool.and_eq_true] at hf
   obtain⟨hs,hf⟩:=hf
   split at hf
   ·rename_i i hi
    have hsz:P.cellsOf e=i.size:=by simp[Program.cellsOf,hi]
    unfold DataW.trod at h
    rw[hu] at h
    split at h<;>first|(simp_all;done)|skip
    rename_i n' e' hn
    simp only[Option.some.injEq,TypeDesc.array.injEq] at hn
    obtain⟨rfl,rfl⟩:=hn
    split at h
    ·rename_i hlen
     simp only[Option.map_eq_some_iff] at h
     obtain⟨ys,hys,_⟩:=h
     rw[List.range_eq_range',hsz] at hys
     have:=items_kw (fun ks c x h1 h2=>trod_flat m h1 h2) _ 0 ks ys hf hys
     rw[Nat.zero_mul,List.drop_zero,←sizeB_spec hs,←hlen,List.take_length] at this
     exact this
    ·cases h
   ·cases hf
  ·rename_i fs hu
   simp only[Bool.and_eq_true] at hf
   obtain⟨_,hs,hf⟩:=hf
   unfold DataW.trod at h
   rw[hu] at h
   split at h<;>first|(simp_all;done)|skip
   rename_i fs' hn
   simp only[Option.some.injEq,TypeDesc.struct.injEq] at hn
   obtain rfl:=hn
   split at h
   ·rename_i hlen
    simp only[Option.map_eq_some_iff] at h
    obtain⟨ys,hys,_⟩:=h
    have:=fields_kw (fun t ks c x h1 h2=>trod_flat m h1 h2) _ 0 ks ys hf hys
    rw[List.drop_zero,←sizeB_spec hs,←hlen,List.take_length] at this
    exact this
   ·cases h
  ·cases hf
end
def GP.ks:GP→Option (List CK)
 | .one (.int k)=>some [.int k]
 | .one .bool=>some [.bool]
 | .one .str=>some [.str]
 | .seq (.int k) n=>some (List.replicate n (.int k))
 | .seq .bool n=>some (List.replicate n .bool)
 |_=>none
def ksG:List GP→Option (List CK)
 |[]=>some []
 |p::r=>match p.ks with
  |some k=>match ksG r with
   |some ks=>some (k++ks)
   |none=>none
  |none=>none
def GP.W:GP→List Lf→Prop
 | .one (.int k),ls=>(Lit.int k (hdL ls).int).wf=true
 | .one .str,ls=>(hdL ls).str.size≤maxLen
 | .seq (.int k) n,ls=>((hdL ls).lst (.int k)).length=n∧∀x∈((hdL ls).lst (.int k)),(Lit.int k x).wf=true
 | .seq .bool n,ls=>((hdL ls).lst .bool).length=n
 |_,_=>True
def WG:List GP→List Lf→Prop
 |[],_=>True
 |p::r,ls=>p.W ls∧WG r (p.fill ls).2
theorem kw_ints{k:IntKind}:∀{n:Nat} {vs:List Value},KW (List.replicate n (.int k)) vs→∃l:List Int,vs=l.map (Value.int k)∧l.length=n∧∀x∈l,(Lit.int k x).wf=true
 |0,[],_=>⟨[],rfl,rfl,by simp⟩
 |n+1,v::vs,h=>by
  obtain⟨⟨x,rfl,hx⟩,h2⟩:=h
  obtain⟨l,rfl,hl,hw⟩:=kw_ints (n:=n) (vs:=vs) h2
  exact⟨x::l,rfl,by simp[hl],by simpa using⟨hx,hw⟩⟩
 |0,_::_,h=>h.elim
 |n+1,[],h=>h.elim
theorem kw_bools:∀{n:Nat} {vs:List Value},KW (List.replicate n .bool) vs→∃l:List Bool,vs=l.map Value.bool∧l.length=n
 |0,[],_=>⟨[],rfl,rfl⟩
 |n+1,v::vs,h=>by
  obtain⟨⟨x,rfl⟩,h2⟩:=h
  obtain⟨l,rfl,hl⟩:=kw_bools (n:=n) (vs:=vs) h2
  exact⟨x::l,rfl,by simp[hl]⟩
 |0,_::_,h=>h.elim
 |n+1,[],h=>h.elim
theorem CR_of_ints{ids:Ids}{k:IntKind}:∀(l:List Int),CR ids (l.flatMap (EK.enc (.int k))) (l.map (Value.int k))
 |[]=>trivial
 |x::l=>⟨rfl,CR_of_ints l⟩
theorem CR_of_bools{ids:Ids}:∀(l:List Bool),CR ids (l.flatMap (EK.enc .bool)) (l.map Value.bool)
 |[]=>trivial
 |x::l=>⟨rfl,CR_of_bools l⟩
theorem kw_seg{ids:Ids}{p:GP}{k:List CK}{vs:List Value}(hp:p.ks=some k)(h:KW k vs):∃ls,(∀r,(p.fill (ls++r)).2=r∧p.W (ls++r)∧(p.fill (ls++r)).1.ok∧CR ids (p.fill (ls++r)).1.cells vs):=by
 unfold GP.ks at hp
 split at hp
 ·cases hp
  match vs,h with
  |[v],h=>
   obtain⟨⟨n,rfl,hw⟩,_⟩:=h
   exact⟨[.i n],fun r=>⟨rfl,hw,trivial,rfl,trivial⟩⟩
 ·cases hp
  match vs,h with
  |[v],h=>
   obtain⟨⟨n,rfl⟩,_⟩:=h
   exact⟨[.b n],fun r=>⟨rfl,trivial,trivial,rfl,trivial⟩⟩
 ·cases hp
  match vs,h with
  |[v],h=>
   obtain⟨⟨n,rfl,hw⟩,_⟩:=h
   exact⟨[.s n],fun r=>⟨rfl,hw,trivial,rfl,trivial⟩⟩
 ·rename_i q n
  cases hp
  obtain⟨l,rfl,hl,hw⟩:=kw_ints h
  have e:∀r,(hdL ([Lf.l (.int q) l]++r)).lst (.int q)=l:=fun r=>Lf.lst_l (.int q) l
  refine⟨[.l (.int q) l],fun r=>⟨rfl,⟨by rw[e];exact hl,by rw[e];exact hw⟩, ?_, ?_⟩⟩
  ·show List.length ((hdL ([Lf.l (.int q) l]++r)).lst (.int q))=n
   rw[e];exact hl
  ·show CR ids (((hdL ([Lf.l (.int q) l]++r)).lst (.int q)).flatMap (EK.enc (.int q))) _
   rw[e];exact CR_of_ints l
 ·rename_i n
  cases hp
  obtain⟨l,rfl,hl⟩:=kw_bools h
  have e:∀r,(hdL ([Lf.l .bool l]++r)).lst .bool=l:=fun r=>Lf.lst_l .bool l
  refine⟨[.l .bool l],fun r=>⟨rfl,by show List.length ((hdL ([Lf.l .bool l]++r)).lst .bool)=n;rw[e];exact hl, ?_, ?_⟩⟩
  ·show List.length ((hdL ([Lf.l .bool l]++r)).lst .bool)=n
   rw[e];exact hl
  ·show CR ids (((hdL ([Lf.l .bool l]++r)).lst .bool).flatMap (EK.enc .bool)) _
   rw[e];exact CR_of_bools l
 ·cases hp
theorem kw_segs{ids:Ids}:∀{ps:List GP} {k:List CK} {vs:List Value},ksG ps=some k→KW k vs→∃ls,(∀r,(fillG ps (ls++r)).2=r∧WG ps (ls++r)∧oksL (fillG ps (ls++r)).1∧CR ids (cellsL (fillG ps (ls++r)).1) vs)
 |[],k,vs,hp,h=>by
  cases hp
  match vs,h with
  |[],_=>exact⟨[],fun r=>⟨rfl,trivial,(fun s hs=>by cases hs),trivial⟩⟩
 |p::ps,k,vs,hp,h=>by
  simp only[ksG] at hp
  split at hp
  ·rename_i k1 h1
   split at hp
   ·rename_i k2 h2
    cases hp
    obtain⟨us,ws,rfl,g1,g2⟩:=h.split
    obtain⟨l1,q1⟩:=kw_seg (ids:=ids) h1 g1
    obtain⟨l2,q2⟩:=kw_segs (ids:=ids) h2 g2
    refine⟨l1++l2,fun r=> ?_⟩
    rw[List.append_assoc]
    obtain⟨a1,a2,a3,a4⟩:=q1 (l2++r)
    obtain⟨b1,b2,b3,b4⟩:=q2 r
    simp only[fillG,WG,a1]
    refine⟨b1,⟨a2,b2⟩, ?_, ?_⟩
    ·intro s hs
     rcases List.mem_cons.1 hs with rfl|hs
     ·exact a3
     ·exact b3 s hs
    ·rw[show cellsL ((p.fill (l1++(l2++r))).1::(fillG ps (l2++r)).1)=(p.fill (l1++(l2++r))).1.cells++cellsL (fillG ps (l2++r)).1 by simp[cellsL]]
     exact a4.append b4
   ·cases hp
  ·cases hp
def TP.W:TP→List Lf→Prop
 | .vl (.sv p),ls=>(GP.one p).W ls
 | .vl (.agg l),ls=>WG l ls
 |_,_=>True
def tpOk(P:Program)(t:TypeId):TP→Bool
 | .vl (.sv p)=>match(GP.one p).ks with
  |some ks=>flatB P 8 t ks&& !(isAggT P t)
  |none=>false
 | .vl (.agg l)=>match ksG l with
  |some ks=>flatB P 8 t ks&&isAggT P t
  |none=>false
 |_=>false
theorem okWide_agg{W:World}{r:Reach}{b0:Nat}{t:TypeId}{v:Value}(h:Value.okWide P W r b0 t v)(ha:isAggT P t=true):∃cs,v= .agg cs:=by
 unfold Value.okWide at h
 unfold isAggT at ha
 split at h
 ·obtain⟨cs,e,_⟩:=h;exact⟨cs,e⟩
 ·obtain⟨cs,e,_⟩:=h;exact⟨cs,e⟩
 ·rename_i h1 h2
  split at ha
  ·rename_i fs hu;exact absurd hu (h1 fs)
  ·rename_i n e hu;exact absurd hu (h2 n e)
  ·cases ha
theorem arg_open{H:Type}{enc:TypeId×Value→H}{W:World}{b0:Nat}{sp:Nat→Bool}{held:Bool}{ids:Ids}{t:TypeId}{p:TP}{v:Value}{d:DataW H}{ps:List MemPlace}(hp:tpOk P t p=true)
  (hv:Value.okWide P W .any b0 t v) (h:DataW.Trod enc P W 0 sp held t v d ps):
  ∃ls,∀r,(p.fill (ls++r)).2=r∧p.W (ls++r)∧(p.fill (ls++r)).1.R ids v∧(p.fill (ls++r)).1.nm=[]:=by
 obtain⟨fuel,h⟩:=h
 unfold tpOk at hp
 split at hp
 ·rename_i q
  split at hp
  ·rename_i ks hks
   simp only[Bool.and_eq_true,Bool.not_eq_true'] at hp
   have hk:=trod_flat 8 hp.1 h
   obtain⟨l,hl⟩:=kw_seg (ids:=ids) hks hk
   refine⟨l,fun r=> ?_⟩
   obtain⟨a1,a2,a3,a4⟩:=hl r
   refine⟨a1,a2, ?_, ?_⟩
   · -- one cell
    have hone:∃u,v.cells.toList=[u]:=by
     have:=CR.length a4
     simp only[GP.fill,Seg.cells,List.length_cons,List.length_nil] at this
     match hc:v.cells.toList,this with
     |[u],_=>exact⟨u,rfl⟩
    obtain⟨u,hu⟩:=hone
    rw[hu] at a4
    have hvu:v=u:=by
     cases v with
     |agg cs=>
      exfalso
      unfold Value.okWide at hv
      have ha:=hp.2
      unfold isAggT at ha
      split at hv
      ·rename_i hu;rw[hu] at ha;cases ha
      ·rename_i hu;rw[hu] at ha;cases ha
      ·unfold Cell.okWide at hv
       split at hv<;>first|(simp_all;done)|skip
       unfold Cell.ok at hv
       split at hv<;>simp_all
     |_=>simpa[Value.cells] using hu
    rw[hvu]
    exact a4.1
   ·clear hl hk
    cases q<;>first|rfl|(simp only[GP.ks,reduceCtorEq] at hks)
  ·cases hp
 ·rename_i l
  split at hp
  ·rename_i ks hks
   simp only[Bool.and_eq_true] at hp
   have hk:=trod_flat 8 hp.1 h
   obtain⟨ls,hl⟩:=kw_segs (ids:=ids) hks hk
   obtain⟨cs,rfl⟩:=okWide_agg hv hp.2
   refine⟨ls,fun r=> ?_⟩
   obtain⟨a1,a2,a3,a4⟩:=hl r
   refine⟨a1,a2,⟨cs,rfl,a3,a4⟩, ?_⟩
   clear hl a1 a2 a3 a4 hk
   have:∀(l:List GP) (ls:List Lf) (ks:List CK),ksG l=some ks→nmL (fillG l ls).1=[]:=by
    intro l
    induction l with
    |nil=>intro ls ks _;rfl
    |cons p l ih=>
     intro ls ks hk
     simp only[ksG] at hk
     split at hk
     ·rename_i k1 h1
      split at hk
      ·rename_i k2 h2
       simp only[fillG,nmL,List.flatMap_cons,List.append_eq_nil_iff]
       refine⟨?_,ih _ _ h2⟩
       unfold GP.ks at h1
       split at h1<;>first|rfl|(simp_all;done)
      ·cases hk
     ·cases hk
   exact this l _ ks hks
  ·cases hp
 ·cases hp
theorem trodAll_stays{H:Type}{enc:TypeId×Value→H}{W W':World}(hl:laidOutB P=true)(hb:RowKit.Below W.heap.size W W'):∀{ts:List TypeId} {vs:List Value} {ds:List (DataW H)} {ps:List MemPlace},
  (ts.all fun t=>P.readableRec t&&decide (t<P.types.size))=true→(∀x∈ps,x.block<W.heap.size)→DataW.TrodAll enc P W 0 (fun _=>true) true ts vs ds ps→
  DataW.TrodAll enc P W' 0 (fun b=>decide (b<W.heap.size)) true ts vs ds ps
 |[],[],[],ps,_,_,h=>h
 |t::ts,v::vs,d::ds,ps,hr,hlt,⟨p1,p2,h1,h2,e⟩=>by
  subst e
  simp only[List.all_cons,Bool.and_eq_true,decide_eq_true_eq] at hr
  exact⟨p1,p2,RowKit.Below.trod hl hr.1.1 hr.1.2 h1 hb (fun x hx=>hlt x (List.mem_append_left _ hx)),
   trodAll_stays hl hb (by simpa using hr.2) (fun x hx=>hlt x (List.mem_append_right _ hx)) h2,rfl⟩
 |[],[],_::_,_,_,_,h=>h.elim
 |[],_::_,ds,_,_,_,h=>by cases ds<;>exact h.elim
 |_::_,[],ds,_,_,_,h=>by cases ds<;>exact h.elim
 |_::_,_::_,[],_,_,_,h=>h.elim
def saysTrue(v:TV):Option Unit:=match v with
 | .vl (.sv (.bool b))=>cond b (some ()) none
 |_=>none
inductive AK where
 |c (k:CK)
 |s (E:EK)
inductive AP where
 |flat (p:TP)
 |sl (E:EK)
 |st (ks:List AK)
def mcks:List PK→List CK
 |[]=>[]
 | .i k::r=> .int k::mcks r
 | .b::r=> .bool::mcks r
 | .a k n::r=>List.replicate n (.int k)++mcks r
def EK.cks:EK→List CK
 | .int k=>[.int k]
 | .bool=>[.bool]
 | .str=>[.str]
 | .rc ks=>ks.map .int
 | .mx ps=>mcks ps
def WfL:List IntKind→List Int→Prop
 |[],[]=>True
 |k::ks,x::l=>(Lit.int k x).wf=true∧WfL ks l
 |_,_=>False
def EK.Wx:(E:EK)→E.T→Prop
 | .int k,x=>(Lit.int k x).wf=true
 | .bool,_=>True
 | .str,s=>(s:ByteArray).size≤maxLen
 | .rc ks,l=>WfL ks l
 | .mx _,_=>True
def EK.Ws(E:EK)(l:List E.T):Prop:=∀x∈l,E.Wx x
theorem kw_rc:∀{ks:List IntKind} {vs:List Value},KW (ks.map .int) vs→∃l,WfL ks l∧∀ids,CR ids (encR ks l) vs
 |[],[],_=>⟨[],trivial,fun _=>trivial⟩
 |k::ks,v::vs,h=>by
  obtain⟨⟨n,rfl,hn⟩,h2⟩:=h
  obtain⟨l,g1,g2⟩:=kw_rc (ks:=ks) (vs:=vs) h2
  exact⟨n::l,⟨hn,g1⟩,fun ids=>⟨rfl,g2 ids⟩⟩
 |[],_::_,h=>h.elim
 |_::_,[],h=>h.elim
theorem kw_reps{k:IntKind}:∀{n:Nat} {vs:List Value},KW (List.replicate n (.int k)) vs→∃l,∀ids,CR ids (encA k n l) vs
 |0,[],_=>⟨[],fun _=>trivial⟩
 |n+1,v::vs,h=>by
  obtain⟨⟨m,rfl,hm⟩,h2⟩:=h
  obtain⟨l,g⟩:=kw_reps (n:=n) h2
  exact⟨m::l,fun ids=>⟨rfl,g ids⟩⟩
 |0,_::_,h=>h.elim
 |n+1,[],h=>by exact h.elim
theorem kw_mx:∀{ps:List PK} {vs:List Value},KW (mcks ps) vs→∃z:PT ps,∀ids,CR ids (encM ps z) vs
 |[],[],_=>⟨(),fun _=>trivial⟩
 | .i k::r,v::vs,h=>by
  obtain⟨⟨m,rfl,hm⟩,h2⟩:=h
  obtain⟨z,g⟩:=kw_mx (ps:=r) h2
  exact⟨(m,z),fun ids=>⟨rfl,g ids⟩⟩
 | .b::r,v::vs,h=>by
  obtain⟨⟨m,rfl⟩,h2⟩:=h
  obtain⟨z,g⟩:=kw_mx (ps:=r) h2
  exact⟨(m,z),fun ids=>⟨rfl,g ids⟩⟩
 | .a k n::r,vs,h=>by
  obtain⟨us,ws,rfl,h1,h2⟩:=KW.split (ks:=List.replicate n (.int k)) (js:=mcks r) h
  obtain⟨l,g1⟩:=kw_reps h1
  obtain⟨z,g2⟩:=kw_mx (ps:=r) h2
  exact⟨(l,z),fun ids=>(g1 ids).append (g2 ids)⟩
 |[],_::_,h=>h.elim
 | .i _::_,[],h=>h.elim
 | .b::_,[],h=>h.elim
theorem kw_elem{E:EK}{vs:List Value}(h:KW E.cks vs):∃z:E.T,E.Wx z∧∀ids,CR ids (E.enc z) vs:=by
 cases E with
 |int k=>
  match vs,h with
  |[v],h=>
   obtain⟨⟨n,rfl,hn⟩,_⟩:=h
   exact⟨n,hn,fun ids=>⟨rfl,trivial⟩⟩
 |bool=>
  match vs,h with
  |[v],h=>
   obtain⟨⟨n,rfl⟩,_⟩:=h
   exact⟨n,trivial,fun ids=>⟨rfl,trivial⟩⟩
 |str=>
  match vs,h with
  |[v],h=>
   obtain⟨⟨n,rfl,hn⟩,_⟩:=h
   exact⟨n,hn,fun ids=>⟨rfl,trivial⟩⟩
 |rc ks=>exact kw_rc h
 |mx ps=>
  obtain⟨z,g⟩:=kw_mx (ps:=ps) h
  exact⟨z,trivial,g⟩
theorem mapM_get{f:Nat→Option Value}:∀{n j0:Nat} {cs:List Value},(List.range' j0 n).mapM f=some cs→∀j,j<n→∃v,cs[j]? =some v∧f (j0+j)=some v
 |0,_,_,_,j,hj=>by omega
 |n+1,j0,cs,h,j,hj=>by
  rw[List.range'_succ,List.mapM_cons] at h
  simp only[bind,Option.bind_eq_some_iff,pure,Option.some.injEq] at h
  obtain⟨v,hv,cs',hc,rfl⟩:=h
  cases j with
  |zero=>exact⟨v,rfl,hv⟩
  |succ j=>
   obtain⟨u,g1,g2⟩:=mapM_get hc j (by omega)
   exact⟨u,by simpa using g1,by rw[←g2];congr 1;omega⟩
def elemB(P:Program)(e:TypeId)(E:EK):Bool:=
 flatB P 8 e E.cks&&(Nat.blt 0 E.s&&(match P.info? e with|some i=>Nat.beq i.size E.s|none=>false))
theorem list_of{T:Type}(len:Nat)(p:Nat→T→Prop)(h:∀i,i<len→∃z,p i z):∃l:List T,l.length=len∧∀i z,l[i]? =some z→p i z:=by
 induction len with
 |zero=>exact⟨[],rfl,fun i z h=>by simp at h⟩
 |succ n ih=>
  obtain⟨l,h1,h2⟩:=ih fun i hi=>h i (by omega)
  obtain⟨z,hz⟩:=h n (by omega)
  refine⟨l++[z],by simp[h1],fun i y hy=> ?_⟩
  by_cases hi:i<n
  ·rw[List.getElem?_append_left (by omega)] at hy;exact h2 i y hy
  ·rw[List.getElem?_append_right (by omega)] at hy
   have hin:i=n:=by
    have:=(List.getElem?_eq_some_iff.1 hy).1
    simp at this;omega
   subst hin
   rw[h1,Nat.sub_self] at hy
   simp at hy;subst hy;exact hz
section
variable {H:Type} {enc:TypeId×Value→H} {w:World} {sp:Nat→Bool} {held:Bool}
theorem sl_open{fuel:Nat}{t e:TypeId}{E:EK}{v:Value}{x:DataW H×List MemPlace}(h0:0<w.heap.size)(hu:P.underlying t=some (.slice e))(he:elemB P e E=true)
  (h:DataW.trod enc P w 0 sp held fuel t [v]=some x):∃(g o len cap:Nat) (l:List E.T),(v= .slice (some ⟨g,o,none⟩) len cap∨(len=0∧cap=0∧∃a c,v= .slice a 0 c))∧g<w.heap.size∧
   l.length=len∧len≤cap∧cap≤maxLen∧E.Ws l∧∀j y,(l.flatMap E.enc)[j]? =some y→∃u,w.cell? ⟨g,o+j,none⟩=some u∧∀ids,y.R ids u:=by
 simp only[elemB,Bool.and_eq_true] at he
 obtain⟨hfl,hs0,hsz⟩:=he
 have hs0:0<E.s:=by simpa using hs0
 have hsz:P.cellsOf e=E.s:=by
  split at hsz
  ·rename_i i hi;rw[←Nat.eq_of_beq_eq_true hsz];simp[Program.cellsOf,hi]
  ·cases hsz
 have none':(∃a c,v= .slice a 0 c)→∃(g o len cap:Nat) (l:List E.T),(v= .slice (some ⟨g,o,none⟩) len cap∨(len=0∧cap=0∧∃a c,v= .slice a 0 c))∧g<w.heap.size∧
   l.length=len∧len≤cap∧cap≤maxLen∧E.Ws l∧∀j y,(l.flatMap E.enc)[j]? =some y→∃u,w.cell? ⟨g,o+j,none⟩=some u∧∀ids,y.R ids u:=by
  intro hv
  refine⟨0,0,0,0,[], .inr ⟨rfl,rfl,hv⟩,h0,rfl,Nat.le_refl _,Nat.zero_le _,(fun x hx=>nomatch hx),(fun j y hy=>by simp at hy)⟩
 rcases DataW.trod_slice hu h with⟨hv,_⟩|⟨a,len,cap,elems,rest,n,_,hv,_,_,hlc,hcm,hel,hread,_⟩
 ·simp only[List.cons.injEq,and_true] at hv
  exact none' ⟨_,_,hv⟩
 ·simp only[List.cons.injEq,and_true] at hv
  by_cases hz:len=0
  ·subst hz;exact none' ⟨_,_,hv⟩
  ·have hone:∀i,i<len→∃cs y,w.cells? 0 (a.add (i*E.s)) E.s=some cs∧DataW.trod enc P w 0 sp held n e cs=some y:=by
    intro i hi
    have:=hread i hi
    rw[List.getElem?_eq_getElem (by omega),hsz] at this
    simp only[Option.bind_eq_some_iff] at this
    obtain⟨cs,h1,h2⟩:=this
    exact⟨cs,_,h1,h2⟩
   have hcells:∀{b:Addr} {cs:List Value},w.cells? 0 b E.s=some cs→∀f,f<E.s→∃u,cs[f]? =some u∧w.cell? (b.add f)=some u:=by
    intro b cs hb f hf
    unfold World.cells? at hb
    rw[if_pos (Nat.zero_le _),List.range_eq_range'] at hb
    obtain⟨u,g1,g2⟩:=mapM_get hb f hf
    exact⟨u,g1,by simpa using g2⟩
   obtain⟨cs0,_,hc0,_⟩:=hone 0 (by omega)
   obtain⟨u0,_,hu0⟩:=hcells hc0 0 hs0
   have ha0:w.cell? a=some u0:=by simpa[Addr.add] using hu0
   have hspot:a.spot=none∧a.block<w.heap.size:=by
    unfold World.cell? at ha0
    split at ha0
    ·rename_i c t' z hblk
     refine⟨?_,(Array.getElem?_eq_some_iff.1 hblk).1⟩
     cases hsp:a.spot with
     |none=>rfl
     |some q=>rw[hsp] at ha0;cases ha0
    ·cases ha0
   obtain⟨g,o,spot⟩:=a
   obtain⟨rfl,hg⟩:=hspot
   simp only at hg
   obtain⟨l,hl,hlp⟩:=list_of (T:=E.T) len (fun i z=>E.Wx z∧∀f y,(E.enc z)[f]? =some y→∃u,w.cell? ⟨g,o+(i*E.s+f),none⟩=some u∧∀ids,y.R ids u) (by
    intro i hi
    obtain⟨cs,y,h1,h2⟩:=hone i hi
    have hk:=trod_flat 8 hfl h2
    obtain⟨z,z1,z2⟩:=kw_elem hk
    refine⟨z,z1,fun f y hy=> ?_⟩
    have hf:f<E.s:=by rw[←EK.enc_length E z];exact(List.getElem?_eq_some_iff.1 hy).1
    obtain⟨u,u1,u2⟩:=hcells h1 f hf
    refine⟨u, ?_,fun ids=> ?_⟩
    ·rw[←u2,addr_add,addr_add];congr 2;omega
    ·obtain⟨u',g1,g2⟩:=(z2 ids).get hy
     rw[u1] at g1
     rw[Option.some.inj g1];exact g2)
   refine⟨g,o,len,cap,l, .inl hv,hg,hl,hlc,hcm,fun x hx=> ?_,fun j y hy=> ?_⟩
   ·obtain⟨i,hi⟩:=List.mem_iff_getElem?.1 hx
    exact(hlp i x hi).1
   ·have hj:j<l.length*E.s:=by rw[←flatMap_enc_length];exact(List.getElem?_eq_some_iff.1 hy).1
    have hdm:j/E.s*E.s+j%E.s=j:=by rw[Nat.mul_comm];exact Nat.div_add_mod j E.s
    have hi:j/E.s<l.length:=Nat.div_lt_of_lt_mul (by rw[Nat.mul_comm];exact hj)
    have hget:=flatMap_enc_get E l (j/E.s) (j%E.s) hi (Nat.mod_lt _ hs0)
    rw[hdm,hy] at hget
    have hli:l[j/E.s]? =some (l.getD (j/E.s) E.d):=by simp[List.getElem?_eq_getElem hi]
    obtain⟨u,u1,u2⟩:=(hlp _ _ hli).2 _ y hget.symm
    rw[hdm] at u1
    exact⟨u,u1,u2⟩
end
def AK.sp:AK→Nat→SP
 | .c (.int k),_=> .int k
 | .c .bool,_=> .bool
 | .c .str,_=> .str
 | .s E,b=> .sla b 0 E.s
def AK.nb:AK→Nat
 | .c _=>0
 | .s _=>1
def gpsK:List AK→Nat→List GP
 |[],_=>[]
 |k::r,b=> .one (k.sp b)::gpsK r (b+k.nb)
def nbK:List AK→Nat
 |[]=>0
 |k::r=>k.nb+nbK r
def eksK:List AK→List EK
 |[]=>[]
 | .c _::r=>eksK r
 | .s E::r=>E::eksK r
def AP.tp:AP→Nat→TP
 | .flat p,_=>p
 | .sl E,b=> .vl (.sv (.sla b 0 E.s))
 | .st ks,b=> .vl (.agg (gpsK ks b))
def AP.nb:AP→Nat
 | .flat _=>0
 | .sl _=>1
 | .st ks=>nbK ks
def AP.eks:AP→List EK
 | .flat _=>[]
 | .sl E=>[E]
 | .st ks=>eksK ks
def tpsA:List AP→Nat→List TP
 |[],_=>[]
 |p::r,b=>p.tp b::tpsA r (b+p.nb)
def eksA:List AP→List EK
 |[]=>[]
 |p::r=>p.eks++eksA r
def bpE(l:List EK):List BP:=l.map fun E=>(false,[.seqv E])
def LsW(E:EK)(ls lb:List Lf):Prop:=
 (hdL ls).nat=0∧(hdL lb).nat=(hdL (tlL ls)).nat∧(hdL (tlL ls)).nat≤(hdL (tlL (tlL ls))).nat∧(hdL (tlL (tlL ls))).nat≤maxLen∧
  ((hdL (tlL lb)).lst E).length=(hdL (tlL ls)).nat∧E.Ws ((hdL (tlL lb)).lst E)
def WK:List AK→List Lf→List Lf→Prop
 |[],_,_=>True
 | .c k::r,ls,lb=>(GP.one ((AK.c k).sp 0)).W ls∧WK r (tlL ls) lb
 | .s E::r,ls,lb=>LsW E ls lb∧WK r (tlL (tlL (tlL ls))) (tlL (tlL lb))
def skipK:List AK→List Lf→List Lf
 |[],ls=>ls
 | .c _::r,ls=>skipK r (tlL ls)
 | .s _::r,ls=>skipK r (tlL (tlL (tlL ls)))
def skipE:List EK→List Lf→List Lf
 |[],lb=>lb
 |_::r,lb=>skipE r (tlL (tlL lb))
def WAt:List AP→List Lf→List Lf→Prop
 |[],_,_=>True
 | .flat p::r,ls,lb=>p.W ls∧WAt r (p.fill ls).2 lb
 | .sl E::r,ls,lb=>LsW E ls lb∧WAt r (tlL (tlL (tlL ls))) (tlL (tlL lb))
 | .st ks::r,ls,lb=>WK ks ls lb∧WAt r (skipK ks ls) (skipE (eksK ks) lb)
def skipA:List AP→List Lf→List Lf
 |[],ls=>ls
 | .flat p::r,ls=>skipA r (p.fill ls).2
 | .sl _::r,ls=>skipA r (tlL (tlL (tlL ls)))
 | .st ks::r,ls=>skipA r (skipK ks ls)
def WA(aps:List AP)(ls:List Lf):Prop:=WAt aps ls (skipA aps ls)
abbrev Ads:=List (Nat×Nat×Nat×Nat)
def Fits(ids:Ids)(nb:Nat)(ad:Ads):Prop:=∀i x,ad[i]? =some x→ids (nb+i)=x
theorem Fits.left{ids:Ids}{nb:Nat}{a b:Ads}(h:Fits ids nb (a++b)):Fits ids nb a:=fun i x hx=>h i x (by rw[List.getElem?_append_left (List.getElem?_eq_some_iff.1 hx).1];exact hx)
theorem Fits.right{ids:Ids}{nb:Nat}{a b:Ads}(h:Fits ids nb (a++b)):Fits ids (nb+a.length) b:=fun i x hx=>by
 have:=h (a.length+i) x (by rw[List.getElem?_append_right (by omega),Nat.add_sub_cancel_left];exact hx)
 rw[Nat.add_assoc];exact this
structure Opened (w:World) (nb:Nat) (eks:List EK) (lb:List Lf) (ad:Ads) (Bs:List Blk):Prop where
 len:ad.length=eks.length
 lenB:Bs.length=eks.length
 fill:∀r,fillB (bpE eks) (lb++r)=(Bs,r)
 skip:∀r,skipE eks (lb++r)=r
 blk:∀ids,Fits ids nb ad→∀i B,Bs[i]? =some B→B.1=false∧nmL B.2=[]∧BlkR ids w (nb+i) B
theorem bpE_noRws:∀{eks:List EK} {ls:List Lf},∀B∈(fillB (bpE eks) ls).1,noRws B.2=true
 |[],ls,B,h=>by simp[bpE,fillB] at h
 |E::r,ls,B,h=>by
  simp only[bpE,List.map_cons,fillB,List.mem_cons] at h
  rcases h with rfl|h
  ·rfl
  ·exact bpE_noRws (eks:=r) B h
theorem Opened.nil{w:World}{nb:Nat}:Opened w nb [] [] [] []:=⟨rfl,rfl,fun _=>rfl,fun _=>rfl,fun ids _ i B h=>by simp at h⟩
theorem skipE_append:∀(a b:List EK) (l:List Lf),skipE (a++b) l=skipE b (skipE a l)
 |[],_,_=>rfl
 |_::a,b,l=>skipE_append a b _
theorem fillB_append:∀(a b:List BP) (l:List Lf),fillB (a++b) l=((fillB a l).1++(fillB b (fillB a l).2).1,(fillB b (fillB a l).2).2)
 |[],_,_=>rfl
 |p::a,b,l=>by simp only[List.cons_append,fillB,fillB_append a b]
theorem Opened.append{w:World}{nb:Nat}{e1 e2:List EK}{l1 l2:List Lf}{a1 a2:Ads}{B1 B2:List Blk}(h1:Opened w nb e1 l1 a1 B1)(h2:Opened w (nb+e1.length) e2 l2 a2 B2):
  Opened w nb (e1++e2) (l1++l2) (a1++a2) (B1++B2):=by
 refine⟨by simp[h1.len,h2.len],by simp[h1.lenB,h2.lenB],fun r=> ?_,fun r=> ?_,fun ids hf i B hi=> ?_⟩
 ·rw[bpE,List.map_append,fillB_append,List.append_assoc]
  have g1:=h1.fill (l2++r)
  have g2:=h2.fill r
  unfold bpE at g1 g2
  simp only[g1,g2]
 ·rw[skipE_append,List.append_assoc,h1.skip,h2.skip]
 ·by_cases hlt:i<B1.length
  ·rw[List.getElem?_append_left hlt] at hi
   exact h1.blk ids hf.left i B hi
  ·rw[List.getElem?_append_right (by omega)] at hi
   have hr:=hf.right
   rw[h1.len] at hr
   have:=h2.blk ids hr (i-B1.length) B hi
   rw[h1.lenB] at this
   have e:nb+e1.length+(i-e1.length)=nb+i:=by have:=h1.lenB;omega
   rw[e] at this;exact this
section
variable {H:Type} {enc:TypeId×Value→H} {w:World} {sp:Nat→Bool} {held:Bool}
theorem sl_opened{fuel:Nat}{t e:TypeId}{E:EK}{v:Value}{x:DataW H×List MemPlace}(nb:Nat)(h0:0<w.heap.size)(hu:P.underlying t=some (.slice e))(he:elemB P e E=true)
  (h:DataW.trod enc P w 0 sp held fuel t [v]=some x):∃la lb ad Bs,la.length=3∧Opened w nb [E] lb ad Bs∧(∀r r',LsW E (la++r) (lb++r'))∧
   ∀ids,Fits ids nb ad→∀r,SV.R ids ((SP.sla nb 0 E.s).fill (la++r)).1 v:=by
 obtain⟨g,o,len,cap,l,hv,hg,hl,hlc,hcm,hw,hcell⟩:=sl_open h0 hu he h
 refine⟨[.m 0, .m len, .m cap],[.m len, .l E l],[(g,o,0,0)],[(false,[.seq E len l])],rfl,⟨rfl,rfl,fun r=> ?_,fun r=>rfl,fun ids hf i B hi=> ?_⟩,fun r r'=> ?_,fun ids hf r=> ?_⟩
 ·show([(false,[Seg.seq E len ((Lf.l E l).lst E)])],r)=_
  rw[Lf.lst_l]
 ·cases i with
  |succ i=>simp at hi
  |zero=>
   simp only[List.getElem?_cons_zero,Option.some.injEq] at hi
   subst hi
   have hid:=hf 0 (g,o,0,0) rfl
   refine⟨rfl,rfl,fun s hs=> ?_,trivial,fun _=>by rw[hid];exact hg,fun j y hy=> ?_⟩
   ·simp only[List.mem_singleton] at hs;subst hs;exact hl
   ·have hy':(l.flatMap E.enc)[j]? =some y:=by simpa[cellsL,Seg.cells] using hy
    obtain⟨u,u1,u2⟩:=hcell j y hy'
    rw[hid]
    exact⟨u,u1,u2 ids,fun hh=>by cases hh⟩
 ·refine⟨rfl,rfl,hlc,hcm, ?_, ?_⟩
  ·show((Lf.l E l).lst E).length=len
   rw[Lf.lst_l];exact hl
  ·show E.Ws ((Lf.l E l).lst E)
   rw[Lf.lst_l];exact hw
 ·have hid:=hf 0 (g,o,0,0) rfl
  show v=_∨_
  rcases hv with hv|hv
  ·left
   rw[show ids nb=(g,o,0,0) from hid,hv]
   simp[Lf.nat,hdL,tlL]
  ·exact .inr hv
def cellB(P:Program)(t:TypeId):AK→Bool
 | .c k=>flatB P 8 t [k]
 | .s E=>match P.underlying t with
  |some (.slice e)=>elemB P e E
  |_=>false
def fldsB(P:Program):List Field→Nat→List AK→Bool
 |[],_,ks=>ks.isEmpty
 |f::fs,off,k::ks=>Nat.beq f.offset off&&((match P.info? f.type with|some i=>Nat.beq i.size 1|none=>false)&&(cellB P f.type k&&fldsB P fs (off+1) ks))
 |_,_,_=>false
def apB(P:Program)(t:TypeId):AP→Bool
 | .flat p=>tpOk P t p
 | .sl E=>match P.underlying t with
  |some (.slice e)=>elemB P e E
  |_=>false
 | .st ks=>match P.underlying t with
  |some (.struct fs)=>fldsB P fs.toList 0 ks&&(match P.info? t with|some i=>Nat.beq i.size ks.length|none=>false)
  |_=>false
theorem ck_open{k:CK}{v:Value}(h:k.W v)(r:List Lf)(b:Nat):∃x:Lf,∀r ids,(GP.one ((AK.c k).sp 0)).W (x::r)∧((AK.c k).sp b).fill (x::r)=((((AK.c k).sp b).fill [x]).1,r)∧SV.R ids (((AK.c k).sp b).fill (x::r)).1 v∧(((AK.c k).sp b).fill (x::r)).1.nm=[]:=by
 cases k with
 |int q=>obtain⟨n,rfl,hw⟩:=h;exact⟨.i n,fun r ids=>⟨hw,rfl,rfl,rfl⟩⟩
 |bool=>obtain⟨n,rfl⟩:=h;exact⟨.b n,fun r ids=>⟨trivial,rfl,rfl,rfl⟩⟩
 |str=>obtain⟨n,rfl,hw⟩:=h;exact⟨.s n,fun r ids=>⟨hw,rfl,rfl,rfl⟩⟩
theorem flds_open(h0:0<w.heap.size){fuel:Nat}{cs:List Value}:∀(fs:List Field) (off:Nat) (ks:List AK) (ys:List (DataW H×List MemPlace)) (nb:Nat),
  fldsB P fs off ks=true→(fs.mapM fun f=>DataW.trod enc P w 0 sp held fuel f.type ((cs.drop f.offset).take (P.cellsOf f.type)))=some ys→off+ks.length≤cs.length→
  ∃la lb ad Bs,Opened w nb (eksK ks) lb ad Bs∧(∀r r',WK ks (la++r) (lb++r')∧skipK ks (la++r)=r)∧(∀r,(fillG (gpsK ks nb) (la++r)).2=r∧oksL (fillG (gpsK ks nb) (la++r)).1∧
   ∀b∈nmL (fillG (gpsK ks nb) (la++r)).1,b<nb+nbK ks)∧
   ∀ids,Fits ids nb ad→∀r,CR ids (cellsL (fillG (gpsK ks nb) (la++r)).1) ((cs.drop off).take ks.length)
 |[],off,ks,ys,nb,hf,_,_=>by
  simp only[fldsB,List.isEmpty_iff] at hf
  subst hf
  exact⟨[],[],[],[],Opened.nil,fun r r'=>⟨trivial,rfl⟩,fun r=>⟨rfl,(fun s hs=>by cases hs),fun b hb=>by simp[gpsK,fillG,nmL] at hb⟩,fun ids _ r=>by simp[gpsK,fillG,cellsL,CR]⟩
 |f::fs,off,[],ys,nb,hf,_,_=>by simp[fldsB] at hf
 |f::fs,off,k::ks,ys,nb,hf,hm,hlen=>by
  simp only[fldsB,Bool.and_eq_true] at hf
  obtain⟨h1,h2,h3,h4⟩:=hf
  have hoff:=Nat.eq_of_beq_eq_true h1
  have hsz:P.cellsOf f.type=1:=by
   split at h2
   ·rename_i i hi;rw[←Nat.eq_of_beq_eq_true h2];simp[Program.cellsOf,hi]
   ·cases h2
  rw[List.mapM_cons] at hm
  simp only[bind,Option.bind_eq_some_iff,pure,Option.some.injEq] at hm
  obtain⟨y,hy,ys',hys,rfl⟩:=hm
  simp only[List.length_cons] at hlen
  have hcv:(cs.drop off).take 1=[cs[off]'(by omega)]:=by rw[List.drop_eq_getElem_cons (by omega)];rfl
  rw[hsz,hoff,hcv] at hy
  generalize hgv:cs[off]'(by omega)=v at*
  have hsplit:(cs.drop off).take (ks.length+1)=v::(cs.drop (off+1)).take ks.length:=by
   rw[List.drop_eq_getElem_cons (by omega),List.take_succ_cons,hgv]
  obtain⟨la,lb,ad,Bs,g1,g2,g3,g4⟩:=flds_open h0 fs (off+1) ks ys' (nb+k.nb) h4 hys (by omega)
  cases k with
  |c q=>
   have hk:=trod_flat 8 h3 hy
   obtain⟨hk,_⟩:=hk
   obtain⟨x,hx⟩:=ck_open hk [] nb
   refine⟨x::la,lb,ad,Bs,g1,fun r r'=>⟨⟨(hx (la++r) (fun _=>(0,0,0,0))).1,(g2 r r').1⟩,(g2 r r').2⟩,fun r=> ?_,fun ids hf r=> ?_⟩
   ·obtain⟨_,q2,q3,q4⟩:=hx (la++r) (fun _=>(0,0,0,0))
    simp only[List.cons_append,gpsK,fillG,GP.fill]
    rw[q2]
    obtain⟨p1,p2,p3⟩:=g3 r
    refine⟨p1, ?_, ?_⟩
    ·intro s hs
     rcases List.mem_cons.1 hs with rfl|hs
     ·trivial
     ·exact p2 s hs
    ·intro b hb
     rw[q2] at q4
     simp only[nmL,List.flatMap_cons,List.mem_append,Seg.nm] at hb
     rcases hb with hb|hb
     ·rw[q4] at hb;cases hb
     ·have:=p3 b hb
      simp only[nbK,AK.nb] at this⊢;omega
   ·obtain⟨_,q2,q3,q4⟩:=hx (la++r) ids
    simp only[List.cons_append,gpsK,fillG,GP.fill,List.length_cons,hsplit]
    rw[q2] at q3⊢
    simp only[cellsL,List.flatMap_cons,Seg.cells,List.singleton_append]
    exact⟨q3,g4 ids hf r⟩
  |s E=>
   simp only[cellB] at h3
   split at h3
   ·rename_i e hu
    obtain⟨la1,lb1,ad1,B1,hl3,o1,o2,o3⟩:=sl_opened nb h0 hu h3 hy
    match la1,hl3 with
    |[x1,x2,x3],_=>
     refine⟨x1::x2::x3::la,lb1++lb,ad1++ad,B1++Bs,o1.append g1,fun r r'=>⟨⟨?_, ?_⟩,(g2 r r').2⟩,fun r=> ?_,fun ids hf r=> ?_⟩
     ·have:=o2 (la++r) (lb++r')
      rw[List.append_assoc];exact this
     ·have hsk:=o1.skip (lb++r')
      rw[List.append_assoc]
      rw[show tlL (tlL (lb1++(lb++r')))=lb++r' from hsk]
      exact(g2 r r').1
     ·obtain⟨p1,p2,p3⟩:=g3 r
      refine⟨p1, ?_, ?_⟩
      ·intro s hs
       rcases List.mem_cons.1 hs with rfl|hs
       ·trivial
       ·exact p2 s hs
      ·intro b hb
       have hb':b∈[nb]++nmL (fillG (gpsK ks (nb+1)) (la++r)).1:=hb
       simp only[List.mem_append,List.mem_singleton] at hb'
       rcases hb' with rfl|hb'
       ·simp only[nbK,AK.nb];omega
       ·have:=p3 b hb'
        simp only[nbK,AK.nb] at this⊢;omega
     ·rw[List.length_cons,hsplit]
      refine⟨o3 ids hf.left (la++r), ?_⟩
      have hr:=hf.right
      rw[o1.len] at hr
      exact g4 ids hr r
   ·cases h3
theorem arg_openA{t:TypeId}{p:AP}{v:Value}{d:DataW H}{ps:List MemPlace}{b0:Nat}(nb:Nat)(h0:0<w.heap.size)(hp:apB P t p=true)
  (hv:Value.okWide P w .any b0 t v) (h:DataW.Trod enc P w 0 sp held t v d ps):
  ∃la lb ad Bs,Opened w nb p.eks lb ad Bs∧(∀r r' aps,(WAt (p::aps) (la++r) (lb++r')↔WAt aps r r')∧skipA (p::aps) (la++r)=skipA aps r)∧(∀r,((p.tp nb).fill (la++r)).2=r∧
   ∀b∈((p.tp nb).fill (la++r)).1.nm,b<nb+p.nb)∧∀ids,Fits ids nb ad→∀r,((p.tp nb).fill (la++r)).1.R ids v:=by
 cases p with
 |flat q=>
  obtain⟨ls,hls⟩:=arg_open (ids:=fun _=>(0,0,0,0)) hp hv h
  refine⟨ls,[],[],[],Opened.nil,fun r r' aps=> ?_,fun r=> ?_,fun ids _ r=> ?_⟩
  ·obtain⟨a1,a2,a3,a4⟩:=hls r
   simp only[WAt,skipA,a1,a2,true_and,List.nil_append]
   first|done|exact⟨Iff.rfl,rfl⟩
  ·obtain⟨a1,a2,a3,a4⟩:=hls r
   refine⟨a1,fun b hb=> ?_⟩
   have hb':b∈((q.fill (ls++r)).1).nm:=hb
   rw[a4] at hb';cases hb'
  ·obtain⟨a1,a2,a3,a4⟩:=hls r
   refine a3.congr fun b hb=> ?_
   rw[a4] at hb;cases hb
 |sl E=>
  simp only[apB] at hp
  split at hp
  ·rename_i e hu
   obtain⟨fuel,h⟩:=h
   have hone:v.cells.toList=[v]:=by
    unfold Value.okWide at hv
    rw[hu] at hv
    simp only at hv
    cases v with
    |agg cs=>
     exfalso
     unfold Cell.okWide at hv
     rw[hu] at hv
     simp only at hv
     unfold Cell.ok at hv
     rw[hu] at hv
     exact hv
    |_=>rfl
   rw[hone] at h
   obtain⟨la1,lb1,ad1,B1,hl3,o1,o2,o3⟩:=sl_opened nb h0 hu hp h
   match la1,hl3 with
   |[x1,x2,x3],_=>
    refine⟨[x1,x2,x3],lb1,ad1,B1,o1,fun r r' aps=>⟨?_,rfl⟩,fun r=>⟨rfl,fun b hb=> ?_⟩,fun ids hf r=>o3 ids hf r⟩
    ·have hsk:=o1.skip r'
     simp only[WAt]
     rw[show tlL (tlL (lb1++r'))=r' from hsk]
     exact⟨fun h=>h.2,fun h=>⟨o2 r r',h⟩⟩
    ·have hb':b∈[nb]:=hb
     simp only[List.mem_singleton] at hb'
     subst hb'
     show b<b+1
     omega
  ·cases hp
 |st ks=>
  simp only[apB] at hp
  split at hp
  ·rename_i fs hu
   simp only[Bool.and_eq_true] at hp
   obtain⟨hp1,hp2⟩:=hp
   obtain⟨fuel,h⟩:=h
   obtain⟨cs,rfl,hcs⟩:∃cs,v= .agg cs∧cs.size=P.cellsOf t:=by
    unfold Value.okWide at hv
    rw[hu] at hv
    obtain⟨cs,e1,e2,_⟩:=hv
    exact⟨cs,e1,e2⟩
   have hsz:P.cellsOf t=ks.length:=by
    split at hp2
    ·rename_i i hi;rw[←Nat.eq_of_beq_eq_true hp2];simp[Program.cellsOf,hi]
    ·cases hp2
   cases fuel with
   |zero=>simp[DataW.trod] at h
   |succ fuel=>
    unfold DataW.trod at h
    rw[hu] at h
    split at h<;>first|(simp_all;done)|skip
    rename_i fs' hn
    simp only[Option.some.injEq,TypeDesc.struct.injEq] at hn
    obtain rfl:=hn
    split at h
    ·rename_i hlen
     simp only[Option.map_eq_some_iff] at h
     obtain⟨ys,hys,_⟩:=h
     have hcl:(Value.agg cs).cells.toList=cs.toList:=rfl
     rw[hcl] at hys
     obtain⟨la,lb,ad,Bs,g1,g2,g3,g4⟩:=flds_open (cs:=cs.toList) h0 fs.toList 0 ks ys nb hp1 hys (by simp;omega)
     refine⟨la,lb,ad,Bs,g1,fun r r' aps=>⟨?_, ?_⟩,fun r=>⟨(g3 r).1,fun b hb=>(g3 r).2.2 b hb⟩,fun ids hf r=>⟨cs,rfl,(g3 r).2.1, ?_⟩⟩
     ·simp only[WAt]
      rw[(g2 r r').2,g1.skip]
      exact⟨fun h=>h.2,fun h=>⟨(g2 r r').1,h⟩⟩
     ·simp only[skipA];rw[(g2 r []).2]
     ·have:=g4 ids hf r
      rw[List.drop_zero,List.take_of_length_le (by simp;omega)] at this
      exact this
    ·cases h
  ·cases hp
def apsOk(P:Program):List TypeId→List AP→Bool
 |[],[]=>true
 |t::ts,p::ps=>apB P t p&&apsOk P ts ps
 |_,_=>false
theorem nb_eksK:∀(ks:List AK),(eksK ks).length=nbK ks
 |[]=>rfl
 | .c _::r=>by simp only[eksK,nbK,AK.nb,nb_eksK r];omega
 | .s _::r=>by simp only[eksK,nbK,AK.nb,List.length_cons,nb_eksK r];omega
theorem nb_eks(p:AP):p.eks.length=p.nb:=by
 cases p with
 |flat q=>rfl
 |sl E=>rfl
 |st ks=>exact nb_eksK ks
theorem args_openA(h0:0<w.heap.size){base:Nat}:∀{ts:List TypeId} {aps:List AP} {vs:List Value} {ds:List (DataW H)} {ps:List MemPlace} (nb:Nat),apsOk P ts aps=true→
  (∀(j:Nat) t v,ts[j]? =some t→vs[j]? =some v→Value.okWide P w .any base t v)→DataW.TrodAll enc P w 0 sp held ts vs ds ps→
  ∃la lb ad Bs,Opened w nb (eksA aps) lb ad Bs∧(∀r r',WAt aps (la++r) (lb++r')∧skipA aps (la++r)=r)∧(∀r,(fillT (tpsA aps nb) (la++r)).2=r∧
   ∀x∈(fillT (tpsA aps nb) (la++r)).1,∀b∈x.nm,b<nb+(eksA aps).length)∧∀ids,Fits ids nb ad→∀r,TsR ids (fillT (tpsA aps nb) (la++r)).1 vs
 |[],[],[],ds,ps,nb,_,_,_=>⟨[],[],[],[],Opened.nil,fun r r'=>⟨trivial,rfl⟩,fun r=>⟨rfl,fun x hx=>by cases hx⟩,fun ids _ r=>trivial⟩
 |[],[],_::_,ds,ps,nb,_,_,h=>by cases ds<;>exact h.elim
 |t::ts,p::aps,[],ds,ps,nb,_,_,h=>by cases ds<;>exact h.elim
 |t::ts,p::aps,v::vs,[],ps,nb,_,_,h=>h.elim
 |t::ts,p::aps,v::vs,d::ds,ps,nb,hp,hv,⟨p1,p2,h1,h2,_⟩=>by
  simp only[apsOk,Bool.and_eq_true] at hp
  obtain⟨la1,lb1,ad1,B1,o1,q1,f1,r1⟩:=arg_openA nb h0 hp.1 (hv 0 t v rfl rfl) h1
  obtain⟨la2,lb2,ad2,B2,o2,q2,f2,r2⟩:=args_openA h0 (nb+p.nb) hp.2 (fun j t v ht hv'=>hv (j+1) t v (by simpa using ht) (by simpa using hv')) h2
  refine⟨la1++la2,lb1++lb2,ad1++ad2,B1++B2, ?_,fun r r'=> ?_,fun r=> ?_,fun ids hf r=> ?_⟩
  ·refine o1.append ?_
   rw[nb_eks];exact o2
  ·rw[List.append_assoc,List.append_assoc]
   exact⟨((q1 _ _ aps).1).2 (q2 r r').1,by rw[(q1 (la2++r) [] aps).2];exact(q2 r r').2⟩
  ·rw[List.append_assoc]
   obtain⟨a1,a2⟩:=f1 (la2++r)
   obtain⟨b1,b2⟩:=f2 r
   simp only[tpsA,fillT,a1]
   refine⟨b1,fun x hx b hb=> ?_⟩
   simp only[eksA,List.length_append,nb_eks]
   rcases List.mem_cons.1 hx with rfl|hx
   ·have:=a2 b hb;omega
   ·have:=b2 x hx b hb;omega
  ·rw[List.append_assoc]
   simp only[tpsA,fillT,(f1 (la2++r)).1]
   have hr:=hf.right
   rw[o1.len,nb_eks] at hr
   exact⟨r1 ids hf.left _,r2 ids hr r⟩
 |[],_::_,_,_,_,_,hp,_,_=>by cases hp
 |_::_,[],_,_,_,_,hp,_,_=>by cases hp
end
theorem shaped_pos{w:World}(h:w.ShapedOpen P):0<w.heap.size:=by
 obtain⟨o,o₀,h1,_⟩:=h.2 P.globals.size (Nat.le_refl _) (by simp[begin];omega)
 exact Nat.lt_of_le_of_lt (Nat.zero_le _) (Array.getElem?_eq_some_iff.1 h1).1
theorem law_postA{f:FuncId}{fn:Func}{s:ChangeSpec}{tb:TypeId}{aps:List AP}{F:{α:Type}→List Lf→(TV→List (List Seg)→List (List Seg)→Option α)→Option α}{W:World}(h0:0<W.heap.size)
  (hrow:FnOk P f (tpsA aps 0) (bpE (eksA aps)) F) (hlaw:∀ls,WA aps ls→F ls (fun v _ _=>saysTrue v)=some ())
  (htps:(apsOk P fn.params.toList aps&&Nat.ble (eksA aps).length 1000)=true) (hl:laidOutB P=true) (hr:(fn.params.toList.all fun t=>P.readableRec t&&decide (t<P.types.size))=true)
  (hvars:s.vars=[]) (hs:∀(H:Type) (ds:List (DataW H)),ds.length=fn.params.size→s.fn H ds={results:=[.lit (.bool true)],args:=ds})
  (hres:fn.resultTypes= #[tb]) (hb:P.underlying tb=some .bool)
  {H:Type} {enc:TypeId×Value→H} {base:Nat} {args:Array Value} {ds gs:List (DataW H)} {before:List MemPlace}
  (hval:∀(j:Nat) t v,fn.params[j]? =some t→args[j]? =some v→Value.okWide P W .any base t v) (hW:DataW.Whole enc P fn.params.toList s.vars false W args.toList ds gs before):
  Calls P f args W fun e W'=>∃v,e= .returned v∧s.post enc P fn false true false false W args v W':=by
 have hW':=hW
 obtain⟨p,q,hA,hV,rfl,hfz,hnd⟩:=hW
 have hlen:∀{ts:List TypeId} {vs:List Value} {ds:List (DataW H)} {ps:List MemPlace},DataW.TrodAll enc P W 0 (fun _=>true) true ts vs ds ps→ds.length=ts.length:=by
  intro ts
  induction ts with
  |nil=>intro vs ds ps h;cases vs<;>cases ds<;>first|rfl|exact h.elim
  |cons t ts ih=>
   intro vs ds ps h
   cases vs<;>cases ds<;>first|exact h.elim|skip
   obtain⟨_,_,_,h2,_⟩:=h
   simp[ih h2]
 have hdl:ds.length=fn.params.size:=by simpa using hlen hA
 rw[hvars] at hV
 have hg:gs=[]∧q=[]:=by
  cases gs with
  |nil=>exact⟨rfl,hV⟩
  |cons _ _=>exact hV.elim
 obtain⟨rfl,rfl⟩:=hg
 simp only[Bool.and_eq_true] at htps
 obtain⟨htps,hble⟩:=htps
 obtain⟨la,lb,ad,Bs,hO,hq,hf,hT⟩:=args_openA h0 0 htps (fun j t v ht hv=>hval j t v (by simpa using ht) (by simpa using hv)) hA
 obtain⟨v,Bs',Ns,hk,hF⟩:=hrow Unit (la++lb) _ _ (hlaw _ (by
  show WAt aps (la++lb) (skipA aps (la++lb))
  have:=hq lb []
  rw[this.2]
  simpa using this.1))
 obtain⟨hbl,_,hcall⟩:=hF
 have hfill2:(fillT (tpsA aps 0) (la++lb)).2=lb:=(hf lb).1
 have hfillB:fillB (bpE (eksA aps)) lb=(Bs,[]):=by simpa using hO.fill []
 rw[hfill2,hfillB] at hcall
 let ids:Ids:=fun i=>ad.getD i (0,0,0,0)
 have hfit:Fits ids 0 ad:=fun i x hx=>by
  show ad.getD (0+i) (0,0,0,0)=x
  simp[List.getD,hx]
 have hblk:=hO.blk ids hfit
 have hnr:∀(i:Nat) (B:Blk),Bs[i]? =some B→noRws B.2=true:=fun i B h=>bpE_noRws (eks:=eksA aps) (ls:=lb) B (by rw[hfillB];exact List.mem_of_getElem? h)
 have hcalls:=hcall ids W args.toList ⟨(fun i B h=>by have:=(hblk i B h).2.2;rw[Nat.zero_add] at this;exact this),(fun i j B C h=>by
   have:=(hblk i _ h).1;cases this),(fun i B h=>by
   rw[(hblk i B h).2.1];intro b hb;cases hb),⟨(fun i B h hno=>by rw[hnr i B h] at hno;cases hno),(fun i B h=> .of_no (hnr i B h)),(fun i B h g hg=>by rw[foot_no (hnr i B h)] at hg;cases hg),
    (fun i j B C h _ _ hg=>by rw[foot_no (hnr i B h)] at hg;cases hg),(fun i j B C h _ _ g hg=>by rw[foot_no (hnr i B h)] at hg;cases hg)⟩⟩ (hT ids hfit lb)
  (fun x hx b hb=>by
   have:=(hf lb).2 x hx b hb
   rw[hO.lenB];omega) (by rw[hO.lenB];exact Nat.le_of_ble_eq_true hble)
 rw[show args.toList.toArray=args by simp] at hcalls
 refine hcalls.mono ?_
 rintro e W' ⟨ids',cv,rfl,hret⟩
 have hv:v= .vl (.sv (.bool true)):=by
  unfold saysTrue at hk
  split at hk
  ·rename_i b
   cases b with
   |true=>rfl
   |false=>cases hk
  ·cases hk
 subst hv
 have hcv:cv= .bool true:=hret.val
 subst hcv
 have hkeep:Keeps W W' []:=by
  have h1:=hret.keeps
  have:∀(l:List Blk) (i:Nat),(∀B∈l,B.1=false)→wrOf ids l i=[]:=by
   intro l
   induction l with
   |nil=>intro i _;rfl
   |cons B l ih=>intro i h;simp only[wrOf,h B (by simp),cond_false];exact ih _ fun C hC=>h C (by simp[hC])
  have h2:∀(l:List Blk) (i:Nat),(∀B∈l,noRws B.2=true)→hwOf W ids l i=[]:=by
   intro l
   induction l with
   |nil=>intro i _;rfl
   |cons B l ih=>intro i h;simp only[hwOf,foot_no (h B (by simp)),List.nil_append];exact ih _ fun C hC=>h C (by simp[hC])
  simp only at h1
  rw[wrAll,h2 Bs 0 (fun B hB=>by
   obtain⟨i,hi⟩:=List.mem_iff_getElem?.1 hB
   exact hnr i B hi),List.append_nil,this Bs 0 (fun B hB=>by
   obtain⟨i,hi⟩:=List.mem_iff_getElem?.1 hB
   exact(hblk i B hi).1)] at h1
  exact h1
 have bel:RowKit.Below W.heap.size W W':=⟨hkeep.os,hkeep.tape,hkeep.output,hkeep.size,fun k hk=>hkeep.block k hk (by simp)⟩
 refine⟨_,rfl,ds,[],_,[],p,[],hW', ?_, ?_, ?_, ?_,fun h=>by cases h⟩
 ·rw[List.append_nil,hs H ds hdl,hres]
  exact ChangeShapes.trodAll_mk1 (RowKit.shut_bool hb _)
 ·rw[List.append_nil,hs H ds hdl]
  refine trodAll_stays hl bel hr (fun x hx=>hW'.lt x (List.mem_append_left _ hx)) hA
 ·rw[List.append_nil,hs H ds hdl,hvars];rfl
 ·exact bel.frame _
end Go.Proofs.Ytlmmgjngihlpeaa.Sx
