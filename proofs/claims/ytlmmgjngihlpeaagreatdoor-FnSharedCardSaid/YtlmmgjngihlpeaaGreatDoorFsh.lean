/- Part 8 of the proof that what is shared, pruned and joined is approximated as before, that terms are read from their texts, and that decimals begin as the approximations tell. Our own work, shortened by a program of ours. -/
import Derived.Test.YtlmmgjngihlpeaaGreatDoorFsg
import Derived.Carry
import Derived.RowKit
import Derived.OpenShut
import Derived.ChangeArms
namespace Go.Proofs.YtlmmgjngihlpeaaGreatDoor.Sx
open Go
set_option linter.unusedVariables false
set_option linter.unusedSimpArgs false
set_option maxRecDepth 100000
section
variable {P:Program}
def CK.W:CK->Value->Prop
 | .int k,v=>∃n,v= .int k n/\(Lit.int k n).wf=true
 | .bool,v=>∃b,v= .bool b
 | .str,v=>∃s:ByteArray,v= .string s/\s.size<=maxLen
def KW:List CK->List Value->Prop
 |[],[]=>True
 |k::ks,v::vs=>k.W v/\KW ks vs
 |_,_=>False
theorem KW.length:∀{ks:List CK} {vs:List Value},KW ks vs->ks.length=vs.length
 |[],[],_=>rfl
 |_::_,_::_,h=>by simp[KW.length h.2]
 |[],_::_,h=>h.elim
 |_::_,[],h=>h.elim
theorem KW.append:∀{ks js:List CK} {vs us:List Value},KW ks vs->KW js us->KW (ks++js) (vs++us)
 |[],js,[],us,_,h=>h
 |k::ks,js,v::vs,us,h,h'=>⟨h.1,KW.append h.2 h'⟩
 |[],_,_::_,_,h,_=>h.elim
 |_::_,_,[],_,h,_=>h.elim
theorem KW.split:∀{ks js:List CK} {vs:List Value},KW (ks++js) vs->∃us ws,vs=us++ws/\KW ks us/\KW js ws
 |[],js,vs,h=>⟨[],vs,rfl,trivial,h⟩
 |k::ks,js,v::vs,h=>by
  obtain⟨us,ws,e,h1,h2⟩:=KW.split (ks:=ks) (js:=js) h.2
  exact⟨v::us,ws,by rw[e];rfl,⟨h.1,h1⟩,h2⟩
 |_::_,_,[],h=>h.elim
section
variable {H:Type} {enc:TypeId×Value->H} {w:World} {base:Nat} {sp:Nat->Bool} {held:Bool}
theorem LP{t:TypeId}{ks:List CK}(h:ae5 P t ks=true):P.cellsOf t=ks.length:=by
 unfold ae5 at h
 split at h
 .rename_i j hj;rw[<-Nat.eq_of_beq_eq_true h];simp[Program.cellsOf,hj]
 .cases h
theorem take_split{β:Type _}(l:List β)(n k:Nat)(h:n<=k):l.take k=l.take n++(l.drop n).take (k-n):=by
 conv=>lhs;rw[show k=n+(k-n) by omega,List.take_add]
theorem WH{m fuel:Nat}{e:TypeId}{s:Nat}{cs:List Value}(IH:∀ks c x,gI P m e ks=true->DataW.trod enc P w base sp held fuel e c=some x->KW ks c):∀(n j:Nat) (ks:List CK) (ys:List (DataW H×List MemPlace)),
  EF (gI P m e) s n ks=true->((List.range' j n).mapM λi=>DataW.trod enc P w base sp held fuel e ((cs.drop (i*s)).take s))=some ys->KW ks ((cs.drop (j*s)).take ks.length)
 |0,j,ks,ys,hf,_=>by
  simp only[EF,List.isEmpty_iff] at hf
  subst hf;simp[KW]
 |n+1,j,ks,ys,hf,hm=>by
  simp only[EF,Bool.and_eq_true] at hf
  obtain⟨h1,h2,h3⟩:=hf
  have hle:=Nat.le_of_ble_eq_true h2
  rw[List.range'_succ,List.mapM_cons] at hm
  simp only[bind,Option.bind_eq_some_iff,pure,Option.some.injEq] at hm
  obtain⟨y,hy,ys',hys,rfl⟩:=hm
  have g1:=IH _ _ _ h1 hy
  have g2:=WH IH n (j+1) (ks.drop s) ys' h3 hys
  rw[take_split _ s _ hle,List.drop_drop,<-List.take_append_drop s ks]
  have hl:((List.take s ks++List.drop s ks).length-s)=(ks.drop s).length:=by simp
  rw[hl,show j*s+s=(j+1)*s by rw[Nat.succ_mul]]
  exact g1.append g2
theorem Nr{m fuel:Nat}{cs:List Value}(IH:∀t ks c x,gI P m t ks=true->DataW.trod enc P w base sp held fuel t c=some x->KW ks c):∀(fs:List Field) (off:Nat) (ks:List CK) (ys:List (DataW H×List MemPlace)),
  EG (gI P m) P fs off ks=true->(fs.mapM λf=>DataW.trod enc P w base sp held fuel f.type ((cs.drop f.offset).take (P.cellsOf f.type)))=some ys->KW ks ((cs.drop off).take ks.length)
 |[],off,ks,ys,hf,_=>by
  simp only[EG,List.isEmpty_iff] at hf
  subst hf;simp[KW]
 |f::fs,off,ks,ys,hf,hm=>by
  simp only[EG,Bool.and_eq_true] at hf
  obtain⟨h1,h2,h3⟩:=hf
  split at h3
  .rename_i i hi
   simp only[Bool.and_eq_true] at h3
   obtain⟨g1,g2,g3⟩:=h3
   have hle:=Nat.le_of_ble_eq_true g2
   have hoff:=Nat.eq_of_beq_eq_true h2
   rw[List.mapM_cons] at hm
   simp only[bind,Option.bind_eq_some_iff,pure,Option.some.injEq] at hm
   obtain⟨y,hy,ys',hys,rfl⟩:=hm
   have hsz:P.cellsOf f.type=i.size:=by simp[Program.cellsOf,hi]
   rw[hsz,hoff] at hy
   have q1:=IH _ _ _ _ g1 hy
   have q2:=Nr IH fs (off+i.size) (ks.drop i.size) ys' g3 hys
   rw[take_split _ i.size _ hle,List.drop_drop,<-List.take_append_drop i.size ks]
   have hl:((List.take i.size ks++List.drop i.size ks).length-i.size)=(ks.drop i.size).length:=by simp
   rw[hl]
   exact q1.append q2
  .cases h3
theorem nC:∀(m:Nat) {fuel:Nat} {t:TypeId} {ks:List CK} {cs:List Value} {x:DataW H×List MemPlace},gI P m t ks=true->DataW.trod enc P w base sp held fuel t cs=some x->KW ks cs
 |0,_,_,_,_,_,hf,_=>by simp[gI] at hf
 |m+1,0,t,ks,cs,x,hf,h=>by simp[DataW.trod] at h
 |m+1,fuel+1,t,ks,cs,x,hf,h=>by
  simp only[gI] at hf
  split at hf
  .rename_i hu
   obtain rfl:=of_decide_eq_true hf
   obtain⟨b,rfl,_⟩:=DataW.trod_bool hu h
   exact⟨⟨_,rfl⟩,trivial⟩
  .rename_i k hu
   obtain rfl:=of_decide_eq_true hf
   obtain⟨n,rfl,_,hw⟩:=DataW.trod_int hu h
   exact⟨⟨_,rfl,hw⟩,trivial⟩
  .rename_i hu
   obtain rfl:=of_decide_eq_true hf
   obtain⟨z,rfl,_,hw⟩:=DataW.trod_string hu h
   exact⟨⟨_,rfl,hw⟩,trivial⟩
  .rename_i n e hu
   simp only[Bool.and_eq_true] at hf
   obtain⟨hs,hf⟩:=hf
   split at hf
   .rename_i i hi
    have hsz:P.cellsOf e=i.size:=by simp[Program.cellsOf,hi]
    unfold DataW.trod at h
    rw[hu] at h
    split at h<;>first|(simp_all;done)|skip
    rename_i n' e' hn
    simp only[Option.some.injEq,TypeDesc.array.injEq] at hn
    obtain⟨rfl,rfl⟩:=hn
    split at h
    .rename_i hlen
     simp only[Option.map_eq_some_iff] at h
     obtain⟨ys,hys,_⟩:=h
     rw[List.range_eq_range',hsz] at hys
     have:=WH (λks c x h1 h2=>nC m h1 h2) _ 0 ks ys hf hys
     rw[Nat.zero_mul,List.drop_zero,<-LP hs,<-hlen,List.take_length] at this
     exact this
    .cases h
   .cases hf
  .rename_i fs hu
   simp only[Bool.and_eq_true] at hf
   obtain⟨_,hs,hf⟩:=hf
   unfold DataW.trod at h
   rw[hu] at h
   split at h<;>first|(simp_all;done)|skip
   rename_i fs' hn
   simp only[Option.some.injEq,TypeDesc.struct.injEq] at hn
   obtain rfl:=hn
   split at h
   .rename_i hlen
    simp only[Option.map_eq_some_iff] at h
    obtain⟨ys,hys,_⟩:=h
    have:=Nr (λt ks c x h1 h2=>nC m h1 h2) _ 0 ks ys hf hys
    rw[List.drop_zero,<-LP hs,<-hlen,List.take_length] at this
    exact this
   .cases h
  .cases hf
end
def GP.ks:GP->Option (List CK)
 | .one (.int k)=>some [.int k]
 | .one .bool=>some [.bool]
 | .one .str=>some [.str]
 | .seq (.int k) n=>some (List.replicate n (.int k))
 | .seq .bool n=>some (List.replicate n .bool)
 |_=>none
def ksG:List GP->Option (List CK)
 |[]=>some []
 |p::r=>match p.ks with
  |some k=>match ksG r with
   |some ks=>some (k++ks)
   |none=>none
  |none=>none
def GP.W:GP->List Lf->Prop
 | .one (.int k),ls=>(Lit.int k (nU ls).int).wf=true
 | .one .str,ls=>(nU ls).str.size<=maxLen
 | .seq (.int k) n,ls=>((nU ls).ak (.int k)).length=n/\∀x∈((nU ls).ak (.int k)),(Lit.int k x).wf=true
 | .seq .bool n,ls=>((nU ls).ak .bool).length=n
 |_,_=>True
def WG:List GP->List Lf->Prop
 |[],_=>True
 |p::r,ls=>p.W ls/\WG r (p.fill ls).2
theorem aeF{k:IntKind}:∀{n:Nat} {vs:List Value},KW (List.replicate n (.int k)) vs->∃l:List Int,vs=l.map (Value.int k)/\l.length=n/\∀x∈l,(Lit.int k x).wf=true
 |0,[],_=>⟨[],rfl,rfl,by simp⟩
 |n+1,v::vs,h=>by
  obtain⟨⟨x,rfl,hx⟩,h2⟩:=h
  obtain⟨l,rfl,hl,hw⟩:=aeF (n:=n) (vs:=vs) h2
  exact⟨x::l,rfl,by simp[hl],by simpa using⟨hx,hw⟩⟩
 |0,_::_,h=>h.elim
 |n+1,[],h=>h.elim
theorem WO:∀{n:Nat} {vs:List Value},KW (List.replicate n .bool) vs->∃l:List Bool,vs=l.map Value.bool/\l.length=n
 |0,[],_=>⟨[],rfl,rfl⟩
 |n+1,v::vs,h=>by
  obtain⟨⟨x,rfl⟩,h2⟩:=h
  obtain⟨l,rfl,hl⟩:=WO (n:=n) (vs:=vs) h2
  exact⟨x::l,rfl,by simp[hl]⟩
 |0,_::_,h=>h.elim
 |n+1,[],h=>h.elim
theorem GX{ids:bF}{k:IntKind}:∀(l:List Int),CR ids (l.flatMap (EK.enc (.int k))) (l.map (Value.int k))
 |[]=>trivial
 |x::l=>⟨rfl,GX l⟩
theorem Eg{ids:bF}:∀(l:List Bool),CR ids (l.flatMap (EK.enc .bool)) (l.map Value.bool)
 |[]=>trivial
 |x::l=>⟨rfl,Eg l⟩
theorem anR{ids:bF}{p:GP}{k:List CK}{vs:List Value}(hp:p.ks=some k)(h:KW k vs):∃ls,(∀r,(p.fill (ls++r)).2=r/\p.W (ls++r)/\(p.fill (ls++r)).1.ok/\CR ids (p.fill (ls++r)).1.cells vs):=by
 unfold GP.ks at hp
 split at hp
 .cases hp
  match vs,h with
  |[v],h=>
   obtain⟨⟨n,rfl,hw⟩,_⟩:=h
   exact⟨[.i n],λr=>⟨rfl,hw,trivial,rfl,trivial⟩⟩
 .cases hp
  match vs,h with
  |[v],h=>
   obtain⟨⟨n,rfl⟩,_⟩:=h
   exact⟨[.b n],λr=>⟨rfl,trivial,trivial,rfl,trivial⟩⟩
 .cases hp
  match vs,h with
  |[v],h=>
   obtain⟨⟨n,rfl,hw⟩,_⟩:=h
   exact⟨[.s n],λr=>⟨rfl,hw,trivial,rfl,trivial⟩⟩
 .rename_i q n
  cases hp
  obtain⟨l,rfl,hl,hw⟩:=aeF h
  have e:∀r,(nU ([Lf.l (.int q) l]++r)).ak (.int q)=l:=λr=>Lf.EX (.int q) l
  refine⟨[.l (.int q) l],λr=>⟨rfl,⟨by rw[e];exact hl,by rw[e];exact hw⟩, ?_, ?_⟩⟩
  .show List.length ((nU ([Lf.l (.int q) l]++r)).ak (.int q))=n
   rw[e];exact hl
  .show CR ids (((nU ([Lf.l (.int q) l]++r)).ak (.int q)).flatMap (EK.enc (.int q))) _
   rw[e];exact GX l
 .rename_i n
  cases hp
  obtain⟨l,rfl,hl⟩:=WO h
  have e:∀r,(nU ([Lf.l .bool l]++r)).ak .bool=l:=λr=>Lf.EX .bool l
  refine⟨[.l .bool l],λr=>⟨rfl,by show List.length ((nU ([Lf.l .bool l]++r)).ak .bool)=n;rw[e];exact hl, ?_, ?_⟩⟩
  .show List.length ((nU ([Lf.l .bool l]++r)).ak .bool)=n
   rw[e];exact hl
  .show CR ids (((nU ([Lf.l .bool l]++r)).ak .bool).flatMap (EK.enc .bool)) _
   rw[e];exact Eg l
 .cases hp
theorem aeI{ids:bF}:∀{ps:List GP} {k:List CK} {vs:List Value},ksG ps=some k->KW k vs->∃ls,(∀r,(ic ps (ls++r)).2=r/\WG ps (ls++r)/\fq (ic ps (ls++r)).1/\CR ids (af (ic ps (ls++r)).1) vs)
 |[],k,vs,hp,h=>by
  cases hp
  match vs,h with
  |[],_=>exact⟨[],λr=>⟨rfl,trivial,(λs hs=>by cases hs),trivial⟩⟩
 |p::ps,k,vs,hp,h=>by
  simp only[ksG] at hp
  split at hp
  .rename_i k1 h1
   split at hp
   .rename_i k2 h2
    cases hp
    obtain⟨us,ws,rfl,g1,g2⟩:=h.split
    obtain⟨l1,q1⟩:=anR (ids:=ids) h1 g1
    obtain⟨l2,q2⟩:=aeI (ids:=ids) h2 g2
    refine⟨l1++l2,λr=> ?_⟩
    rw[List.append_assoc]
    obtain⟨a1,a2,a3,a4⟩:=q1 (l2++r)
    obtain⟨b1,b2,b3,b4⟩:=q2 r
    simp only[ic,WG,a1]
    refine⟨b1,⟨a2,b2⟩, ?_, ?_⟩
    .intro s hs
     rcases List.mem_cons.1 hs with rfl|hs
     .exact a3
     .exact b3 s hs
    .rw[show af ((p.fill (l1++(l2++r))).1::(ic ps (l2++r)).1)=(p.fill (l1++(l2++r))).1.cells++af (ic ps (l2++r)).1 by simp[af]]
     exact a4.append b4
   .cases hp
  .cases hp
def TP.W:TP->List Lf->Prop
 | .vl (.sv p),ls=>(GP.one p).W ls
 | .vl (.agg l),ls=>WG l ls
 |_,_=>True
def aAG(P:Program)(t:TypeId):TP->Bool
 | .vl (.sv p)=>match(GP.one p).ks with
  |some ks=>gI P 8 t ks&& !(gW P t)
  |none=>false
 | .vl (.agg l)=>match ksG l with
  |some ks=>gI P 8 t ks&&gW P t
  |none=>false
 |_=>false
theorem aaM{W:World}{r:Reach}{b0:Nat}{t:TypeId}{v:Value}(h:Value.okWide P W r b0 t v)(ha:gW P t=true):∃cs,v= .agg cs:=by
 unfold Value.okWide at h
 unfold gW at ha
 split at h
 .obtain⟨cs,e,_⟩:=h;exact⟨cs,e⟩
 .obtain⟨cs,e,_⟩:=h;exact⟨cs,e⟩
 .rename_i h1 h2
  split at ha
  .rename_i fs hu;exact absurd hu (h1 fs)
  .rename_i n e hu;exact absurd hu (h2 n e)
  .cases ha
theorem ahg{H:Type}{enc:TypeId×Value->H}{W:World}{b0:Nat}{sp:Nat->Bool}{held:Bool}{ids:bF}{t:TypeId}{p:TP}{v:Value}{d:DataW H}{ps:List MemPlace}(hp:aAG P t p=true)
  (hv:Value.okWide P W .any b0 t v) (h:DataW.Trod enc P W 0 sp held t v d ps):
  ∃ls,∀r,(p.fill (ls++r)).2=r/\p.W (ls++r)/\(p.fill (ls++r)).1.R ids v/\(p.fill (ls++r)).1.nm=[]:=by
 obtain⟨fuel,h⟩:=h
 unfold aAG at hp
 split at hp
 .rename_i q
  split at hp
  .rename_i ks hks
   simp only[Bool.and_eq_true,Bool.not_eq_true'] at hp
   have hk:=nC 8 hp.1 h
   obtain⟨l,hl⟩:=anR (ids:=ids) hks hk
   refine⟨l,λr=> ?_⟩
   obtain⟨a1,a2,a3,a4⟩:=hl r
   refine⟨a1,a2, ?_, ?_⟩
   .have hone:∃u,v.cells.toList=[u]:=by
     have:=CR.length a4
     simp only[GP.fill,Seg.cells,List.length_cons,List.length_nil] at this
     match hc:v.cells.toList,this with
     |[u],_=>exact⟨u,rfl⟩
    obtain⟨u,hu⟩:=hone
    rw[hu] at a4
    have hvu:v=u:=by
     cases v with
     |agg cs=>
      exfalso
      unfold Value.okWide at hv
      have ha:=hp.2
      unfold gW at ha
      split at hv
      .rename_i hu;rw[hu] at ha;cases ha
      .rename_i hu;rw[hu] at ha;cases ha
      .unfold Cell.okWide at hv
       split at hv<;>first|(simp_all;done)|skip
       unfold Cell.ok at hv
       split at hv<;>simp_all
     |_=>simpa[Value.cells] using hu
    rw[hvu]
    exact a4.1
   .clear hl hk
    cases q<;>first|rfl|(simp only[GP.ks,reduceCtorEq] at hks)
  .cases hp
 .rename_i l
  split at hp
  .rename_i ks hks
   simp only[Bool.and_eq_true] at hp
   have hk:=nC 8 hp.1 h
   obtain⟨ls,hl⟩:=aeI (ids:=ids) hks hk
   obtain⟨cs,rfl⟩:=aaM hv hp.2
   refine⟨ls,λr=> ?_⟩
   obtain⟨a1,a2,a3,a4⟩:=hl r
   refine⟨a1,a2,⟨cs,rfl,a3,a4⟩, ?_⟩
   clear hl a1 a2 a3 a4 hk
   have:∀(l:List GP) (ls:List Lf) (ks:List CK),ksG l=some ks->fo (ic l ls).1=[]:=by
    intro l
    induction l with
    |nil=>intro ls ks _;rfl
    |cons p l ih=>
     intro ls ks hk
     simp only[ksG] at hk
     split at hk
     .rename_i k1 h1
      split at hk
      .rename_i k2 h2
       simp only[ic,fo,List.flatMap_cons,List.append_eq_nil_iff]
       refine⟨?_,ih _ _ h2⟩
       unfold GP.ks at h1
       split at h1<;>first|rfl|(simp_all;done)
      .cases hk
     .cases hk
   exact this l _ ks hks
  .cases hp
 .cases hp
theorem xV{H:Type}{enc:TypeId×Value->H}{W W':World}(hl:laidOutB P=true)(hb:RowKit.Below W.heap.size W W'):∀{ts:List TypeId} {vs:List Value} {ds:List (DataW H)} {ps:List MemPlace},
  (ts.all λt=>P.readableRec t&&decide (t<P.types.size))=true->(∀x∈ps,x.block<W.heap.size)->DataW.TrodAll enc P W 0 (λ_=>true) true ts vs ds ps->
  DataW.TrodAll enc P W' 0 (λb=>decide (b<W.heap.size)) true ts vs ds ps
 |[],[],[],ps,_,_,h=>h
 |t::ts,v::vs,d::ds,ps,hr,hlt,⟨p1,p2,h1,h2,e⟩=>by
  subst e
  simp only[List.all_cons,Bool.and_eq_true,decide_eq_true_eq] at hr
  exact⟨p1,p2,RowKit.Below.trod hl hr.1.1 hr.1.2 h1 hb (λx hx=>hlt x (List.mem_append_left _ hx)),
   xV hl hb (by simpa using hr.2) (λx hx=>hlt x (List.mem_append_right _ hx)) h2,rfl⟩
 |[],[],_::_,_,_,_,h=>h.elim
 |[],_::_,ds,_,_,_,h=>by cases ds<;>exact h.elim
 |_::_,[],ds,_,_,_,h=>by cases ds<;>exact h.elim
 |_::_,_::_,[],_,_,_,h=>h.elim
def Cb(v:TV):Option Unit:=match v with
 | .vl (.sv (.bool b))=>cond b (some ()) none
 |_=>none
inductive AK where
 |c (k:CK)
 |s (E:EK)
inductive AP where
 |flat (p:TP)
 |sl (E:EK)
 |st (ks:List AK)
def af_:List PK->List CK
 |[]=>[]
 | .i k::r=> .int k::af_ r
 | .b::r=> .bool::af_ r
 | .a k n::r=>List.replicate n (.int k)++af_ r
def EK.cks:EK->List CK
 | .int k=>[.int k]
 | .bool=>[.bool]
 | .str=>[.str]
 | .rc ks=>ks.map .int
 | .mx ps=>af_ ps
def WfL:List IntKind->List Int->Prop
 |[],[]=>True
 |k::ks,x::l=>(Lit.int k x).wf=true/\WfL ks l
 |_,_=>False
def EK.Wx:(E:EK)->E.T->Prop
 | .int k,x=>(Lit.int k x).wf=true
 | .bool,_=>True
 | .str,s=>(s:ByteArray).size<=maxLen
 | .rc ks,l=>WfL ks l
 | .mx _,_=>True
def EK.Ws(E:EK)(l:List E.T):Prop:=∀x∈l,E.Wx x
theorem avu:∀{ks:List IntKind} {vs:List Value},KW (ks.map .int) vs->∃l,WfL ks l/\∀ids,CR ids (encR ks l) vs
 |[],[],_=>⟨[],trivial,λ_=>trivial⟩
 |k::ks,v::vs,h=>by
  obtain⟨⟨n,rfl,hn⟩,h2⟩:=h
  obtain⟨l,g1,g2⟩:=avu (ks:=ks) (vs:=vs) h2
  exact⟨n::l,⟨hn,g1⟩,λids=>⟨rfl,g2 ids⟩⟩
 |[],_::_,h=>h.elim
 |_::_,[],h=>h.elim
theorem aeH{k:IntKind}:∀{n:Nat} {vs:List Value},KW (List.replicate n (.int k)) vs->∃l,∀ids,CR ids (t_ k n l) vs
 |0,[],_=>⟨[],λ_=>trivial⟩
 |n+1,v::vs,h=>by
  obtain⟨⟨m,rfl,hm⟩,h2⟩:=h
  obtain⟨l,g⟩:=aeH (n:=n) h2
  exact⟨m::l,λids=>⟨rfl,g ids⟩⟩
 |0,_::_,h=>h.elim
 |n+1,[],h=>by exact h.elim
theorem aeG:∀{ps:List PK} {vs:List Value},KW (af_ ps) vs->∃z:PT ps,∀ids,CR ids (kJ ps z) vs
 |[],[],_=>⟨(),λ_=>trivial⟩
 | .i k::r,v::vs,h=>by
  obtain⟨⟨m,rfl,hm⟩,h2⟩:=h
  obtain⟨z,g⟩:=aeG (ps:=r) h2
  exact⟨(m,z),λids=>⟨rfl,g ids⟩⟩
 | .b::r,v::vs,h=>by
  obtain⟨⟨m,rfl⟩,h2⟩:=h
  obtain⟨z,g⟩:=aeG (ps:=r) h2
  exact⟨(m,z),λids=>⟨rfl,g ids⟩⟩
 | .a k n::r,vs,h=>by
  obtain⟨us,ws,rfl,h1,h2⟩:=KW.split (ks:=List.replicate n (.int k)) (js:=af_ r) h
  obtain⟨l,g1⟩:=aeH h1
  obtain⟨z,g2⟩:=aeG (ps:=r) h2
  exact⟨(l,z),λids=>(g1 ids).append (g2 ids)⟩
 |[],_::_,h=>h.elim
 | .i _::_,[],h=>h.elim
 | .b::_,[],h=>h.elim
theorem ar4{E:EK}{vs:List Value}(h:KW E.cks vs):∃z:E.T,E.Wx z/\∀ids,CR ids (E.enc z) vs:=by
 cases E with
 |int k=>
  match vs,h with
  |[v],h=>
   obtain⟨⟨n,rfl,hn⟩,_⟩:=h
   exact⟨n,hn,λids=>⟨rfl,trivial⟩⟩
 |bool=>
  match vs,h with
  |[v],h=>
   obtain⟨⟨n,rfl⟩,_⟩:=h
   exact⟨n,trivial,λids=>⟨rfl,trivial⟩⟩
 |str=>
  match vs,h with
  |[v],h=>
   obtain⟨⟨n,rfl,hn⟩,_⟩:=h
   exact⟨n,hn,λids=>⟨rfl,trivial⟩⟩
 |rc ks=>exact avu h
 |mx ps=>
  obtain⟨z,g⟩:=aeG (ps:=ps) h
  exact⟨z,trivial,g⟩
theorem WX{f:Nat->Option Value}:∀{n j0:Nat} {cs:List Value},(List.range' j0 n).mapM f=some cs->∀j,j<n->∃v,cs[j]? =some v/\f (j0+j)=some v
 |0,_,_,_,j,hj=>by omega
 |n+1,j0,cs,h,j,hj=>by
  rw[List.range'_succ,List.mapM_cons] at h
  simp only[bind,Option.bind_eq_some_iff,pure,Option.some.injEq] at h
  obtain⟨v,hv,cs',hc,rfl⟩:=h
  cases j with
  |zero=>exact⟨v,rfl,hv⟩
  |succ j=>
   obtain⟨u,g1,g2⟩:=WX hc j (by omega)
   exact⟨u,by simpa using g1,by rw[<-g2];congr 1;omega⟩
def UX(P:Program)(e:TypeId)(E:EK):Bool:=
 gI P 8 e E.cks&&(Nat.blt 0 E.s&&(match P.info? e with|some i=>Nat.beq i.size E.s|none=>false))
theorem asa{T:Type}(len:Nat)(p:Nat->T->Prop)(h:∀i,i<len->∃z,p i z):∃l:List T,l.length=len/\∀i z,l[i]? =some z->p i z:=by
 induction len with
 |zero=>exact⟨[],rfl,λi z h=>by simp at h⟩
 |succ n ih=>
  obtain⟨l,h1,h2⟩:=ih λi hi=>h i (by omega)
  obtain⟨z,hz⟩:=h n (by omega)
  refine⟨l++[z],by simp[h1],λi y hy=> ?_⟩
  by_cases hi:i<n
  .rw[List.getElem?_append_left (by omega)] at hy;exact h2 i y hy
  .rw[List.getElem?_append_right (by omega)] at hy
   have hin:i=n:=by
    have:=(List.getElem?_eq_some_iff.1 hy).1
    simp at this;omega
   subst hin
   rw[h1,Nat.sub_self] at hy
   simp at hy;subst hy;exact hz
section
variable {H:Type} {enc:TypeId×Value->H} {w:World} {sp:Nat->Bool} {held:Bool}
theorem asB{fuel:Nat}{t e:TypeId}{E:EK}{v:Value}{x:DataW H×List MemPlace}(h0:0<w.heap.size)(hu:P.underlying t=some (.slice e))(he:UX P e E=true)
  (h:DataW.trod enc P w 0 sp held fuel t [v]=some x):∃(g o len cap:Nat) (l:List E.T),(v= .slice (some ⟨g,o,none⟩) len cap\/(len=0/\cap=0/\∃a c,v= .slice a 0 c))/\g<w.heap.size/\
   l.length=len/\len<=cap/\cap<=maxLen/\E.Ws l/\∀j y,(l.flatMap E.enc)[j]? =some y->∃u,w.cell? ⟨g,o+j,none⟩=some u/\∀ids,y.R ids u:=by
 simp only[UX,Bool.and_eq_true] at he
 obtain⟨hfl,hs0,hsz⟩:=he
 have hs0:0<E.s:=by simpa using hs0
 have hsz:P.cellsOf e=E.s:=by
  split at hsz
  .rename_i i hi;rw[<-Nat.eq_of_beq_eq_true hsz];simp[Program.cellsOf,hi]
  .cases hsz
 have none':(∃a c,v= .slice a 0 c)->∃(g o len cap:Nat) (l:List E.T),(v= .slice (some ⟨g,o,none⟩) len cap\/(len=0/\cap=0/\∃a c,v= .slice a 0 c))/\g<w.heap.size/\
   l.length=len/\len<=cap/\cap<=maxLen/\E.Ws l/\∀j y,(l.flatMap E.enc)[j]? =some y->∃u,w.cell? ⟨g,o+j,none⟩=some u/\∀ids,y.R ids u:=by
  intro hv
  refine⟨0,0,0,0,[], .inr ⟨rfl,rfl,hv⟩,h0,rfl,Nat.le_refl _,Nat.zero_le _,(λx hx=>nomatch hx),(λj y hy=>by simp at hy)⟩
 rcases DataW.trod_slice hu h with⟨hv,_⟩|⟨a,len,cap,elems,rest,n,_,hv,_,_,hlc,hcm,hel,hread,_⟩
 .simp only[List.cons.injEq,and_true] at hv
  exact none' ⟨_,_,hv⟩
 .simp only[List.cons.injEq,and_true] at hv
  by_cases hz:len=0
  .subst hz;exact none' ⟨_,_,hv⟩
  .have hone:∀i,i<len->∃cs y,w.cells? 0 (a.add (i*E.s)) E.s=some cs/\DataW.trod enc P w 0 sp held n e cs=some y:=by
    intro i hi
    have:=hread i hi
    rw[List.getElem?_eq_getElem (by omega),hsz] at this
    simp only[Option.bind_eq_some_iff] at this
    obtain⟨cs,h1,h2⟩:=this
    exact⟨cs,_,h1,h2⟩
   have hcells:∀{b:Addr} {cs:List Value},w.cells? 0 b E.s=some cs->∀f,f<E.s->∃u,cs[f]? =some u/\w.cell? (b.add f)=some u:=by
    intro b cs hb f hf
    unfold World.cells? at hb
    rw[if_pos (Nat.zero_le _),List.range_eq_range'] at hb
    obtain⟨u,g1,g2⟩:=WX hb f hf
    exact⟨u,g1,by simpa using g2⟩
   obtain⟨cs0,_,hc0,_⟩:=hone 0 (by omega)
   obtain⟨u0,_,hu0⟩:=hcells hc0 0 hs0
   have ha0:w.cell? a=some u0:=by simpa[Addr.add] using hu0
   have hspot:a.spot=none/\a.block<w.heap.size:=by
    unfold World.cell? at ha0
    split at ha0
    .rename_i c t' z hblk
     refine⟨?_,(Array.getElem?_eq_some_iff.1 hblk).1⟩
     cases hsp:a.spot with
     |none=>rfl
     |some q=>rw[hsp] at ha0;cases ha0
    .cases ha0
   obtain⟨g,o,spot⟩:=a
   obtain⟨rfl,hg⟩:=hspot
   simp only at hg
   obtain⟨l,hl,hlp⟩:=asa (T:=E.T) len (λi z=>E.Wx z/\∀f y,(E.enc z)[f]? =some y->∃u,w.cell? ⟨g,o+(i*E.s+f),none⟩=some u/\∀ids,y.R ids u) (by
    intro i hi
    obtain⟨cs,y,h1,h2⟩:=hone i hi
    have hk:=nC 8 hfl h2
    obtain⟨z,z1,z2⟩:=ar4 hk
    refine⟨z,z1,λf y hy=> ?_⟩
    have hf:f<E.s:=by rw[<-EK.fV E z];exact(List.getElem?_eq_some_iff.1 hy).1
    obtain⟨u,u1,u2⟩:=hcells h1 f hf
    refine⟨u, ?_,λids=> ?_⟩
    .rw[<-u2,addr_add,addr_add];congr 2;omega
    .obtain⟨u',g1,g2⟩:=(z2 ids).get hy
     rw[u1] at g1
     rw[Option.some.inj g1];exact g2)
   refine⟨g,o,len,cap,l, .inl hv,hg,hl,hlc,hcm,λx hx=> ?_,λj y hy=> ?_⟩
   .obtain⟨i,hi⟩:=List.mem_iff_getElem?.1 hx
    exact(hlp i x hi).1
   .have hj:j<l.length*E.s:=by rw[<-ai];exact(List.getElem?_eq_some_iff.1 hy).1
    have hdm:j/E.s*E.s+j%E.s=j:=by rw[Nat.mul_comm];exact Nat.div_add_mod j E.s
    have hi:j/E.s<l.length:=Nat.div_lt_of_lt_mul (by rw[Nat.mul_comm];exact hj)
    have hget:=iG E l (j/E.s) (j%E.s) hi (Nat.mod_lt _ hs0)
    rw[hdm,hy] at hget
    have hli:l[j/E.s]? =some (l.getD (j/E.s) E.d):=by simp[List.getElem?_eq_getElem hi]
    obtain⟨u,u1,u2⟩:=(hlp _ _ hli).2 _ y hget.symm
    rw[hdm] at u1
    exact⟨u,u1,u2⟩
end
def AK.sp:AK->Nat->SP
 | .c (.int k),_=> .int k
 | .c .bool,_=> .bool
 | .c .str,_=> .str
 | .s E,b=> .rA b 0 E.s
def AK.nb:AK->Nat
 | .c _=>0
 | .s _=>1
def KC:List AK->Nat->List GP
 |[],_=>[]
 |k::r,b=> .one (k.sp b)::KC r (b+k.nb)
def nbK:List AK->Nat
 |[]=>0
 |k::r=>k.nb+nbK r
def UW:List AK->List EK
 |[]=>[]
 | .c _::r=>UW r
 | .s E::r=>E::UW r
def AP.tp:AP->Nat->TP
 | .flat p,_=>p
 | .sl E,b=> .vl (.sv (.rA b 0 E.s))
 | .st ks,b=> .vl (.agg (KC ks b))
def AP.nb:AP->Nat
 | .flat _=>0
 | .sl _=>1
 | .st ks=>nbK ks
def AP.eks:AP->List EK
 | .flat _=>[]
 | .sl E=>[E]
 | .st ks=>UW ks
def X4:List AP->Nat->List TP
 |[],_=>[]
 |p::r,b=>p.tp b::X4 r (b+p.nb)
def UU:List AP->List EK
 |[]=>[]
 |p::r=>p.eks++UU r
def bpE(l:List EK):List BP:=l.map λE=>(false,[.iD E])
def LsW(E:EK)(ls lb:List Lf):Prop:=
 (nU ls).nat=0/\(nU lb).nat=(nU (jo ls)).nat/\(nU (jo ls)).nat<=(nU (jo (jo ls))).nat/\(nU (jo (jo ls))).nat<=maxLen/\
  ((nU (jo lb)).ak E).length=(nU (jo ls)).nat/\E.Ws ((nU (jo lb)).ak E)
def WK:List AK->List Lf->List Lf->Prop
 |[],_,_=>True
 | .c k::r,ls,lb=>(GP.one ((AK.c k).sp 0)).W ls/\WK r (jo ls) lb
 | .s E::r,ls,lb=>LsW E ls lb/\WK r (jo (jo (jo ls))) (jo (jo lb))
def XB:List AK->List Lf->List Lf
 |[],ls=>ls
 | .c _::r,ls=>XB r (jo ls)
 | .s _::r,ls=>XB r (jo (jo (jo ls)))
def OE:List EK->List Lf->List Lf
 |[],lb=>lb
 |_::r,lb=>OE r (jo (jo lb))
def WAt:List AP->List Lf->List Lf->Prop
 |[],_,_=>True
 | .flat p::r,ls,lb=>p.W ls/\WAt r (p.fill ls).2 lb
 | .sl E::r,ls,lb=>LsW E ls lb/\WAt r (jo (jo (jo ls))) (jo (jo lb))
 | .st ks::r,ls,lb=>WK ks ls lb/\WAt r (XB ks ls) (OE (UW ks) lb)
def xR:List AP->List Lf->List Lf
 |[],ls=>ls
 | .flat p::r,ls=>xR r (p.fill ls).2
 | .sl _::r,ls=>xR r (jo (jo (jo ls)))
 | .st ks::r,ls=>xR r (XB ks ls)
def WA(aps:List AP)(ls:List Lf):Prop:=WAt aps ls (xR aps ls)
abbrev Ads:=List (Nat×Nat×Nat×Nat)
def Fits(ids:bF)(nb:Nat)(ad:Ads):Prop:=∀i x,ad[i]? =some x->ids (nb+i)=x
theorem Fits.left{ids:bF}{nb:Nat}{a b:Ads}(h:Fits ids nb (a++b)):Fits ids nb a:=λi x hx=>h i x (by rw[List.getElem?_append_left (List.getElem?_eq_some_iff.1 hx).1];exact hx)
theorem Fits.right{ids:bF}{nb:Nat}{a b:Ads}(h:Fits ids nb (a++b)):Fits ids (nb+a.length) b:=λi x hx=>by
 have:=h (a.length+i) x (by rw[List.getElem?_append_right (by omega),Nat.add_sub_cancel_left];exact hx)
 rw[Nat.add_assoc];exact this
structure kQ (w:World) (nb:Nat) (eks:List EK) (lb:List Lf) (ad:Ads) (Bs:List bg):Prop where
 len:ad.length=eks.length
 af3:Bs.length=eks.length
 fill:∀r,fZ (bpE eks) (lb++r)=(Bs,r)
 skip:∀r,OE eks (lb++r)=r
 blk:∀ids,Fits ids nb ad->∀i B,Bs[i]? =some B->B.1=false/\fo B.2=[]/\rC ids w (nb+i) B
theorem Nb:∀{eks:List EK} {ls:List Lf},∀B∈(fZ (bpE eks) ls).1,gB B.2=true
 |[],ls,B,h=>by simp[bpE,fZ] at h
 |E::r,ls,B,h=>by
  simp only[bpE,List.map_cons,fZ,List.mem_cons] at h
  rcases h with rfl|h
  .rfl
  .exact Nb (eks:=r) B h
theorem kQ.nil{w:World}{nb:Nat}:kQ w nb [] [] [] []:=⟨rfl,rfl,λ_=>rfl,λ_=>rfl,λids _ i B h=>by simp at h⟩
theorem Ci:∀(a b:List EK) (l:List Lf),OE (a++b) l=OE b (OE a l)
 |[],_,_=>rfl
 |_::a,b,l=>Ci a b _
theorem Aw:∀(a b:List BP) (l:List Lf),fZ (a++b) l=((fZ a l).1++(fZ b (fZ a l).2).1,(fZ b (fZ a l).2).2)
 |[],_,_=>rfl
 |p::a,b,l=>by simp only[List.cons_append,fZ,Aw a b]
theorem kQ.append{w:World}{nb:Nat}{e1 e2:List EK}{l1 l2:List Lf}{a1 a2:Ads}{B1 B2:List bg}(h1:kQ w nb e1 l1 a1 B1)(h2:kQ w (nb+e1.length) e2 l2 a2 B2):
  kQ w nb (e1++e2) (l1++l2) (a1++a2) (B1++B2):=by
 refine⟨by simp[h1.len,h2.len],by simp[h1.af3,h2.af3],λr=> ?_,λr=> ?_,λids hf i B hi=> ?_⟩
 .rw[bpE,List.map_append,Aw,List.append_assoc]
  have g1:=h1.fill (l2++r)
  have g2:=h2.fill r
  unfold bpE at g1 g2
  simp only[g1,g2]
 .rw[Ci,List.append_assoc,h1.skip,h2.skip]
 .by_cases hlt:i<B1.length
  .rw[List.getElem?_append_left hlt] at hi
   exact h1.blk ids hf.left i B hi
  .rw[List.getElem?_append_right (by omega)] at hi
   have hr:=hf.right
   rw[h1.len] at hr
   have:=h2.blk ids hr (i-B1.length) B hi
   rw[h1.af3] at this
   have e:nb+e1.length+(i-e1.length)=nb+i:=by have:=h1.af3;omega
   rw[e] at this;exact this
section
variable {H:Type} {enc:TypeId×Value->H} {w:World} {sp:Nat->Bool} {held:Bool}
theorem OG{fuel:Nat}{t e:TypeId}{E:EK}{v:Value}{x:DataW H×List MemPlace}(nb:Nat)(h0:0<w.heap.size)(hu:P.underlying t=some (.slice e))(he:UX P e E=true)
  (h:DataW.trod enc P w 0 sp held fuel t [v]=some x):∃la lb ad Bs,la.length=3/\kQ w nb [E] lb ad Bs/\(∀r r',LsW E (la++r) (lb++r'))/\
   ∀ids,Fits ids nb ad->∀r,SV.R ids ((SP.rA nb 0 E.s).fill (la++r)).1 v:=by
 obtain⟨g,o,len,cap,l,hv,hg,hl,hlc,hcm,hw,hcell⟩:=asB h0 hu he h
 refine⟨[.m 0, .m len, .m cap],[.m len, .l E l],[(g,o,0,0)],[(false,[.seq E len l])],rfl,⟨rfl,rfl,λr=> ?_,λr=>rfl,λids hf i B hi=> ?_⟩,λr r'=> ?_,λids hf r=> ?_⟩
 .show([(false,[Seg.seq E len ((Lf.l E l).ak E)])],r)=_
  rw[Lf.EX]
 .cases i with
  |succ i=>simp at hi
  |zero=>
   simp only[List.getElem?_cons_zero,Option.some.injEq] at hi
   subst hi
   have hid:=hf 0 (g,o,0,0) rfl
   refine⟨rfl,rfl,λs hs=> ?_,trivial,λ_=>by rw[hid];exact hg,λj y hy=> ?_⟩
   .simp only[List.mem_singleton] at hs;subst hs;exact hl
   .have hy':(l.flatMap E.enc)[j]? =some y:=by simpa[af,Seg.cells] using hy
    obtain⟨u,u1,u2⟩:=hcell j y hy'
    rw[hid]
    exact⟨u,u1,u2 ids,λhh=>by cases hh⟩
 .refine⟨rfl,rfl,hlc,hcm, ?_, ?_⟩
  .show((Lf.l E l).ak E).length=len
   rw[Lf.EX];exact hl
  .show E.Ws ((Lf.l E l).ak E)
   rw[Lf.EX];exact hw
 .have hid:=hf 0 (g,o,0,0) rfl
  show v=_\/_
  rcases hv with hv|hv
  .left
   rw[show ids nb=(g,o,0,0) from hid,hv]
   simp[Lf.nat,nU,jo]
  .exact .inr hv
def asV(P:Program)(t:TypeId):AK->Bool
 | .c k=>gI P 8 t [k]
 | .s E=>match P.underlying t with
  |some (.slice e)=>UX P e E
  |_=>false
def NA(P:Program):List Field->Nat->List AK->Bool
 |[],_,ks=>ks.isEmpty
 |f::fs,off,k::ks=>Nat.beq f.offset off&&((match P.info? f.type with|some i=>Nat.beq i.size 1|none=>false)&&(asV P f.type k&&NA P fs (off+1) ks))
 |_,_,_=>false
def apB(P:Program)(t:TypeId):AP->Bool
 | .flat p=>aAG P t p
 | .sl E=>match P.underlying t with
  |some (.slice e)=>UX P e E
  |_=>false
 | .st ks=>match P.underlying t with
  |some (.struct fs)=>NA P fs.toList 0 ks&&(match P.info? t with|some i=>Nat.beq i.size ks.length|none=>false)
  |_=>false
theorem apn{k:CK}{v:Value}(h:k.W v)(r:List Lf)(b:Nat):∃x:Lf,∀r ids,(GP.one ((AK.c k).sp 0)).W (x::r)/\((AK.c k).sp b).fill (x::r)=((((AK.c k).sp b).fill [x]).1,r)/\SV.R ids (((AK.c k).sp b).fill (x::r)).1 v/\(((AK.c k).sp b).fill (x::r)).1.nm=[]:=by
 cases k with
 |int q=>obtain⟨n,rfl,hw⟩:=h;exact⟨.i n,λr ids=>⟨hw,rfl,rfl,rfl⟩⟩
 |bool=>obtain⟨n,rfl⟩:=h;exact⟨.b n,λr ids=>⟨trivial,rfl,rfl,rfl⟩⟩
 |str=>obtain⟨n,rfl,hw⟩:=h;exact⟨.s n,λr ids=>⟨hw,rfl,rfl,rfl⟩⟩
theorem NC(h0:0<w.heap.size){fuel:Nat}{cs:List Value}:∀(fs:List Field) (off:Nat) (ks:List AK) (ys:List (DataW H×List MemPlace)) (nb:Nat),
  NA P fs off ks=true->(fs.mapM λf=>DataW.trod enc P w 0 sp held fuel f.type ((cs.drop f.offset).take (P.cellsOf f.type)))=some ys->off+ks.length<=cs.length->
  ∃la lb ad Bs,kQ w nb (UW ks) lb ad Bs/\(∀r r',WK ks (la++r) (lb++r')/\XB ks (la++r)=r)/\(∀r,(ic (KC ks nb) (la++r)).2=r/\fq (ic (KC ks nb) (la++r)).1/\
   ∀b∈fo (ic (KC ks nb) (la++r)).1,b<nb+nbK ks)/\
   ∀ids,Fits ids nb ad->∀r,CR ids (af (ic (KC ks nb) (la++r)).1) ((cs.drop off).take ks.length)
 |[],off,ks,ys,nb,hf,_,_=>by
  simp only[NA,List.isEmpty_iff] at hf
  subst hf
  exact⟨[],[],[],[],kQ.nil,λr r'=>⟨trivial,rfl⟩,λr=>⟨rfl,(λs hs=>by cases hs),λb hb=>by simp[KC,ic,fo] at hb⟩,λids _ r=>by simp[KC,ic,af,CR]⟩
 |f::fs,off,[],ys,nb,hf,_,_=>by simp[NA] at hf
 |f::fs,off,k::ks,ys,nb,hf,hm,hlen=>by
  simp only[NA,Bool.and_eq_true] at hf
  obtain⟨h1,h2,h3,h4⟩:=hf
  have hoff:=Nat.eq_of_beq_eq_true h1
  have hsz:P.cellsOf f.type=1:=by
   split at h2
   .rename_i i hi;rw[<-Nat.eq_of_beq_eq_true h2];simp[Program.cellsOf,hi]
   .cases h2
  rw[List.mapM_cons] at hm
  simp only[bind,Option.bind_eq_some_iff,pure,Option.some.injEq] at hm
  obtain⟨y,hy,ys',hys,rfl⟩:=hm
  simp only[List.length_cons] at hlen
  have hcv:(cs.drop off).take 1=[cs[off]'(by omega)]:=by rw[List.drop_eq_getElem_cons (by omega)];rfl
  rw[hsz,hoff,hcv] at hy
  generalize hgv:cs[off]'(by omega)=v at*
  have hsplit:(cs.drop off).take (ks.length+1)=v::(cs.drop (off+1)).take ks.length:=by
   rw[List.drop_eq_getElem_cons (by omega),List.take_succ_cons,hgv]
  obtain⟨la,lb,ad,Bs,g1,g2,g3,g4⟩:=NC h0 fs (off+1) ks ys' (nb+k.nb) h4 hys (by omega)
  cases k with
  |c q=>
   have hk:=nC 8 h3 hy
   obtain⟨hk,_⟩:=hk
   obtain⟨x,hx⟩:=apn hk [] nb
   refine⟨x::la,lb,ad,Bs,g1,λr r'=>⟨⟨(hx (la++r) (λ_=>(0,0,0,0))).1,(g2 r r').1⟩,(g2 r r').2⟩,λr=> ?_,λids hf r=> ?_⟩
   .obtain⟨_,q2,q3,q4⟩:=hx (la++r) (λ_=>(0,0,0,0))
    simp only[List.cons_append,KC,ic,GP.fill]
    rw[q2]
    obtain⟨p1,p2,p3⟩:=g3 r
    refine⟨p1, ?_, ?_⟩
    .intro s hs
     rcases List.mem_cons.1 hs with rfl|hs
     .trivial
     .exact p2 s hs
    .intro b hb
     rw[q2] at q4
     simp only[fo,List.flatMap_cons,List.mem_append,Seg.nm] at hb
     rcases hb with hb|hb
     .rw[q4] at hb;cases hb
     .have:=p3 b hb
      simp only[nbK,AK.nb] at this|-;omega
   .obtain⟨_,q2,q3,q4⟩:=hx (la++r) ids
    simp only[List.cons_append,KC,ic,GP.fill,List.length_cons,hsplit]
    rw[q2] at q3|-
    simp only[af,List.flatMap_cons,Seg.cells,List.singleton_append]
    exact⟨q3,g4 ids hf r⟩
  |s E=>
   simp only[asV] at h3
   split at h3
   .rename_i e hu
    obtain⟨la1,lb1,ad1,B1,hl3,o1,o2,o3⟩:=OG nb h0 hu h3 hy
    match la1,hl3 with
    |[x1,x2,x3],_=>
     refine⟨x1::x2::x3::la,lb1++lb,ad1++ad,B1++Bs,o1.append g1,λr r'=>⟨⟨?_, ?_⟩,(g2 r r').2⟩,λr=> ?_,λids hf r=> ?_⟩
     .have:=o2 (la++r) (lb++r')
      rw[List.append_assoc];exact this
     .have hsk:=o1.skip (lb++r')
      rw[List.append_assoc]
      rw[show jo (jo (lb1++(lb++r')))=lb++r' from hsk]
      exact(g2 r r').1
     .obtain⟨p1,p2,p3⟩:=g3 r
      refine⟨p1, ?_, ?_⟩
      .intro s hs
       rcases List.mem_cons.1 hs with rfl|hs
       .trivial
       .exact p2 s hs
      .intro b hb
       have hb':b∈[nb]++fo (ic (KC ks (nb+1)) (la++r)).1:=hb
       simp only[List.mem_append,List.mem_singleton] at hb'
       rcases hb' with rfl|hb'
       .simp only[nbK,AK.nb];omega
       .have:=p3 b hb'
        simp only[nbK,AK.nb] at this|-;omega
     .rw[List.length_cons,hsplit]
      refine⟨o3 ids hf.left (la++r), ?_⟩
      have hr:=hf.right
      rw[o1.len] at hr
      exact g4 ids hr r
   .cases h3
theorem afk{t:TypeId}{p:AP}{v:Value}{d:DataW H}{ps:List MemPlace}{b0:Nat}(nb:Nat)(h0:0<w.heap.size)(hp:apB P t p=true)
  (hv:Value.okWide P w .any b0 t v) (h:DataW.Trod enc P w 0 sp held t v d ps):
  ∃la lb ad Bs,kQ w nb p.eks lb ad Bs/\(∀r r' aps,(WAt (p::aps) (la++r) (lb++r')↔WAt aps r r')/\xR (p::aps) (la++r)=xR aps r)/\(∀r,((p.tp nb).fill (la++r)).2=r/\
   ∀b∈((p.tp nb).fill (la++r)).1.nm,b<nb+p.nb)/\∀ids,Fits ids nb ad->∀r,((p.tp nb).fill (la++r)).1.R ids v:=by
 cases p with
 |flat q=>
  obtain⟨ls,hls⟩:=ahg (ids:=λ_=>(0,0,0,0)) hp hv h
  refine⟨ls,[],[],[],kQ.nil,λr r' aps=> ?_,λr=> ?_,λids _ r=> ?_⟩
  .obtain⟨a1,a2,a3,a4⟩:=hls r
   simp only[WAt,xR,a1,a2,true_and,List.nil_append]
   first|done|exact⟨Iff.rfl,rfl⟩
  .obtain⟨a1,a2,a3,a4⟩:=hls r
   refine⟨a1,λb hb=> ?_⟩
   have hb':b∈((q.fill (ls++r)).1).nm:=hb
   rw[a4] at hb';cases hb'
  .obtain⟨a1,a2,a3,a4⟩:=hls r
   refine a3.congr λb hb=> ?_
   rw[a4] at hb;cases hb
 |sl E=>
  simp only[apB] at hp
  split at hp
  .rename_i e hu
   obtain⟨fuel,h⟩:=h
   have hone:v.cells.toList=[v]:=by
    unfold Value.okWide at hv
    rw[hu] at hv
    simp only at hv
    cases v with
    |agg cs=>
     exfalso
     unfold Cell.okWide at hv
     rw[hu] at hv
     simp only at hv
     unfold Cell.ok at hv
     rw[hu] at hv
     exact hv
    |_=>rfl
   rw[hone] at h
   obtain⟨la1,lb1,ad1,B1,hl3,o1,o2,o3⟩:=OG nb h0 hu hp h
   match la1,hl3 with
   |[x1,x2,x3],_=>
    refine⟨[x1,x2,x3],lb1,ad1,B1,o1,λr r' aps=>⟨?_,rfl⟩,λr=>⟨rfl,λb hb=> ?_⟩,λids hf r=>o3 ids hf r⟩
    .have hsk:=o1.skip r'
     simp only[WAt]
     rw[show jo (jo (lb1++r'))=r' from hsk]
     exact⟨λh=>h.2,λh=>⟨o2 r r',h⟩⟩
    .have hb':b∈[nb]:=hb
     simp only[List.mem_singleton] at hb'
     subst hb'
     show b<b+1
     omega
  .cases hp
 |st ks=>
  simp only[apB] at hp
  split at hp
  .rename_i fs hu
   simp only[Bool.and_eq_true] at hp
   obtain⟨hp1,hp2⟩:=hp
   obtain⟨fuel,h⟩:=h
   obtain⟨cs,rfl,hcs⟩:∃cs,v= .agg cs/\cs.size=P.cellsOf t:=by
    unfold Value.okWide at hv
    rw[hu] at hv
    obtain⟨cs,e1,e2,_⟩:=hv
    exact⟨cs,e1,e2⟩
   have hsz:P.cellsOf t=ks.length:=by
    split at hp2
    .rename_i i hi;rw[<-Nat.eq_of_beq_eq_true hp2];simp[Program.cellsOf,hi]
    .cases hp2
   cases fuel with
   |zero=>simp[DataW.trod] at h
   |succ fuel=>
    unfold DataW.trod at h
    rw[hu] at h
    split at h<;>first|(simp_all;done)|skip
    rename_i fs' hn
    simp only[Option.some.injEq,TypeDesc.struct.injEq] at hn
    obtain rfl:=hn
    split at h
    .rename_i hlen
     simp only[Option.map_eq_some_iff] at h
     obtain⟨ys,hys,_⟩:=h
     have hcl:(Value.agg cs).cells.toList=cs.toList:=rfl
     rw[hcl] at hys
     obtain⟨la,lb,ad,Bs,g1,g2,g3,g4⟩:=NC (cs:=cs.toList) h0 fs.toList 0 ks ys nb hp1 hys (by simp;omega)
     refine⟨la,lb,ad,Bs,g1,λr r' aps=>⟨?_, ?_⟩,λr=>⟨(g3 r).1,λb hb=>(g3 r).2.2 b hb⟩,λids hf r=>⟨cs,rfl,(g3 r).2.1, ?_⟩⟩
     .simp only[WAt]
      rw[(g2 r r').2,g1.skip]
      exact⟨λh=>h.2,λh=>⟨(g2 r r').1,h⟩⟩
     .simp only[xR];rw[(g2 r []).2]
     .have:=g4 ids hf r
      rw[List.drop_zero,List.take_of_length_le (by simp;omega)] at this
      exact this
    .cases h
  .cases hp
def acs(P:Program):List TypeId->List AP->Bool
 |[],[]=>true
 |t::ts,p::ps=>apB P t p&&acs P ts ps
 |_,_=>false
theorem R5:∀(ks:List AK),(UW ks).length=nbK ks
 |[]=>rfl
 | .c _::r=>by simp only[UW,nbK,AK.nb,R5 r];omega
 | .s _::r=>by simp only[UW,nbK,AK.nb,List.length_cons,R5 r];omega
theorem aaI(p:AP):p.eks.length=p.nb:=by
 cases p with
 |flat q=>rfl
 |sl E=>rfl
 |st ks=>exact R5 ks
theorem Ie(h0:0<w.heap.size){base:Nat}:∀{ts:List TypeId} {aps:List AP} {vs:List Value} {ds:List (DataW H)} {ps:List MemPlace} (nb:Nat),acs P ts aps=true->
  (∀(j:Nat) t v,ts[j]? =some t->vs[j]? =some v->Value.okWide P w .any base t v)->DataW.TrodAll enc P w 0 sp held ts vs ds ps->
  ∃la lb ad Bs,kQ w nb (UU aps) lb ad Bs/\(∀r r',WAt aps (la++r) (lb++r')/\xR aps (la++r)=r)/\(∀r,(dS (X4 aps nb) (la++r)).2=r/\
   ∀x∈(dS (X4 aps nb) (la++r)).1,∀b∈x.nm,b<nb+(UU aps).length)/\∀ids,Fits ids nb ad->∀r,Cz ids (dS (X4 aps nb) (la++r)).1 vs
 |[],[],[],ds,ps,nb,_,_,_=>⟨[],[],[],[],kQ.nil,λr r'=>⟨trivial,rfl⟩,λr=>⟨rfl,λx hx=>by cases hx⟩,λids _ r=>trivial⟩
 |[],[],_::_,ds,ps,nb,_,_,h=>by cases ds<;>exact h.elim
 |t::ts,p::aps,[],ds,ps,nb,_,_,h=>by cases ds<;>exact h.elim
 |t::ts,p::aps,v::vs,[],ps,nb,_,_,h=>h.elim
 |t::ts,p::aps,v::vs,d::ds,ps,nb,hp,hv,⟨p1,p2,h1,h2,_⟩=>by
  simp only[acs,Bool.and_eq_true] at hp
  obtain⟨la1,lb1,ad1,B1,o1,q1,f1,r1⟩:=afk nb h0 hp.1 (hv 0 t v rfl rfl) h1
  obtain⟨la2,lb2,ad2,B2,o2,q2,f2,r2⟩:=Ie h0 (nb+p.nb) hp.2 (λj t v ht hv'=>hv (j+1) t v (by simpa using ht) (by simpa using hv')) h2
  refine⟨la1++la2,lb1++lb2,ad1++ad2,B1++B2, ?_,λr r'=> ?_,λr=> ?_,λids hf r=> ?_⟩
  .refine o1.append ?_
   rw[aaI];exact o2
  .rw[List.append_assoc,List.append_assoc]
   exact⟨((q1 _ _ aps).1).2 (q2 r r').1,by rw[(q1 (la2++r) [] aps).2];exact(q2 r r').2⟩
  .rw[List.append_assoc]
   obtain⟨a1,a2⟩:=f1 (la2++r)
   obtain⟨b1,b2⟩:=f2 r
   simp only[X4,dS,a1]
   refine⟨b1,λx hx b hb=> ?_⟩
   simp only[UU,List.length_append,aaI]
   rcases List.mem_cons.1 hx with rfl|hx
   .have:=a2 b hb;omega
   .have:=b2 x hx b hb;omega
  .rw[List.append_assoc]
   simp only[X4,dS,(f1 (la2++r)).1]
   have hr:=hf.right
   rw[o1.len,aaI] at hr
   exact⟨r1 ids hf.left _,r2 ids hr r⟩
 |[],_::_,_,_,_,_,hp,_,_=>by cases hp
 |_::_,[],_,_,_,_,hp,_,_=>by cases hp
end
theorem af2{f:FuncId}{fn:Func}{s:ChangeSpec}{tb:TypeId}{aps:List AP}{F:{α:Type}->List Lf->(TV->List (List Seg)->List (List Seg)->Option α)->Option α}{W:World}(h0:0<W.heap.size)(hgl:gQ W [])
  (hrow:uo P f (X4 aps 0) (bpE (UU aps)) F) (hlaw:∀ls,WA aps ls->F ls (λv _ _=>Cb v)=some ())
  (htps:(acs P fn.params.toList aps&&Nat.ble (UU aps).length 1000)=true) (hl:laidOutB P=true) (hr:(fn.params.toList.all λt=>P.readableRec t&&decide (t<P.types.size))=true)
  (hvars:s.vars=[]) (hs:∀(H:Type) (ds:List (DataW H)),ds.length=fn.params.size->s.fn H ds={results:=[.lit (.bool true)],args:=ds})
  (hres:fn.resultTypes= #[tb]) (hb:P.underlying tb=some .bool)
  {H:Type} {enc:TypeId×Value->H} {base:Nat} {args:Array Value} {ds gs:List (DataW H)} {before:List MemPlace}
  (hval:∀(j:Nat) t v,fn.params[j]? =some t->args[j]? =some v->Value.okWide P W .any base t v) (hW:DataW.Whole enc P fn.params.toList s.vars false W args.toList ds gs before):
  Calls P f args W λe W'=>∃v,e= .returned v/\s.post enc P fn false true false false W args v W':=by
 have hW':=hW
 obtain⟨p,q,hA,hV,rfl,hfz,hnd⟩:=hW
 have hlen:∀{ts:List TypeId} {vs:List Value} {ds:List (DataW H)} {ps:List MemPlace},DataW.TrodAll enc P W 0 (λ_=>true) true ts vs ds ps->ds.length=ts.length:=by
  intro ts
  induction ts with
  |nil=>intro vs ds ps h;cases vs<;>cases ds<;>first|rfl|exact h.elim
  |cons t ts ih=>
   intro vs ds ps h
   cases vs<;>cases ds<;>first|exact h.elim|skip
   obtain⟨_,_,_,h2,_⟩:=h
   simp[ih h2]
 have hdl:ds.length=fn.params.size:=by simpa using hlen hA
 rw[hvars] at hV
 have hg:gs=[]/\q=[]:=by
  cases gs with
  |nil=>exact⟨rfl,hV⟩
  |cons _ _=>exact hV.elim
 obtain⟨rfl,rfl⟩:=hg
 simp only[Bool.and_eq_true] at htps
 obtain⟨htps,hble⟩:=htps
 obtain⟨la,lb,ad,Bs,hO,hq,hf,hT⟩:=Ie h0 0 htps (λj t v ht hv=>hval j t v (by simpa using ht) (by simpa using hv)) hA
 obtain⟨v,Bs',Ns,hk,hF⟩:=hrow Unit (la++lb) _ _ (hlaw _ (by
  show WAt aps (la++lb) (xR aps (la++lb))
  have:=hq lb []
  rw[this.2]
  simpa using this.1))
 obtain⟨hbl,_,hcall⟩:=hF
 have hfill2:(dS (X4 aps 0) (la++lb)).2=lb:=(hf lb).1
 have hfillB:fZ (bpE (UU aps)) lb=(Bs,[]):=by simpa using hO.fill []
 rw[hfill2,hfillB] at hcall
 let ids:bF:=λi=>ad.getD i (0,0,0,0)
 have hfit:Fits ids 0 ad:=λi x hx=>by
  show ad.getD (0+i) (0,0,0,0)=x
  simp[List.getD,hx]
 have hblk:=hO.blk ids hfit
 have hnr:∀(i:Nat) (B:bg),Bs[i]? =some B->gB B.2=true:=λi B h=>Nb (eks:=UU aps) (ls:=lb) B (by rw[hfillB];exact List.mem_of_getElem? h)
 have hnw:∀g,g∉mh W ids Bs:=λg hw=>by
  rcases List.mem_append.1 hw with hw|hw
  .obtain⟨j,B,hj,_⟩:=vz hw
   have:=(hblk j _ hj).1
   cases this
  .obtain⟨j,B,hj,hg⟩:=Bv hw
   rw[dD (hnr j B hj)] at hg
   cases hg
 have hcalls:=hcall ids W args.toList ⟨(λi B h=>by have:=(hblk i B h).2.2;rw[Nat.zero_add] at this;exact this),(λi j B C h=>by
   have:=(hblk i _ h).1;cases this),(λi B h=>by
   rw[(hblk i B h).2.1];intro b hb;cases hb),⟨(λi B h hno=>by rw[hnr i B h] at hno;cases hno),(λi B h=> .BN (hnr i B h)),(λi B h g hg=>by rw[dD (hnr i B h)] at hg;cases hg),
    (λi j B C h _ _ hg=>by rw[dD (hnr i B h)] at hg;cases hg),(λi j B C h _ _ g hg=>by rw[dD (hnr i B h)] at hg;cases hg)⟩⟩ (hT ids hfit lb)
  (λx hx b hb=>by
   have:=(hf lb).2 x hx b hb
   rw[hO.af3];omega) (by rw[hO.af3];exact Nat.le_of_ble_eq_true hble) ⟨λp hp=>⟨hnw p.1,(hgl.1 p hp).2⟩,λg hg=>⟨hnw g,(hgl.2 g hg).2⟩⟩
 rw[show args.toList.toArray=args by simp] at hcalls
 refine hcalls.mono ?_
 rintro e W' ⟨ids',cv,rfl,hret⟩
 have hv:v= .vl (.sv (.bool true)):=by
  unfold Cb at hk
  split at hk
  .rename_i b
   cases b with
   |true=>rfl
   |false=>cases hk
  .cases hk
 subst hv
 have hcv:cv= .bool true:=hret.val
 subst hcv
 have hkeep:Keeps W W' []:=by
  have h1:=hret.keeps
  have:∀(l:List bg) (i:Nat),(∀B∈l,B.1=false)->Eb ids l i=[]:=by
   intro l
   induction l with
   |nil=>intro i _;rfl
   |cons B l ih=>intro i h;simp only[Eb,h B (by simp),cond_false];exact ih _ λC hC=>h C (by simp[hC])
  have h2:∀(l:List bg) (i:Nat),(∀B∈l,gB B.2=true)->KF W ids l i=[]:=by
   intro l
   induction l with
   |nil=>intro i _;rfl
   |cons B l ih=>intro i h;simp only[KF,dD (h B (by simp)),List.nil_append];exact ih _ λC hC=>h C (by simp[hC])
  simp only at h1
  rw[mh,h2 Bs 0 (λB hB=>by
   obtain⟨i,hi⟩:=List.mem_iff_getElem?.1 hB
   exact hnr i B hi),List.append_nil,this Bs 0 (λB hB=>by
   obtain⟨i,hi⟩:=List.mem_iff_getElem?.1 hB
   exact(hblk i B hi).1)] at h1
  exact h1
 have bel:RowKit.Below W.heap.size W W':=⟨hkeep.os,hkeep.tape,hkeep.output,hkeep.size,λk hk=>hkeep.block k hk (by simp)⟩
 refine⟨_,rfl,ds,[],_,[],p,[],hW', ?_, ?_, ?_, ?_,λh=>by cases h⟩
 .rw[List.append_nil,hs H ds hdl,hres]
  exact ChangeShapes.trodAll_mk1 (RowKit.shut_bool hb _)
 .rw[List.append_nil,hs H ds hdl]
  refine xV hl bel hr (λx hx=>hW'.lt x (List.mem_append_left _ hx)) hA
 .rw[List.append_nil,hs H ds hdl,hvars];rfl
 .exact bel.frame _
end
theorem six{l:List Int}(h:l.length=6):∃a b c d e f,l=[a,b,c,d,e,f]:=by
 match l,h with
 |[a,b,c,d,e,f],_=>exact⟨a,b,c,d,e,f,rfl⟩
def tZ(x y r:Int):Int:=if x<y then-1 else if y<x then 1 else r
def av3(l m:List Int):Int:=tZ (l.getD 5 0) (m.getD 5 0) (tZ (l.getD 4 0) (m.getD 4 0) (tZ (l.getD 3 0) (m.getD 3 0) (tZ (l.getD 2 0) (m.getD 2 0) (tZ (l.getD 1 0) (m.getD 1 0) (tZ (l.getD 0 0) (m.getD 0 0) 0)))))
theorem aoQ{α:Type}(x y r:Int)(k:Int->Option α):cond (decide (x<y)) (k (-1)) (cond (decide (x>y)) (k 1) (k r))=k (tZ x y r):=by
 unfold tZ
 by_cases h:x<y
 .simp[h]
 .by_cases h2:y<x
  .simp[h,h2]
  .simp[h,h2]
theorem aoP{α:Type}(x y r:Int)(k:Int->Option α):cond (x !=y) (cond (decide (x<y)) (k (-1)) (k 1)) (k r)=k (tZ x y r):=by
 unfold tZ
 by_cases h:x<y
 .rw[show(x !=y)=true by simpa using(show x≠y by omega)];simp[h]
 .by_cases h2:y<x
  .rw[show(x !=y)=true by simpa using(show x≠y by omega)];simp[h,h2]
  .simp[h,h2,show x=y by omega]
theorem ayc{α:Type}(n:Nat){l m:List Int}(hl:l.length=6)(hm:m.length=6)(k:Int->Option α):lY (n+7) l m k=k (av3 l m):=by
 obtain⟨a,b,c,d,e,f,rfl⟩:=six hl
 obtain⟨a',b',c',d',e',f',rfl⟩:=six hm
 have h:lY (n+7) [a,b,c,d,e,f] [a',b',c',d',e',f'] k=cond (decide (f<f')) (k (-1)) (cond (decide (f>f')) (k 1) (cond (decide (e<e')) (k (-1)) (cond (decide (e>e')) (k 1)
  (cond (decide (d<d')) (k (-1)) (cond (decide (d>d')) (k 1) (cond (decide (c<c')) (k (-1)) (cond (decide (c>c')) (k 1) (cond (decide (b<b')) (k (-1)) (cond (decide (b>b')) (k 1)
  (cond (decide (a<a')) (k (-1)) (cond (decide (a>a')) (k 1) (k 0)))))))))))):=by kernel_rfl
 rw[h]
 simp only[aoQ]
 rfl
theorem awh{α:Type}(n:Nat){l m:List Int}(hl:l.length=6)(hm:m.length=6)(k:Int->Option α):eU (n+7) l m k=k (av3 l m):=by
 obtain⟨a,b,c,d,e,f,rfl⟩:=six hl
 obtain⟨a',b',c',d',e',f',rfl⟩:=six hm
 have h:eU (n+7) [a,b,c,d,e,f] [a',b',c',d',e',f'] k=cond (f !=f') (cond (decide (f<f')) (k (-1)) (k 1)) (cond (e !=e') (cond (decide (e<e')) (k (-1)) (k 1))
  (cond (d !=d') (cond (decide (d<d')) (k (-1)) (k 1)) (cond (c !=c') (cond (decide (c<c')) (k (-1)) (k 1)) (cond (b !=b') (cond (decide (b<b')) (k (-1)) (k 1))
  (cond (a !=a') (cond (decide (a<a')) (k (-1)) (k 1)) (k 0)))))):=by kernel_rfl
 rw[h]
 simp only[aoP]
 rfl
def MQ(c a b:Int):Int:=IntKind.wrap .u64 ((IntKind.wrap .u64 ((IntKind.wrap .u64 a)+(IntKind.wrap .u64 b)))+c)
def hiS(x:Int):Int:=Int.fdiv x (2^32)
def loS(x:Int):Int:=IntKind.wrap .u32 x
def avD(c a b:Int):Int:=IntKind.wrap .u64 (c+(IntKind.wrap .u64 ((IntKind.wrap .u64 a)+(IntKind.wrap .u64 b))))
theorem asD:avD=MQ:=by funext c a b;unfold avD MQ;rw[Int.add_comm]
def MP(F:Int->Int->Int->Int)(c:Int):List Int->List Int->List Int×Int
 |a::l,b::m=>(loS (F c a b)::(MP F (hiS (F c a b)) l m).1,(MP F (hiS (F c a b)) l m).2)
 |_,_=>([],c)
theorem ax1{α:Type}(n:Nat){l m:List Int}(hl:l.length=6)(hm:m.length=6)(k:List Int->Bool->Option α):yJ (n+7) l m k=k (MP MQ 0 l m).1 ((MP MQ 0 l m).2==0):=by
 obtain⟨a,b,c,d,e,f,rfl⟩:=six hl
 obtain⟨a',b',c',d',e',f',rfl⟩:=six hm
 kernel_rfl
theorem awj{α:Type}(n:Nat){l m:List Int}(hl:l.length=6)(hm:m.length=6)(k:List Int->Bool->Option α):jl (n+7) l m k=k (MP MQ 0 l m).1 ((MP MQ 0 l m).2 !=0):=by
 rw[<-asD]
 obtain⟨a,b,c,d,e,f,rfl⟩:=six hl
 obtain⟨a',b',c',d',e',f',rfl⟩:=six hm
 kernel_rfl
def kX(c a b:Int):Int:=IntKind.wrap .i64 ((IntKind.wrap .i64 ((IntKind.wrap .i64 a)-(IntKind.wrap .i64 b)))-c)
def yu(x:Int):Int:=if x<0 then IntKind.wrap .u32 (IntKind.wrap .i64 (x+4294967296)) else IntKind.wrap .u32 x
def xA(x:Int):Int:=if x<0 then 1 else 0
def Mx(c:Int):List Int->List Int->List Int
 |a::l,b::m=>yu (kX c a b)::Mx (xA (kX c a b)) l m
 |_,_=>[]
theorem wG{α:Type}(x:Int)(F:Int->Int->Option α):cond (decide (x<0)) (F 1 (IntKind.wrap .u32 (IntKind.wrap .i64 (x+4294967296)))) (F 0 (IntKind.wrap .u32 x))=F (xA x) (yu x):=by
 unfold xA yu
 by_cases h:x<0<;>simp[h]
theorem axZ{α:Type}(n:Nat){l m:List Int}(hl:l.length=6)(hm:m.length=6)(k:List Int->Option α):kL (n+7) l m k=k (Mx 0 l m):=by
 obtain⟨a,b,c,d,e,f,rfl⟩:=six hl
 obtain⟨a',b',c',d',e',f',rfl⟩:=six hm
 have s0:∀(n:Nat) (z:List Int) (k:List Int->Option α) (x0 x1 x2 x3 x4 x5 q:Int),iB [a,b,c,d,e,f] [a',b',c',d',e',f'] z k (n+1) q 0 [x0,x1,x2,x3,x4,x5]=iB [a,b,c,d,e,f] [a',b',c',d',e',f'] z k n (xA (kX q a a')) 1 [(yu (kX q a a')),x1,x2,x3,x4,x5]:=by
  intros n z k x0 x1 x2 x3 x4 x5 q
  refine Eq.trans ?_ (wG (kX q a a') (λq w=>iB [a,b,c,d,e,f] [a',b',c',d',e',f'] z k n q 1 [w,x1,x2,x3,x4,x5]))
  kernel_rfl
 have s1:∀(n:Nat) (z:List Int) (k:List Int->Option α) (x0 x1 x2 x3 x4 x5 q:Int),iB [a,b,c,d,e,f] [a',b',c',d',e',f'] z k (n+1) q 1 [x0,x1,x2,x3,x4,x5]=iB [a,b,c,d,e,f] [a',b',c',d',e',f'] z k n (xA (kX q b b')) 2 [x0,(yu (kX q b b')),x2,x3,x4,x5]:=by
  intros n z k x0 x1 x2 x3 x4 x5 q
  refine Eq.trans ?_ (wG (kX q b b') (λq w=>iB [a,b,c,d,e,f] [a',b',c',d',e',f'] z k n q 2 [x0,w,x2,x3,x4,x5]))
  kernel_rfl
 have s2:∀(n:Nat) (z:List Int) (k:List Int->Option α) (x0 x1 x2 x3 x4 x5 q:Int),iB [a,b,c,d,e,f] [a',b',c',d',e',f'] z k (n+1) q 2 [x0,x1,x2,x3,x4,x5]=iB [a,b,c,d,e,f] [a',b',c',d',e',f'] z k n (xA (kX q c c')) 3 [x0,x1,(yu (kX q c c')),x3,x4,x5]:=by
  intros n z k x0 x1 x2 x3 x4 x5 q
  refine Eq.trans ?_ (wG (kX q c c') (λq w=>iB [a,b,c,d,e,f] [a',b',c',d',e',f'] z k n q 3 [x0,x1,w,x3,x4,x5]))
  kernel_rfl
 have s3:∀(n:Nat) (z:List Int) (k:List Int->Option α) (x0 x1 x2 x3 x4 x5 q:Int),iB [a,b,c,d,e,f] [a',b',c',d',e',f'] z k (n+1) q 3 [x0,x1,x2,x3,x4,x5]=iB [a,b,c,d,e,f] [a',b',c',d',e',f'] z k n (xA (kX q d d')) 4 [x0,x1,x2,(yu (kX q d d')),x4,x5]:=by
  intros n z k x0 x1 x2 x3 x4 x5 q
  refine Eq.trans ?_ (wG (kX q d d') (λq w=>iB [a,b,c,d,e,f] [a',b',c',d',e',f'] z k n q 4 [x0,x1,x2,w,x4,x5]))
  kernel_rfl
 have s4:∀(n:Nat) (z:List Int) (k:List Int->Option α) (x0 x1 x2 x3 x4 x5 q:Int),iB [a,b,c,d,e,f] [a',b',c',d',e',f'] z k (n+1) q 4 [x0,x1,x2,x3,x4,x5]=iB [a,b,c,d,e,f] [a',b',c',d',e',f'] z k n (xA (kX q e e')) 5 [x0,x1,x2,x3,(yu (kX q e e')),x5]:=by
  intros n z k x0 x1 x2 x3 x4 x5 q
  refine Eq.trans ?_ (wG (kX q e e') (λq w=>iB [a,b,c,d,e,f] [a',b',c',d',e',f'] z k n q 5 [x0,x1,x2,x3,w,x5]))
  kernel_rfl
 have s5:∀(n:Nat) (z:List Int) (k:List Int->Option α) (x0 x1 x2 x3 x4 x5 q:Int),iB [a,b,c,d,e,f] [a',b',c',d',e',f'] z k (n+2) q 5 [x0,x1,x2,x3,x4,x5]=k [x0,x1,x2,x3,x4,(yu (kX q f f'))]:=by
  intros n z k x0 x1 x2 x3 x4 x5 q
  refine Eq.trans ?_ (wG (kX q f f') (λq w=>k [x0,x1,x2,x3,x4,w]))
  kernel_rfl
 show iB [a,b,c,d,e,f] [a',b',c',d',e',f'] [0,0,0,0,0,0] (λl=>k l) (n+6+1) 0 0 [0,0,0,0,0,0]=_
 rw[s0,s1 (n+5),s2 (n+4),s3 (n+3),s4 (n+2),s5 n]
 rfl
def Ng(c a b:Int):Int:=IntKind.wrap .u64 ((IntKind.wrap .u64 ((IntKind.wrap .u64 a)-(IntKind.wrap .u64 b)))-c)
def Nf(c:Int):List Int->List Int->List Int
 |a::l,b::m=>IntKind.wrap .u32 (Ng c a b)::Nf (Int.fdiv (Ng c a b) (2^63)) l m
 |_,_=>[]
theorem apJ{α:Type}(n:Nat){l m:List Int}(hl:l.length=6)(hm:m.length=6)(k:List Int->Option α):kY (n+7) l m k=k (Nf 0 l m):=by
 obtain⟨a,b,c,d,e,f,rfl⟩:=six hl
 obtain⟨a',b',c',d',e',f',rfl⟩:=six hm
 kernel_rfl
theorem apy{c a b:Int}(hc:c=0\/c=1)(ha:0<=a/\a<=4294967295)(hb:0<=b/\b<=4294967295):
  IntKind.wrap .u32 (Ng c a b)=yu (kX c a b)/\Int.fdiv (Ng c a b) (2^63)=xA (kX c a b)/\(xA (kX c a b)=0\/xA (kX c a b)=1):=by
 have hx:kX c a b=a-b-c:=by
  unfold kX IntKind.wrap
  simp only[IntKind.signed,IntKind.bits]
  simp
  try omega
 have hxi:Ng c a b=(a-b-c)%18446744073709551616:=by
  unfold Ng IntKind.wrap
  simp only[IntKind.signed,IntKind.bits]
  simp
  try omega
 rw[hx,hxi]
 unfold yu xA IntKind.wrap
 simp only[IntKind.signed,IntKind.bits]
 rw[Int.fdiv_eq_ediv_of_nonneg _ (by decide)]
 by_cases h:a-b-c<0
 .simp[h];try omega
 .simp[h];try omega
def U32(l:List Int):Prop:=∀x∈l,(Lit.int .u32 x).wf=true
theorem ahx:∀(l m:List Int) (c:Int),U32 l->U32 m->(c=0\/c=1)->Nf c l m=Mx c l m
 |a::l,b::m,c,hl,hm,hc=>by
  obtain⟨h1,h2,h3⟩:=apy hc (bounds_u32 (hl a (by simp))) (bounds_u32 (hm b (by simp)))
  simp only[Nf,Mx,h1,h2,ahx l m _ (λx hx=>hl x (by simp[hx])) (λx hx=>hm x (by simp[hx])) h3]
 |[],_,_,_,_,_=>by simp[Nf,Mx]
 |_::_,[],_,_,_,_=>by simp[Nf,Mx]
def isLen(v b:Nat):Bool:=decide (v<2^b)&&(b==0||decide (2^(b-1)<=v))
theorem dK{v b:Nat}:isLen v b=true↔v<2^b/\(b=0\/2^(b-1)<=v):=by simp[isLen]
theorem fJ{v b c:Nat}(h:isLen v b=true)(h':isLen v c=true):b=c:=by
 rw[dK] at h h'
 obtain⟨h1,h2⟩:=h
 obtain⟨h3,h4⟩:=h'
 rcases Nat.lt_trichotomy b c with hlt|rfl|hlt
 .have hp:2^b<=2^(c-1):=Nat.pow_le_pow_right (by decide) (by omega)
  omega
 .rfl
 .have hp:2^c<=2^(b-1):=Nat.pow_le_pow_right (by decide) (by omega)
  omega
theorem uZ{v b s:Nat}(h:isLen (v/2^s) b=true)(hb:0<b):isLen v (b+s)=true:=by
 rw[dK] at h|-
 obtain⟨h1,h2⟩:=h
 rcases h2 with h2|h2
 .omega
 .refine⟨?_, .inr ?_⟩
  .rw[Nat.pow_add]
   exact(Nat.div_lt_iff_lt_mul (Nat.two_pow_pos s)).1 h1
  .rw[show b+s-1=(b-1)+s by omega,Nat.pow_add]
   exact(Nat.le_div_iff_mul_le (Nat.two_pow_pos s)).1 h2
def aoV:Bool:=(List.range 256).all λx=>isLen x ((iZ oq x).toNat)&&decide (0<=iZ oq x)
theorem asE:aoV=true:=by kernel_rfl
theorem agJ{x:Nat}(h:x<256):∃b:Nat,iZ oq x=(b:Int)/\isLen x b=true:=by
 have h0:=asE
 unfold aoV at h0
 rw[List.all_eq_true] at h0
 have h1:=h0 x (List.mem_range.2 h)
 rw[Bool.and_eq_true,decide_eq_true_eq] at h1
 exact⟨(iZ oq x).toNat,(Int.toNat_of_nonneg h1.2).symm,h1.1⟩
theorem abb:oq.size=256:=by kernel_rfl
theorem KG{x b:Nat}(h:isLen x b=true){c:Nat}(hx:x<2^c):b<=c:=by
 rw[dK] at h
 rcases h.2 with h2|h2
 .omega
 .rcases Nat.lt_or_ge c b with hlt|hge
  .have hp:2^c<=2^(b-1):=Nat.pow_le_pow_right (by decide) (by omega)
   omega
  .exact hge
theorem wQ{x b:Nat}(h:isLen x b=true)(hx:0<x):0<b:=by
 rw[dK] at h
 rcases Nat.eq_zero_or_pos b with rfl|hb
 .simp at h;omega
 .exact hb
theorem SY{x:Nat}(h:x<256):IntKind.wrap .u8 (x:Int)=x:=by
 unfold IntKind.wrap;simp only[IntKind.signed,IntKind.bits];simp;omega
theorem aR{x:Int}(h0:-9223372036854775808<=x)(h1:x<=9223372036854775807):IntKind.wrap .i64 x=x:=by
 unfold IntKind.wrap;simp only[IntKind.signed,IntKind.bits];simp;omega
theorem gP(x y:Nat):Int.fdiv (x:Int) (y:Int)=((x/y:Nat):Int):=by
 rw[Int.fdiv_eq_ediv_of_nonneg _ (by omega)];simp
theorem ak0{α:Type}(n:Nat){p b:Nat}(hp:p<4294967296)(hb:isLen p b=true)(k:Int->Option α):ug n (p:Int) k=k (b:Int):=by
 have fin:∀(x s:Nat) (c:Int),x<256->p/2^s=x->(s=0\/0<x)->s<=24->c=(s:Int)->
   (if 0<=(x:Int)/\(x:Int)<(oq.size:Nat) then k (IntKind.wrap .i64 (c+(IntKind.wrap .i64 (iZ oq (x:Int).toNat)))) else none)=k (b:Int):=by
  intro x s c hx hps hs hs2 hc
  subst hc
  obtain⟨d,hd,hl⟩:=agJ hx
  have hd8:=KG hl (c:=8) hx
  rw[abb,if_pos (by omega),Int.toNat_natCast,hd,aR (x:=(d:Int)) (by omega) (by omega),aR (x:=(s:Int)+(d:Int)) (by omega) (by omega)]
  have:b=d+s:=by
   rcases hs with rfl|hs
   .rw[Nat.pow_zero,Nat.div_one] at hps
    rw[hps] at hb
    exact fJ hb hl
   .exact fJ hb (uZ (by rw[hps];exact hl) (wQ hl hs))
  rw[this]
  congr 1
  omega
 unfold ug ak3
 have e16:Int.fdiv (p:Int) (2^16)=((p/2^16:Nat):Int):=gP p (2^16)
 have e8:Int.fdiv (p:Int) (2^8)=((p/2^8:Nat):Int):=gP p (2^8)
 have e24:Int.fdiv ((p/2^16:Nat):Int) (2^8)=((p/2^24:Nat):Int):=by
  rw[show(2^8:Int)=((2^8:Nat):Int) from rfl,gP,Nat.div_div_eq_div_mul]
 by_cases h1:p>=65536
 .rw[show decide ((p:Int)>=65536)=true by simp;try omega]
  simp only[cond_true,e16]
  by_cases h2:p/2^16>=256
  .rw[show decide (((p/2^16:Nat):Int)>=256)=true by simp;try omega]
   simp only[cond_true,e24]
   rw[SY (by omega)]
   exact fin _ 24 24 (by omega) rfl (by omega) (by omega) rfl
  .rw[show decide (((p/2^16:Nat):Int)>=256)=false by simp;try omega]
   simp only[cond_false]
   rw[SY (by omega)]
   exact fin _ 16 16 (by omega) rfl (by omega) (by omega) rfl
 .rw[show decide ((p:Int)>=65536)=false by simp;try omega]
  simp only[cond_false,e8]
  by_cases h2:p>=256
  .rw[show decide ((p:Int)>=256)=true by simp;try omega]
   simp only[cond_true]
   rw[SY (by omega)]
   exact fin _ 8 8 (by omega) rfl (by omega) (by omega) rfl
  .rw[show decide ((p:Int)>=256)=false by simp;try omega]
   simp only[cond_false]
   rw[SY (by omega)]
   exact fin p 0 0 (by omega) (by simp) (.inl rfl) (by omega) rfl
theorem apM{α:Type}(w:Int)(a:List Int)(k:Int->Option α)(n:Nat)(x y:Int):lg w a k (n+1) x y=
  cond (decide (y>0)) (lg w a k n (IntKind.wrap .i64 (x+1)) (Int.fdiv y (2^1))) (k x):=by kernel_rfl
theorem Vo{α:Type}(w:Int)(a:List Int)(k:Int->Option α):∀(b v c n:Nat),isLen v b=true->c+b<=1000->lg w a k (n+b+1) (c:Int) (v:Int)=k ((c+b:Nat):Int)
 |0,v,c,n,h,hc=>by
  rw[dK] at h
  have hv:v=0:=by omega
  subst hv
  simp only[lg,Qw]
  rfl
 |b+1,v,c,n,h,hc=>by
  rw[dK] at h
  have h2:2^b<=v:=by
   rcases h.2 with h2|h2
   .omega
   .simpa using h2
  have hpos:0<v:=by have:=Nat.two_pow_pos b;omega
  have hh:isLen (v/2) b=true:=by
   rw[dK]
   refine⟨by have:=h.1;rw[Nat.pow_succ] at this;omega, ?_⟩
   cases b with
   |zero=>exact .inl rfl
   |succ b=>right;rw[Nat.pow_succ] at h2;simp only[Nat.add_sub_cancel];omega
  rw[show n+(b+1)+1=(n+b+1)+1 by omega]
  rw[apM]
  rw[show decide ((v:Int)>0)=true by simpa using hpos]
  simp only[cond_true]
  rw[aR (x:=(c:Int)+1) (by omega) (by omega),show(2^1:Int)=((2:Nat):Int) from rfl,gP,show(c:Int)+1=((c+1:Nat):Int) by omega,
   Vo w a k b (v/2) (c+1) n hh (by omega)]
  congr 1;omega
theorem anU(v:Nat)(h:v<4294967296):∃b,isLen v b=true/\b<=32:=by
 by_cases h0:v=0
 .exact⟨0,by rw[h0];rfl,by omega⟩
 .refine⟨v.log2+1, ?_, ?_⟩
  .rw[dK]
   exact⟨Nat.lt_log2_self, .inr (by simpa using Nat.log2_self_le h0)⟩
  .have:=(Nat.log2_lt h0 (k:=32)).2 h
   omega
def limbs:Nat->Nat->List Int
 |0,_=>[]
 |k+1,n=>((n%4294967296:Nat):Int)::limbs k (n/4294967296)
def val:List Int->Nat
 |[]=>0
 |x::r=>x.toNat+4294967296*val r
abbrev aj:Nat:=6277101735386680763835789423207666416102355444464034512896
theorem aV:∀(k n:Nat),(limbs k n).length=k
 |0,_=>rfl
 |k+1,n=>by simp[limbs,aV k]
theorem wf_u32{n:Nat}(h:n<4294967296):(Lit.int .u32 (n:Int)).wf=true:=by
 simp[Lit.wf,IntKind.min,IntKind.max,IntKind.signed,IntKind.bits];omega
theorem Dy:∀(k n:Nat),U32 (limbs k n)
 |0,_=>by intro x hx;cases hx
 |k+1,n=>by
  intro x hx
  simp only[limbs,List.mem_cons] at hx
  rcases hx with rfl|hx
  .exact wf_u32 (by omega)
  .exact Dy k _ x hx
theorem Ea:∀(k n:Nat),val (limbs k n)=n%4294967296^k
 |0,n=>by simp[limbs,val,Nat.mod_one]
 |k+1,n=>by
  simp only[limbs,val,Ea k,Int.toNat_natCast]
  rw[Nat.pow_succ,Nat.mul_comm (4294967296^k),Nat.mod_mul]
theorem af4{a b:Nat}(ha:a<aj)(hb:b<aj)(h:limbs 6 a=limbs 6 b):a=b:=by
 have h':=congrArg val h
 rw[Ea,Ea,Nat.mod_eq_of_lt ha,Nat.mod_eq_of_lt hb] at h'
 exact h'
theorem afe{x:Int}(h0:0<=x)(h1:x<18446744073709551616):IntKind.wrap .u64 x=x:=by
 unfold IntKind.wrap;simp only[IntKind.signed,IntKind.bits];simp;omega
theorem dM(x:Nat):IntKind.wrap .u32 (x:Int)=((x%4294967296:Nat):Int):=by
 unfold IntKind.wrap;simp only[IntKind.signed,IntKind.bits];simp
theorem bK(x:Nat):IntKind.wrap .u64 (x:Int)=((x%18446744073709551616:Nat):Int):=by
 unfold IntKind.wrap;simp only[IntKind.signed,IntKind.bits];simp
theorem aoS{a b c:Nat}(ha:a<4294967296)(hb:b<4294967296)(hc:c<4294967296):MQ c a b=((a+b+c:Nat):Int):=by
 unfold MQ
 rw[bK,bK,Nat.mod_eq_of_lt (by omega),Nat.mod_eq_of_lt (by omega),<-Int.natCast_add,bK,Nat.mod_eq_of_lt (by omega),<-Int.natCast_add,bK,Nat.mod_eq_of_lt (by omega)]
theorem Md:∀(k a b c:Nat),c<=1->MP MQ c (limbs k a) (limbs k b)=(limbs k (a+b+c),(((a%4294967296^k+b%4294967296^k+c)/4294967296^k:Nat):Int))
 |0,a,b,c,hc=>by simp[limbs,MP,Nat.mod_one]
 |k+1,a,b,c,hc=>by
  have e:=aoS (a:=a%4294967296) (b:=b%4294967296) (c:=c) (by omega) (by omega) (by omega)
  simp only[limbs,MP,e]
  have h1:hiS ((a%4294967296+b%4294967296+c:Nat):Int)=(((a%4294967296+b%4294967296+c)/4294967296:Nat):Int):=gP _ 4294967296
  have h2:loS ((a%4294967296+b%4294967296+c:Nat):Int)=(((a+b+c)%4294967296:Nat):Int):=by
   unfold loS;rw[dM];congr 1;omega
  rw[h1,h2,Md k _ _ _ (by omega)]
  have e1:a/4294967296+b/4294967296+(a%4294967296+b%4294967296+c)/4294967296=(a+b+c)/4294967296:=by omega
  rw[e1]
  refine Prod.ext rfl ?_
  show(((a/4294967296%4294967296^k+b/4294967296%4294967296^k+(a%4294967296+b%4294967296+c)/4294967296)/4294967296^k:Nat):Int)=_
  congr 1
  have p:4294967296^(k+1)=4294967296*4294967296^k:=by rw[Nat.pow_succ,Nat.mul_comm]
  rw[p,Nat.mod_mul,Nat.mod_mul (x:=b),<-Nat.div_div_eq_div_mul]
  congr 1
  generalize a/4294967296%4294967296^k=x
  generalize b/4294967296%4294967296^k=y
  omega
theorem aGL{a b:Nat}(ha:a<aj)(hb:b<aj):MP MQ 0 (limbs 6 a) (limbs 6 b)=(limbs 6 (a+b),(((a+b)/aj:Nat):Int)):=by
 have:=Md 6 a b 0 (by omega)
 rw[Nat.mod_eq_of_lt ha,Nat.mod_eq_of_lt hb] at this
 exact this
theorem ahy{a b c:Nat}(ha:a<4294967296)(hb:b<4294967296)(hc:c<=1):kX c a b=(a:Int)-b-c:=by
 unfold kX
 rw[aR (x:=(a:Int)) (by omega) (by omega),aR (x:=(b:Int)) (by omega) (by omega),aR (x:=(a:Int)-b) (by omega) (by omega),aR (by omega) (by omega)]
theorem CJ:∀(k a b c:Nat),c<=1->b+c<=a->Mx c (limbs k a) (limbs k b)=limbs k (a-b-c)
 |0,a,b,c,hc,h=>by simp[limbs,Mx]
 |k+1,a,b,c,hc,h=>by
  have e:=ahy (a:=a%4294967296) (b:=b%4294967296) (c:=c) (by omega) (by omega) hc
  simp only[limbs,Mx,e]
  by_cases hlt:a%4294967296<b%4294967296+c
  .have h1:xA (((a%4294967296:Nat):Int)-((b%4294967296:Nat):Int)-(c:Int))=((1:Nat):Int):=by unfold xA;rw[if_pos (by omega)];rfl
   have h2:yu (((a%4294967296:Nat):Int)-((b%4294967296:Nat):Int)-(c:Int))=(((a-b-c)%4294967296:Nat):Int):=by
    unfold yu
    rw[if_pos (by omega),aR (by omega) (by omega)]
    rw[show((a%4294967296:Nat):Int)-((b%4294967296:Nat):Int)-(c:Int)+4294967296=((a%4294967296+4294967296-b%4294967296-c:Nat):Int) by omega,dM]
    congr 1;omega
   rw[h1,h2,CJ k _ _ 1 (by omega) (by omega)]
   congr 2;omega
  .have h1:xA (((a%4294967296:Nat):Int)-((b%4294967296:Nat):Int)-(c:Int))=((0:Nat):Int):=by unfold xA;rw[if_neg (by omega)];rfl
   have h2:yu (((a%4294967296:Nat):Int)-((b%4294967296:Nat):Int)-(c:Int))=(((a-b-c)%4294967296:Nat):Int):=by
    unfold yu
    rw[if_neg (by omega)]
    rw[show((a%4294967296:Nat):Int)-((b%4294967296:Nat):Int)-(c:Int)=((a%4294967296-b%4294967296-c:Nat):Int) by omega,dM]
    congr 1;omega
   rw[h1,h2,CJ k _ _ 0 (by omega) (by omega)]
   congr 2;omega
theorem aBq{a b:Nat}(h:b<=a):Mx 0 (limbs 6 a) (limbs 6 b)=limbs 6 (a-b):=CJ 6 a b 0 (by omega) (by omega)
def kW(a b:Nat):Int:=if a<b then-1 else if b<a then 1 else 0
theorem ni{x y a b:Nat}{B:Nat}(ha:a<B)(hb:b<B):tZ (x:Int) (y:Int) (kW a b)=kW (a+B*x) (b+B*y):=by
 unfold tZ kW
 by_cases h1:x<y
 .have:a+B*x<b+B*y:=by
   have:B*(x+1)<=B*y:=Nat.mul_le_mul_left _ h1
   rw[Nat.mul_succ] at this;omega
  rw[if_pos (by omega),if_pos this]
 .by_cases h2:y<x
  .have:b+B*y<a+B*x:=by
    have:B*(y+1)<=B*x:=Nat.mul_le_mul_left _ h2
    rw[Nat.mul_succ] at this;omega
   rw[if_neg (by omega),if_pos (by omega),if_neg (by omega),if_pos this]
  .have:x=y:=by omega
   subst this
   rw[if_neg (by omega),if_neg (by omega)]
   simp only[Nat.add_lt_add_iff_right]
theorem nA(a:Nat)(ha:a<aj):∃x0 x1 x2 x3 x4 x5:Nat,x0<4294967296/\x1<4294967296/\x2<4294967296/\x3<4294967296/\x4<4294967296/\x5<4294967296/\
  limbs 6 a=[(x0:Int),(x1:Int),(x2:Int),(x3:Int),(x4:Int),(x5:Int)]/\
  a=x0+4294967296*x1+18446744073709551616*x2+79228162514264337593543950336*x3+340282366920938463463374607431768211456*x4+1461501637330902918203684832716283019655932542976*x5:=by
 refine⟨a%4294967296,a/4294967296%4294967296,a/4294967296/4294967296%4294967296,a/4294967296/4294967296/4294967296%4294967296,a/4294967296/4294967296/4294967296/4294967296%4294967296,
  a/4294967296/4294967296/4294967296/4294967296/4294967296%4294967296,by omega,by omega,by omega,by omega,by omega,by omega,rfl, ?_⟩
 have:a<6277101735386680763835789423207666416102355444464034512896:=ha
 omega
theorem Ik{a b:Nat}(ha:a<aj)(hb:b<aj):av3 (limbs 6 a) (limbs 6 b)=kW a b:=by
 obtain⟨x0,x1,x2,x3,x4,x5,p0,p1,p2,p3,p4,p5,e,e'⟩:=nA a ha
 obtain⟨y0,y1,y2,y3,y4,y5,q0,q1,q2,q3,q4,q5,f,f'⟩:=nA b hb
 rw[e,f]
 show tZ (x5:Int) y5 (tZ (x4:Int) y4 (tZ (x3:Int) y3 (tZ (x2:Int) y2 (tZ (x1:Int) y1 (tZ (x0:Int) y0 0)))))=_
 rw[show(0:Int)=kW 0 0 from rfl,ni (B:=1) (by omega) (by omega),ni (B:=4294967296) (by omega) (by omega),ni (B:=18446744073709551616) (by omega) (by omega),
  ni (B:=79228162514264337593543950336) (by omega) (by omega),ni (B:=340282366920938463463374607431768211456) (by omega) (by omega),ni (B:=1461501637330902918203684832716283019655932542976) (by omega) (by omega)]
 rw[e',f']
 congr 1<;>omega
theorem Iy{a b:Nat}(ha:a<aj)(hb:b<aj):dI (limbs 6 a) (limbs 6 b)=decide (a=b):=by
 by_cases h:a=b
 .subst h;simp[dI]
 .rw[decide_eq_false h]
  unfold dI
  exact decide_eq_false λhq=>h (af4 ha hb hq)
theorem jI{a:Nat}(ha:a<aj):dI (limbs 6 a) [0,0,0,0,0,0]=decide (a=0):=Iy (b:=0) ha (by decide)
def pO(c x y o:Int):Int:=IntKind.wrap .u64 ((IntKind.wrap .u64 ((IntKind.wrap .u64 ((IntKind.wrap .u64 x)*(IntKind.wrap .u64 y)))+(IntKind.wrap .u64 o)))+c)
def BH(c x y o:Int):Int:=IntKind.wrap .u64 (c+(IntKind.wrap .u64 ((IntKind.wrap .u64 ((IntKind.wrap .u64 x)*(IntKind.wrap .u64 y)))+(IntKind.wrap .u64 o))))
theorem DN:BH=pO:=by funext c x y o;unfold BH pO;rw[Int.add_comm]
def dw(F:Int->Int->Int->Int->Int)(x c:Int):List Int->List Int->List Int×Int
 |y::ys,o::os=>(loS (F c x y o)::(dw F x (hiS (F c x y o)) ys os).1,(dw F x (hiS (F c x y o)) ys os).2)
 |_,_=>([],c)
theorem R3{x y:Nat}(hx:x<4294967296)(hy:y<4294967296):x*y<=18446744065119617025:=by
 have:=Nat.mul_le_mul (show x<=4294967295 by omega) (show y<=4294967295 by omega)
 omega
theorem an6{c x y o:Nat}(hc:c<4294967296)(hx:x<4294967296)(hy:y<4294967296)(ho:o<4294967296):pO c x y o=((x*y+o+c:Nat):Int):=by
 have:=R3 hx hy
 unfold pO
 rw[bK,bK,bK,Nat.mod_eq_of_lt (show x<18446744073709551616 by omega),Nat.mod_eq_of_lt (show y<18446744073709551616 by omega),Nat.mod_eq_of_lt (show o<18446744073709551616 by omega),<-Int.natCast_mul,bK,
  Nat.mod_eq_of_lt (by omega),<-Int.natCast_add,bK,Nat.mod_eq_of_lt (by omega),<-Int.natCast_add,bK,Nat.mod_eq_of_lt (by omega)]
theorem BI{x:Nat}(hx:x<4294967296):∀(k b o c:Nat),c<4294967296->
  dw pO x c (limbs k b) (limbs k o)=(limbs k (x*b+o+c),(((x*(b%4294967296^k)+o%4294967296^k+c)/4294967296^k:Nat):Int))
 |0,b,o,c,hc=>by simp[limbs,dw,Nat.mod_one]
 |k+1,b,o,c,hc=>by
  have e:=an6 (c:=c) (x:=x) (y:=b%4294967296) (o:=o%4294967296) hc hx (by omega) (by omega)
  have hm:=R3 hx (show b%4294967296<4294967296 by omega)
  simp only[limbs,dw,e]
  have h1:hiS ((x*(b%4294967296)+o%4294967296+c:Nat):Int)=(((x*(b%4294967296)+o%4294967296+c)/4294967296:Nat):Int):=gP _ 4294967296
  have hb:x*b=x*(b%4294967296)+4294967296*(x*(b/4294967296)):=by
   conv=>lhs;rw[<-Nat.mod_add_div b 4294967296]
   rw[Nat.mul_add,Nat.mul_left_comm]
  have h2:loS ((x*(b%4294967296)+o%4294967296+c:Nat):Int)=(((x*b+o+c)%4294967296:Nat):Int):=by
   unfold loS;rw[dM,hb];congr 1;omega
  rw[h1,h2,BI hx k _ _ _ (by omega)]
  have e1:x*(b/4294967296)+o/4294967296+(x*(b%4294967296)+o%4294967296+c)/4294967296=(x*b+o+c)/4294967296:=by rw[hb];omega
  rw[e1]
  refine Prod.ext rfl ?_
  show(((x*(b/4294967296%4294967296^k)+o/4294967296%4294967296^k+(x*(b%4294967296)+o%4294967296+c)/4294967296)/4294967296^k:Nat):Int)=_
  congr 1
  have p:4294967296^(k+1)=4294967296*4294967296^k:=by rw[Nat.pow_succ,Nat.mul_comm]
  rw[p,Nat.mod_mul,Nat.mod_mul (x:=o),<-Nat.div_div_eq_div_mul,Nat.mul_add,Nat.mul_left_comm x 4294967296]
  congr 1
  generalize x*(b/4294967296%4294967296^k)=u
  generalize o/4294967296%4294967296^k=v
  omega
theorem fC:∀(j k n:Nat),limbs (j+k) n=limbs j n++limbs k (n/4294967296^j)
 |0,k,n=>by simp[limbs]
 |j+1,k,n=>by
  rw[show j+1+k=(j+k)+1 by omega]
  simp only[limbs,fC j k,List.cons_append]
  rw[Nat.div_div_eq_div_mul,Nat.pow_succ,Nat.mul_comm (4294967296^j)]
theorem jk:∀(k n M:Nat),limbs k (n+4294967296^k*M)=limbs k n
 |0,n,M=>rfl
 |k+1,n,M=>by
  simp only[limbs]
  have p:4294967296^(k+1)*M=4294967296*(4294967296^k*M):=by rw[Nat.pow_succ];simp only[Nat.mul_assoc,Nat.mul_left_comm]
  rw[p,show(n+4294967296*(4294967296^k*M))%4294967296=n%4294967296 by omega,show(n+4294967296*(4294967296^k*M))/4294967296=n/4294967296+4294967296^k*M by omega,jk k]
theorem oW(k n:Nat):limbs k (n%4294967296^k)=limbs k n:=by
 conv=>rhs;rw[<-Nat.mod_add_div n (4294967296^k),jk]
theorem iN(k n:Nat):(BitVec.ofInt k (n:Int)).toNat=n%2^k:=by
 rw[BitVec.ofInt_natCast,BitVec.toNat_ofNat]
theorem aaN{x y:Nat}(hx:x<4294967296)(hy:y<4294967296):dJ .or .u32 (x:Int) (y:Int)=((x|||y:Nat):Int):=by
 have h:x|||y<2^32:=Nat.or_lt_two_pow hx hy
 show IntKind.wrap .u32 ((BitVec.ofInt 32 (x:Int)|||BitVec.ofInt 32 (y:Int)).toNat:Int)=_
 rw[BitVec.toNat_or,iN,iN,Nat.mod_eq_of_lt hx,Nat.mod_eq_of_lt hy,dM,Nat.mod_eq_of_lt h]
theorem aHZ{x y:Nat}(hx:x<18446744073709551616)(hy:y<18446744073709551616):dJ .or .u64 (x:Int) (y:Int)=((x|||y:Nat):Int):=by
 have h:x|||y<2^64:=Nat.or_lt_two_pow hx hy
 show IntKind.wrap .u64 ((BitVec.ofInt 64 (x:Int)|||BitVec.ofInt 64 (y:Int)).toNat:Int)=_
 rw[BitVec.toNat_or,iN,iN,Nat.mod_eq_of_lt hx,Nat.mod_eq_of_lt hy,bK,Nat.mod_eq_of_lt h]
theorem aBg{x:Nat}(hx:x<18446744073709551616):dJ .and .u64 (x:Int) 4294967295=((x%4294967296:Nat):Int):=by
 show IntKind.wrap .u64 ((BitVec.ofInt 64 (x:Int)&&&BitVec.ofInt 64 ((4294967295:Nat):Int)).toNat:Int)=_
 rw[BitVec.toNat_and,iN,iN,Nat.mod_eq_of_lt hx,Nat.mod_eq_of_lt (by decide:4294967295<2^64),show(4294967295:Nat)=2^32-1 from rfl,Nat.and_two_pow_sub_one_eq_mod,bK,Nat.mod_eq_of_lt (show x%2^32<18446744073709551616 by omega)]
theorem Ou(x y i:Nat)(hy:y<2^i):x*2^i|||y=x*2^i+y:=by
 have e:=Nat.two_pow_add_eq_or_of_lt hy x
 rw[Nat.mul_comm] at e
 exact e.symm
theorem nu{r:Nat}(hr:r<=32):4294967296=2^(32-r)*2^r:=by
 rw[<-Nat.pow_add,Nat.sub_add_cancel hr]
theorem an2{r:Nat}(hr:r<=32)(x:Nat):x*2^r%4294967296=(x%2^(32-r))*2^r:=by
 conv=>lhs;rw[nu hr]
 exact Nat.mul_mod_mul_right _ _ _
theorem Fj{r:Nat}(hr:r<=32)(x c:Nat)(hc:c<2^r):x*2^r%4294967296+c<4294967296:=by
 rw[an2 hr]
 have h1:x%2^(32-r)+1<=2^(32-r):=Nat.mod_lt _ (Nat.two_pow_pos _)
 have h2:=Nat.mul_le_mul_right (2^r) h1
 rw[<-nu hr,Nat.add_mul] at h2
 omega
theorem OV{r:Nat}(hr:r<=32)(x c:Nat)(hc:c<2^r):(x*2^r%4294967296)|||c=x*2^r%4294967296+c:=by
 rw[an2 hr];exact Ou _ _ _ hc
theorem jC{r:Nat}(hr:r<=32)(k x c M:Nat)(hc:c<2^r):limbs (k+1) (x*2^r+c+4294967296*M)=((x*2^r%4294967296+c:Nat):Int)::limbs k (x*2^r/4294967296+M):=by
 have h:=Fj hr x c hc
 simp only[limbs]
 generalize x*2^r=t at*
 rw[show(t+c+4294967296*M)%4294967296=t%4294967296+c by omega,show(t+c+4294967296*M)/4294967296=t/4294967296+M by omega]
theorem gT{r x:Nat}(hx:x<4294967296):x*2^r/4294967296<2^r:=by
 refine Nat.div_lt_of_lt_mul ?_
 exact Nat.mul_lt_mul_of_pos_right hx (Nat.two_pow_pos r)
theorem aaX{r x:Nat}(hr:r<=32):x/2^(32-r)=x*2^r/4294967296:=by
 conv=>rhs;rw[nu hr]
 rw[Nat.mul_div_mul_right _ _ (Nat.two_pow_pos r)]
theorem aAI{r x0 x1 x2 x3 x4 x5:Nat}(hr:r<=32)(h0:x0<4294967296)(h1:x1<4294967296)(h2:x2<4294967296)(h3:x3<4294967296)(h4:x4<4294967296){N:Nat}
  (hN:N=(x0+4294967296*x1+18446744073709551616*x2+79228162514264337593543950336*x3+340282366920938463463374607431768211456*x4+1461501637330902918203684832716283019655932542976*x5)):
  limbs 6 (N*2^r)=[((x0*2^r%4294967296:Nat):Int),((x1*2^r%4294967296+x0*2^r/4294967296:Nat):Int),((x2*2^r%4294967296+x1*2^r/4294967296:Nat):Int),
   ((x3*2^r%4294967296+x2*2^r/4294967296:Nat):Int),((x4*2^r%4294967296+x3*2^r/4294967296:Nat):Int),((x5*2^r%4294967296+x4*2^r/4294967296:Nat):Int)]:=by
 have e:N*2^r=x0*2^r+0+4294967296*(x1*2^r+4294967296*(x2*2^r+4294967296*(x3*2^r+4294967296*(x4*2^r+4294967296*(x5*2^r+4294967296*0))))):=by
  subst hN
  generalize 2^r=P
  simp only[Nat.add_mul,Nat.mul_assoc]
  omega
 rw[e,jC hr _ _ _ _ (Nat.two_pow_pos r)]
 rw[show∀u v w:Nat,u+(v+4294967296*w)=v+u+4294967296*w from λu v w=>by omega,jC hr _ _ _ _ (gT h0)]
 rw[show∀u v w:Nat,u+(v+4294967296*w)=v+u+4294967296*w from λu v w=>by omega,jC hr _ _ _ _ (gT h1)]
 rw[show∀u v w:Nat,u+(v+4294967296*w)=v+u+4294967296*w from λu v w=>by omega,jC hr _ _ _ _ (gT h2)]
 rw[show∀u v w:Nat,u+(v+4294967296*w)=v+u+4294967296*w from λu v w=>by omega,jC hr _ _ _ _ (gT h3)]
 rw[show∀u v w:Nat,u+(v+4294967296*w)=v+u+4294967296*w from λu v w=>by omega,jC hr _ _ _ _ (gT h4)]
 rfl
theorem afC{r:Nat}(hr:r<=32)(k x M:Nat)(hx:x<4294967296):limbs (k+1) ((x+4294967296*M)/2^r)=((x/2^r+M*2^(32-r)%4294967296:Nat):Int)::limbs k (M/2^r):=by
 have e1:(x+4294967296*M)/2^r=x/2^r+M*2^(32-r):=by
  conv=>lhs;rw[nu hr]
  rw[Nat.mul_comm (2^(32-r)) (2^r),Nat.mul_assoc,Nat.add_mul_div_left _ _ (Nat.two_pow_pos r),Nat.mul_comm M]
 have hc:x/2^r<2^(32-r):=by
  refine Nat.div_lt_of_lt_mul ?_
  rw[Nat.mul_comm,<-nu hr];exact hx
 have hl:=Fj (r:=32-r) (by omega) M (x/2^r) hc
 have e2:M*2^(32-r)/4294967296=M/2^r:=by
  have:=aaX (r:=32-r) (x:=M) (by omega)
  rw[<-this];congr 2;omega
 simp only[limbs]
 rw[e1,<-e2]
 generalize M*2^(32-r)=t at*
 generalize x/2^r=c at*
 rw[show(c+t)%4294967296=c+t%4294967296 by omega,show(c+t)/4294967296=t/4294967296 by omega]
theorem ahD{r:Nat}(hr:r<=32)(x M:Nat):(x+4294967296*M)*2^(32-r)%4294967296=x*2^(32-r)%4294967296:=by
 rw[Nat.add_mul,Nat.mul_assoc,Nat.add_mul_mod_self_left]
theorem l6(a:Nat):(limbs 6 a).length=6:=aV 6 a
theorem carry_zero{s:Nat}:((((s/aj:Nat):Int))==0)=decide (s<aj):=by
 by_cases h:s<aj
 .rw[Nat.div_eq_of_lt h,decide_eq_true h];rfl
 .rw[decide_eq_false h]
  have:0<s/aj:=Nat.div_pos (by omega) (by decide)
  generalize s/aj=q at*
  simp;omega
section
variable {α:Type} (n:Nat) {a b:Nat}
theorem VN(ha:a<aj)(hb:b<aj)(k:List Int->Bool->Option α):yJ (n+7) (limbs 6 a) (limbs 6 b) k=k (limbs 6 (a+b)) (decide (a+b<aj)):=by
 rw[ax1 n (l6 a) (l6 b),aGL ha hb];simp only[carry_zero]
theorem Vd(ha:a<aj)(hb:b<aj)(k:List Int->Bool->Option α):jl (n+7) (limbs 6 a) (limbs 6 b) k=k (limbs 6 (a+b)) (!(decide (a+b<aj))):=by
 rw[awj n (l6 a) (l6 b),aGL ha hb];simp only[bne,carry_zero]
theorem A8(h:b<=a)(k:List Int->Option α):kL (n+7) (limbs 6 a) (limbs 6 b) k=k (limbs 6 (a-b)):=by
 rw[axZ n (l6 a) (l6 b),aBq h]
theorem I6(h:b<=a)(k:List Int->Option α):kY (n+7) (limbs 6 a) (limbs 6 b) k=k (limbs 6 (a-b)):=by
 rw[apJ n (l6 a) (l6 b),ahx _ _ 0 (Dy 6 a) (Dy 6 b) (.inl rfl),aBq h]
theorem JJ(ha:a<aj)(hb:b<aj)(k:Int->Option α):lY (n+7) (limbs 6 a) (limbs 6 b) k=k (kW a b):=by
 rw[ayc n (l6 a) (l6 b),Ik ha hb]
theorem Az(ha:a<aj)(hb:b<aj)(k:Int->Option α):eU (n+7) (limbs 6 a) (limbs 6 b) k=k (kW a b):=by
 rw[awh n (l6 a) (l6 b),Ik ha hb]
theorem adj(m:Nat)(ha:a<aj)(k:Bool->Option α):lX m (limbs 6 a) k=k (decide (a=0)):=by
 simp only[lX,akZ,jI ha]
theorem tK(m:Nat)(q:Bool)(ha:a<aj)(k:Bool->Option α):iH m q (limbs 6 a) k=k (q&& !(decide (a=0))):=by
 simp only[iH,akq,adj m ha];cases q<;>rfl
theorem Fw(m:Nat)(q:Bool)(ha:a<aj)(k:Bool->Option α):iI m q (limbs 6 a) k=k (q&& !(decide (a=0))):=by
 simp only[iI,azs,jI ha];cases q<;>rfl
theorem aBB(m:Nat)(q:Bool)(ha:a<aj)(k:Bool->Option α):Qm m q (limbs 6 a) k=k (!(q&&decide (a=0))):=by
 simp only[Qm,aid,jI ha];cases q<;>cases(decide (a=0))<;>rfl
end
def dv:Nat->Nat->Nat
 |0,N=>N
 |j+1,N=>dv j (N/4294967296)
theorem jH:∀j N,dv j N=N/4294967296^j
 |0,N=>by simp[dv]
 |j+1,N=>by rw[dv,jH j,Nat.div_div_eq_div_mul,Nat.pow_succ,Nat.mul_comm (4294967296^j)]
theorem asx(i:Nat){N x b:Nat}(hi:i<6)(hx:x<4294967296)(hb:b<aj)(hN:N<4294967296^(i+6)):
  List.set (limbs i N++((dw pO (x:Int) 0 (limbs 6 b) (limbs 6 (dv i N))).1++limbs (6-i) (dv (i+6) N))) (i+6) (IntKind.wrap .u32 (dw pO (x:Int) 0 (limbs 6 b) (limbs 6 (dv i N))).2)=
   limbs 12 (N+x*b*4294967296^i):=by
 have h:=BI hx 6 b (dv i N) 0 (by omega)
 rw[show((0:Nat):Int)=0 from rfl] at h
 rw[h]
 simp only[Nat.add_zero]
 have hd:dv i N<aj:=by
  rw[jH]
  refine Nat.div_lt_of_lt_mul ?_
  rw[<-show(4294967296:Nat)^6=aj from by decide,<-Nat.pow_add]
  exact hN
 have hd':dv (i+6) N=0:=by rw[jH];exact Nat.div_eq_of_lt hN
 rw[hd',show(4294967296:Nat)^6=aj from by decide,Nat.mod_eq_of_lt hb,Nat.mod_eq_of_lt hd]
 have hc:(x*b+dv i N)/aj<4294967296:=by
  refine Nat.div_lt_of_lt_mul ?_
  have h1:x*b<=4294967295*b:=Nat.mul_le_mul_right _ (by omega)
  have hb':b<6277101735386680763835789423207666416102355444464034512896:=hb
  have hd'':dv i N<6277101735386680763835789423207666416102355444464034512896:=hd
  show _<6277101735386680763835789423207666416102355444464034512896*4294967296
  omega
 rw[dM,Nat.mod_eq_of_lt hc]
 have e1:limbs 12 (N+x*b*4294967296^i)=limbs i N++(limbs 6 (x*b+dv i N)++limbs (6-i) ((x*b+dv i N)/aj)):=by
  rw[show 12=i+(6+(6-i)) by omega,fC,Nat.mul_comm (x*b),jk,fC,Nat.add_mul_div_left _ _ (Nat.pow_pos (by decide)),jH,Nat.add_comm (N/_),
   show(4294967296:Nat)^6=aj from by decide]
 rw[e1,List.set_append_right _ _ (by rw[aV];omega),List.set_append_right _ _ (by rw[aV,aV];omega),aV,aV,show i+6-i-6=0 by omega]
 congr 2
 obtain⟨j,hj⟩:∃j,6-i=j+1:=⟨5-i,by omega⟩
 rw[hj]
 simp only[limbs,List.set_cons_zero]
 rw[Nat.mod_eq_of_lt hc,Nat.div_eq_of_lt hc]
theorem aiA{α:Type}(n a b N:Nat)(q r s:Bool)(z:List Int)(k:Int->List Int->Option α):jE 0 q (limbs 6 a) r (limbs 6 b) s z k (n+7) 0 0 (limbs 12 N)=
  k (dw pO ((dv 0 a%4294967296:Nat):Int) 0 (limbs 6 b) (limbs 6 (dv 0 N))).2 (limbs 0 N++((dw pO ((dv 0 a%4294967296:Nat):Int) 0 (limbs 6 b) (limbs 6 (dv 0 N))).1++limbs 6 (dv 6 N))):=by kernel_rfl
theorem arK{α:Type}(n a b N:Nat)(w z y:List Int)(v:Int)(k:Int->List Int->Option α):nT 0 ((dv 0 a%4294967296:Nat):Int) w v (limbs 6 b) z y k (n+7) 0 0 (limbs 12 N)=
  k (dw BH ((dv 0 a%4294967296:Nat):Int) 0 (limbs 6 b) (limbs 6 (dv 0 N))).2 (limbs 0 N++((dw BH ((dv 0 a%4294967296:Nat):Int) 0 (limbs 6 b) (limbs 6 (dv 0 N))).1++limbs 6 (dv 6 N))):=by kernel_rfl
theorem aiB{α:Type}(n a b N:Nat)(q r s:Bool)(z:List Int)(k:Int->List Int->Option α):jE 1 q (limbs 6 a) r (limbs 6 b) s z k (n+7) 0 0 (limbs 12 N)=
  k (dw pO ((dv 1 a%4294967296:Nat):Int) 0 (limbs 6 b) (limbs 6 (dv 1 N))).2 (limbs 1 N++((dw pO ((dv 1 a%4294967296:Nat):Int) 0 (limbs 6 b) (limbs 6 (dv 1 N))).1++limbs 5 (dv 7 N))):=by kernel_rfl
theorem arL{α:Type}(n a b N:Nat)(w z y:List Int)(v:Int)(k:Int->List Int->Option α):nT 1 ((dv 1 a%4294967296:Nat):Int) w v (limbs 6 b) z y k (n+7) 0 0 (limbs 12 N)=
  k (dw BH ((dv 1 a%4294967296:Nat):Int) 0 (limbs 6 b) (limbs 6 (dv 1 N))).2 (limbs 1 N++((dw BH ((dv 1 a%4294967296:Nat):Int) 0 (limbs 6 b) (limbs 6 (dv 1 N))).1++limbs 5 (dv 7 N))):=by kernel_rfl
theorem aiC{α:Type}(n a b N:Nat)(q r s:Bool)(z:List Int)(k:Int->List Int->Option α):jE 2 q (limbs 6 a) r (limbs 6 b) s z k (n+7) 0 0 (limbs 12 N)=
  k (dw pO ((dv 2 a%4294967296:Nat):Int) 0 (limbs 6 b) (limbs 6 (dv 2 N))).2 (limbs 2 N++((dw pO ((dv 2 a%4294967296:Nat):Int) 0 (limbs 6 b) (limbs 6 (dv 2 N))).1++limbs 4 (dv 8 N))):=by kernel_rfl
theorem arM{α:Type}(n a b N:Nat)(w z y:List Int)(v:Int)(k:Int->List Int->Option α):nT 2 ((dv 2 a%4294967296:Nat):Int) w v (limbs 6 b) z y k (n+7) 0 0 (limbs 12 N)=
  k (dw BH ((dv 2 a%4294967296:Nat):Int) 0 (limbs 6 b) (limbs 6 (dv 2 N))).2 (limbs 2 N++((dw BH ((dv 2 a%4294967296:Nat):Int) 0 (limbs 6 b) (limbs 6 (dv 2 N))).1++limbs 4 (dv 8 N))):=by kernel_rfl
theorem aiD{α:Type}(n a b N:Nat)(q r s:Bool)(z:List Int)(k:Int->List Int->Option α):jE 3 q (limbs 6 a) r (limbs 6 b) s z k (n+7) 0 0 (limbs 12 N)=
  k (dw pO ((dv 3 a%4294967296:Nat):Int) 0 (limbs 6 b) (limbs 6 (dv 3 N))).2 (limbs 3 N++((dw pO ((dv 3 a%4294967296:Nat):Int) 0 (limbs 6 b) (limbs 6 (dv 3 N))).1++limbs 3 (dv 9 N))):=by kernel_rfl
theorem arN{α:Type}(n a b N:Nat)(w z y:List Int)(v:Int)(k:Int->List Int->Option α):nT 3 ((dv 3 a%4294967296:Nat):Int) w v (limbs 6 b) z y k (n+7) 0 0 (limbs 12 N)=
  k (dw BH ((dv 3 a%4294967296:Nat):Int) 0 (limbs 6 b) (limbs 6 (dv 3 N))).2 (limbs 3 N++((dw BH ((dv 3 a%4294967296:Nat):Int) 0 (limbs 6 b) (limbs 6 (dv 3 N))).1++limbs 3 (dv 9 N))):=by kernel_rfl
theorem aiE{α:Type}(n a b N:Nat)(q r s:Bool)(z:List Int)(k:Int->List Int->Option α):jE 4 q (limbs 6 a) r (limbs 6 b) s z k (n+7) 0 0 (limbs 12 N)=
  k (dw pO ((dv 4 a%4294967296:Nat):Int) 0 (limbs 6 b) (limbs 6 (dv 4 N))).2 (limbs 4 N++((dw pO ((dv 4 a%4294967296:Nat):Int) 0 (limbs 6 b) (limbs 6 (dv 4 N))).1++limbs 2 (dv 10 N))):=by kernel_rfl
theorem arO{α:Type}(n a b N:Nat)(w z y:List Int)(v:Int)(k:Int->List Int->Option α):nT 4 ((dv 4 a%4294967296:Nat):Int) w v (limbs 6 b) z y k (n+7) 0 0 (limbs 12 N)=
  k (dw BH ((dv 4 a%4294967296:Nat):Int) 0 (limbs 6 b) (limbs 6 (dv 4 N))).2 (limbs 4 N++((dw BH ((dv 4 a%4294967296:Nat):Int) 0 (limbs 6 b) (limbs 6 (dv 4 N))).1++limbs 2 (dv 10 N))):=by kernel_rfl
theorem aiF{α:Type}(n a b N:Nat)(q r s:Bool)(z:List Int)(k:Int->List Int->Option α):jE 5 q (limbs 6 a) r (limbs 6 b) s z k (n+7) 0 0 (limbs 12 N)=
  k (dw pO ((dv 5 a%4294967296:Nat):Int) 0 (limbs 6 b) (limbs 6 (dv 5 N))).2 (limbs 5 N++((dw pO ((dv 5 a%4294967296:Nat):Int) 0 (limbs 6 b) (limbs 6 (dv 5 N))).1++limbs 1 (dv 11 N))):=by kernel_rfl
theorem arP{α:Type}(n a b N:Nat)(w z y:List Int)(v:Int)(k:Int->List Int->Option α):nT 5 ((dv 5 a%4294967296:Nat):Int) w v (limbs 6 b) z y k (n+7) 0 0 (limbs 12 N)=
  k (dw BH ((dv 5 a%4294967296:Nat):Int) 0 (limbs 6 b) (limbs 6 (dv 5 N))).2 (limbs 5 N++((dw BH ((dv 5 a%4294967296:Nat):Int) 0 (limbs 6 b) (limbs 6 (dv 5 N))).1++limbs 1 (dv 11 N))):=by kernel_rfl
theorem agn(a b i:Nat):(a%4294967296^i)*b+(dv i a%4294967296)*b*4294967296^i=(a%4294967296^(i+1))*b:=by
 rw[Nat.mod_pow_succ,jH,Nat.add_mul,Nat.mul_right_comm,Nat.mul_comm (_%_) (_^i)]
theorem asu{a b:Nat}(i:Nat)(hb:b<aj):(a%4294967296^i)*b<4294967296^(i+6):=by
 rw[Nat.pow_add,show(4294967296:Nat)^6=aj from by decide]
 have h1:a%4294967296^i<4294967296^i:=Nat.mod_lt _ (Nat.pow_pos (by decide))
 exact Nat.mul_lt_mul'' h1 hb
theorem iJ(i:Nat){a b:Nat}(hi:i<6)(hb:b<aj):
  List.set (limbs i ((a%4294967296^i)*b)++((dw pO ((dv i a%4294967296:Nat):Int) 0 (limbs 6 b) (limbs 6 (dv i ((a%4294967296^i)*b)))).1++limbs (6-i) (dv (i+6) ((a%4294967296^i)*b)))) (i+6)
   (IntKind.wrap .u32 (dw pO ((dv i a%4294967296:Nat):Int) 0 (limbs 6 b) (limbs 6 (dv i ((a%4294967296^i)*b)))).2)=limbs 12 ((a%4294967296^(i+1))*b):=by
 rw[asx i hi (Nat.mod_lt _ (by decide)) hb (asu i hb),agn]
theorem awu{α:Type}(n j a b:Nat)(hb:b<aj)(q r s:Bool)(z:List Int)(k:List Int->Option α):di (aW (n+7)) q (limbs 6 a) r (limbs 6 b) s z k (j+1) 0 (limbs 12 ((a%4294967296^0)*b))=
  di (aW (n+7)) q (limbs 6 a) r (limbs 6 b) s z k j 1 (limbs 12 ((a%4294967296^1)*b)):=by
 have h1:∀out,di (aW (n+7)) q (limbs 6 a) r (limbs 6 b) s z k (j+1) 0 out=jE 0 q (limbs 6 a) r (limbs 6 b) s z (λc l=>di (aW (n+7)) q (limbs 6 a) r (limbs 6 b) s z k j 1 (List.set l 6 (IntKind.wrap .u32 c))) (n+7) 0 0 out:=by intro out;kernel_rfl
 rw[h1,aiA]
 exact congrArg (λl=>di (aW (n+7)) q (limbs 6 a) r (limbs 6 b) s z k j 1 l) (iJ 0 (by decide) hb)
theorem aFT{α:Type}(n j a b:Nat)(hb:b<aj)(z:List Int)(k:List Int->Option α):fA (bS (n+7)) (limbs 6 a) (limbs 6 b) z k (j+1) 0 (limbs 12 ((a%4294967296^0)*b))=
  fA (bS (n+7)) (limbs 6 a) (limbs 6 b) z k j 1 (limbs 12 ((a%4294967296^1)*b)):=by
 have h1:∀out,fA (bS (n+7)) (limbs 6 a) (limbs 6 b) z k (j+1) 0 out=nT 0 ((dv 0 a%4294967296:Nat):Int) (limbs 6 a) 0 (limbs 6 b) (limbs 6 b) z (λc l=>fA (bS (n+7)) (limbs 6 a) (limbs 6 b) z k j 1 (List.set l 6 (IntKind.wrap .u32 c))) (n+7) 0 0 out:=by intro out;kernel_rfl
 rw[h1,arK,DN]
 exact congrArg (λl=>fA (bS (n+7)) (limbs 6 a) (limbs 6 b) z k j 1 l) (iJ 0 (by decide) hb)
theorem awv{α:Type}(n j a b:Nat)(hb:b<aj)(q r s:Bool)(z:List Int)(k:List Int->Option α):di (aW (n+7)) q (limbs 6 a) r (limbs 6 b) s z k (j+1) 1 (limbs 12 ((a%4294967296^1)*b))=
  di (aW (n+7)) q (limbs 6 a) r (limbs 6 b) s z k j 2 (limbs 12 ((a%4294967296^2)*b)):=by
 have h1:∀out,di (aW (n+7)) q (limbs 6 a) r (limbs 6 b) s z k (j+1) 1 out=jE 1 q (limbs 6 a) r (limbs 6 b) s z (λc l=>di (aW (n+7)) q (limbs 6 a) r (limbs 6 b) s z k j 2 (List.set l 7 (IntKind.wrap .u32 c))) (n+7) 0 0 out:=by intro out;kernel_rfl
 rw[h1,aiB]
 exact congrArg (λl=>di (aW (n+7)) q (limbs 6 a) r (limbs 6 b) s z k j 2 l) (iJ 1 (by decide) hb)
theorem aFU{α:Type}(n j a b:Nat)(hb:b<aj)(z:List Int)(k:List Int->Option α):fA (bS (n+7)) (limbs 6 a) (limbs 6 b) z k (j+1) 1 (limbs 12 ((a%4294967296^1)*b))=
  fA (bS (n+7)) (limbs 6 a) (limbs 6 b) z k j 2 (limbs 12 ((a%4294967296^2)*b)):=by
 have h1:∀out,fA (bS (n+7)) (limbs 6 a) (limbs 6 b) z k (j+1) 1 out=nT 1 ((dv 1 a%4294967296:Nat):Int) (limbs 6 a) 1 (limbs 6 b) (limbs 6 b) z (λc l=>fA (bS (n+7)) (limbs 6 a) (limbs 6 b) z k j 2 (List.set l 7 (IntKind.wrap .u32 c))) (n+7) 0 0 out:=by intro out;kernel_rfl
 rw[h1,arL,DN]
 exact congrArg (λl=>fA (bS (n+7)) (limbs 6 a) (limbs 6 b) z k j 2 l) (iJ 1 (by decide) hb)
theorem aww{α:Type}(n j a b:Nat)(hb:b<aj)(q r s:Bool)(z:List Int)(k:List Int->Option α):di (aW (n+7)) q (limbs 6 a) r (limbs 6 b) s z k (j+1) 2 (limbs 12 ((a%4294967296^2)*b))=
  di (aW (n+7)) q (limbs 6 a) r (limbs 6 b) s z k j 3 (limbs 12 ((a%4294967296^3)*b)):=by
 have h1:∀out,di (aW (n+7)) q (limbs 6 a) r (limbs 6 b) s z k (j+1) 2 out=jE 2 q (limbs 6 a) r (limbs 6 b) s z (λc l=>di (aW (n+7)) q (limbs 6 a) r (limbs 6 b) s z k j 3 (List.set l 8 (IntKind.wrap .u32 c))) (n+7) 0 0 out:=by intro out;kernel_rfl
 rw[h1,aiC]
 exact congrArg (λl=>di (aW (n+7)) q (limbs 6 a) r (limbs 6 b) s z k j 3 l) (iJ 2 (by decide) hb)
theorem aFV{α:Type}(n j a b:Nat)(hb:b<aj)(z:List Int)(k:List Int->Option α):fA (bS (n+7)) (limbs 6 a) (limbs 6 b) z k (j+1) 2 (limbs 12 ((a%4294967296^2)*b))=
  fA (bS (n+7)) (limbs 6 a) (limbs 6 b) z k j 3 (limbs 12 ((a%4294967296^3)*b)):=by
 have h1:∀out,fA (bS (n+7)) (limbs 6 a) (limbs 6 b) z k (j+1) 2 out=nT 2 ((dv 2 a%4294967296:Nat):Int) (limbs 6 a) 2 (limbs 6 b) (limbs 6 b) z (λc l=>fA (bS (n+7)) (limbs 6 a) (limbs 6 b) z k j 3 (List.set l 8 (IntKind.wrap .u32 c))) (n+7) 0 0 out:=by intro out;kernel_rfl
 rw[h1,arM,DN]
 exact congrArg (λl=>fA (bS (n+7)) (limbs 6 a) (limbs 6 b) z k j 3 l) (iJ 2 (by decide) hb)
theorem awx{α:Type}(n j a b:Nat)(hb:b<aj)(q r s:Bool)(z:List Int)(k:List Int->Option α):di (aW (n+7)) q (limbs 6 a) r (limbs 6 b) s z k (j+1) 3 (limbs 12 ((a%4294967296^3)*b))=
  di (aW (n+7)) q (limbs 6 a) r (limbs 6 b) s z k j 4 (limbs 12 ((a%4294967296^4)*b)):=by
 have h1:∀out,di (aW (n+7)) q (limbs 6 a) r (limbs 6 b) s z k (j+1) 3 out=jE 3 q (limbs 6 a) r (limbs 6 b) s z (λc l=>di (aW (n+7)) q (limbs 6 a) r (limbs 6 b) s z k j 4 (List.set l 9 (IntKind.wrap .u32 c))) (n+7) 0 0 out:=by intro out;kernel_rfl
 rw[h1,aiD]
 exact congrArg (λl=>di (aW (n+7)) q (limbs 6 a) r (limbs 6 b) s z k j 4 l) (iJ 3 (by decide) hb)
theorem aFW{α:Type}(n j a b:Nat)(hb:b<aj)(z:List Int)(k:List Int->Option α):fA (bS (n+7)) (limbs 6 a) (limbs 6 b) z k (j+1) 3 (limbs 12 ((a%4294967296^3)*b))=
  fA (bS (n+7)) (limbs 6 a) (limbs 6 b) z k j 4 (limbs 12 ((a%4294967296^4)*b)):=by
 have h1:∀out,fA (bS (n+7)) (limbs 6 a) (limbs 6 b) z k (j+1) 3 out=nT 3 ((dv 3 a%4294967296:Nat):Int) (limbs 6 a) 3 (limbs 6 b) (limbs 6 b) z (λc l=>fA (bS (n+7)) (limbs 6 a) (limbs 6 b) z k j 4 (List.set l 9 (IntKind.wrap .u32 c))) (n+7) 0 0 out:=by intro out;kernel_rfl
 rw[h1,arN,DN]
 exact congrArg (λl=>fA (bS (n+7)) (limbs 6 a) (limbs 6 b) z k j 4 l) (iJ 3 (by decide) hb)
theorem awy{α:Type}(n j a b:Nat)(hb:b<aj)(q r s:Bool)(z:List Int)(k:List Int->Option α):di (aW (n+7)) q (limbs 6 a) r (limbs 6 b) s z k (j+1) 4 (limbs 12 ((a%4294967296^4)*b))=
  di (aW (n+7)) q (limbs 6 a) r (limbs 6 b) s z k j 5 (limbs 12 ((a%4294967296^5)*b)):=by
 have h1:∀out,di (aW (n+7)) q (limbs 6 a) r (limbs 6 b) s z k (j+1) 4 out=jE 4 q (limbs 6 a) r (limbs 6 b) s z (λc l=>di (aW (n+7)) q (limbs 6 a) r (limbs 6 b) s z k j 5 (List.set l 10 (IntKind.wrap .u32 c))) (n+7) 0 0 out:=by intro out;kernel_rfl
 rw[h1,aiE]
 exact congrArg (λl=>di (aW (n+7)) q (limbs 6 a) r (limbs 6 b) s z k j 5 l) (iJ 4 (by decide) hb)
theorem aFX{α:Type}(n j a b:Nat)(hb:b<aj)(z:List Int)(k:List Int->Option α):fA (bS (n+7)) (limbs 6 a) (limbs 6 b) z k (j+1) 4 (limbs 12 ((a%4294967296^4)*b))=
  fA (bS (n+7)) (limbs 6 a) (limbs 6 b) z k j 5 (limbs 12 ((a%4294967296^5)*b)):=by
 have h1:∀out,fA (bS (n+7)) (limbs 6 a) (limbs 6 b) z k (j+1) 4 out=nT 4 ((dv 4 a%4294967296:Nat):Int) (limbs 6 a) 4 (limbs 6 b) (limbs 6 b) z (λc l=>fA (bS (n+7)) (limbs 6 a) (limbs 6 b) z k j 5 (List.set l 10 (IntKind.wrap .u32 c))) (n+7) 0 0 out:=by intro out;kernel_rfl
 rw[h1,arO,DN]
 exact congrArg (λl=>fA (bS (n+7)) (limbs 6 a) (limbs 6 b) z k j 5 l) (iJ 4 (by decide) hb)
theorem awz{α:Type}(n j a b:Nat)(hb:b<aj)(q r s:Bool)(z:List Int)(k:List Int->Option α):di (aW (n+7)) q (limbs 6 a) r (limbs 6 b) s z k (j+1) 5 (limbs 12 ((a%4294967296^5)*b))=
  di (aW (n+7)) q (limbs 6 a) r (limbs 6 b) s z k j 6 (limbs 12 ((a%4294967296^6)*b)):=by
 have h1:∀out,di (aW (n+7)) q (limbs 6 a) r (limbs 6 b) s z k (j+1) 5 out=jE 5 q (limbs 6 a) r (limbs 6 b) s z (λc l=>di (aW (n+7)) q (limbs 6 a) r (limbs 6 b) s z k j 6 (List.set l 11 (IntKind.wrap .u32 c))) (n+7) 0 0 out:=by intro out;kernel_rfl
 rw[h1,aiF]
 exact congrArg (λl=>di (aW (n+7)) q (limbs 6 a) r (limbs 6 b) s z k j 6 l) (iJ 5 (by decide) hb)
theorem aFY{α:Type}(n j a b:Nat)(hb:b<aj)(z:List Int)(k:List Int->Option α):fA (bS (n+7)) (limbs 6 a) (limbs 6 b) z k (j+1) 5 (limbs 12 ((a%4294967296^5)*b))=
  fA (bS (n+7)) (limbs 6 a) (limbs 6 b) z k j 6 (limbs 12 ((a%4294967296^6)*b)):=by
 have h1:∀out,fA (bS (n+7)) (limbs 6 a) (limbs 6 b) z k (j+1) 5 out=nT 5 ((dv 5 a%4294967296:Nat):Int) (limbs 6 a) 5 (limbs 6 b) (limbs 6 b) z (λc l=>fA (bS (n+7)) (limbs 6 a) (limbs 6 b) z k j 6 (List.set l 11 (IntKind.wrap .u32 c))) (n+7) 0 0 out:=by intro out;kernel_rfl
 rw[h1,arP,DN]
 exact congrArg (λl=>fA (bS (n+7)) (limbs 6 a) (limbs 6 b) z k j 6 l) (iJ 5 (by decide) hb)
theorem aiG{α:Type}(n:Nat){a b:Nat}(ha:a<aj)(hb:b<aj)(q r s:Bool)(z:List Int)(k:List Int->Option α):
  di (aW (n+7)) q (limbs 6 a) r (limbs 6 b) s z k (n+7) 0 [0,0,0,0,0,0,0,0,0,0,0,0]=k (limbs 12 (a*b)):=by
 have h0:([0,0,0,0,0,0,0,0,0,0,0,0]:List Int)=limbs 12 ((a%4294967296^0)*b):=by rw[Nat.pow_zero,Nat.mod_one,Nat.zero_mul];rfl
 rw[h0,awu n (n+6) a b hb,awv n (n+5) a b hb,aww n (n+4) a b hb,awx n (n+3) a b hb,awy n (n+2) a b hb,awz n (n+1) a b hb,show(4294967296:Nat)^6=aj from by decide,Nat.mod_eq_of_lt ha]
 rfl
theorem arQ{α:Type}(n:Nat){a b:Nat}(ha:a<aj)(hb:b<aj)(z:List Int)(k:List Int->Option α):
  fA (bS (n+7)) (limbs 6 a) (limbs 6 b) z k (n+7) 0 [0,0,0,0,0,0,0,0,0,0,0,0]=k (limbs 12 (a*b)):=by
 have h0:([0,0,0,0,0,0,0,0,0,0,0,0]:List Int)=limbs 12 ((a%4294967296^0)*b):=by rw[Nat.pow_zero,Nat.mod_one,Nat.zero_mul];rfl
 rw[h0,aFT n (n+6) a b hb z,aFU n (n+5) a b hb z,aFV n (n+4) a b hb z,aFW n (n+3) a b hb z,aFX n (n+2) a b hb z,aFY n (n+1) a b hb z,show(4294967296:Nat)^6=aj from by decide,Nat.mod_eq_of_lt ha]
 rfl
theorem apm{β:Type}(x:Nat)(A Z:β):cond (((x:Nat):Int) !=0) A Z=if x=0 then Z else A:=by
 by_cases h:x=0
 .subst h;rfl
 .rw[if_neg h,show(((x:Nat):Int) !=0)=true by simpa using h];rfl
theorem av2{β:Type}(x0 x1 x2 x3 x4 x5:Nat)(A Z:β)(p:Prop)[Decidable p](hp:p↔x0=0/\x1=0/\x2=0/\x3=0/\x4=0/\x5=0):
  cond (((x0:Nat):Int) !=0) A (cond (((x1:Nat):Int) !=0) A (cond (((x2:Nat):Int) !=0) A (cond (((x3:Nat):Int) !=0) A (cond (((x4:Nat):Int) !=0) A (cond (((x5:Nat):Int) !=0) A Z)))))=cond (decide p) Z A:=by
 simp only[apm]
 by_cases h0:x0=0
 .by_cases h1:x1=0
  .by_cases h2:x2=0
   .by_cases h3:x3=0
    .by_cases h4:x4=0
     .by_cases h5:x5=0
      .rw[decide_eq_true (hp.2 ⟨h0,h1,h2,h3,h4,h5⟩),if_pos h0,if_pos h1,if_pos h2,if_pos h3,if_pos h4,if_pos h5];rfl
      .rw[decide_eq_false (λh=>h5 (hp.1 h).2.2.2.2.2),if_pos h0,if_pos h1,if_pos h2,if_pos h3,if_pos h4,if_neg h5];rfl
     .rw[decide_eq_false (λh=>h4 (hp.1 h).2.2.2.2.1),if_pos h0,if_pos h1,if_pos h2,if_pos h3,if_neg h4];rfl
    .rw[decide_eq_false (λh=>h3 (hp.1 h).2.2.2.1),if_pos h0,if_pos h1,if_pos h2,if_neg h3];rfl
   .rw[decide_eq_false (λh=>h2 (hp.1 h).2.2.1),if_pos h0,if_pos h1,if_neg h2];rfl
  .rw[decide_eq_false (λh=>h1 (hp.1 h).2.1),if_pos h0,if_neg h1];rfl
 .rw[decide_eq_false (λh=>h0 (hp.1 h).1),if_neg h0];rfl
theorem aBo{β:Type}(N:Nat)(hN:N<aj*aj)(A Z:β):
  cond (((dv 6 N%4294967296:Nat):Int) !=0) A (cond (((dv 7 N%4294967296:Nat):Int) !=0) A (cond (((dv 8 N%4294967296:Nat):Int) !=0) A (cond (((dv 9 N%4294967296:Nat):Int) !=0) A
   (cond (((dv 10 N%4294967296:Nat):Int) !=0) A (cond (((dv 11 N%4294967296:Nat):Int) !=0) A Z)))))=cond (decide (N<aj)) Z A:=by
 apply av2
 have e:∀j,dv (6+j) N=dv j (N/aj):=λj=>by rw[jH,jH,Nat.div_div_eq_div_mul,Nat.pow_add]
 rw[show dv 6 N=_ from e 0,show dv 7 N=_ from e 1,show dv 8 N=_ from e 2,show dv 9 N=_ from e 3,show dv 10 N=_ from e 4,show dv 11 N=_ from e 5]
 have hM:N/aj<6277101735386680763835789423207666416102355444464034512896:=Nat.div_lt_of_lt_mul hN
 have hz:N<aj↔N/aj=0:=by
  constructor
  .exact Nat.div_eq_of_lt
  .intro h;exact(Nat.div_eq_zero_iff_lt (by decide)).1 h
 rw[hz]
 generalize N/aj=M at*
 simp only[dv]
 constructor
 .rintro rfl;decide
 .rintro ⟨h0,h1,h2,h3,h4,h5⟩;omega
theorem apL{α:Type}(n N:Nat)(hN:N<aj*aj)(q r s:Bool)(la lb z:List Int)(k1 k2:List Int->Option α):
  Qp q la r lb s z (limbs 12 N) k1 k2 (n+7) 0 [0,0,0,0,0,0]=cond (decide (N<aj)) (k2 (limbs 6 N)) (k1 [0,0,0,0,0,0]):=by
 rw[<-aBo N hN]
 kernel_rfl
theorem azY{α:Type}(n N:Nat)(hN:N<aj*aj)(z:List Int)(k1:List Int->Option α)(k2:Option α):
  aes 6 6 6 6 z (limbs 12 N) k1 k2 (n+7) 0=cond (decide (N<aj)) k2 (k1 [0,0,0,0,0,0]):=by
 rw[<-aBo N hN]
 kernel_rfl
theorem Oo{a b:Nat}(ha:a<aj)(hb:b<aj):a*b<aj*aj:=Nat.mul_lt_mul'' ha hb
theorem aFR{α:Type}(n:Nat){a b:Nat}(ha:a<aj)(hb:b<aj)(k:List Int->Bool->Option α):
  Ms (n+7) (limbs 6 a) (limbs 6 b) k=cond (decide (a*b<aj)) (k (limbs 6 (a*b)) false) (k [0,0,0,0,0,0] true):=by
 unfold Ms azX
 show fA (bS (n+7)) (limbs 6 a) (limbs 6 b) [0,0,0,0,0,0] (λl835=>aes 6 6 6 6 [0,0,0,0,0,0] l835 (λl850=>k l850 true) (k (List.take 6 (List.drop 0 l835)) false) (n+7) 0) (n+7) 0 [0,0,0,0,0,0,0,0,0,0,0,0]=_
 rw[arQ n ha hb]
 simp only[azY n (a*b) (Oo ha hb)]
 rfl
theorem as5{α:Type}(n:Nat){a b:Nat}(ha:a<aj)(hb:b<aj)(q r:Bool)(k:Bool->List Int->Int->Option α):
  fG (n+7) q (limbs 6 a) r (limbs 6 b) k=cond (decide (a*b<aj)) (k ((!(q==r))&& !(decide (a*b=0))) (limbs 6 (a*b)) 0) (k false [0,0,0,0,0,0] 3):=by
 unfold fG aio
 show di (aW (n+7)) q (limbs 6 a) r (limbs 6 b) false [0,0,0,0,0,0] (λl744=>Qp q (limbs 6 a) r (limbs 6 b) false [0,0,0,0,0,0] l744 (λl764=>k false l764 3) (λl765=>iH (n+7) (!(q==r)) l765 (λb767=>k b767 l765 0)) (n+7) 0 [0,0,0,0,0,0]) (n+7) 0 [0,0,0,0,0,0,0,0,0,0,0,0]=_
 rw[aiG n ha hb]
 simp only[apL n (a*b) (Oo ha hb)]
 by_cases h:a*b<aj
 .rw[tK (n+7) _ h]
 .rw[decide_eq_false h];rfl
theorem Dv(a:Nat):∃b,isLen a b=true:=by
 by_cases h0:a=0
 .exact⟨0,by rw[h0];rfl⟩
 .exact⟨a.log2+1,by rw[dK];exact⟨Nat.lt_log2_self, .inr (by simpa using Nat.log2_self_le h0)⟩⟩
theorem awI{α:Type}(n:Nat)(a b c d e f:Int)(k:Int->Option α):nM (n+7) [a,b,c,d,e,f] k=(cond (f !=0) (ug (n+7) f (λx=>k (IntKind.wrap .i64 (160+x)))) (cond (e !=0) (ug (n+7) e (λx=>k (IntKind.wrap .i64 (128+x)))) (cond (d !=0) (ug (n+7) d (λx=>k (IntKind.wrap .i64 (96+x)))) (cond (c !=0) (ug (n+7) c (λx=>k (IntKind.wrap .i64 (64+x)))) (cond (b !=0) (ug (n+7) b (λx=>k (IntKind.wrap .i64 (32+x)))) (cond (a !=0) (ug (n+7) a (λx=>k (IntKind.wrap .i64 (0+x)))) (k 0))))))):=by kernel_rfl
theorem awN{α:Type}(n:Nat)(a b c d e f:Int)(k:Int->Option α):nN (n+40) [a,b,c,d,e,f] k=(cond (f==0) (cond (e==0) (cond (d==0) (cond (c==0) (cond (b==0) (cond (a==0) (k 0) (lg 0 [a,b,c,d,e,f] (λx=>k (IntKind.wrap .i64 (0+x))) (n+40) 0 a)) (lg 1 [a,b,c,d,e,f] (λx=>k (IntKind.wrap .i64 (32+x))) (n+40) 0 b)) (lg 2 [a,b,c,d,e,f] (λx=>k (IntKind.wrap .i64 (64+x))) (n+40) 0 c)) (lg 3 [a,b,c,d,e,f] (λx=>k (IntKind.wrap .i64 (96+x))) (n+40) 0 d)) (lg 4 [a,b,c,d,e,f] (λx=>k (IntKind.wrap .i64 (128+x))) (n+40) 0 e)) (lg 5 [a,b,c,d,e,f] (λx=>k (IntKind.wrap .i64 (160+x))) (n+40) 0 f)):=by kernel_rfl
theorem Dx{α:Type}(m s x b:Nat)(hs:s<=160)(hx:x<4294967296)(r:Option α)(k:Int->Option α){A:Nat}(hA:A/2^s=x)(hb:isLen A b=true)(hr:x=0->r=k (b:Int)):
  cond ((x:Int) !=0) (ug m (x:Int) (λy=>k (IntKind.wrap .i64 ((s:Int)+y)))) r=k (b:Int):=by
 by_cases h0:x=0
 .subst h0
  exact hr rfl
 .rw[show((x:Int) !=0)=true by simpa using h0]
  obtain⟨c,hc,hc2⟩:=anU x hx
  simp only[cond_true]
  rw[ak0 m hx hc,aR (by omega) (by omega)]
  have:b=c+s:=fJ hb (uZ (by rw[hA];exact hc) (wQ hc (by omega)))
  congr 1;omega
theorem Dw{α:Type}(n w s x b:Nat)(l:List Int)(hs:s<=160)(hx:x<4294967296)(r:Option α)(k:Int->Option α){A:Nat}(hA:A/2^s=x)(hb:isLen A b=true)(hr:x=0->r=k (b:Int)):
  cond ((x:Int)==0) r (lg (w:Int) l (λy=>k (IntKind.wrap .i64 ((s:Int)+y))) (n+40) 0 (x:Int))=k (b:Int):=by
 by_cases h0:x=0
 .subst h0
  exact hr rfl
 .rw[show((x:Int)==0)=false by simpa using h0]
  obtain⟨c,hc,hc2⟩:=anU x hx
  simp only[cond_false]
  have:=Vo (w:Int) l (λy=>k (IntKind.wrap .i64 ((s:Int)+y))) c x 0 (n+39-c) hc (by omega)
  rw[show n+39-c+c+1=n+40 by omega,Nat.zero_add] at this
  rw[show(0:Int)=((0:Nat):Int) from rfl,this,aR (by omega) (by omega)]
  have:b=c+s:=fJ hb (uZ (by rw[hA];exact hc) (wQ hc (by omega)))
  congr 1;omega
theorem ac3{α:Type}(n:Nat){a b:Nat}(ha:a<aj)(hb:isLen a b=true)(k:Int->Option α):nM (n+7) (limbs 6 a) k=k (b:Int):=by
 obtain⟨x0,x1,x2,x3,x4,x5,p0,p1,p2,p3,p4,p5,e,e'⟩:=nA a ha
 rw[e,awI]
 refine Dx (n+7) 160 x5 b (by decide) p5 _ k (A:=a) (by rw[e'];omega) hb λh5=> ?_
 refine Dx (n+7) 128 x4 b (by decide) p4 _ k (A:=a) (by rw[e'];omega) hb λh4=> ?_
 refine Dx (n+7) 96 x3 b (by decide) p3 _ k (A:=a) (by rw[e'];omega) hb λh3=> ?_
 refine Dx (n+7) 64 x2 b (by decide) p2 _ k (A:=a) (by rw[e'];omega) hb λh2=> ?_
 refine Dx (n+7) 32 x1 b (by decide) p1 _ k (A:=a) (by rw[e'];omega) hb λh1=> ?_
 refine Dx (n+7) 0 x0 b (by decide) p0 _ k (A:=a) (by rw[e'];omega) hb λh0=> ?_
 have:a=0:=by omega
 have hb0:b=0:=fJ hb (by rw[this];rfl)
 rw[hb0];rfl
theorem ac6{α:Type}(n:Nat){a b:Nat}(ha:a<aj)(hb:isLen a b=true)(k:Int->Option α):nN (n+40) (limbs 6 a) k=k (b:Int):=by
 obtain⟨x0,x1,x2,x3,x4,x5,p0,p1,p2,p3,p4,p5,e,e'⟩:=nA a ha
 rw[e,awN]
 refine Dw n 5 160 x5 b _ (by decide) p5 _ k (A:=a) (by rw[e'];omega) hb λh5=> ?_
 refine Dw n 4 128 x4 b _ (by decide) p4 _ k (A:=a) (by rw[e'];omega) hb λh4=> ?_
 refine Dw n 3 96 x3 b _ (by decide) p3 _ k (A:=a) (by rw[e'];omega) hb λh3=> ?_
 refine Dw n 2 64 x2 b _ (by decide) p2 _ k (A:=a) (by rw[e'];omega) hb λh2=> ?_
 refine Dw n 1 32 x1 b _ (by decide) p1 _ k (A:=a) (by rw[e'];omega) hb λh1=> ?_
 refine Dw n 0 0 x0 b _ (by decide) p0 _ k (A:=a) (by rw[e'];omega) hb λh0=> ?_
 have:a=0:=by omega
 have hb0:b=0:=fJ hb (by rw[this];rfl)
 rw[hb0];rfl
theorem apK{α:Type}(m:Nat)(k:Bool->List Int->Option α):bM m 1 k=k false (limbs 6 1):=by kernel_rfl
theorem cu:∀(k a i:Nat),i<k->List.getD (limbs k a) i 0=((dv i a%4294967296:Nat):Int)
 |k+1,a,0,_=>rfl
 |k+1,a,i+1,h=>by
  show List.getD (limbs k (a/4294967296)) i 0=_
  rw[cu k _ i (by omega)];rfl
theorem Ls(r:Nat):((2:Int)^r)=((2^r:Nat):Int):=by simp
theorem XA(x r:Nat):IntKind.wrap .u32 ((x:Int)*2^r)=((x*2^r%4294967296:Nat):Int):=by
 rw[Ls,<-Int.natCast_mul,dM]
theorem Ff(x r:Nat):Int.fdiv (x:Int) (2^r)=((x/2^r:Nat):Int):=by
 rw[Ls];exact gP _ _
def upE(r p x:Nat):Int:=((x*2^r%4294967296+p*2^r/4294967296:Nat):Int)
def below(a i:Nat):Nat:=if i=0 then 0 else dv (i-1) a%4294967296
theorem aHR{α:Type}(j v q r a:Nat)(hv:v<6)(hq:q<=v)(hr:r<32)(z out:List Int)(ho:out.length=6)(k:List Int->Option α):
  Bq (q:Int) (r:Int) (limbs 6 a) z k (j+1) (v:Int) out=Bq (q:Int) (r:Int) (limbs 6 a) z k j ((v:Int)-1) (List.set out v (upE r (below a (v-q)) (dv (v-q) a%4294967296))):=by
 simp only[Bq,RO]
 rw[decide_eq_true (show(v:Int)>=(q:Int) by omega),aR (x:=(v:Int)-q) (by omega) (by omega),show(v:Int)-(q:Int)=((v-q:Nat):Int) by omega]
 simp only[cond_true,Int.toNat_natCast]
 rw[if_pos (by omega),if_pos (by omega),if_neg (by omega),if_pos (by omega),if_pos (by omega),cu 6 a (v-q) (by omega),Nat.min_eq_left (show r<=32 by omega),XA,aR (x:=(v:Int)-1) (by omega) (by omega)]
 unfold upE below
 by_cases h0:r=0
 .subst h0
  rw[decide_eq_false (show¬((0:Nat):Int)>0 by omega)]
  simp only[cond_false,Nat.pow_zero,Nat.mul_one]
  have:(if v-q=0 then 0 else dv (v-q-1) a%4294967296)/4294967296=0:=by
   split
   .rfl
   .exact Nat.div_eq_of_lt (Nat.mod_lt _ (by decide))
  rw[this];rfl
 .rw[decide_eq_true (show(r:Int)>0 by omega)]
  simp only[cond_true]
  by_cases h1:v=q
  .subst h1
   rw[decide_eq_false (show¬(v:Int)>(v:Int) by omega),Nat.sub_self,if_pos (show(0:Nat)=0 from rfl)]
   simp only[cond_false,Nat.zero_mul,Nat.zero_div,Nat.add_zero]
  .rw[decide_eq_true (show(v:Int)>(q:Int) by omega),if_neg (show¬v-q=0 by omega)]
   simp only[cond_true]
   rw[aR (x:=((v-q:Nat):Int)-1) (by omega) (by omega),show((v-q:Nat):Int)-1=((v-q-1:Nat):Int) by omega,aR (x:=32-(r:Int)) (by omega) (by omega),show 32-(r:Int)=((32-r:Nat):Int) by omega]
   simp only[Int.toNat_natCast]
   rw[if_pos (by omega),if_pos (by omega),if_pos (by omega),if_pos (by omega),if_neg (by omega),if_pos (by omega),if_pos (by omega),Nat.min_eq_left (show 32-r<=32 by omega),cu 6 a (v-q-1) (by omega),Ff]
   have hlt:dv (v-q-1) a%4294967296<4294967296:=Nat.mod_lt _ (by decide)
   rw[aaX (by omega)]
   have hc:=gT (r:=r) hlt
   have hu:=Fj (r:=r) (by omega) (dv (v-q) a%4294967296) _ hc
   have hset:List.getD (List.set out v ((dv (v-q) a%4294967296*2^r%4294967296:Nat):Int)) v 0=((dv (v-q) a%4294967296*2^r%4294967296:Nat):Int):=by
    simp[List.getD,List.getElem?_set,ho,hv]
   rw[hset,aaN (Nat.mod_lt _ (by decide)) (by omega),OV (by omega) _ _ hc,List.set_set]
theorem afT{α:Type}(j v q:Nat)(w:Int)(r:Int)(la z out:List Int)(hw:w<q)(k:List Int->Option α):Bq (q:Int) r la z k (j+1) w out=k out:=by
 simp only[Bq,RO]
 rw[decide_eq_false (by omega)];rfl
def aoY(q r a:Nat):List Int:=(List.range 6).map λi=>if i<q then 0 else upE r (below a (i-q)) (dv (i-q) a%4294967296)
theorem af6(q k N:Nat):limbs (q+k) (N*4294967296^q)=List.replicate q 0++limbs k N:=by
 rw[fC,Nat.mul_div_cancel _ (Nat.pow_pos (by decide))]
 congr 1
 have:=jk q 0 N
 rw[Nat.zero_add,Nat.mul_comm] at this
 rw[this]
 clear this
 induction q with
 |zero=>rfl
 |succ q ih=>simp only[limbs,List.replicate_succ,Nat.zero_mod,Nat.zero_div,ih];rfl
theorem KN:∀(k j N:Nat),(limbs (k+j) N).take k=limbs k N
 |0,j,N=>by simp[limbs]
 |k+1,j,N=>by
  rw[show k+1+j=(k+j)+1 by omega]
  simp only[limbs,List.take_succ_cons,KN k j]
theorem OU(q r:Nat){a:Nat}(ha:a<aj)(hq:q<6)(hr:r<32):aoY q r a=limbs 6 (a*2^(32*q+r)):=by
 have e1:a*2^(32*q+r)=(a*2^r)*4294967296^q:=by
  rw[Nat.pow_add,Nat.pow_mul,show(2:Nat)^32=4294967296 from rfl,Nat.mul_comm (4294967296^q),Nat.mul_assoc]
 obtain⟨x0,x1,x2,x3,x4,x5,p0,p1,p2,p3,p4,p5,e,e'⟩:=nA a ha
 have hs:=aAI (r:=r) (by omega) p0 p1 p2 p3 p4 e'
 have d:∀i,i<6->((dv i a%4294967296:Nat):Int)=List.getD [(x0:Int),x1,x2,x3,x4,x5] i 0:=λi hi=>by rw[<-cu 6 a i hi,e]
 have d0:dv 0 a%4294967296=x0:=by have:=d 0 (by decide);exact Int.ofNat.inj this
 have d1:dv 1 a%4294967296=x1:=by have:=d 1 (by decide);exact Int.ofNat.inj this
 have d2:dv 2 a%4294967296=x2:=by have:=d 2 (by decide);exact Int.ofNat.inj this
 have d3:dv 3 a%4294967296=x3:=by have:=d 3 (by decide);exact Int.ofNat.inj this
 have d4:dv 4 a%4294967296=x4:=by have:=d 4 (by decide);exact Int.ofNat.inj this
 have d5:dv 5 a%4294967296=x5:=by have:=d 5 (by decide);exact Int.ofNat.inj this
 have key:∀i,i<6->upE r (below a i) (dv i a%4294967296)=List.getD (limbs 6 (a*2^r)) i 0:=by
  intro i hi
  rw[hs]
  match i,hi with
  |0,_=>simp only[upE,below,if_pos,d0,Nat.zero_mul,Nat.zero_div,Nat.add_zero];rfl
  |1,_=>simp only[upE,below,Nat.succ_ne_zero,if_neg,not_false_eq_true,Nat.add_sub_cancel,Nat.sub_self,d0,d1];rfl
  |2,_=>simp only[upE,below,d2,show 2-1=1 from rfl,d1];rfl
  |3,_=>simp only[upE,below,d3,show 3-1=2 from rfl,d2];rfl
  |4,_=>simp only[upE,below,d4,show 4-1=3 from rfl,d3];rfl
  |5,_=>simp only[upE,below,d5,show 5-1=4 from rfl,d4];rfl
 rw[e1]
 have e2:limbs 6 (a*2^r*4294967296^q)=List.replicate q 0++limbs (6-q) (a*2^r):=by
  have:=af6 q (6-q) (a*2^r)
  rw[show q+(6-q)=6 by omega] at this
  exact this
 rw[e2]
 unfold aoY
 apply List.ext_getElem
 .simp[aV];omega
 .intro i h1 h2
  simp only[List.length_map,List.length_range] at h1
  simp only[List.getElem_map,List.getElem_range]
  by_cases hi:i<q
  .rw[if_pos hi,List.getElem_append_left (by simpa using hi)];simp
  .rw[if_neg hi,key (i-q) (by omega),List.getElem_append_right (by simpa using(by omega:q<=i))]
   have ht:=KN (6-q) q (a*2^r)
   rw[show 6-q+q=6 by omega] at ht
   simp only[List.length_replicate]
   rw[List.getD_eq_getElem?_getD,List.getElem?_eq_getElem (by rw[aV];omega),Option.getD_some]
   simp only[<-ht,List.getElem_take]
theorem aHQ{α:Type}(n q r a:Nat)(hq:q<6)(hr:r<32)(ha:a<aj)(z:List Int)(k:List Int->Option α):
  Bq (q:Int) (r:Int) (limbs 6 a) z k (n+7) 5 [0,0,0,0,0,0]=k (limbs 6 (a*2^(32*q+r))):=by
 rw[<-OU q r ha hq hr]
 have s:=λj v (hv:v<6) (h:q<=v) out ho=>aHR j v q r a hv h hr z out ho k
 match q,hq with
 |0,_=>
  refine(s (n+6) 5 (by omega) (by omega) _ rfl).trans ?_
  refine(s (n+5) 4 (by omega) (by omega) _ rfl).trans ?_
  refine(s (n+4) 3 (by omega) (by omega) _ rfl).trans ?_
  refine(s (n+3) 2 (by omega) (by omega) _ rfl).trans ?_
  refine(s (n+2) 1 (by omega) (by omega) _ rfl).trans ?_
  refine(s (n+1) 0 (by omega) (by omega) _ rfl).trans ?_
  exact afT n 0 0 _ _ _ _ _ (by omega) k
 |1,_=>
  refine(s (n+6) 5 (by omega) (by omega) _ rfl).trans ?_
  refine(s (n+5) 4 (by omega) (by omega) _ rfl).trans ?_
  refine(s (n+4) 3 (by omega) (by omega) _ rfl).trans ?_
  refine(s (n+3) 2 (by omega) (by omega) _ rfl).trans ?_
  refine(s (n+2) 1 (by omega) (by omega) _ rfl).trans ?_
  exact afT (n+1) 0 1 _ _ _ _ _ (by omega) k
 |2,_=>
  refine(s (n+6) 5 (by omega) (by omega) _ rfl).trans ?_
  refine(s (n+5) 4 (by omega) (by omega) _ rfl).trans ?_
  refine(s (n+4) 3 (by omega) (by omega) _ rfl).trans ?_
  refine(s (n+3) 2 (by omega) (by omega) _ rfl).trans ?_
  exact afT (n+2) 0 2 _ _ _ _ _ (by omega) k
 |3,_=>
  refine(s (n+6) 5 (by omega) (by omega) _ rfl).trans ?_
  refine(s (n+5) 4 (by omega) (by omega) _ rfl).trans ?_
  refine(s (n+4) 3 (by omega) (by omega) _ rfl).trans ?_
  exact afT (n+3) 0 3 _ _ _ _ _ (by omega) k
 |4,_=>
  refine(s (n+6) 5 (by omega) (by omega) _ rfl).trans ?_
  refine(s (n+5) 4 (by omega) (by omega) _ rfl).trans ?_
  exact afT (n+4) 0 4 _ _ _ _ _ (by omega) k
 |5,_=>
  refine(s (n+6) 5 (by omega) (by omega) _ rfl).trans ?_
  exact afT (n+5) 0 5 _ _ _ _ _ (by omega) k
theorem Io{p:Nat}(hp:p<192):IntKind.wrap .i64 (Int.tdiv (p:Int) 32)=((p/32:Nat):Int):=by
 rw[show(32:Int)=((32:Nat):Int) from rfl,<-Int.ofNat_tdiv,aR (by omega) (by omega)]
theorem Xa(p:Nat):Int.tmod (p:Int) 32=((p%32:Nat):Int):=by
 rw[show(32:Int)=((32:Nat):Int) from rfl,<-Int.ofNat_tmod]
theorem aan{α:Type}(n p:Nat){a:Nat}(hp:p<192)(ha:a<aj)(k:List Int->Option α):pK (n+7) (limbs 6 a) (p:Int) k=k (limbs 6 (a*2^p)):=by
 unfold pK az3
 show Bq (IntKind.wrap .i64 (Int.tdiv (p:Int) 32)) (Int.tmod (p:Int) 32) (limbs 6 a) [0,0,0,0,0,0] (λl=>k l) (n+7) 5 [0,0,0,0,0,0]=_
 rw[Io hp,Xa,aHQ n (p/32) (p%32) a (by omega) (Nat.mod_lt _ (by decide)) ha,show 32*(p/32)+p%32=p by omega]
def L6(f:Nat->Int):List Int:=(List.range 6).map f
theorem afh(f:Nat->Int):(L6 f).length=6:=rfl
theorem O4(f:Nat->Int){i:Nat}(h:i<6):List.getD (L6 f) i 0=f i:=by
 match i,h with
 |0,_=>rfl
 |1,_=>rfl
 |2,_=>rfl
 |3,_=>rfl
 |4,_=>rfl
 |5,_=>rfl
theorem GY(f:Nat->Int){i:Nat}(h:i<6)(x:Int):List.set (L6 f) i x=L6 (λj=>if j=i then x else f j):=by
 match i,h with
 |0,_=>rfl
 |1,_=>rfl
 |2,_=>rfl
 |3,_=>rfl
 |4,_=>rfl
 |5,_=>rfl
theorem iX{f g:Nat->Int}(h:∀i,i<6->f i=g i):L6 f=L6 g:=by
 unfold L6
 exact List.map_congr_left λi hi=>h i (List.mem_range.1 hi)
theorem KM(a:Nat):limbs 6 a=L6 (λi=>((dv i a%4294967296:Nat):Int)):=rfl
def dnE(r x y:Nat):Int:=((x/2^r+y*2^(32-r)%4294967296:Nat):Int)
theorem UO{r:Nat}(hr:r<=32)(M:Nat):M/2^r%4294967296=M%4294967296/2^r+M/4294967296%4294967296*2^(32-r)%4294967296:=by
 have h:=afC hr 0 (M%4294967296) (M/4294967296) (Nat.mod_lt _ (by decide))
 rw[Nat.mod_add_div] at h
 simp only[limbs,List.cons.injEq,and_true] at h
 have h':M/2^r%4294967296=M%4294967296/2^r+M/4294967296*2^(32-r)%4294967296:=Int.ofNat.inj h
 rw[h']
 congr 1
 conv=>lhs;rw[<-Nat.mod_add_div (M/4294967296) 4294967296,ahD hr]
theorem av5(j q a s:Nat):dv j (a/4294967296^q/s)=dv (j+q) a/s:=by
 rw[jH,jH,Nat.div_div_eq_div_mul,Nat.div_div_eq_div_mul,Nat.div_div_eq_div_mul,Nat.pow_add]
 congr 1
 rw[Nat.mul_right_comm,Nat.mul_comm (4294967296^j)]
 exact Nat.mul_comm _ _
theorem acF(q r a:Nat)(hr:r<32):L6 (λk=>dnE r (dv (k+q) a%4294967296) (dv (k+q+1) a%4294967296))=limbs 6 (a/2^(32*q+r)):=by
 rw[KM]
 apply iX
 intro k hk
 have e1:a/2^(32*q+r)=a/4294967296^q/2^r:=by
  rw[Nat.div_div_eq_div_mul,Nat.pow_add,Nat.pow_mul]
 rw[e1,av5,UO (by omega)]
 unfold dnE
 have e2:dv (k+q) a/4294967296=dv (k+q+1) a:=by rw[jH,jH,Nat.div_div_eq_div_mul,Nat.pow_succ]
 rw[e2]
theorem Gg{j a:Nat}(ha:a<aj)(hj:6<=j):dv j a=0:=by
 rw[jH]
 apply Nat.div_eq_of_lt
 have:(4294967296:Nat)^6<=4294967296^j:=Nat.pow_le_pow_right (by decide) hj
 rw[show(4294967296:Nat)^6=aj from by decide] at this
 omega
theorem UM{r j a:Nat}(ha:a<aj)(hj:6<=j):dnE r (dv j a%4294967296) (dv (j+1) a%4294967296)=0:=by
 unfold dnE
 rw[Gg ha hj,Gg ha (by omega:6<=j+1)];simp
theorem aBr{r:Nat}(hr:r<=32)(x y:Nat)(hx:x<4294967296):dJ .or .u32 ((x/2^r:Nat):Int) ((y*2^(32-r)%4294967296:Nat):Int)=dnE r x y:=by
 have hc:x/2^r<2^(32-r):=by
  refine Nat.div_lt_of_lt_mul ?_
  rw[Nat.mul_comm,<-nu hr];exact hx
 have hl:=Fj (r:=32-r) (by omega) y _ hc
 rw[aaN (by omega) (Nat.mod_lt _ (by decide)),Nat.or_comm,OV (by omega) _ _ hc,Nat.add_comm]
 rfl
theorem aHP{α:Type}(j v q r a:Nat)(hv:v+q<6)(hr:r<32)(ha:a<aj)(z out:List Int)(ho:out.length=6)(k:List Int->Option α):
  ER (q:Int) (r:Int) (limbs 6 a) z k (j+1) (v:Int) out=ER (q:Int) (r:Int) (limbs 6 a) z k j ((v+1:Nat):Int) (List.set out v (dnE r (dv (v+q) a%4294967296) (dv (v+q+1) a%4294967296))):=by
 simp only[ER,RL]
 rw[aR (x:=(v:Int)+q) (by omega) (by omega),show(v:Int)+(q:Int)=((v+q:Nat):Int) by omega,decide_eq_true (show((v+q:Nat):Int)<6 by omega)]
 simp only[cond_true,Int.toNat_natCast]
 rw[if_pos (by omega),if_pos (by omega),if_neg (by omega),if_pos (by omega),if_pos (by omega),cu 6 a (v+q) (by omega),Nat.min_eq_left (show r<=32 by omega),Ff,aR (x:=(v:Int)+1) (by omega) (by omega),show(v:Int)+1=((v+1:Nat):Int) by omega,
  aR (x:=((v+q:Nat):Int)+1) (by omega) (by omega),show((v+q:Nat):Int)+1=((v+q+1:Nat):Int) by omega]
 by_cases h0:r=0
 .subst h0
  rw[decide_eq_false (by omega)]
  simp only[cond_false]
  unfold dnE
  simp
 .rw[decide_eq_true (show(r:Int)>0 by omega)]
  simp only[cond_true]
  by_cases h1:v+q+1<6
  .rw[decide_eq_true (show((v+q+1:Nat):Int)<6 by omega)]
   simp only[cond_true,Int.toNat_natCast]
   rw[aR (x:=32-(r:Int)) (by omega) (by omega),show 32-(r:Int)=((32-r:Nat):Int) by omega]
   simp only[Int.toNat_natCast]
   rw[if_pos (by omega),if_pos (by omega),if_pos (by omega),if_pos (by omega),if_neg (by omega),if_pos (by omega),if_pos (by omega),Nat.min_eq_left (show 32-r<=32 by omega),cu 6 a (v+q+1) (by omega),XA]
   have hset:List.getD (List.set out v ((dv (v+q) a%4294967296/2^r:Nat):Int)) v 0=((dv (v+q) a%4294967296/2^r:Nat):Int):=by
    simp[List.getD,List.getElem?_set,ho,show v<6 by omega]
   rw[hset,aBr (by omega) _ _ (Nat.mod_lt _ (by decide)),List.set_set]
  .rw[decide_eq_false (show¬((v+q+1:Nat):Int)<6 by omega)]
   simp only[cond_false]
   unfold dnE
   rw[Gg ha (show 6<=v+q+1 by omega)]
   simp
theorem aex{α:Type}(q r a:Nat)(hq:q<6)(hr:r<32)(ha:a<aj)(z:List Int)(k:List Int->Option α):∀(d v j:Nat),v+q+d=6->d<j->
  ER (q:Int) (r:Int) (limbs 6 a) z k j (v:Int) (L6 (λi=>if i<v then dnE r (dv (i+q) a%4294967296) (dv (i+q+1) a%4294967296) else 0))=k (limbs 6 (a/2^(32*q+r)))
 |0,v,j,hd,hj=>by
  obtain⟨j,rfl⟩:∃i,j=i+1:=⟨j-1,by omega⟩
  simp only[ER,RL]
  rw[aR (x:=(v:Int)+q) (by omega) (by omega),decide_eq_false (show¬(v:Int)+q<6 by omega),<-acF q r a hr]
  simp only[cond_false]
  congr 1
  apply iX
  intro i hi
  by_cases h:i<v
  .rw[if_pos h]
  .rw[if_neg h,UM ha (by omega)]
 |d+1,v,j,hd,hj=>by
  obtain⟨j,rfl⟩:∃i,j=i+1:=⟨j-1,by omega⟩
  rw[aHP j v q r a (by omega) hr ha z _ (afh _) k,GY _ (by omega),<-aex q r a hq hr ha z k d (v+1) j (by omega) (by omega)]
  congr 1
  apply iX
  intro i hi
  by_cases h:i=v
  .subst h;rw[if_pos rfl,if_pos (by omega)]
  .rw[if_neg h]
   by_cases h2:i<v
   .rw[if_pos h2,if_pos (by omega)]
   .rw[if_neg h2,if_neg (by omega)]
theorem azZ{α:Type}(n p:Nat){a:Nat}(hp:p<192)(ha:a<aj)(k:List Int->Option α):g97 (n+7) (limbs 6 a) (p:Int) k=k (limbs 6 (a/2^p)):=by
 unfold g97 az0
 show ER (IntKind.wrap .i64 (Int.tdiv (p:Int) 32)) (Int.tmod (p:Int) 32) (limbs 6 a) [0,0,0,0,0,0] (λl=>k l) (n+7) 0 [0,0,0,0,0,0]=_
 rw[Io hp,Xa]
 have:=aex (p/32) (p%32) a (by omega) (Nat.mod_lt _ (by decide)) ha [0,0,0,0,0,0] (λl=>k l) (6-p/32) 0 (n+7) (by omega) (by omega)
 rw[show 32*(p/32)+p%32=p by omega] at this
 exact this
theorem aGF{r x y:Nat}(hr:r<32)(hx:x<4294967296)(hy:y<4294967296):
  IntKind.wrap .u32 (Int.fdiv (IntKind.wrap .u64 ((x:Int)+(IntKind.wrap .u64 ((IntKind.wrap .u64 (y:Int))*2^32)))) (2^r))=dnE r x y:=by
 rw[bK y,Nat.mod_eq_of_lt (show y<18446744073709551616 by omega),show(2^32:Int)=((4294967296:Nat):Int) from rfl,<-Int.natCast_mul,bK,Nat.mod_eq_of_lt (by omega),<-Int.natCast_add,bK,Nat.mod_eq_of_lt (by omega),Ff,dM]
 unfold dnE
 congr 1
 have:=UO (r:=r) (by omega) (x+y*4294967296)
 rw[show(x+y*4294967296)%4294967296=x by omega,show(x+y*4294967296)/4294967296=y by omega,Nat.mod_eq_of_lt hy] at this
 exact this
theorem aB8{α:Type}(j v p a:Nat)(hp:p<192)(hv:v<6)(hq:p/32<=v)(ha:a<aj)(z out:List Int)(k:List Int->Option α):
  uO (p:Int) (limbs 6 a) z k (j+1) (v:Int) out=uO (p:Int) (limbs 6 a) z k j ((v+1:Nat):Int) (List.set out (v-p/32) (dnE (p%32) (dv v a%4294967296) (dv (v+1) a%4294967296))):=by
 simp only[uO,Gl]
 have hm:p%32<32:=Nat.mod_lt _ (by decide)
 rw[decide_eq_true (show(v:Int)<6 by omega),Io hp,Xa,aR (x:=(v:Int)+1) (by omega) (by omega),show(v:Int)+1=((v+1:Nat):Int) by omega,aR (x:=(v:Int)-((p/32:Nat):Int)) (by omega) (by omega),show(v:Int)-((p/32:Nat):Int)=((v-p/32:Nat):Int) by omega,
  bK (p%32),Nat.mod_eq_of_lt (show p%32<18446744073709551616 by omega)]
 simp only[cond_true,Int.toNat_natCast]
 rw[if_pos (by omega),if_pos (by omega),cu 6 a v hv,bK,Nat.mod_eq_of_lt (show dv v a%4294967296<18446744073709551616 by omega),Nat.min_eq_left (show p%32<=64 by omega)]
 by_cases h1:v+1<6
 .rw[decide_eq_true (show((v+1:Nat):Int)<6 by omega)]
  simp only[cond_true]
  rw[if_pos (by omega),if_pos (by omega),if_neg (by omega),if_pos (by omega),if_pos (by omega),cu 6 a (v+1) h1,aGF hm (Nat.mod_lt _ (by decide)) (Nat.mod_lt _ (by decide))]
 .rw[decide_eq_false (show¬((v+1:Nat):Int)<6 by omega)]
  simp only[cond_false]
  rw[if_neg (by omega),if_pos (by omega),if_pos (by omega),Ff,dM,Nat.mod_eq_of_lt (Nat.lt_of_le_of_lt (Nat.div_le_self _ _) (Nat.mod_lt _ (by decide)))]
  unfold dnE
  rw[Gg ha (show 6<=v+1 by omega)]
  simp
theorem VJ{α:Type}(p a:Nat)(hp:p<192)(ha:a<aj)(z:List Int)(k:List Int->Option α):∀(d v j:Nat),v+d=6->p/32<=v->d<j->
  uO (p:Int) (limbs 6 a) z k j (v:Int) (L6 (λi=>if i<v-p/32 then dnE (p%32) (dv (i+p/32) a%4294967296) (dv (i+p/32+1) a%4294967296) else 0))=k (limbs 6 (a/2^p))
 |0,v,j,hd,hq,hj=>by
  obtain⟨j,rfl⟩:∃i,j=i+1:=⟨j-1,by omega⟩
  simp only[uO,Gl]
  rw[decide_eq_false (show¬(v:Int)<6 by omega)]
  simp only[cond_false]
  have:=acF (p/32) (p%32) a (Nat.mod_lt _ (by decide))
  rw[show 32*(p/32)+p%32=p by omega] at this
  rw[<-this]
  congr 1
  apply iX
  intro i hi
  by_cases h:i<v-p/32
  .rw[if_pos h]
  .rw[if_neg h,UM ha (by omega)]
 |d+1,v,j,hd,hq,hj=>by
  obtain⟨j,rfl⟩:∃i,j=i+1:=⟨j-1,by omega⟩
  rw[aB8 j v p a hp (by omega) hq ha z _ k,GY _ (by omega),<-VJ p a hp ha z k d (v+1) j (by omega) (by omega) (by omega)]
  congr 1
  apply iX
  intro i hi
  by_cases h:i=v-p/32
  .subst h;rw[if_pos rfl,if_pos (by omega),show v-p/32+p/32=v by omega]
  .rw[if_neg h]
   by_cases h2:i<v-p/32
   .rw[if_pos h2,if_pos (by omega)]
   .rw[if_neg h2,if_neg (by omega)]
theorem atp{α:Type}(n p:Nat){a:Nat}(hp:p<192)(ha:a<aj)(k:List Int->Option α):afL (n+7) (p:Int) (limbs 6 a) k=k (limbs 6 (a/2^p)):=by
 unfold afL aks
 show uO (p:Int) (limbs 6 a) [0,0,0,0,0,0] (λl=>k l) (n+7) (IntKind.wrap .i64 (Int.tdiv (p:Int) 32)) [0,0,0,0,0,0]=_
 rw[Io hp]
 have:=VJ p a hp ha [0,0,0,0,0,0] (λl=>k l) (6-p/32) (p/32) (n+7) (by omega) (by omega) (by omega)
 rw[Nat.sub_self] at this
 exact this
def upF(q r a v i:Nat):Int:=if i<q then 0 else if i<q+v then upE r (below a (i-q)) (dv (i-q) a%4294967296) else if i=q+v then((below a v*2^r/4294967296:Nat):Int) else 0
theorem ahh(a i:Nat):below a i<4294967296:=by
 unfold below;split
 .decide
 .exact Nat.mod_lt _ (by decide)
theorem agk{x:Nat}(hx:x<4294967296):dJ .or .u32 0 (x:Int)=(x:Int):=by
 have:=aaN (x:=0) (y:=x) (by decide) hx
 rw[show((0:Nat):Int)=0 from rfl] at this
 rw[this,Nat.zero_or]
theorem aB9{α:Type}(j v p a:Nat)(hp:p<192)(hv:v+p/32<6)(z:List Int)(k:List Int->Option α):
  uP (p:Int) (limbs 6 a) z k (j+1) (v:Int) (L6 (upF (p/32) (p%32) a v))=uP (p:Int) (limbs 6 a) z k j ((v+1:Nat):Int) (L6 (upF (p/32) (p%32) a (v+1))):=by
 have hm:p%32<32:=Nat.mod_lt _ (by decide)
 have hx:dv v a%4294967296<4294967296:=Nat.mod_lt _ (by decide)
 generalize hxv:dv v a%4294967296=x at hx
 have hxp:x*2^(p%32)<18446744073709551616:=by
  have h1:2^(p%32)<=4294967296:=by
   have:=Nat.pow_le_pow_right (n:=2) (by decide) (show p%32<=32 by omega)
   exact this
  have h2:=Nat.mul_le_mul (show x<=4294967295 by omega) h1
  omega
 simp only[uP,Gm]
 rw[decide_eq_true (show(v:Int)<6 by omega),Io hp,Xa,aR (x:=(v:Int)+((p/32:Nat):Int)) (by omega) (by omega),show(v:Int)+((p/32:Nat):Int)=((v+p/32:Nat):Int) by omega,aR (x:=(v:Int)+1) (by omega) (by omega),show(v:Int)+1=((v+1:Nat):Int) by omega,
  bK (p%32),Nat.mod_eq_of_lt (show p%32<18446744073709551616 by omega),decide_eq_false (show¬((v+p/32:Nat):Int)>=6 by omega),aR (x:=((v+p/32:Nat):Int)+1) (by omega) (by omega),show((v+p/32:Nat):Int)+1=((v+p/32+1:Nat):Int) by omega]
 simp only[cond_true,cond_false,Int.toNat_natCast]
 rw[if_pos (by omega),if_pos (by omega),if_neg (by omega),if_pos (by omega),if_pos (by omega),if_pos (by omega),if_pos (by omega),cu 6 a v (by omega),hxv,bK x,Nat.mod_eq_of_lt (show x<18446744073709551616 by omega),Nat.min_eq_left (show p%32<=64 by omega),Ls,<-Int.natCast_mul,bK,Nat.mod_eq_of_lt hxp,dM,
  O4 _ (by omega)]
 have hc:=gT (r:=p%32) (ahh a v)
 have hu:=Fj (r:=p%32) (by omega) x _ hc
 have hlow:dJ .or .u32 (upF (p/32) (p%32) a v (v+p/32)) ((x*2^(p%32)%4294967296:Nat):Int)=upE (p%32) (below a v) x:=by
  unfold upF
  rw[if_neg (by omega),if_neg (by omega),if_pos (by omega),aaN (by omega) (Nat.mod_lt _ (by decide)),Nat.or_comm,OV (by omega) _ _ hc];rfl
 rw[hlow,GY _ (by omega)]
 have hcar:x*2^(p%32)/4294967296<4294967296:=by omega
 by_cases h1:v+p/32+1<6
 .rw[decide_eq_true (show((v+p/32+1:Nat):Int)<6 by omega)]
  simp only[cond_true]
  rw[if_pos (by omega),if_pos (by omega),if_pos (by omega),if_pos (by omega),O4 _ h1,if_neg (by omega),show(2^32:Int)=((4294967296:Nat):Int) from rfl,gP,dM,Nat.mod_eq_of_lt hcar]
  have hz:upF (p/32) (p%32) a v (v+p/32+1)=0:=by
   unfold upF;rw[if_neg (by omega),if_neg (by omega),if_neg (by omega)]
  rw[hz,agk hcar,GY _ h1]
  congr 1
  apply iX
  intro i hi
  unfold upF
  by_cases c1:i=v+p/32+1
  .subst c1
   rw[if_pos rfl,if_neg (by omega),if_neg (by omega),if_pos (by omega)]
   unfold below
   rw[if_neg (by omega),show v+1-1=v by omega,hxv]
  .rw[if_neg c1]
   by_cases c2:i=v+p/32
   .subst c2
    rw[if_pos rfl,if_neg (by omega),if_pos (by omega),show v+p/32-p/32=v by omega,hxv]
   .rw[if_neg c2]
    by_cases c3:i<p/32
    .rw[if_pos c3,if_pos c3]
    .rw[if_neg c3,if_neg c3]
     by_cases c4:i<p/32+v
     .rw[if_pos c4,if_pos (by omega)]
     .rw[if_neg c4,if_neg (by omega),if_neg (by omega),if_neg (by omega)]
 .rw[decide_eq_false (show¬((v+p/32+1:Nat):Int)<6 by omega)]
  simp only[cond_false]
  congr 1
  apply iX
  intro i hi
  unfold upF
  by_cases c2:i=v+p/32
  .subst c2
   rw[if_pos rfl,if_neg (by omega),if_pos (by omega),show v+p/32-p/32=v by omega,hxv]
  .rw[if_neg c2]
   by_cases c3:i<p/32
   .rw[if_pos c3,if_pos c3]
   .rw[if_neg c3,if_neg c3]
    by_cases c4:i<p/32+v
    .rw[if_pos c4,if_pos (by omega)]
    .omega
theorem VK{α:Type}(p a:Nat)(hp:p<192)(ha:a<aj)(z:List Int)(k:List Int->Option α):∀(d v j:Nat),v+p/32+d=6->d<j->
  uP (p:Int) (limbs 6 a) z k j (v:Int) (L6 (upF (p/32) (p%32) a v))=k (limbs 6 (a*2^p))
 |0,v,j,hd,hj=>by
  obtain⟨j,rfl⟩:∃i,j=i+1:=⟨j-1,by omega⟩
  have hfin:L6 (upF (p/32) (p%32) a v)=limbs 6 (a*2^p):=by
   have:=OU (p/32) (p%32) ha (by omega) (Nat.mod_lt _ (by decide))
   rw[show 32*(p/32)+p%32=p by omega] at this
   rw[<-this]
   apply iX
   intro i hi
   unfold upF
   by_cases c3:i<p/32
   .rw[if_pos c3,if_pos c3]
   .rw[if_neg c3,if_neg c3,if_pos (by omega)]
  simp only[uP,Gm]
  by_cases h6:v<6
  .rw[decide_eq_true (show(v:Int)<6 by omega),Io hp,aR (x:=(v:Int)+((p/32:Nat):Int)) (by omega) (by omega),decide_eq_true (show(v:Int)+((p/32:Nat):Int)>=6 by omega),hfin];rfl
  .rw[decide_eq_false (show¬(v:Int)<6 by omega),hfin];rfl
 |d+1,v,j,hd,hj=>by
  obtain⟨j,rfl⟩:∃i,j=i+1:=⟨j-1,by omega⟩
  rw[aB9 j v p a hp (by omega) z k]
  exact VK p a hp ha z k d (v+1) j (by omega) (by omega)
theorem Sb:(2:Nat)^192=aj:=by decide
theorem jL{a b:Nat}(ha:a<aj)(hb:isLen a b=true):b<=192:=KG hb (by rw[Sb];exact ha)
theorem U7{a b p:Nat}(hb:isLen a b=true)(h:a≠0):b+p<=192↔a*2^p<aj:=by
 rw[dK] at hb
 obtain⟨h1,h2⟩:=hb
 rw[<-Sb]
 constructor
 .intro hle
  have h3:a*2^p<2^b*2^p:=Nat.mul_lt_mul_of_pos_right h1 (Nat.two_pow_pos p)
  rw[<-Nat.pow_add] at h3
  exact Nat.lt_of_lt_of_le h3 (Nat.pow_le_pow_right (by decide) hle)
 .intro hlt
  rcases h2 with h2|h2
  .subst h2;simp at h1;omega
  .have h3:2^(b-1)*2^p<=a*2^p:=Nat.mul_le_mul_right _ h2
   rw[<-Nat.pow_add] at h3
   have h4:2^(b-1+p)<2^192:=Nat.lt_of_le_of_lt h3 hlt
   have h5:=(Nat.pow_lt_pow_iff_right (by decide:1<2)).1 h4
   have h6:0<b:=by
    rcases Nat.eq_zero_or_pos b with rfl|h; ·simp at h1;omega
    .exact h
   omega
theorem akx{α:Type}(n p:Nat){a:Nat}(hp:p<192)(ha:a<aj)(k:List Int->Bool->Option α):
  QM (n+40) (p:Int) (limbs 6 a) k=cond (decide (a*2^p<aj)) (k (limbs 6 (a*2^p)) true) (k [0,0,0,0,0,0] false):=by
 obtain⟨b,hb⟩:=Dv a
 have hb192:=jL ha hb
 have hloop:∀k:List Int->Option α,wM (n+40) (p:Int) (limbs 6 a) [0,0,0,0,0,0] k 0 [0,0,0,0,0,0]=k (limbs 6 (a*2^p)):=by
  intro k
  have h0:L6 (upF (p/32) (p%32) a 0)=[0,0,0,0,0,0]:=by
   show L6 (upF (p/32) (p%32) a 0)=L6 (λ_=>0)
   apply iX
   intro i hi
   unfold upF
   by_cases c:i<p/32
   .rw[if_pos c]
   .rw[if_neg c,if_neg (by omega),show below a 0=0 from rfl]
    simp
  have:=VK p a hp ha [0,0,0,0,0,0] k (6-p/32) 0 (n+40) (by omega) (by omega)
  rw[h0] at this
  exact this
 simp only[QM,akz,ac6 n ha hb,adj (n+40) ha,hloop]
 rw[aR (x:=(b:Int)+p) (by omega) (by omega)]
 by_cases h0:a=0
 .subst h0
  have:b=0:=fJ hb rfl
  subst this
  rw[decide_eq_false (show¬((0:Nat):Int)+(p:Int)>192 by omega)]
  simp only[cond_false,Nat.zero_mul,show decide (0<aj)=true from rfl,cond_true]
 .have hf:=U7 (p:=p) hb h0
  by_cases h1:a*2^p<aj
  .rw[decide_eq_false (show¬(b:Int)+(p:Int)>192 by have:=hf.2 h1;omega),decide_eq_true h1];rfl
  .rw[decide_eq_true (show(b:Int)+(p:Int)>192 by have:=λh=>h1 (hf.1 h);omega),decide_eq_false h1,decide_eq_false h0];rfl
theorem as9{α:Type}(n p:Nat)(q:Bool){a:Nat}(hp:p<192)(ha:a<aj)(k:Bool->List Int->Int->Option α):
  iQ (n+40) q (limbs 6 a) (p:Int) k=cond (decide (a*2^p<aj)) (k (q&& !(decide (a*2^p=0))) (limbs 6 (a*2^p)) 0) (k false [0,0,0,0,0,0] 3):=by
 simp only[iQ,ai7,akx n p hp ha]
 by_cases h:a*2^p<aj
 .rw[decide_eq_true h]
  simp only[cond_true,Bool.not_true,cond_false,tK (n+40) q h]
 .rw[decide_eq_false h];rfl
theorem aBX{α:Type}(n p:Nat)(q o:Bool){a:Nat}(hp:p<192)(ha:a<aj)(k:Bool->List Int->Bool->Option α):
  afK (n+7) q (limbs 6 a) (p:Int) o k=cond (decide (a*2^p<aj)) (k (q&& !(decide (a*2^p=0))) (limbs 6 (a*2^p)) o) (k false [0,0,0,0,0,0] true):=by
 obtain⟨b,hb⟩:=Dv a
 have hb192:=jL ha hb
 simp only[afK,ajL,ac3 n ha hb,aan n p hp ha]
 rw[decide_eq_false (show¬(p:Int)>191 by omega),aR (x:=(b:Int)+p) (by omega) (by omega)]
 simp only[cond_false]
 by_cases h0:a=0
 .subst h0
  have:b=0:=fJ hb rfl
  subst this
  rw[decide_eq_false (show¬((0:Nat):Int)+(p:Int)>192 by omega)]
  simp only[cond_false,Nat.zero_mul,show decide (0<aj)=true from rfl,cond_true,Fw (n+7) q (show 0<aj by decide)]
 .have hf:=U7 (p:=p) hb h0
  by_cases h1:a*2^p<aj
  .rw[decide_eq_false (show¬(b:Int)+(p:Int)>192 by have:=hf.2 h1;omega),decide_eq_true h1]
   simp only[cond_false,cond_true,Fw (n+7) q h1]
  .rw[decide_eq_true (show(b:Int)+(p:Int)>192 by have:=λh=>h1 (hf.1 h);omega),decide_eq_false h1];rfl
theorem anH{a p:Nat}(hp:0<p):a/2^(p-1)%2=1↔2^(p-1)<=a%2^p:=by
 obtain⟨s,rfl⟩:∃s,p=s+1:=⟨p-1,by omega⟩
 rw[Nat.add_sub_cancel,Nat.pow_succ,Nat.mod_mul]
 have h1:a%2^s<2^s:=Nat.mod_lt _ (Nat.two_pow_pos s)
 have h2:a/2^s%2<2:=Nat.mod_lt _ (by decide)
 generalize a/2^s%2=t at*
 generalize 2^s=P at*
 rcases(show t=0\/t=1 by omega) with rfl|rfl
 .simp;omega
 .simp
def tQ(q:Bool)(a p:Nat):Nat:=cond (cond q (decide (2^(p-1)<a%2^p)) (decide (2^(p-1)<=a%2^p))) (a/2^p+1) (a/2^p)
theorem P7{a p:Nat}(hp:0<p)(ha:a<aj):a/2^p+1<aj:=by
 obtain⟨s,rfl⟩:∃s,p=s+1:=⟨p-1,by omega⟩
 have h1:a/2^(s+1)<=a/2:=by
  rw[Nat.pow_succ,Nat.mul_comm,<-Nat.div_div_eq_div_mul]
  exact Nat.div_le_self _ _
 have ha':a<6277101735386680763835789423207666416102355444464034512896:=ha
 show _<6277101735386680763835789423207666416102355444464034512896
 omega
theorem aom{s:Nat}(hs:s<192):1*2^s<aj:=by
 rw[Nat.one_mul,<-Sb];exact Nat.pow_lt_pow_right (by decide) hs
theorem af5:limbs 6 1=[1,0,0,0,0,0]:=rfl
theorem aoi(h:Nat):((Int.tmod (List.getD (limbs 6 h) 0 0) 2)==1)=decide (h%2=1):=by
 rw[cu 6 h 0 (by decide),show(2:Int)=((2:Nat):Int) from rfl,<-Int.ofNat_tmod]
 have:dv 0 h%4294967296%2=h%2:=by show h%4294967296%2=h%2;omega
 rw[this]
 by_cases hh:h%2=1
 .rw[hh];rfl
 .rw[show h%2=0 by omega];rfl
theorem aBI{α:Type}(n p:Nat)(q:Bool){a:Nat}(h0:0<p)(hp:p<192)(ha:a<aj)(k:Bool->List Int->Option α):
  kZ (n+40) q (limbs 6 a) (p:Int) k=k (q&& !(decide (tQ q a p=0))) (limbs 6 (tQ q a p)):=by
 have hD:a/2^p<aj:=Nat.lt_of_le_of_lt (Nat.div_le_self _ _) ha
 have hH:a/2^(p-1)<aj:=Nat.lt_of_le_of_lt (Nat.div_le_self _ _) ha
 have hback:a/2^p*2^p<=a:=Nat.div_mul_le_self _ _
 have hbl:a/2^p*2^p<aj:=Nat.lt_of_le_of_lt hback ha
 have hrest:a-a/2^p*2^p=a%2^p:=by
  have:=Nat.div_add_mod a (2^p)
  rw[Nat.mul_comm] at this;omega
 have hpow:=aom (show p-1<192 by omega)
 rw[Nat.one_mul] at hpow
 have hrl:a%2^p<aj:=Nat.lt_of_le_of_lt (Nat.mod_le _ _) ha
 have hD1:=P7 h0 ha
 have e1:IntKind.wrap .i64 ((p:Int)-1)=((p-1:Nat):Int):=by rw[aR (by omega) (by omega)];omega
 have hz:((p:Int)==0)=false:=by simpa using(show(p:Int)≠0 by omega)
 unfold kZ aiI
 rw[hz,e1]
 simp only[cond_false,<-af5,atp (n+33) p hp ha,atp (n+33) (p-1) (show p-1<192 by omega) ha,akx n p hp hD,decide_eq_true hbl,cond_true,A8 (n+33) hback,hrest,
  akx n (p-1) (show p-1<192 by omega) (show 1<aj by decide),Nat.one_mul,decide_eq_true hpow,aoi,Iy hrl hpow,VN (n+33) hD (show 1<aj by decide),tK (n+40) q hD,tK (n+40) q hD1]
 have hb:=anH (a:=a) h0
 unfold tQ
 by_cases c1:2^(p-1)<=a%2^p
 .rw[decide_eq_true (hb.2 c1),decide_eq_true c1]
  cases q
  .rfl
  .by_cases c2:a%2^p=2^(p-1)
   .rw[decide_eq_true c2,decide_eq_false (show¬2^(p-1)<a%2^p by omega)];rfl
   .rw[decide_eq_false c2,decide_eq_true (show 2^(p-1)<a%2^p by omega)];rfl
 .rw[decide_eq_false (λh=>c1 (hb.1 h)),decide_eq_false c1]
  cases q
  .rfl
  .rw[decide_eq_false (show¬a%2^p=2^(p-1) by omega),decide_eq_false (show¬2^(p-1)<a%2^p by omega)];rfl
theorem apq(a b:Nat):decide (kW a b>0)=decide (b<a):=by
 unfold kW
 by_cases h1:a<b
 .rw[if_pos h1,decide_eq_false (show¬b<a by omega)];rfl
 .by_cases h2:b<a
  .rw[if_neg h1,if_pos h2,decide_eq_true h2];rfl
  .rw[if_neg h1,if_neg h2,decide_eq_false h2];rfl
theorem afr(a b:Nat):(kW a b==0)=decide (a=b):=by
 unfold kW
 by_cases h1:a<b
 .rw[if_pos h1,decide_eq_false (show¬a=b by omega)];rfl
 .by_cases h2:b<a
  .rw[if_neg h1,if_pos h2,decide_eq_false (show¬a=b by omega)];rfl
  .rw[if_neg h1,if_neg h2,decide_eq_true (show a=b by omega)];rfl
theorem acC(a b:Nat):decide (kW a b<=0)=decide (a<=b):=by
 unfold kW
 by_cases h1:a<b
 .rw[if_pos h1,decide_eq_true (show a<=b by omega)];rfl
 .by_cases h2:b<a
  .rw[if_neg h1,if_pos h2,decide_eq_false (show¬a<=b by omega)];rfl
  .rw[if_neg h1,if_neg h2,decide_eq_true (show a<=b by omega)];rfl
theorem az1{α:Type}(m:Nat)(k:List Int->Option α):uj m k=k (limbs 6 1):=rfl
theorem aHw{α:Type}(n p:Nat)(q o:Bool){a:Nat}(h0:0<p)(hp:p<192)(ha:a<aj)(k:Bool->List Int->Bool->Option α):
  g63 (n+7) q (limbs 6 a) (p:Int) o k=k (q&& !(decide (tQ q a p=0))) (limbs 6 (tQ q a p)) o:=by
 have hD:a/2^p<aj:=Nat.lt_of_le_of_lt (Nat.div_le_self _ _) ha
 have hback:a/2^p*2^p<=a:=Nat.div_mul_le_self _ _
 have hrest:a-a/2^p*2^p=a%2^p:=by
  have:=Nat.div_add_mod a (2^p)
  rw[Nat.mul_comm] at this;omega
 have hpow:=aom (show p-1<192 by omega)
 rw[Nat.one_mul] at hpow
 have hrl:a%2^p<aj:=Nat.lt_of_le_of_lt (Nat.mod_le _ _) ha
 have hD1:=P7 h0 ha
 have e1:IntKind.wrap .i64 ((p:Int)-1)=((p-1:Nat):Int):=by rw[aR (by omega) (by omega)];omega
 have hz:((p:Int)==0)=false:=by simpa using(show(p:Int)≠0 by omega)
 unfold g63 aq1
 rw[hz,e1,decide_eq_false (show¬(p:Int)>191 by omega)]
 simp only[cond_false,azZ n p hp ha,az1,aan n (p-1) (show p-1<192 by omega) (show 1<aj by decide),Nat.one_mul,aan n p hp hD,I6 n hback,hrest,Az n hrl hpow,apq,afr,Vd n hD (show 1<aj by decide),Fw (n+7) q hD,Fw (n+7) q hD1]
 unfold tQ
 by_cases c1:2^(p-1)<a%2^p
 .rw[decide_eq_true c1,decide_eq_true (show 2^(p-1)<=a%2^p by omega)]
  cases q<;>rfl
 .rw[decide_eq_false c1]
  by_cases c2:a%2^p=2^(p-1)
  .rw[decide_eq_true c2,decide_eq_true (show 2^(p-1)<=a%2^p by omega)]
   cases q<;>rfl
  .rw[decide_eq_false c2,decide_eq_false (show¬2^(p-1)<=a%2^p by omega)]
   cases q<;>rfl
theorem aH3:decide (((0:Nat):Int)>191)=false:=rfl
theorem zz0:(((0:Nat):Int)==0)=true:=rfl
theorem aHx(m:Nat)(q o:Bool)(l:List Int)(p:Int){α:Type}(k:Bool->List Int->Bool->Option α):∃F:List Int->Option α,g63 m q l p o k=cond (decide (p>191)) (k false [0,0,0,0,0,0] true) (g97 m l p (λd=>cond (p==0) (k q l o) (F d))):=by
 unfold g63 aq1
 exact⟨_,rfl⟩
theorem aHz{α:Type}(n:Nat)(q o:Bool){a:Nat}(ha:a<aj)(k:Bool->List Int->Bool->Option α):g63 (n+7) q (limbs 6 a) ((0:Nat):Int) o k=k q (limbs 6 a) o:=by
 obtain⟨F,h⟩:=aHx (n+7) q o (limbs 6 a) ((0:Nat):Int) k
 rw[h,aH3,cond_false,azZ n 0 (by decide) ha,zz0,cond_true]
theorem aBJ{α:Type}(n:Nat){a b:Nat}(ha:a<aj)(hb:b<aj)(hs:a+b<aj)(k:Bool->List Int->Int->Option α):
  dZ (n+7) false (limbs 6 a) false (limbs 6 b) k=k false (limbs 6 (a+b)) 0:=by
 simp only[dZ,ac5,VN n ha hb,beq_self_eq_true,cond_true,eq_true hs,decide_true,Bool.not_true,cond_false,tK (n+7) false hs,Bool.false_and]
theorem aBK{α:Type}(n:Nat){a b:Nat}(ha:a<aj)(hb:b<aj)(k:Int->Option α):fO (n+7) false (limbs 6 a) false (limbs 6 b) k=k (kW a b):=by
 have h:fO (n+7) false (limbs 6 a) false (limbs 6 b) k=lY (n+7) (limbs 6 a) (limbs 6 b) (λx=>k x):=by kernel_rfl
 rw[h,JJ n ha hb]
def gK(a i R:Nat):Nat:=cond (decide ((R+2^i)*(R+2^i)<=a)) (R+2^i) R
theorem atd{α:Type}(m:Nat)(la z:List Int)(k:Bool->List Int->Option α)(f:Nat)(i:Int)(s:Bool)(l:List Int):
  mr (bM m) (iQ m) (dZ m) (fG m) (fO m) false la false z k (f+1) i s l=cond (decide (i>=0)) (bM m 1 (λb1 l1=>iQ m b1 l1 i (λb2 l2 x2=>dZ m s l b2 l2 (λb3 l3 x3=>
   cond (x2 !=0) (mr (bM m) (iQ m) (dZ m) (fG m) (fO m) false la false z k f (IntKind.wrap .i64 (i-1)) s l) (cond (x3 !=0) (mr (bM m) (iQ m) (dZ m) (fG m) (fO m) false la false z k f (IntKind.wrap .i64 (i-1)) s l)
    (fG m b3 l3 b3 l3 (λb4 l4 x4=>cond (x4==0) (fO m b4 l4 false la (λx=>cond (decide (x<=0)) (mr (bM m) (iQ m) (dZ m) (fG m) (fO m) false la false z k f (IntKind.wrap .i64 (i-1)) b3 l3)
     (mr (bM m) (iQ m) (dZ m) (fG m) (fO m) false la false z k f (IntKind.wrap .i64 (i-1)) s l))) (mr (bM m) (iQ m) (dZ m) (fG m) (fO m) false la false z k f (IntKind.wrap .i64 (i-1)) s l)))))))) (k s l):=by kernel_rfl
theorem atl{α:Type}(m:Nat)(la z:List Int)(k:List Int->Option α)(f:Nat)(i:Int)(l:List Int):
  pG (uj m) (pK m) (jl m) (Ms m) (eU m) la z k (f+1) i l=cond (decide (i>=0)) (uj m (λl1=>pK m l1 i (λl2=>jl m l l2 (λl3 b3=>Ms m l3 l3 (λl4 b4=>
   cond (!b4) (eU m l4 la (λx=>cond (decide (x<=0)) (pG (uj m) (pK m) (jl m) (Ms m) (eU m) la z k f (IntKind.wrap .i64 (i-1)) l3) (pG (uj m) (pK m) (jl m) (Ms m) (eU m) la z k f (IntKind.wrap .i64 (i-1)) l)))
    (pG (uj m) (pK m) (jl m) (Ms m) (eU m) la z k f (IntKind.wrap .i64 (i-1)) l)))))) (k l):=by kernel_rfl
theorem avC{x a:Nat}(h:x*x<=a)(ha:a<aj):x*x<aj:=Nat.lt_of_le_of_lt h ha
theorem atf{α:Type}(n f i R:Nat){a:Nat}(hi:i<192)(ha:a<aj)(hR:R+2^i<aj)(z:List Int)(k:Bool->List Int->Option α):
  mr (bM (n+40)) (iQ (n+40)) (dZ (n+40)) (fG (n+40)) (fO (n+40)) false (limbs 6 a) false z k (f+1) (i:Int) false (limbs 6 R)=
   mr (bM (n+40)) (iQ (n+40)) (dZ (n+40)) (fG (n+40)) (fO (n+40)) false (limbs 6 a) false z k f ((i:Int)-1) false (limbs 6 (gK a i R)):=by
 have hp:2^i<aj:=Nat.lt_of_le_of_lt (Nat.le_add_left _ _) hR
 have hRl:R<aj:=Nat.lt_of_le_of_lt (Nat.le_add_right _ _) hR
 have h1:1*2^i<aj:=by rw[Nat.one_mul];exact hp
 rw[atd,decide_eq_true (show(i:Int)>=0 by omega),cond_true,apK,as9 n i false hi (show 1<aj by decide),decide_eq_true h1,cond_true,Bool.false_and,Nat.one_mul,aBJ (n+33) hRl hp hR,bne_self_eq_false,cond_false,cond_false,
  as5 (n+33) hR hR,aR (x:=(i:Int)-1) (by omega) (by omega)]
 unfold gK
 by_cases hs:(R+2^i)*(R+2^i)<aj
 .rw[decide_eq_true hs,cond_true,beq_self_eq_true,beq_self_eq_true,Bool.not_true,Bool.false_and,cond_true,aBK (n+33) hs ha,acC]
  cases decide ((R+2^i)*(R+2^i)<=a)<;>rfl
 .rw[decide_eq_false hs,cond_false,decide_eq_false (λh=>hs (avC h ha))];rfl
theorem atn{α:Type}(n f i R:Nat){a:Nat}(hi:i<192)(ha:a<aj)(hR:R+2^i<aj)(z:List Int)(k:List Int->Option α):
  pG (uj (n+40)) (pK (n+40)) (jl (n+40)) (Ms (n+40)) (eU (n+40)) (limbs 6 a) z k (f+1) (i:Int) (limbs 6 R)=
   pG (uj (n+40)) (pK (n+40)) (jl (n+40)) (Ms (n+40)) (eU (n+40)) (limbs 6 a) z k f ((i:Int)-1) (limbs 6 (gK a i R)):=by
 have hp:2^i<aj:=Nat.lt_of_le_of_lt (Nat.le_add_left _ _) hR
 have hRl:R<aj:=Nat.lt_of_le_of_lt (Nat.le_add_right _ _) hR
 rw[atl,decide_eq_true (show(i:Int)>=0 by omega),cond_true,az1,aan (n+33) i hi (show 1<aj by decide),Nat.one_mul,Vd (n+33) hRl hp,aFR (n+33) hR hR,aR (x:=(i:Int)-1) (by omega) (by omega)]
 unfold gK
 by_cases hs:(R+2^i)*(R+2^i)<aj
 .rw[decide_eq_true hs,cond_true,Bool.not_false,cond_true,Az (n+33) hs ha,acC]
  cases decide ((R+2^i)*(R+2^i)<=a)<;>rfl
 .rw[decide_eq_false hs,cond_false,decide_eq_false (λh=>hs (avC h ha))];rfl
def BX(a:Nat):Nat->Nat->Nat
 |0,R=>gK a 0 R
 |i+1,R=>BX a i (gK a (i+1) R)
theorem Xy(a i R:Nat):gK a i R<=R+2^i:=by
 unfold gK
 cases decide ((R+2^i)*(R+2^i)<=a)
 .exact Nat.le_add_right _ _
 .exact Nat.le_refl _
theorem aGu:(2:Nat)^98<aj:=by decide
theorem GI{i R:Nat}(h:R+2^(i+1)<=2^98):R+2^i<aj:=by
 have:=aGu
 rw[Nat.pow_succ] at h
 omega
theorem OB{a i R:Nat}(h:R+2^(i+2)<=2^98):gK a (i+1) R+2^(i+1)<=2^98:=by
 have h1:=Xy a (i+1) R
 have h2:2^(i+2)=2^(i+1)*2:=Nat.pow_succ ..
 omega
theorem Vv{α:Type}(n:Nat){a:Nat}(ha:a<aj)(z:List Int)(k:Bool->List Int->Option α):∀(i f R:Nat),i<192->i+1<f->R+2^(i+1)<=2^98->
  mr (bM (n+40)) (iQ (n+40)) (dZ (n+40)) (fG (n+40)) (fO (n+40)) false (limbs 6 a) false z k f (i:Int) false (limbs 6 R)=k false (limbs 6 (BX a i R))
 |0,f,R,hi,hf,hR=>by
  obtain⟨f,rfl⟩:∃j,f=j+2:=⟨f-2,by omega⟩
  rw[atf n (f+1) 0 R hi ha (GI hR),atd,decide_eq_false (show¬((0:Nat):Int)-1>=0 by omega)];rfl
 |i+1,f,R,hi,hf,hR=>by
  obtain⟨f,rfl⟩:∃j,f=j+1:=⟨f-1,by omega⟩
  rw[atf n f (i+1) R hi ha (GI hR),show((i+1:Nat):Int)-1=(i:Int) by omega]
  exact Vv n ha z k i f _ (by omega) (by omega) (OB hR)
theorem VG{α:Type}(n:Nat){a:Nat}(ha:a<aj)(z:List Int)(k:List Int->Option α):∀(i f R:Nat),i<192->i+1<f->R+2^(i+1)<=2^98->
  pG (uj (n+40)) (pK (n+40)) (jl (n+40)) (Ms (n+40)) (eU (n+40)) (limbs 6 a) z k f (i:Int) (limbs 6 R)=k (limbs 6 (BX a i R))
 |0,f,R,hi,hf,hR=>by
  obtain⟨f,rfl⟩:∃j,f=j+2:=⟨f-2,by omega⟩
  rw[atn n (f+1) 0 R hi ha (GI hR),atl,decide_eq_false (show¬((0:Nat):Int)-1>=0 by omega)];rfl
 |i+1,f,R,hi,hf,hR=>by
  obtain⟨f,rfl⟩:∃j,f=j+1:=⟨f-1,by omega⟩
  rw[atn n f (i+1) R hi ha (GI hR),show((i+1:Nat):Int)-1=(i:Int) by omega]
  exact VG n ha z k i f _ (by omega) (by omega) (OB hR)
theorem half_start{b:Nat}(hb:b<=192):IntKind.wrap .i64 (Int.tdiv (IntKind.wrap .i64 ((b:Int)+1)) 2)=(((b+1)/2:Nat):Int):=by
 rw[aR (x:=(b:Int)+1) (by omega) (by omega),show(b:Int)+1=((b+1:Nat):Int) by omega,show(2:Int)=((2:Nat):Int) from rfl,<-Int.ofNat_tdiv,aR (by omega) (by omega)]
theorem XW{b:Nat}(hb:b<=192):0+2^((b+1)/2+1)<=2^98:=by
 rw[Nat.zero_add];exact Nat.pow_le_pow_right (by decide) (by omega)
theorem aBV{α:Type}(m:Nat)(l:List Int)(k:Bool->List Int->Option α):YT m false l k=nN m l (λx=>mr (bM m) (iQ m) (dZ m) (fG m) (fO m) false l false [0,0,0,0,0,0] (λb l=>k b l) m (IntKind.wrap .i64 (Int.tdiv (IntKind.wrap .i64 (x+1)) 2)) false [0,0,0,0,0,0]):=by kernel_rfl
theorem aB3{α:Type}(m:Nat)(l:List Int)(k:List Int->Option α):VE m l k=nM m l (λx=>pG (uj m) (pK m) (jl m) (Ms m) (eU m) l [0,0,0,0,0,0] (λl=>k l) m (IntKind.wrap .i64 (Int.tdiv (IntKind.wrap .i64 (x+1)) 2)) [0,0,0,0,0,0]):=by kernel_rfl
end Go.Proofs.YtlmmgjngihlpeaaGreatDoor.Sx
