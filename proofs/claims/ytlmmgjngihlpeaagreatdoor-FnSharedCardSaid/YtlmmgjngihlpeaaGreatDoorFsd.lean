/- Part 4 of the proof that what is shared, pruned and joined is approximated as before, that terms are read from their texts, and that decimals begin as the approximations tell. Our own work, shortened by a program of ours. -/
import Derived.Test.YtlmmgjngihlpeaaGreatDoorFsc
import Derived.Below
import Derived.BigCall
namespace Go.Proofs.YtlmmgjngihlpeaaGreatDoor.Sx
open Go
set_option linter.unusedVariables false
set_option linter.unusedSimpArgs false
set_option maxRecDepth 100000
section
variable {P:Program}
theorem PV{f:FuncId}{fn:Func}(hf:P.funcs[f]? =some fn)(hb:fn.body.isSome=true)(hn:(fn.name== "runtime.NumGoroutine")=false)(args:Array Value)(w:World):
  (callFunc f args).run P w= .ok (.enter f args) w:=by
 have h1:¬fn.name= "runtime.NumGoroutine" :=by simpa using hn
 have h2:¬fn.body=none:=by cases h:fn.body<;>simp_all
 simp[callFunc,hf,h1,h2]
section
variable {α:Type} {k:Eff->Option α} {r:α} {st:St} {o:Oper}
def ow(ps:List (Nat×Nat)):List TV:=ps.map λp=> .vl (.sv (.ptr p.1 p.2))
def yo(ids:bF)(ps:List (Nat×Nat)):List Value:=ps.map λp=>Value.pointer (some ⟨(ids p.1).1,(ids p.1).2.1+p.2,none⟩)
theorem Yq(ids:bF):∀ps:List (Nat×Nat),Cz ids (ow ps) (yo ids ps)
 |[]=>trivial
 |p::r=>⟨rfl,Yq ids r⟩
theorem Cz.append{ids:bF}:∀{xs ys:List TV} {vs us:List Value},Cz ids xs vs->Cz ids ys us->Cz ids (xs++ys) (vs++us)
 |[],_,[],_,_,h=>h
 |x::xs,_,v::vs,_,h,h'=>⟨h.1,Cz.append h.2 h'⟩
 |[],_,_::_,_,h,_=>h.elim
 |_::_,_,[],_,h,_=>h.elim
theorem LW{h:Hd}(hc:h.ah P){c:Call}{f:FuncId}{pre ps:List (Nat×Nat)}{cx:Operand}{x0:SV}(ho:o.op= .call c)(hcal:c.callee= .value cx)(hcx:aN st cx= .vl (.sv x0))
  (hx0:∀ids v,x0.R ids v->v= .func (.func f) (yo ids pre).toArray (yo ids ps).toArray)
  (hev:Qa h f (ow pre++(c.args.toList.map (aN st)++ow ps)) o.dst st k=some r):∃e,k e=some r/\iE P o st e:=by
 unfold Qa at hev
 split at hev
 .cases hev
 .rename_i d hd
  cases hcond:(nodupB (gather st.H 80 ((ow pre++(c.args.toList.map (aN st)++ow ps)).flatMap TV.nm) [])&&(PX st.H (gather st.H 80 ((ow pre++(c.args.toList.map (aN st)++ow ps)).flatMap TV.nm) [])&&
    (((ow pre++(c.args.toList.map (aN st)++ow ps)).flatMap TV.nm).all (has (gather st.H 80 ((ow pre++(c.args.toList.map (aN st)++ow ps)).flatMap TV.nm) []))&&(aAu st.H (mY (gather st.H 80 ((ow pre++(c.args.toList.map (aN st)++ow ps)).flatMap TV.nm) []) (h.ro f))&&Nat.ble (gather st.H 80 ((ow pre++(c.args.toList.map (aN st)++ow ps)).flatMap TV.nm) []).length 1000)))) with
  |false=>simp only[hcond,cond_false] at hev;cases hev
  |true=>
   simp only[hcond,cond_true] at hev
   generalize hnames:gather st.H 80 ((ow pre++(c.args.toList.map (aN st)++ow ps)).flatMap TV.nm) []=names at*
   generalize hL:mY names (h.ro f)=L at*
   simp only[Bool.and_eq_true] at hcond
   obtain⟨hc1,hc2,hc3,hc5,hc4⟩:=hcond
   have hLst:∀b B,has L b=true->st.H b=some B->gB B.2=true:=by
    intro b B hb hB
    simp only[aAu,List.all_eq_true] at hc5
    have:=hc5 b (jB hb)
    rw[hB] at this;exact this
   obtain⟨v,Bs',Ns,hk,hlen,⟨fn,hfn,hbody,hname⟩,hF⟩:=hc _ _ _ _ _ _ hev
   cases hfr:I5 st.H d Ns 0 with
   |false=>rw[hfr] at hk;cases hk
   |true=>
    rw[hfr] at hk
    simp only[cond_true] at hk
    refine⟨_,hk, ?_⟩
    have hnd:=yT hc1
    have hcl:∀b∈names,∃B,st.H b=some B/\∀c∈fo B.2,c∈names:=by
     intro b hb
     simp only[PX,List.all_eq_true] at hc2
     have:=hc2 b hb
     split at this
     .rename_i B hB
      simp only[List.all_eq_true] at this
      exact⟨B,hB,λc hc=>jB (this c hc)⟩
     .cases this
    have hargs:∀x∈c.args.toList,∀b∈(aN st x).nm,b∈names:=by
     intro x hx b hb
     simp only[List.all_eq_true] at hc3
     exact jB (hc3 b (List.mem_flatMap.2 ⟨aN st x,List.mem_append_right _ (List.mem_append_left _ (List.mem_map.2 ⟨x,hx,rfl⟩)),hb⟩))
    have hcaps:∀x∈ow ps,∀b∈x.nm,b∈names:=by
     intro x hx b hb
     simp only[List.all_eq_true] at hc3
     exact jB (hc3 b (List.mem_flatMap.2 ⟨x,List.mem_append_right _ (List.mem_append_right _ hx),hb⟩))
    have hpres:∀x∈ow pre,∀b∈x.nm,b∈names:=by
     intro x hx b hb
     simp only[List.all_eq_true] at hc3
     exact jB (hc3 b (List.mem_flatMap.2 ⟨x,List.mem_append_left _ hx,hb⟩))
    have hle:=Nat.le_of_ble_eq_true hc4
    have hfresh:=EI hfr
    simp only[Nat.zero_add] at hfresh
    intro st2 hag w0 S nb idb a w ⟨ids,hr⟩ K Q hK
    have hops:∀x∈c.args.toList,aN st2 x=aN st x:=λx hx=>au hag (by
     simp only[ho,Op.operands,Call.operands,Array.mem_append];exact .inr (by simpa using hx))
    have hrun:(execOp a.eval o).run P w= .ok (.enter f ((yo ids pre).toArray++c.args.map a.eval++(yo ids ps).toArray)) w:=by
     have hh:=PV hfn hbody hname ((yo ids pre).toArray++c.args.map a.eval++(yo ids ps).toArray) w
     have hcm:cx∈o.op.operands:=by
      simp only[ho,Op.operands,Call.operands,Array.mem_append,hcal];exact .inl (by simp)
     have hc1:=aG hr cx
     rw[au hag hcm,hcx] at hc1
     have hc2:a.eval cx= .func (.func f) (yo ids pre).toArray (yo ids ps).toArray:=hx0 _ _ hc1
     simp[execOp,ho,resolve,hcal,hc2,Deferred.ofValue,invoke]
     simpa using hh
    unfold Oper.wp
    rw[hrun,Oper.upon_enter,show(yo ids pre).toArray++c.args.map a.eval++(yo ids ps).toArray=(yo ids pre++(c.args.toList.map a.eval++yo ids ps)).toArray by rw[<-Array.toList_map,<-List.append_toArray,<-List.append_toArray,Array.toArray_toList,Array.append_assoc]]
    have hH:∀b∈names,st2.H b=st.H b:=λb hb=>hag.rd b hb
    have hcl2:∀b∈names,∃B,st2.H b=some B/\∀c∈fo B.2,c∈names:=λb hb=>by
     obtain⟨B,h1,h2⟩:=hcl b hb
     exact⟨B,by rw[hH b hb];exact h1,h2⟩
    have hL2:∀b B,has L b=true->st2.H b=some B->gB B.2=true:=by
     intro b B hb hB
     have hbn:b∈names:=by rw[<-hL] at hb;exact vk b (jB hb)
     rw[hH b hbn] at hB;exact hLst b B hb hB
    have hdH:∀b∈names,bC L st2.H b=bC L st.H b:=λb hb=>by simp only[bC,hH b hb]
    have hBs:names.map (kM (bC L st.H) (idx names))=names.map (kM (bC L st2.H) (idx names)):=List.map_congr_left λb hb=>by simp only[kM,hdH b hb]
    have hget:∀i,i<names.length->names[i]? =some (names.getD i 0):=λi hi=>by simp[List.getElem?_eq_getElem hi]
    have hidx:∀b∈names,(λi=>ids (names.getD i 0)) (idx names b)=ids b:=λb hb=>by
     show ids (names.getD (idx names b) 0)=ids b
     rw[(pM hb).2]
    have hfr2:∀j,j<Ns.length->st2.H (nameOf d (j+1))=none:=by
     intro j hj
     rw[hag.out _ ?_]
     .exact hfresh j hj
     .simp only[List.map_append,List.mem_append]
      right
      have hN:Ns[j]? =some Ns[j]:=by simp[hj]
      have:=GD d (backTo names d) Ns 0 j _ hN
      rw[Nat.zero_add] at this
      exact agl this
    have houteq:lq (bC L st.H) (backTo names d) names Bs'=lq (bC L st2.H) (backTo names d) names Bs':=by
     have:∀(l:List Nat) (Cs:List (List Seg)),(∀b∈l,bC L st2.H b=bC L st.H b)->lq (bC L st.H) (backTo names d) l Cs=lq (bC L st2.H) (backTo names d) l Cs:=by
      intro l
      induction l with
      |nil=>intro Cs _;rfl
      |cons b l ih=>
       intro Cs hl
       cases Cs with
       |nil=>rfl
       |cons C s=>simp only[lq,hl b (by simp),ih s (λc hc=>hl c (by simp[hc]))]
     exact this names Bs' hdH
    have hgc:gQ w (mh w (λi=>ids (names.getD i 0)) (names.map (kM (bC L st.H) (idx names)))):=by
     rw[hBs]
     refine(hr.bC L hL2).anD (λb hb=> ?_) rfl
     obtain⟨B,h1,h2⟩:=hcl2 b hb
     exact⟨_,ji h1,h2⟩
    have hblen:(names.map (kM (bC L st.H) (idx names))).length=names.length:=by simp
    refine(hF (λi=>ids (names.getD i 0)) w (yo ids pre++(c.args.toList.map a.eval++yo ids ps)) ⟨λi B hB=> ?_,λi j B C hB hC hne=> ?_,λi B hB b hb=> ?_, ?_⟩ ?_ ?_ (by simpa using hle) hgc).mono ?_
    .rw[List.getElem?_map] at hB
     simp only[Option.map_eq_some_iff] at hB
     obtain⟨b,hb,rfl⟩:=hB
     have hbn:=List.mem_of_getElem? hb
     obtain⟨B0,h1,h2⟩:=hcl2 b hbn
     have hbi:names.getD i 0=b:=by simp[List.getD,hb]
     have hblk:=hr.blk b B0 h1
     simp only[kM,<-hdH b hbn,ji h1]
     obtain⟨q1,qg,q2,q3⟩:=hblk
     refine⟨wW.2 q1,by simp only[hbi];exact(qg.weak λhw=>by simp only[Bool.and_eq_true] at hw;exact hw.1).ren,by simp only[hbi];exact λhl=>q2 (dU.1 hl),λj x hx=> ?_⟩
     simp only[lF,List.getElem?_map,Option.map_eq_some_iff] at hx
     obtain⟨y,hy,rfl⟩:=hx
     obtain⟨u,u1,u2,u3⟩:=q3 j y hy
     simp only[hbi]
     exact⟨u,u1,SV.mJ.2 (u2.congr λc hc=>hidx c (h2 c (gD _ y (List.mem_of_getElem? hy) c hc))),λhf=>u3 (by simp only[Bool.and_eq_true] at hf;exact hf.1)⟩
    .rw[List.getElem?_map] at hB hC
     simp only[Option.map_eq_some_iff] at hB hC
     obtain⟨b,hb,hB⟩:=hB
     obtain⟨e,he,hC⟩:=hC
     obtain⟨B0,h1,h2⟩:=hcl2 b (List.mem_of_getElem? hb)
     obtain⟨C0,g1,g2⟩:=hcl2 e (List.mem_of_getElem? he)
     simp only[kM,<-hdH b (List.mem_of_getElem? hb),ji h1,Prod.mk.injEq] at hB
     obtain⟨wr,B0⟩:=B0
     simp only[Bool.and_eq_true] at hB
     obtain⟨⟨rfl,_⟩,rfl⟩:=hB
     simp only[kM,<-hdH e (List.mem_of_getElem? he),ji g1] at hC
     obtain rfl:=hC
     intro lb lc
     simp only[List.getD,hb,he,Option.getD_some]
     refine hr.sep b e B0 C0 h1 g1 (λhbe=> ?_) (dU.1 lb) (dU.1 lc)
     subst hbe
     exact hne (wU hnd hb he)
    .rw[List.getElem?_map] at hB
     simp only[Option.map_eq_some_iff] at hB
     obtain⟨e,he,rfl⟩:=hB
     obtain⟨B0,h1,h2⟩:=hcl2 e (List.mem_of_getElem? he)
     simp only[kM,<-hdH e (List.mem_of_getElem? he),ji h1,sU,List.mem_map] at hb
     obtain⟨c',hc',rfl⟩:=hb
     rw[hblen];exact(pM (h2 c' hc')).1
    .have hbl:∀(i:Nat) (B:bg),(names.map (kM (bC L st.H) (idx names)))[i]? =some B->∃b B0,names[i]? =some b/\b∈names/\bC L st2.H b=some B0/\B=(B0.1,dP (idx names) B0.2)/\ids (names.getD i 0)=ids b/\
       ∀c∈fo B0.2,c∈names:=by
      intro i B hB
      rw[List.getElem?_map] at hB
      simp only[Option.map_eq_some_iff] at hB
      obtain⟨b,hb,rfl⟩:=hB
      obtain⟨B0,h1,h2⟩:=hcl2 b (List.mem_of_getElem? hb)
      refine⟨b,_,hb,List.mem_of_getElem? hb,ji h1, ?_,by simp[List.getD,hb],h2⟩
      simp only[kM,<-hdH b (List.mem_of_getElem? hb),ji h1]
     have hrd:=(hr.bC L hL2).hid
     refine⟨λi B hB hno=> ?_,λi B hB=> ?_,λi B hB g hg=> ?_,λi j B C hB hC lc hg=> ?_,λi j B C hB hC hne g hg hg2=> ?_⟩
     .obtain⟨b,B0,h1,h2,h3,rfl,h4,h5⟩:=hbl i B hB
      dsimp only at hno|-
      rw[wT] at hno
      exact hrd.fl b B0 h3 hno
     .obtain⟨b,B0,h1,h2,h3,rfl,h4,h5⟩:=hbl i B hB
      refine(hrd.rel b B0 h3).ren (by simp only[h4]) λd hd=>hidx d (h5 d hd)
     .left
      exact Bw (i:=0) hB (by rw[Nat.zero_add];exact hg)
     .obtain⟨b,B0,h1,h2,h3,rfl,h4,h5⟩:=hbl i B hB
      obtain⟨c',C0,g1,g2,g3,rfl,g4,g5⟩:=hbl j C hC
      dsimp only at hg lc
      rw[gV,h4,g4] at hg
      exact hrd.sepL b c' B0 C0 h3 g3 (dU.1 lc) hg
     .obtain⟨b,B0,h1,h2,h3,rfl,h4,h5⟩:=hbl i B hB
      obtain⟨c',C0,g1,g2,g3,rfl,g4,g5⟩:=hbl j C hC
      dsimp only at hg hg2
      rw[gV,h4] at hg
      rw[gV,g4] at hg2
      refine hrd.sW b c' B0 C0 h3 g3 (λhbe=> ?_) g hg hg2
      subst hbe
      exact hne (wU hnd h1 g1)
    .refine Cz.ren.2 ?_
     have hts:=ag9 (ids:=ids) (st:=st2) (a:=a) c.args.toList λx hx=>aG hr x
     have heq:c.args.toList.map (aN st2)=c.args.toList.map (aN st):=List.map_congr_left hops
     rw[heq] at hts
     refine((Yq ids pre).append (hts.append (Yq ids ps))).congr λx hx b hb=> ?_
     rcases List.mem_append.1 hx with hx|hx
     .exact hidx b (hpres x hx b hb)
     rcases List.mem_append.1 hx with hx|hx
     .obtain⟨y,hy,rfl⟩:=List.mem_map.1 hx
      exact hidx b (hargs y hy b hb)
     .exact hidx b (hcaps x hx b hb)
    .intro x hx b hb
     simp only[List.mem_map] at hx
     obtain⟨z,hz,rfl⟩:=hx
     simp only[TV.lG,List.mem_map] at hb
     obtain⟨c',hc',rfl⟩:=hb
     rw[hblen]
     rcases List.mem_append.1 hz with hz|hz
     .exact(pM (hpres z hz c' hc')).1
     rcases List.mem_append.1 hz with hz|hz
     .obtain⟨y,hy,rfl⟩:=List.mem_map.1 hz
      exact(pM (hargs y hy c' hc')).1
     .exact(pM (hcaps z hz c' hc')).1
    .rintro e w' ⟨ids',cv,rfl,hret⟩
     refine hK cv w' ?_
     rw[houteq]
     exact hr.ahn hL2 hnd hcl2 hBs (hlen) hfr2 hr.lim hret
end
section
variable {α:Type}
def Np(tab:iL)(h:Hd)(o:Oper)(st:St)(k:Eff->Option α):Option α:=
 cond (nK o.dst st.n)
  (match o.op with
   | .call c=>match c.callee with
    | .value x=>match aN st x with
     | .vl (.sv (.PW f ps))=>Qa h f (c.args.toList.map (aN st)++ow ps) o.dst st k
     | .vl (.sv (.clb f b q))=>Qa h f (ow [(b,q)]++(c.args.toList.map (aN st)++ow [])) o.dst st k
     |_=>none
    |_=>acS tab o st k
   |_=>acS tab o st k) none
def mE:TV:= .iO []
def D7(st:St)(d:Nat)(b:Bool):St:={st with T:=xD st.T (some d) (.vl (.sv (.bool b)))}
def qP(tab:iL)(h:Hd)(ops:Array Oper):List (Nat×Oper)->St->List (Nat×Eff)->(St->List (Nat×Eff)->Option α)->Option α
 |[],st,tr,k=>k st tr
 |(i,o)::r,st,tr,k=>
  match o.guard with
  |none=>Np tab h o st λf=>qP tab h ops r (st.app o.dst f) ((i,f)::tr) k
  |some (j,want)=>match oI ops j with
   |some d=>match st.T d with
    | .vl (.sv (.bool b))=>cond b
      (cond want (Np tab h o (D7 st d true) λf=>qP tab h ops r ((D7 st d true).app o.dst f) ((i,f)::tr) k)
       (cond (nK o.dst st.n) (qP tab h ops r ((D7 st d true).app o.dst (jw mE)) ((i,jw mE)::tr) k) none))
      (cond want (cond (nK o.dst st.n) (qP tab h ops r ((D7 st d false).app o.dst (jw mE)) ((i,jw mE)::tr) k) none)
       (Np tab h o (D7 st d false) λf=>qP tab h ops r ((D7 st d false).app o.dst f) ((i,f)::tr) k))
    | .iO []=>cond (nK o.dst st.n) (qP tab h ops r (st.app o.dst (jw mE)) ((i,jw mE)::tr) k) none
    |_=>none
   |none=>none
def number:List Oper->Nat->List (Nat×Oper)
 |[],_=>[]
 |o::r,i=>(i,o)::number r (i+1)
def ev(tab:iL)(h:Hd):Code->St->(Ex->St->Option α)->Option α
 | .skip,st,k=>k .normal st
 | .ret,st,k=>k .ret st
 | .exit id,st,k=>k (.exit id) st
 | .region _ ops draw,st,k=>qP tab h ops (number ops.toList 0) st [] λst' tr=>cond (!draw||(backward ops&&Ot ops tr)) (k .normal st') none
 | .seq a b,st,k=>ev tab h a st λe st'=>match e with
  | .normal=>ev tab h b st' k
  |e=>k e st'
 | .cond (.tmp t) a b,st,k=>match st.T t with
  | .vl (.sv (.bool c))=>cond c (ev tab h a (D7 st t true) k) (ev tab h b (D7 st t false) k)
  |_=>none
 | .cond (.const (.bool c)) a b,st,k=>cond c (ev tab h a st k) (ev tab h b st k)
 | .block id (.loop _),st,k=>h.loop id st k
 | .block id c,st,k=>ev tab h c st λe st'=>k (e.inBlock id) st'
 |_,_,_=>none
end
def eO(P:Program)(h:Hd):Code->Prop
 | .seq a b=>eO P h a/\eO P h b
 | .cond _ a b=>eO P h a/\eO P h b
 | .block id (.loop b)=>∀(α:Type) (st:St) (k:Ex->St->Option α) (r:α),h.loop id st k=some r->∃e st',k e st'=some r/\g_ P (.block id (.loop b)) st e st'
 | .block _ c=>eO P h c
 |_=>True
section
variable {α:Type} {tab:iL} {h:Hd} {st:St}
theorem wX{st:St}{d:Nat}{b:Bool}(hd:st.T d= .vl (.sv (.bool b))):D7 st d b=st:=by
 have:xD st.T (some d) (.vl (.sv (.bool b)))=st.T:=by
  funext t
  by_cases ht:t=d
  .subst ht;rw[DZ,hd]
  .rw[og (by simpa using λe=>ht e.symm)]
 unfold D7;rw[this]
theorem Ez(ht:a_ P tab)(hc:h.ah P){o:Oper}{k:Eff->Option α}{r:α}(hev:Np tab h o st k=some r):
  nK o.dst st.n=true/\∃f,k f=some r/\iE P o st f:=by
 unfold Np at hev
 cases hd:nK o.dst st.n with
 |false=>rw[hd] at hev;cases hev
 |true=>
  rw[hd] at hev
  simp only[cond_true] at hev
  refine⟨rfl, ?_⟩
  split at hev
  .rename_i c ho
   split at hev
   .rename_i cx hcal
    split at hev
    .rename_i f ps hf
     exact LW (pre:=[]) (ps:=ps) hc ho hcal hf (λids v h=>h) hev
    .rename_i f b q hf
     exact LW (pre:=[(b,q)]) (ps:=[]) hc ho hcal hf (λids v h=>h) hev
    .cases hev
   .exact EA ht hev
  .exact EA ht hev
theorem ahE{o:Oper}{st:St}(hd:nK o.dst st.n=true):∀t,o.dst=some t->t<st.n:=Yv hd
theorem XY{ops:Array Oper}{i:Nat}{o:Oper}(ho:ops[i]? =some o){st:St}{f:Eff}(hd:nK o.dst st.n=true)(hs:iE P o st f)
  (hw:∀(st2:St) (w0:World) (S:List Nat) (nb:Nat) (idb ids:bF) (a:Act) (w:World),(∀t∈o.looksAt ops,st2.T t=st.T t)->eP w0 S nb idb ids st2 a w->Region.wanted o (yielded ops a.tmps)=true):
  zy P ops i st f:=by
 refine⟨o,ho,λst2 hag w0 S nb idb a w ⟨ids,hr⟩ K Q hK=> ?_⟩
 unfold wpOp
 rw[ho]
 simp only[]
 rw[if_pos (hw st2 w0 S nb idb ids a w hag.T hr)]
 left
 have hag':Agr (tmpsOf o) f st st2:=⟨hag.n,λt ht=>hag.T t (List.mem_append_left _ ht),hag.rd,hag.out⟩
 refine hs st2 hag' w0 S nb idb a w ⟨ids,hr⟩ K Q λv w' ⟨ids',h1,h2,h3⟩=>hK v w' ⟨ids',h1.put h2 h3 λt ht=> ?_⟩
 rw[hag.n];exact ahE hd t ht
theorem Mc{ops:Array Oper}{i:Nat}{o:Oper}(ho:ops[i]? =some o){st:St}(hd:nK o.dst st.n=true)
  (hw:∀(st2:St) (w0:World) (S:List Nat) (nb:Nat) (idb ids:bF) (a:Act) (w:World),(∀t∈o.looksAt ops,st2.T t=st.T t)->eP w0 S nb idb ids st2 a w->Region.wanted o (yielded ops a.tmps)=false):
  zy P ops i st (jw mE):=by
 refine⟨o,ho,λst2 hag w0 S nb idb a w ⟨ids,hr⟩ K Q hK=> ?_⟩
 unfold wpOp
 rw[ho]
 simp only[]
 rw[if_neg (by rw[hw st2 w0 S nb idb ids a w hag.T hr];simp)]
 refine hK undef w ⟨ids,eP.put (f:=jw mE) hr ⟨#[],rfl,trivial⟩ (λb hb=>by cases hb) λt ht=> ?_⟩
 rw[hag.n];exact ahE hd t ht
theorem guard_looks{ops:Array Oper}{o:Oper}{j d:Nat}{want:Bool}(hg:o.guard=some (j,want))(hd:oI ops j=some d):d∈o.looksAt ops:=by
 unfold Oper.looksAt
 rw[hg]
 simp only[List.mem_append]
 right
 unfold oI at hd
 simp[hd]
theorem Yc{ops:Array Oper}{o:Oper}{j d:Nat}{want b:Bool}(hg:o.guard=some (j,want))(hd:oI ops j=some d){st2:St}{w0:World}{S:List Nat}{nb:Nat}{idb ids:bF}{a:Act}{w:World}
  (hT:st2.T d= .vl (.sv (.bool b))) (hr:eP w0 S nb idb ids st2 a w):Region.wanted o (yielded ops a.tmps)=(b==want):=by
 have h1:=hr.tmps d
 rw[hT] at h1
 have h2:a.tmps.getD d undef= .bool b:=h1
 have h3:a.tmps[d]? =some (.bool b):=by
  have:a.tmps[d]?.getD undef= .bool b:=by simpa using h2
  cases hx:a.tmps[d]? with
  |none=>rw[hx] at this;simp[undef] at this
  |some v=>rw[hx] at this;simp at this;rw[this]
 unfold Region.wanted yielded
 rw[hg]
 simp only[]
 unfold oI at hd
 rw[hd]
 simp[h3]
theorem abf{ops:Array Oper}{o:Oper}{j d:Nat}{want:Bool}(hg:o.guard=some (j,want))(hd:oI ops j=some d){st2:St}{w0:World}{S:List Nat}{nb:Nat}{idb ids:bF}{a:Act}{w:World}
  (hT:st2.T d= .iO []) (hr:eP w0 S nb idb ids st2 a w):Region.wanted o (yielded ops a.tmps)=false:=by
 have h1:=hr.tmps d
 rw[hT] at h1
 obtain⟨vs,h2,h3⟩:=h1
 have h3':vs= #[]:=by
  cases vs with|mk l=>cases l with
   |nil=>rfl
   |cons v r=>exact h3.elim
 subst h3'
 have h3:a.tmps[d]? =none\/a.tmps[d]? =some (.tuple #[]):=by
  have:a.tmps[d]?.getD undef= .tuple #[]:=by simpa using h2
  cases hx:a.tmps[d]? with
  |none=>exact .inl rfl
  |some v=>rw[hx] at this;right;simp at this;rw[this]
 unfold Region.wanted yielded
 rw[hg]
 simp only[]
 unfold oI at hd
 rw[hd]
 rcases h3 with h3|h3<;>simp[h3]
theorem EC(ht:a_ P tab)(hc:h.ah P){ops:Array Oper}:∀(l:List (Nat×Oper)) (st:St) (tr:List (Nat×Eff)) (k:St->List (Nat×Eff)->Option α) (r:α),
  (∀p∈l,ops[p.1]? =some p.2)->qP tab h ops l st tr k=some r->
   ∃st' ch,k st' (ch.reverse++tr)=some r/\Chain P ops ch st st'/\ch.map (·.1)=l.map (·.1)
 |[],st,tr,k,r,_,hev=>⟨st,[],by simpa[qP] using hev,rfl,rfl⟩
 |(i,o)::rest,st,tr,k,r,hl,hev=>by
  have ho:=hl (i,o) (by simp)
  have hl':∀p∈rest,ops[p.1]? =some p.2:=λp hp=>hl p (by simp[hp])
  have hgo:∀(st:St) (f:Eff),st.go ops (i,f)=st.app o.dst f:=λst f=>by
   have:ops[i]? =some o:=ho
   simp[St.go,oI,this]
  have hnext:∀(st:St) (f:Eff),zy P ops i st f->qP tab h ops rest (st.app o.dst f) ((i,f)::tr) k=some r->
    ∃st' ch,k st' (ch.reverse++tr)=some r/\Chain P ops ch st st'/\ch.map (·.1)=((i,o)::rest).map (·.1):=by
   intro st f hs hr
   obtain⟨st',ch,h1,h2,h3⟩:=EC ht hc rest _ _ k r hl' hr
   refine⟨st',(i,f)::ch, ?_,⟨hs,by rw[hgo];exact h2⟩,by simp[h3]⟩
   simpa using h1
  simp only[qP] at hev
  cases hg:o.guard with
  |none=>
   rw[hg] at hev
   simp only at hev
   obtain⟨hd,f,hf,hs⟩:=Ez ht hc hev
   exact hnext st f (XY ho hd hs λst2 w0 S nb idb ids a w _ _=>by simp[Region.wanted,hg]) hf
  |some g=>
   obtain⟨j,want⟩:=g
   rw[hg] at hev
   simp only at hev
   split at hev
   .rename_i d hd
    split at hev
    .rename_i b hb
     have hyes:∀(b':Bool),b'=b->b'=want->(Np tab h o (D7 st d b') λf=>qP tab h ops rest ((D7 st d b').app o.dst f) ((i,f)::tr) k)=some r->
       ∃st' ch,k st' (ch.reverse++tr)=some r/\Chain P ops ch st st'/\ch.map (·.1)=((i,o)::rest).map (·.1):=by
      intro b' hb' hw hev2
      subst hb'
      rw[wX hb] at hev2
      obtain⟨hdst,f,hf,hs⟩:=Ez ht hc hev2
      refine hnext st f (XY ho hdst hs λst2 w0 S nb idb ids a w hT hr=> ?_) hf
      rw[Yc hg hd (by rw[hT d (guard_looks hg hd)];exact hb) hr,hw];simp
     have hno:∀(b':Bool),b'=b->b'≠want->nK o.dst st.n=true->qP tab h ops rest ((D7 st d b').app o.dst (jw mE)) ((i,jw mE)::tr) k=some r->
       ∃st' ch,k st' (ch.reverse++tr)=some r/\Chain P ops ch st st'/\ch.map (·.1)=((i,o)::rest).map (·.1):=by
      intro b' hb' hw hdst hev2
      subst hb'
      rw[wX hb] at hev2
      refine hnext st (jw mE) (Mc ho hdst λst2 w0 S nb idb ids a w hT hr=> ?_) hev2
      rw[Yc hg hd (by rw[hT d (guard_looks hg hd)];exact hb) hr]
      simpa using hw
     cases hbv:b with
     |true=>
      rw[hbv] at hev hyes hno
      simp only[cond_true] at hev
      cases want with
      |true=>exact hyes true rfl rfl hev
      |false=>
       simp only[cond_false] at hev
       cases hdst:nK o.dst st.n with
       |true=>rw[hdst] at hev;exact hno true rfl (by simp) hdst hev
       |false=>rw[hdst] at hev;cases hev
     |false=>
      rw[hbv] at hev hyes hno
      simp only[cond_false] at hev
      cases want with
      |true=>
       simp only[cond_true] at hev
       cases hdst:nK o.dst st.n with
       |true=>rw[hdst] at hev;exact hno false rfl (by simp) hdst hev
       |false=>rw[hdst] at hev;cases hev
      |false=>exact hyes false rfl rfl hev
    .rename_i hb
     cases hdst:nK o.dst st.n with
     |true=>
      rw[hdst] at hev
      simp only[cond_true] at hev
      exact hnext st (jw mE) (Mc ho hdst λst2 w0 S nb idb ids a w hT hr=>abf hg hd (by rw[hT d (guard_looks hg hd)];exact hb) hr) hev
     |false=>rw[hdst] at hev;cases hev
    .cases hev
   .cases hev
theorem Lb:∀(l:List Oper) (i0:Nat) (p:Nat×Oper),p∈number l i0->i0<=p.1/\l[p.1-i0]? =some p.2
 |[],_,p,h=>by cases h
 |o::r,i0,p,h=>by
  simp only[number,List.mem_cons] at h
  rcases h with rfl|h
  .simp
  .obtain⟨h1,h2⟩:=Lb r (i0+1) p h
   refine⟨by omega, ?_⟩
   rw[show p.1-i0=(p.1-(i0+1))+1 by omega];simpa using h2
theorem Lc:∀(l:List Oper) (i0:Nat),(number l i0).map (·.1)=List.range' i0 l.length
 |[],_=>rfl
 |o::r,i0=>by simp[number,Lc r (i0+1),List.range'_succ]
theorem jV(ht:a_ P tab)(hc:h.ah P)(hm:P.follows .mixedOrders=true):∀(c:Code) (st:St) (k:Ex->St->Option α) (r:α),eO P h c->ev tab h c st k=some r->
  ∃e st',k e st'=some r/\g_ P c st e st'
 | .skip,st,k,r,_,hev=>⟨_,_,hev,afv⟩
 | .ret,st,k,r,_,hev=>⟨_,_,hev,ahp⟩
 | .exit id,st,k,r,_,hev=>⟨_,_,hev,aft⟩
 | .region id ops draw,st,k,r,_,hev=>by
  simp only[ev] at hev
  obtain⟨st',ch,h1,h2,h3⟩:=EC ht hc (ops:=ops) _ st [] _ r (λp hp=>by
   obtain⟨_,hp2⟩:=Lb _ _ p hp
   simpa using hp2) hev
  rw[List.append_nil] at h1
  cases hcond:(!draw||(backward ops&&Ot ops ch.reverse)) with
  |false=>rw[hcond] at h1;cases h1
  |true=>
   rw[hcond] at h1
   refine⟨_,_,h1,Fx (tr:=ch.reverse) hm (λhd=> ?_) ?_ (λhd=> ?_) (by simpa using h2)⟩
   .subst hd;simp only[Bool.not_true,Bool.false_or,Bool.and_eq_true] at hcond;exact hcond.1
   .rw[List.reverse_reverse,h3,Lc,List.range_eq_range'];simp
   .subst hd;simp only[Bool.not_true,Bool.false_or,Bool.and_eq_true] at hcond;exact hcond.2
 | .seq a b,st,k,r,hl,hev=>by
  simp only[ev] at hev
  obtain⟨e,st1,h1,h2⟩:=jV ht hc hm a st _ r hl.1 hev
  cases e with
  |normal=>
   obtain⟨e',st',h3,h4⟩:=jV ht hc hm b st1 _ r hl.2 h1
   exact⟨e',st',h3,ahq h2 h4⟩
  |exit id=>exact⟨_,_,h1,Ao (by simp) h2⟩
  |ret=>exact⟨_,_,h1,Ao (by simp) h2⟩
 | .cond c a b,st,k,r,hl,hev=>by
  cases c with
  |tmp t=>
   simp only[ev] at hev
   split at hev
   .rename_i c hT
    have hb:∀(ids:bF) (a:Act),(∀t,(st.T t).R ids (a.tmps.getD t undef))->a.eval (.tmp t)= .bool c:=λids a ha=>by
     have:=ha t
     rw[hT] at this
     exact this
    cases c with
    |true=>
     rw[wX hT] at hev
     simp only[cond_true] at hev
     obtain⟨e,st',h1,h2⟩:=jV ht hc hm a st k r hl.1 hev
     exact⟨e,st',h1,wF hb h2⟩
    |false=>
     rw[wX hT] at hev
     simp only[cond_false] at hev
     obtain⟨e,st',h1,h2⟩:=jV ht hc hm b st k r hl.2 hev
     exact⟨e,st',h1,wF hb h2⟩
   .cases hev
  |const v=>
   cases v with
   |bool c=>
    simp only[ev] at hev
    have hb:∀(ids:bF) (a:Act),(∀t,(st.T t).R ids (a.tmps.getD t undef))->a.eval (.const (.bool c))= .bool c:=λ_ _ _=>rfl
    cases c with
    |true=>obtain⟨e,st',h1,h2⟩:=jV ht hc hm a st k r hl.1 hev;exact⟨e,st',h1,wF hb h2⟩
    |false=>obtain⟨e,st',h1,h2⟩:=jV ht hc hm b st k r hl.2 hev;exact⟨e,st',h1,wF hb h2⟩
   |_=>simp only[ev,reduceCtorEq] at hev
  |_=>simp only[ev,reduceCtorEq] at hev
 | .block id c,st,k,r,hl,hev=>by
  by_cases hloop:∃b,c= .loop b
  .obtain⟨b,rfl⟩:=hloop
   exact hl α st k r hev
  .have hev':(ev tab h c st λe st'=>k (e.inBlock id) st')=some r:=by
    cases c<;>first|exact hev|exact absurd ⟨_,rfl⟩ hloop
   have hl':eO P h c:=by
    cases c<;>first|exact hl|exact absurd ⟨_,rfl⟩ hloop
   obtain⟨e,st',h1,h2⟩:=jV ht hc hm c st _ r hl' hev'
   exact⟨_,_,h1,Im h2⟩
 | .loop _,st,k,r,_,hev=>by simp[ev] at hev
 | .rangeFunc ..,st,k,r,_,hev=>by simp[ev] at hev
 | .scope _,st,k,r,_,hev=>by simp[ev] at hev
 | .label _,st,k,r,_,hev=>by simp[ev] at hev
 | .goto _,st,k,r,_,hev=>by simp[ev] at hev
 | .refuse _,st,k,r,_,hev=>by simp[ev] at hev
end
end
section
variable {P:Program}
def YC(tab:iL)(t:TypeId)(R:List Seg):Option Val:=
 cond (has tab.GK t) (match R with| .one y::_=>some (.sv y)|_=>none) (match aT tab.agg t with|some n=>(mZ R n).map Val.agg|none=>none)
def ahK(tab:iL)(st:St):ResultVar->Option Val
 | .tmp t=>match st.T t with
  | .vl x=>some x
  |_=>none
 | .cell t ty=>match st.T t with
  | .vl (.sv (.ptr b o))=>match st.H b with
   |some B=>match gY B.2 o with
    |some R=>YC tab ty R
    |none=>none
   |none=>none
  |_=>none
def IG(tab:iL)(st:St):List ResultVar->Option (List Val)
 |[]=>some []
 |r::rs=>match ahK tab st r with
  |some x=>match IG tab st rs with
   |some xs=>some (x::xs)
   |none=>none
  |none=>none
def oneOf:List Val->TV
 |[x]=> .vl x
 |xs=> .iO xs
def rO(H:Nat->Option bg):List Nat->List Nat
 |[]=>[]
 |b::r=>(match H b with|some B=>fo B.2|none=>[])++rO H r
def cont(H:Nat->Option bg)(b:Nat):List Seg:=match H b with|some B=>B.2|none=>[]
def R7(H:Nat->Option bg)(nb:Nat)(ws:List Nat):List Nat:=(gather H 80 ws []).filter λb=> !(Nat.blt b nb)
def fE(nb:Nat)(news:List Nat)(b:Nat):Nat:=cond (Nat.blt b nb) b (nb+idx news b)
def oH(H:Nat->Option bg)(nb:Nat)(news:List Nat)(bs:List Nat):Bool:=bs.all λb=>Nat.blt b nb||has news b
def kindOk:List Seg->List Seg->Bool
 |_,[]=>true
 |[.rws _ _ _],[.rws _ _ _]=>true
 |[.rws _ _ _],_=>false
 |_,[.rws _ _ _]=>false
 |[.aD _ _],[.aD _ _]=>true
 |[.aD _ _],_=>false
 |[],_=>false
 |_,_=>true
def BB(H:Nat->Option bg):List bg->Nat->Bool
 |[],_=>true
 |B::r,i=>cond B.1 (match H i with|some C=>kindOk B.2 C.2|none=>false) true&&BB H r (i+1)
theorem WM{B C:List Seg}(h:kindOk B C=true)(hC:Lv C)(hl:∀E l E' l',B=[.aD E l]->C=[.aD E' l']->l.length=l'.length):Lv B:=by
 by_cases hB:∃E l,B=[.aD E l]
 .obtain⟨E,l,rfl⟩:=hB
  by_cases hC':∃E' l',C=[.aD E' l']
  .obtain⟨E',l',rfl⟩:=hC'
   have:=hl E l E' l' rfl rfl
   intro h0
   subst h0
   exact hC (List.eq_nil_of_length_eq_zero this.symm)
  .unfold kindOk at h
   split at h
   .exact hC.elim
   .exact hC.elim
   .cases h
   .exact hC.elim
   .exact(hC' ⟨_,_,rfl⟩).elim
   .cases h
   .cases h
   .rename_i r4 r3 r2 r1 r0;exact(r3 _ _ rfl).elim
 .unfold kindOk at h
  split at h
  .exact hC.elim
  .exact hC.elim
  .cases h
  .exact hC.elim
  .exact(hB ⟨_,_,rfl⟩).elim
  .exact(hB ⟨_,_,rfl⟩).elim
  .cases h
  .unfold Lv
   split
   .simp_all
   .exact(hB ⟨_,_,rfl⟩).elim
   .rename_i r4 r3 r2 r1 r0;exact(r4 _ _ _ rfl).elim
   .trivial
theorem KI{H:Nat->Option bg}:∀{Bs:List bg} {i0:Nat},BB H Bs i0=true->∀j B C,Bs[j]? =some (true,B)->H (i0+j)=some C->kindOk B C.2=true
 |[],i0,_,j,B,C,h,_=>by simp at h
 |(b,D)::r,i0,hf,j,B,C,h,hC=>by
  simp only[BB,Bool.and_eq_true] at hf
  cases j with
  |zero=>
   simp only[List.getElem?_cons_zero,Option.some.injEq,Prod.mk.injEq] at h
   obtain⟨rfl,rfl⟩:=h
   rw[Nat.add_zero] at hC
   have:=hf.1
   rw[hC] at this
   exact this
  |succ j=>exact KI hf.2 j B C (by simpa using h) (by rw[show i0+1+j=i0+(j+1) by omega];exact hC)
section
variable {α:Type}
def rZ(H:Nat->Option bg):List bg->Nat->Bool
 |[],_=>true
 |B::r,i=>cond B.1 (match H i with|some (true,_)=>rZ H r (i+1)|_=>false) (rZ H r (i+1))
def U2(tab:iL)(rs:List ResultVar)(Bs:List bg)(nb:Nat)(Fs:List Nat)(st:St)(k:TV->List (List Seg)->List (List Seg)->Option α):Option α:=
 match IG tab st rs with
 |none=>none
 |some vals=>
  let v:=oneOf vals
  let news:=R7 st.H nb (v.nm++rO st.H Fs)
  cond (nodupB news&&(oH st.H nb news v.nm&&(oH st.H nb news (rO st.H Fs)&&(oH st.H nb news (rO st.H news)&&(rZ st.H Bs 0&&(BB st.H Bs 0&&news.all λb=>match st.H b with|some (true,_)=>true|_=>false))))))
   (k (v.ren (fE nb news)) (Fs.map λb=>dP (fE nb news) (cont st.H b)) (news.map λb=>dP (fE nb news) (cont st.H b))) none
def st0(args:List TV)(Bs:List bg)(n:Nat):St:={T:=λt=>match nth args t with|some x=>x|none=>Cm,H:=λb=>nth Bs b,n:=n}
def Nn(tab:iL)(h:Hd)(fn:Func)(args:List TV)(Bs:List bg)(k:TV->List (List Seg)->List (List Seg)->Option α):Option α:=
 match fn.body with
 |none=>none
 |some c=>cond (Nat.ble args.length fn.ntmps&&Nat.ble Bs.length 1000)
   (ev tab h c (st0 args Bs fn.ntmps) λe st=>match e with
    | .exit _=>none
    |_=>U2 tab fn.results.toList Bs Bs.length (List.range Bs.length) st k) none
end
theorem anV{tab:iL}(ht:a_ P tab){w0:World}{S:List Nat}{nb:Nat}{idb ids:bF}{st:St}{a:Act}{w:World}(hr:eP w0 S nb idb ids st a w){b o:Nat}{B:bg}{R:List Seg}{t:TypeId}{x:Val}
  (hB:st.H b=some B) (hR:gY B.2 o=some R) (h:YC tab t R=some x):
  ∃v,(loadVar t ⟨(ids b).1,(ids b).2.1+o,none⟩).run P w= .ok v w/\x.R ids v/\∀c∈x.nm,(st.H c).isSome=true:=by
 obtain⟨q1,q2,q3,q4⟩:=dW (hr.blk b B hB).1 hR
 unfold YC at h
 cases hs:has tab.GK t with
 |true=>
  rw[hs] at h
  simp only[cond_true] at h
  split at h
  .rename_i y R'
   obtain rfl:=Option.some.inj h
   obtain⟨⟨d,hu,hd⟩,i,hi,hsz⟩:=ht.GK t hs
   obtain⟨_,_,_,hc⟩:=hr.blk b B hB
   have hy:(af B.2)[o]? =some y:=by
    have hz:(af (Seg.one y::R'))[0]? =some y:=by simp[af,Seg.cells]
    rw[q2,List.getElem?_drop] at hz
    simpa using hz
   obtain⟨v,g1,g2,_⟩:=hc o y hy
   refine⟨v, ?_,g2,λc hc'=>hr.pz b B hB c (gD _ y (List.mem_of_getElem? hy) c hc')⟩
   simp[loadVar,gG hu,hd,g1]
  .cases h
 |false=>
  rw[hs] at h
  simp only[cond_false] at h
  split at h
  .rename_i n hn
   simp only[Option.map_eq_some_iff] at h
   obtain⟨l,hl,rfl⟩:=h
   obtain⟨p1,p2,p3,p4⟩:=kC q3 hl
   obtain⟨⟨d,hu,hd⟩,i,hi,hsz⟩:=ht.agg t n hn
   have hlen:o+n<=(af B.2).length:=by rw[q2] at p1;simp at p1;omega
   obtain⟨cs,g1,g2⟩:=fD (P:=P) hr hB hlen
   refine⟨.agg cs, ?_,⟨cs,rfl,p3,by rw[p2,q2];exact g2⟩,λc hc=>hr.pz b B hB c (q4 c (p4 c hc))⟩
   simp[loadVar,gG hu,hd,sizeOf,typeInfo,hi,hsz,g1]
  .cases h
def yX(tmps:Array Value):ResultVar->Sem Value
 | .tmp t=>pure (tmps.getD t undef)
 | .cell a t=>do loadVar t (<-asAddr (tmps.getD a undef))
theorem II{tab:iL}(ht:a_ P tab){w0:World}{S:List Nat}{nb:Nat}{idb ids:bF}{st:St}{a:Act}{w:World}(hr:eP w0 S nb idb ids st a w):
  ∀(rs:List ResultVar) (xs:List Val),IG tab st rs=some xs->∃vs,(rs.mapM (yX a.tmps)).run P w= .ok vs w/\M8 ids xs vs/\(∀c∈xs.flatMap Val.nm,(st.H c).isSome=true)/\vs.length=xs.length
 |[],xs,h=>by
  simp only[IG,Option.some.injEq] at h;subst h
  exact⟨[],by simp,trivial,by simp,rfl⟩
 |r::rs,xs,h=>by
  simp only[IG] at h
  split at h
  .rename_i x hx
   split at h
   .rename_i xs' hxs
    obtain rfl:=Option.some.inj h
    obtain⟨vs,h1,h2,h3,h4⟩:=II ht hr rs xs' hxs
    have hone:∃v,(yX a.tmps r).run P w= .ok v w/\x.R ids v/\∀c∈x.nm,(st.H c).isSome=true:=by
     cases r with
     |tmp t=>
      simp only[ahK] at hx
      split at hx
      .rename_i y hy
       obtain rfl:=Option.some.inj hx
       have e1:=hr.tmps t;have e2:=hr.yZ t
       rw[hy] at e1 e2
       exact⟨_,rfl,e1,e2⟩
      .cases hx
     |cell t ty=>
      simp only[ahK] at hx
      split at hx
      .rename_i b o hp
       split at hx
       .rename_i B hB
        split at hx
        .rename_i R hR
         obtain⟨v,g1,g2,g3⟩:=anV ht hr hB hR hx
         have e1:=hr.tmps t
         rw[hp] at e1
         have e1':a.tmps.getD t undef= .pointer (some ⟨(ids b).1,(ids b).2.1+o,none⟩):=e1
         refine⟨v, ?_,g2,g3⟩
         simp only[yX,Sem.run_bind,e1',asAddr,Sem.run_pure,Result.andThen_ok]
         exact g1
        .cases hx
       .cases hx
      .cases hx
    obtain⟨v,g1,g2,g3⟩:=hone
    refine⟨v::vs, ?_,⟨g2,h2⟩,λc hc=> ?_,by simp[h4]⟩
    .rw[List.mapM_cons];simp[g1,h1]
    .simp only[List.flatMap_cons,List.mem_append] at hc
     rcases hc with hc|hc
     .exact g3 c hc
     .exact h3 c hc
   .cases h
  .cases h
theorem Xx{fn:Func}{tmps:Array Value}{w:World}{vs:List Value}(h:(fn.results.toList.mapM (yX tmps)).run P w= .ok vs w):
  (results fn tmps).run P w= .ok (if hh:vs.length=1 then vs[0] else .tuple vs.toArray) w:=by
 have hm:(fn.results.mapM (yX tmps)).run P w= .ok vs.toArray w:=by
  rw[Array.mapM_eq_mapM_toList]
  simp[h]
 have hres:results fn tmps=(do let vs<-fn.results.mapM (yX tmps);pure (if h:vs.size=1 then vs[0] else .tuple vs)):=by
  unfold results yX
  congr 1
 rw[hres,Sem.run_bind,hm]
 simp
theorem asr{ids:bF}:∀{xs:List Val} {vs:List Value},M8 ids xs vs->xs≠ []->(oneOf xs).R ids (if hh:vs.length=1 then vs[0] else .tuple vs.toArray)
 |[x],[v],h,_=>h.1
 |x::y::xs,v::u::vs,h,_=>by
  simp only[oneOf,TV.R]
  exact⟨(v::u::vs).toArray,by simp,by simpa using h⟩
 |[x],v::u::vs,h,_=>h.2.elim
 |x::y::xs,[v],h,_=>h.2.elim
 |[],_,_,hne=>absurd rfl hne
 |_::_,[],h,_=>h.elim
theorem aok{ids:bF}{vs:List Value}(h:M8 ids [] vs):(oneOf []).R ids (if hh:vs.length=1 then vs[0] else .tuple vs.toArray):=by
 cases vs with
 |nil=>exact⟨#[],rfl,trivial⟩
 |cons v vs=>exact h.elim
theorem afd{ids:bF}:∀{Bs:List bg} {i j:Nat} {B:List Seg},Bs[j]? =some (true,B)->Lv B->(ids (i+j)).1∈Eb ids Bs i
 |[],i,j,B,h,_=>by simp at h
 |(b,C)::r,i,0,B,h,hl=>by simp at h;obtain⟨rfl,rfl⟩:=h;simp[Eb,aeQ.2 hl]
 |(b,C)::r,i,j+1,B,h,hl=>by
  have:=afd (ids:=ids) (Bs:=r) (i:=i+1) (j:=j) (by simpa using h) hl
  rw[show i+1+j=i+(j+1) by omega] at this
  cases hb:(b&&lvB C)<;>simp[Eb,this,hb]
theorem agy{ids:bF}{Bs:List bg}{w:World}{args:List TV}{cargs:List Value}{n:Nat}(hH:uw ids Bs w)(hA:Cz ids args cargs)(hnm:∀x∈args,∀b∈x.nm,b<Bs.length)(hl:Bs.length<=1000)(hg:gQ w (mh w ids Bs))(hn:args.length<=n):
  eP w (mh w ids Bs) Bs.length ids ids (st0 args Bs n) {tmps:=cargs.toArray++Array.replicate (n-cargs.toArray.size) undef,defers:=[]} w:=by
 have hlen:∀{xs:List TV} {vs:List Value},Cz ids xs vs->xs.length=vs.length:=by
  intro xs
  induction xs with
  |nil=>intro vs h;cases vs<;>first|rfl|exact h.elim
  |cons x xs ih=>intro vs h;cases vs<;>first|exact h.elim|(simp[ih h.2])
 have hcl:=hlen hA
 have hget:∀{xs:List TV} {vs:List Value} (t:Nat),Cz ids xs vs->(match nth xs t with|some x=>x|none=>Cm).R ids (vs.getD t undef):=by
  intro xs
  induction xs with
  |nil=>intro vs t h;trivial
  |cons x xs ih=>
   intro vs t h
   cases vs with
   |nil=>exact h.elim
   |cons v vs=>
    cases t with
    |zero=>simpa[nth] using h.1
    |succ t=>simpa[nth] using ih t h.2
 refine⟨⟨rfl,rfl,rfl,Nat.le_refl _,λ_ _ _=>rfl⟩,(by simp[st0];omega),rfl,λt=> ?_,λ_ _=>rfl,λb B hb=>hH.blk b B (by rw[<-gm];exact hb),λb c B C hb hc hne=>hH.sep b c B C (by rw[<-gm];exact hb) (by rw[<-gm];exact hc) hne,
  λb B hb hlv=> ?_,λt b hb=> ?_,λc B hc b hb=> ?_,⟨hl,hg⟩, ?_⟩
 .have h1:=hget (vs:=cargs) t hA
  by_cases ht:t<cargs.length
  .have:(cargs.toArray++Array.replicate (n-cargs.toArray.size) undef).getD t undef=cargs.getD t undef:=by
    simp[Array.getElem?_append,ht]
   show TV.R ids _ ((cargs.toArray++Array.replicate (n-cargs.toArray.size) undef).getD t undef)
   rw[this];exact h1
  .have:nth args t=none:=by rw[gm,List.getElem?_eq_none];omega
   simp only[st0,this]
   trivial
 .left
  have:=afd (ids:=ids) (Bs:=Bs) (i:=0) (j:=b) (B:=B) (by rw[<-gm];exact hb) hlv
  exact List.mem_append_left _ (by simpa using this)
 .show((λb=>nth Bs b) b).isSome=true
  have hb':b<Bs.length:=by
   simp only[st0] at hb
   split at hb
   .rename_i x hx
    rw[gm] at hx
    exact hnm x (List.mem_of_getElem? hx) b hb
   .cases hb
  simp[gm,hb']
 .show((λb=>nth Bs b) b).isSome=true
  have:=hH.cl c B (by rw[<-gm];exact hc) b hb
  simp[gm,this]
 .have he:(st0 args Bs n).H=λi=>Bs[i]? :=by funext i;exact gm Bs i
  rw[he]
  exact⟨hH.hid.fl,hH.hid.rel,λb B hb g hg=>(hH.hid.own b B hb g hg).imp_left λh=>List.mem_append_right _ h,hH.hid.sepL,hH.hid.sW⟩
theorem IY{H:Nat->Option bg}:∀{Bs:List bg} {i0:Nat},rZ H Bs i0=true->∀j B,Bs[j]? =some (true,B)->∃C,H (i0+j)=some (true,C)
 |[],i0,_,j,B,h=>by simp at h
 |(b,C)::r,i0,hf,j,B,h=>by
  simp only[rZ] at hf
  cases j with
  |zero=>
   simp only[List.getElem?_cons_zero,Option.some.injEq,Prod.mk.injEq] at h
   obtain⟨rfl,rfl⟩:=h
   simp only[cond_true] at hf
   split at hf
   .rename_i D hD;exact⟨D,hD⟩
   .cases hf
  |succ j=>
   have hr:rZ H r (i0+1)=true:=by
    cases b with
    |false=>exact hf
    |true=>
     simp only[cond_true] at hf
     split at hf
     .exact hf
     .cases hf
   obtain⟨D,hD⟩:=IY hr j B (by simpa using h)
   exact⟨D,by rw[show i0+(j+1)=i0+1+j by omega];exact hD⟩
theorem rR{H:Nat->Option bg}{nb:Nat}{news bs:List Nat}(h:oH H nb news bs=true):∀b∈bs,b<nb\/b∈news:=by
 intro b hb
 simp only[oH,List.all_eq_true,Bool.or_eq_true] at h
 rcases h b hb with h|h
 .exact .inl (by simpa using h)
 .exact .inr (jB h)
theorem yj{H:Nat->Option bg}:∀{l:List Nat} {b:Nat} {B:bg},b∈l->H b=some B->∀c∈fo B.2,c∈rO H l
 |c::l,b,B,hb,hH,x,hx=>by
  simp only[rO,List.mem_append]
  rcases List.mem_cons.1 hb with rfl|hb
  .left;rw[hH];exact hx
  .exact .inr (yj hb hH x hx)
theorem agi{H:Nat->Option bg}{nb:Nat}{ws:List Nat}:∀b∈R7 H nb ws,nb<=b:=by
 intro b hb
 simp only[R7,List.mem_filter,Bool.not_eq_true'] at hb
 have:=hb.2
 rcases Nat.lt_or_ge b nb with h|h
 .rw[show Nat.blt b nb=true by simpa using h] at this;cases this
 .exact h
theorem OZ{ids:bF}{Bs:List bg}{w:World}(hH:uw ids Bs w){g:Nat}(h:g∈mh w ids Bs):∃m D,Bs[m]? =some (true,D)/\oU w ids m D g:=by
 rcases List.mem_append.1 h with h|h
 .obtain⟨m,D,h1,h2,h3⟩:=vz h
  rw[Nat.zero_add] at h3
  exact⟨m,D,h1, .inl ⟨h2,h3⟩⟩
 .obtain⟨m,D,h1,h2⟩:=Bv h
  rw[Nat.zero_add] at h2
  obtain⟨wr,D⟩:=D
  have:=hH.hid.fl m _ h1 (by
   obtain⟨E,ll,hh,he⟩:=lK h2
   rw[he];rfl)
  simp only at this
  subst this
  exact⟨m,D,h1, .inr h2⟩
theorem uw.Dt{ids:bF}{Bs:List bg}{w:World}(hH:uw ids Bs w){i:Nat}{B:bg}{g:Nat}(hb:Bs[i]? =some B)(h:oU w ids i B.2 g):g<w.heap.size:=by
 rcases h with⟨l1,h1⟩|h1
 .rw[h1];exact(hH.blk i B hb).2.2.1 l1
 .exact(hH.hid.rel i B hb).lt g h1
theorem uw.quiet{ids:bF}{Bs:List bg}{w w':World}(hH:uw ids Bs w)(hk:Keeps w w' (mh w ids Bs)){i:Nat}{B:List Seg}{g:Nat}(hb:Bs[i]? =some (false,B))(h:oU w ids i B g):w'.heap[g]? =w.heap[g]? :=by
 refine hk.block g (hH.Dt hb h) λhw=> ?_
 obtain⟨m,D,h1,h2⟩:=OZ hH hw
 exact hH.LH h1 hb (by rintro rfl;rw[h1] at hb;cases hb) h2 h
theorem Au{α:Type}{tab:iL}{h:Hd}(ht:a_ P tab)(hc:h.ah P)(hm:P.follows .mixedOrders=true){f:FuncId}{fn:Func}(hf:P.funcs[f]? =some fn)
  (hname:(fn.name== "runtime.NumGoroutine")=false) (hl:∀c,fn.body=some c->eO P h c) {args:List TV} {Bs:List bg} {k:TV->List (List Seg)->List (List Seg)->Option α} {r:α} {c:Code} (hbody:fn.body=some c)
  (hcond:(Nat.ble args.length fn.ntmps&&Nat.ble Bs.length 1000)=true) {st1:St} (hto:∀w0 S nb idb a w,iY w0 S nb idb (st0 args Bs fn.ntmps) a w->iY w0 S nb idb st1 a w)
  (hev:(ev tab h c st1 λe st=>match e with
    | .exit _=>none
    |_=>U2 tab fn.results.toList Bs Bs.length (List.range Bs.length) st k)=some r):∃v Bs' Ns,k v Bs' Ns=some r/\Yd P f args Bs v Bs' Ns:=by
   simp only[Bool.and_eq_true] at hcond
   obtain⟨e,stF,hend,hcode⟩:=jV ht hc hm c _ _ r (hl c hbody) hev
   have hend':U2 tab fn.results.toList Bs Bs.length (List.range Bs.length) stF k=some r/\(e= .normal\/e= .ret):=by
    cases e with
    |normal=>exact⟨hend, .inl rfl⟩
    |ret=>exact⟨hend, .inr rfl⟩
    |exit id=>cases hend
   obtain⟨hend,he⟩:=hend'
   unfold U2 at hend
   split at hend
   .cases hend
   .rename_i vals hvals
    simp only at hend
    generalize hnews:R7 stF.H Bs.length ((oneOf vals).nm++rO stF.H (List.range Bs.length))=news at hend
    cases hchk:(nodupB news&&(oH stF.H Bs.length news (oneOf vals).nm&&(oH stF.H Bs.length news (rO stF.H (List.range Bs.length))&&(oH stF.H Bs.length news (rO stF.H news)&&
      (rZ stF.H Bs 0&&(BB stF.H Bs 0&&news.all λb=>match stF.H b with|some (true,_)=>true|_=>false)))))) with
    |false=>rw[hchk] at hend;cases hend
    |true=>
     rw[hchk] at hend
     simp only[cond_true] at hend
     simp only[Bool.and_eq_true] at hchk
     obtain⟨k1,k2,k3,k4,k5,k7,k6⟩:=hchk
     refine⟨_,_,_,hend,by simp,⟨fn,hf,by rw[hbody];rfl,hname⟩,λids w cargs hH hA hnm hle hgl=> ?_⟩
     have hnd:=yT k1
     have c2:=rR k2
     have c3:=rR k3
     have c4:=rR k4
     have c5:=IY k5
     have c7:=KI k7
     have hge:∀b∈news,Bs.length<=b:=by rw[<-hnews];exact agi
     have c6:∀b∈news,∃C,stF.H b=some (true,C):=by
      intro b hb
      simp only[List.all_eq_true] at k6
      have:=k6 b hb
      split at this
      .rename_i C hC;exact⟨C,hC⟩
      .cases this
     have hstart:=agy hH hA hnm hle hgl (Nat.le_of_ble_eq_true hcond.1)
     refine calls_of_wp hf hbody (wp_mono (hcode w (mh w ids Bs) Bs.length ids _ w (hto _ _ _ _ _ _ ⟨ids,hstart⟩)) ?_)
     rintro e' a' w' ⟨rfl,idsF,hr⟩
     obtain⟨vs,r1,r2,r3,r4⟩:=II ht hr fn.results.toList vals hvals
     have hres:=Xx r1
     generalize hcv:(if hh:vs.length=1 then vs[0] else Value.tuple vs.toArray)=cv at hres
     have hval:(oneOf vals).R idsF cv:=by
      rw[<-hcv]
      cases vals with
      |nil=>exact aok r2
      |cons x xs=>exact asr r2 (by simp)
     have hbp:bodyPost P fn (λe w'=>∃ids' cv',e= .returned cv'/\abk Bs ((oneOf vals).ren (fE Bs.length news)) ((List.range Bs.length).map λb=>dP (fE Bs.length news) (cont stF.H b))
       (news.map λb=>dP (fE Bs.length news) (cont stF.H b)) ids w ids' cv' w') .ret a' w':=by
      refine⟨hr.defers,cv,hres,λi=>cond (Nat.blt i Bs.length) (idsF i) (idsF (news.getD (i-Bs.length) 0)),cv,rfl, ?_⟩
      have hlow:∀i,i<Bs.length->(cond (Nat.blt i Bs.length) (idsF i) (idsF (news.getD (i-Bs.length) 0)))=idsF i:=λi hi=>by
       rw[show Nat.blt i Bs.length=true by simpa using hi];rfl
      have hhigh:∀j,(cond (Nat.blt (Bs.length+j) Bs.length) (idsF (Bs.length+j)) (idsF (news.getD (Bs.length+j-Bs.length) 0)))=idsF (news.getD j 0):=λj=>by
       rw[kU (show¬Bs.length+j<Bs.length by omega)]
       show idsF _=_
       congr 2;omega
      have hto:∀b,(b<Bs.length\/b∈news)->(λi=>cond (Nat.blt i Bs.length) (idsF i) (idsF (news.getD (i-Bs.length) 0))) (fE Bs.length news b)=idsF b/\fE Bs.length news b<Bs.length+news.length:=by
       intro b hb
       by_cases hlt:b<Bs.length
       .have:fE Bs.length news b=b:=by unfold fE;rw[show Nat.blt b Bs.length=true by simpa using hlt];rfl
        rw[this];exact⟨hlow b hlt,by omega⟩
       .have hbn:b∈news:=hb.resolve_left hlt
        have:fE Bs.length news b=Bs.length+idx news b:=by unfold fE;rw[kU hlt];rfl
        rw[this]
        obtain⟨h1,h2⟩:=pM hbn
        refine⟨?_,by omega⟩
        have:=hhigh (idx news b)
        simp only at this|-
        rw[this,h2]
      have hsame:∀i,i<Bs.length->idsF i=ids i:=hr.Fs
      have hblkF:∀(b:Nat) (C:bg),stF.H b=some C->(b<Bs.length\/b∈news)->∀q,(cond (Nat.blt q Bs.length) (idsF q) (idsF (news.getD (q-Bs.length) 0)))=idsF b->
        (∀c∈fo C.2,c<Bs.length\/c∈news)->rC (λi=>cond (Nat.blt i Bs.length) (idsF i) (idsF (news.getD (i-Bs.length) 0))) w' q (C.1,dP (fE Bs.length news) C.2):=by
       intro b C hC hb q hq hn
       obtain⟨g1,gg,g2,g3⟩:=hr.blk b C hC
       refine⟨wW.2 g1,by simp only[hq];exact gg.ren,by simp only[hq];exact λhl=>g2 (dU.1 hl),λj x hx=> ?_⟩
       simp only[lF,List.getElem?_map,Option.map_eq_some_iff] at hx
       obtain⟨y,hy,rfl⟩:=hx
       obtain⟨u,u1,u2,u3⟩:=g3 j y hy
       simp only[hq]
       exact⟨u,u1,SV.mJ.2 (u2.congr λc hc=>(hto c (hn c (gD _ y (List.mem_of_getElem? hy) c hc))).1),u3⟩
      have hnget:∀j,j<news.length->news.getD j 0∈news:=λj hj=>by
       have:news[j]? =some (news.getD j 0):=by simp[List.getElem?_eq_getElem hj]
       exact List.mem_of_getElem? this
      have hlenA:(dN Bs ((List.range Bs.length).map λb=>dP (fE Bs.length news) (cont stF.H b))).length=Bs.length:=eT (by simp)
      have hAfter:∀i (hi:i<Bs.length),(dN Bs ((List.range Bs.length).map λb=>dP (fE Bs.length news) (cont stF.H b)))[i]? =some (Bs[i].1,cond Bs[i].1 (dP (fE Bs.length news) (cont stF.H i)) Bs[i].2):=λi hi=>
       rJ (by simp[hi]) (by simp[hi])
      have hent:∀(i:Nat) (B:bg),(dN Bs ((List.range Bs.length).map λb=>dP (fE Bs.length news) (cont stF.H b))++(news.map λb=>dP (fE Bs.length news) (cont stF.H b)).map λN=>(true,N))[i]? =some B->
        (i<Bs.length/\∃B0,Bs[i]? =some B0/\B.1=B0.1/\((B0.1=true/\∃C,stF.H i=some (true,C)/\B.2=dP (fE Bs.length news) C)\/(B0.1=false/\B.2=B0.2)))\/
        (∃j,j<news.length/\i=Bs.length+j/\∃C,stF.H (news.getD j 0)=some (true,C)/\B=(true,dP (fE Bs.length news) C)):=by
       intro i B hB
       by_cases hi:i<Bs.length
       .left
        rw[List.getElem?_append_left (by rw[hlenA];exact hi),hAfter i hi] at hB
        obtain rfl:=Option.some.inj hB
        refine⟨hi,Bs[i],by simp[hi],rfl, ?_⟩
        cases hwr:Bs[i].1 with
        |true=>
         left
         obtain⟨C,hC⟩:=c5 i Bs[i].2 (by rw[List.getElem?_eq_getElem hi,<-hwr])
         rw[Nat.zero_add] at hC
         exact⟨rfl,C,hC,by simp[cont,hC]⟩
        |false=>right;exact⟨rfl,rfl⟩
       .right
        rw[List.getElem?_append_right (by rw[hlenA];omega),hlenA,List.getElem?_map,List.getElem?_map] at hB
        simp only[Option.map_eq_some_iff] at hB
        obtain⟨N,⟨b,hb,rfl⟩,rfl⟩:=hB
        have hjl:i-Bs.length<news.length:=(List.getElem?_eq_some_iff.1 hb).1
        have hgb:news.getD (i-Bs.length) 0=b:=by simp[List.getD,hb]
        obtain⟨C,hC⟩:=c6 b (List.mem_of_getElem? hb)
        exact⟨i-Bs.length,hjl,by omega,C,by rw[hgb];exact hC,by simp[cont,hC]⟩
      have hrange:∀i,i<Bs.length->∀C,stF.H i=some C->∀c∈fo C.2,c<Bs.length\/c∈news:=λi hi C hC c hc=>c3 c (yj (List.mem_range.2 hi) hC c hc)
      have hnewsn:∀b∈news,∀C,stF.H b=some C->∀c∈fo C.2,c<Bs.length\/c∈news:=λb hb C hC c hc=>c4 c (yj hb hC c hc)
      have hmid:∀(i:Nat) (B:bg) (g:Nat),(dN Bs ((List.range Bs.length).map λb=>dP (fE Bs.length news) (cont stF.H b))++(news.map λb=>dP (fE Bs.length news) (cont stF.H b)).map λN=>(true,N))[i]? =some B->
        oU w' (λi=>cond (Nat.blt i Bs.length) (idsF i) (idsF (news.getD (i-Bs.length) 0))) i B.2 g->
        (∃b C,stF.H b=some (true,C)/\oU w' idsF b C g/\B=(true,dP (fE Bs.length news) C)/\((i<Bs.length/\b=i)\/(Bs.length<=i/\Bs.length<=b/\news[i-Bs.length]? =some b)))\/
        (∃B0,Bs[i]? =some (false,B0)/\oU w ids i B0 g):=by
       intro i B g hB hg
       rcases hent i B hB with⟨hi,B0,hB0,e1,⟨e2,C,hC,e3⟩|⟨e2,e3⟩⟩|⟨j,hj,rfl,C,hC,rfl⟩
       .refine .inl ⟨i,C,hC, ?_,Prod.ext (e1.trans e2) e3, .inl ⟨hi,rfl⟩⟩
        unfold oU at*
        rw[e3,gV] at hg
        simp only[hlow i hi] at hg
        exact hg.imp_left λh=>⟨dU.1 h.1,h.2⟩
       .obtain⟨wr,B0⟩:=B0
        simp only at e2 e3
        subst e2
        refine .inr ⟨B0,hB0, ?_⟩
        unfold oU at*
        rw[e3] at hg
        simp only[hlow i hi] at hg
        rw[hsame i hi] at hg
        refine hg.imp_right λh=> ?_
        rwa[fF λhm=>hH.quiet hr.keeps hB0 (.inr hm)] at h
       .refine .inl ⟨_,C,hC, ?_,rfl, .inr ⟨by omega,hge _ (hnget j hj),by rw[show Bs.length+j-Bs.length=j by omega];simp[List.getElem?_eq_getElem hj]⟩⟩
        unfold oU at*
        rw[gV] at hg
        simp only[hhigh] at hg
        exact hg.imp_left λh=>⟨dU.1 h.1,h.2⟩
      have hsepA:∀(i j:Nat) (B:List Seg) (C:bg) (g:Nat),(dN Bs ((List.range Bs.length).map λb=>dP (fE Bs.length news) (cont stF.H b))++(news.map λb=>dP (fE Bs.length news) (cont stF.H b)).map λN=>(true,N))[i]? =some (true,B)->
        (dN Bs ((List.range Bs.length).map λb=>dP (fE Bs.length news) (cont stF.H b))++(news.map λb=>dP (fE Bs.length news) (cont stF.H b)).map λN=>(true,N))[j]? =some C->i≠j->
        oU w' (λi=>cond (Nat.blt i Bs.length) (idsF i) (idsF (news.getD (i-Bs.length) 0))) i B g->oU w' (λi=>cond (Nat.blt i Bs.length) (idsF i) (idsF (news.getD (i-Bs.length) 0))) j C.2 g->False:=by
       intro i j B C g hB hC hne h1 h2
       have hflag:∀B0,Bs[i]? =some (false,B0)->False:=by
        intro B0 h0
        have hi:i<Bs.length:=(List.getElem?_eq_some_iff.1 h0).1
        rw[List.getElem?_append_left (by rw[hlenA];exact hi),hAfter i hi] at hB
        have:=congrArg Prod.fst (Option.some.inj hB)
        rw[List.getElem?_eq_getElem hi] at h0
        rw[Option.some.inj h0] at this
        cases this
       rcases hmid i _ g hB h1 with⟨b,D,b1,b2,b3,b4⟩|⟨B0,b1,b2⟩
       .rcases hmid j _ g hC h2 with⟨c,E,d1,d2,d3,d4⟩|⟨C0,d1,d2⟩
        .refine hr.LH b1 d1 (λe=> ?_) b2 d2
         subst e
         rcases b4 with⟨b4,b5⟩|⟨b4,b5,b6⟩<;>rcases d4 with⟨d4,d5⟩|⟨d4,d5,d6⟩
         .exact hne (b5.symm.trans d5)
         .omega
         .omega
         .have:=wU hnd b6 d6
          exact hne (by omega)
        .rcases hr.oV b1 b2 with h|h
         .obtain⟨m,F,f1,f2⟩:=OZ hH h
          exact hH.LH f1 d1 (by rintro rfl;rw[f1] at d1;cases d1) f2 d2
         .have:=hH.Dt d1 d2;omega
       .exact hflag _ b1
      have hAfl:∀(i:Nat) (B:bg),(dN Bs ((List.range Bs.length).map λb=>dP (fE Bs.length news) (cont stF.H b))++(news.map λb=>dP (fE Bs.length news) (cont stF.H b)).map λN=>(true,N))[i]? =some B->gB B.2=false->B.1=true:=by
       intro i B hB hno
       rcases hent i B hB with⟨hi,B0,hB0,e1,⟨e2,C,hC,e3⟩|⟨e2,e3⟩⟩|⟨j,hj,rfl,C,hC,rfl⟩
       .exact e1.trans e2
       .rw[e3] at hno;exact e1.trans (hH.hid.fl i B0 hB0 hno)
       .rfl
      have hAfl':∀(i:Nat) (B:bg) (p:Nat×Nat×Nat×Nat) (g:Nat),(dN Bs ((List.range Bs.length).map λb=>dP (fE Bs.length news) (cont stF.H b))++(news.map λb=>dP (fE Bs.length news) (cont stF.H b)).map λN=>(true,N))[i]? =some B->g∈foot w' p B.2->B=(true,B.2):=
       λi B p g hB hg=>Prod.ext (hAfl i B hB (by
        obtain⟨E,ll,hh,he⟩:=lK hg
        rw[he];rfl)) rfl
      refine⟨λi hi=> ?_, ?_,⟨λi B hB=> ?_,λi j B C hB hC hne=> ?_,λi B hB b hb=> ?_,⟨hAfl,λi B hB=> ?_,λi B hB g hg=> .inl (Bw (i:=0) hB (by rw[Nat.zero_add];exact hg)),λi j B C hB hC lc hg=> ?_,λi j B C hB hC hne g hg hg2=> ?_⟩⟩,hr.keeps,λi B C hB hC hl=> ?_,λj N hj hl=> ?_,λi B hB g hg=> ?_,λb hb=> ?_⟩
      .simp only[hlow i hi];exact hsame i hi
      .exact TV.mJ.2 (hval.congr λb hb=>(hto b (c2 b hb)).1)
      .rcases hent i B hB with⟨hi,B0,hB0,e1,⟨e2,C,hC,e3⟩|⟨e2,e3⟩⟩|⟨j,hj,rfl,C,hC,rfl⟩
       .have:=hblkF i (true,C) hC (.inl hi) i (hlow i hi) (hrange i hi _ hC)
        rw[show B=(true,dP (fE Bs.length news) C) from Prod.ext (e1.trans e2) e3]
        exact this
       .have h0:=hH.blk i B0 hB0
        have hBB:B=B0:=Prod.ext e1 e3
        rw[hBB]
        refine h0.congr (by simp only[hlow i hi];exact hsame i hi) (λc hc=> ?_) hr.keeps.size (λhlv=> ?_)
        .have:=hH.cl i B0 hB0 c hc
         simp only[hlow c this];exact hsame c this
        .obtain⟨wr,B0⟩:=B0
         simp only at e2
         subst e2
         exact hH.quiet hr.keeps hB0 (.inl ⟨hlv,rfl⟩)
       .exact hblkF (news.getD j 0) (true,C) hC (.inr (hnget j hj)) (Bs.length+j) (hhigh j) (hnewsn _ (hnget j hj) _ hC)
      .intro lb lc e
       exact hsepA i j B C _ hB hC hne (.inl ⟨lb,rfl⟩) (.inl ⟨lc,e⟩)
      .have hlenT:(dN Bs ((List.range Bs.length).map λb=>dP (fE Bs.length news) (cont stF.H b))++(news.map λb=>dP (fE Bs.length news) (cont stF.H b)).map λN=>((true,N):bg)).length=Bs.length+news.length:=by
        rw[List.length_append,hlenA];simp
       rw[hlenT]
       rcases hent i B hB with⟨hi,B0,hB0,e1,⟨e2,C,hC,e3⟩|⟨e2,e3⟩⟩|⟨j,hj,rfl,C,hC,rfl⟩
       .rw[e3,sU,List.mem_map] at hb
        obtain⟨c,hc,rfl⟩:=hb
        exact(hto c (hrange i hi _ hC c hc)).2
       .rw[e3] at hb
        have:=hH.cl i B0 hB0 b hb;omega
       .simp only[sU,List.mem_map] at hb
        obtain⟨c,hc,rfl⟩:=hb
        exact(hto c (hnewsn _ (hnget j hj) _ hC c hc)).2
      .rcases hent i B hB with⟨hi,B0,hB0,e1,⟨e2,C,hC,e3⟩|⟨e2,e3⟩⟩|⟨j,hj,rfl,C,hC,rfl⟩
       .rw[e3]
        exact(hr.hid.rel i _ hC).ren (by simp only[hlow i hi]) λc hc=>(hto c (hrange i hi _ hC c hc)).1
       .refine .BN ?_
        cases hno:gB B.2 with
        |true=>rfl
        |false=>
         have:=hAfl i B hB hno
         rw[e1,e2] at this;cases this
       .exact(hr.hid.rel _ _ hC).ren (by simp only[hhigh j]) λc hc=>(hto c (hnewsn _ (hnget j hj) _ hC c hc)).1
      .have hB':=hAfl' i B _ _ hB hg
       rw[hB'] at hB hg
       refine hsepA i j _ C _ hB hC (λe=> ?_) (.inr hg) (.inl ⟨lc,rfl⟩)
       subst e
       rw[hB] at hC
       obtain rfl:=Option.some.inj hC
       obtain⟨E,ll,hh,he⟩:=lK hg
       dsimp only at he lc
       rw[he] at lc
       exact lc
      .have hB':=hAfl' i B _ _ hB hg
       rw[hB'] at hB hg
       exact hsepA i j _ C _ hB hC hne (.inr hg) (.inr hg2)
      .have hi:i<Bs.length:=(List.getElem?_eq_some_iff.1 hB).1
       obtain⟨D,hD⟩:=c5 i B hB
       rw[Nat.zero_add] at hD
       simp only[List.getElem?_map,List.getElem?_range hi,Option.map_some,Option.some.injEq] at hC
       subst hC
       rw[show cont stF.H i=D by simp[cont,hD]] at hl
       have lD:=dU.1 hl
       refine WM (c7 i B (true,D) hB (by rw[Nat.zero_add];exact hD)) lD λE1 l1 E2 l2 h1 h2=> ?_
       have b1:=(hH.blk i _ hB).2.1
       have b2:=(hr.blk i _ hD).2.1
       simp only at h2
       subst h1;subst h2
       rw[<-b1.1,<-b2.1,hsame i hi]
      .have hjl:j<news.length:=by simpa using(List.getElem?_eq_some_iff.1 hj).1
       obtain⟨C,hC⟩:=c6 _ (hnget j hjl)
       simp only[List.getElem?_map,List.getElem?_eq_getElem hjl,Option.map_some,Option.some.injEq] at hj
       have hgd:news.getD j 0=news[j]:=by simp[List.getElem?_eq_getElem hjl]
       rw[<-hgd,show cont stF.H (news.getD j 0)=C by unfold cont;rw[hC]] at hj
       subst hj
       have:=(hr.own _ C hC (dU.1 hl)).imp_right And.right
       simp only[hhigh];exact this.symm
      .rcases hmid i B g hB (.inr hg) with⟨b,C,b1,b2,b3,b4⟩|⟨B0,b1,b2⟩
       .exact(hr.oV b1 b2).symm
       .have hB':=hAfl' i B _ _ hB hg
        have hi:i<Bs.length:=(List.getElem?_eq_some_iff.1 b1).1
        rw[List.getElem?_append_left (by rw[hlenA];exact hi),hAfter i hi] at hB
        have:=congrArg Prod.fst (Option.some.inj hB)
        rw[List.getElem?_eq_getElem hi] at b1
        rw[Option.some.inj b1,hB'] at this
        cases this
      .simp only[TV.lG,List.mem_map] at hb
       obtain⟨c,hc,rfl⟩:=hb
       simpa using(hto c (c2 c hc)).2
     rcases he with rfl|rfl
     .exact hbp
     .exact hbp
theorem U3{α:Type}{tab:iL}{h:Hd}(ht:a_ P tab)(hc:h.ah P)(hm:P.follows .mixedOrders=true){f:FuncId}{fn:Func}(hf:P.funcs[f]? =some fn)
  (hname:(fn.name== "runtime.NumGoroutine")=false) (hl:∀c,fn.body=some c->eO P h c) {args:List TV} {Bs:List bg} {k:TV->List (List Seg)->List (List Seg)->Option α} {r:α}
  (hev:Nn tab h fn args Bs k=some r):∃v Bs' Ns,k v Bs' Ns=some r/\Yd P f args Bs v Bs' Ns:=by
 unfold Nn at hev
 split at hev
 .cases hev
 .rename_i c hbody
  cases hcond:(Nat.ble args.length fn.ntmps&&Nat.ble Bs.length 1000) with
  |false=>rw[hcond] at hev;cases hev
  |true=>
   rw[hcond] at hev
   exact Au ht hc hm hf hname hl hbody hcond (λ_ _ _ _ _ _ h=>h) hev
def mvR(b c x:Nat):Nat:=cond (Nat.beq x b) c x
def nY(st:St)(b c:Nat):St where
 T:=λt=>(st.T t).ren (mvR b c)
 H:=λx=>cond (Nat.beq x c) (st.H b) (cond (Nat.beq x b) (some (true,[])) (match st.H x with|some B=>some (B.1,dP (mvR b c) B.2)|none=>none))
 n:=st.n
theorem eP.move{w0:World}{S:List Nat}{nb:Nat}{idb ids:bF}{st:St}{a:Act}{w:World}(h:eP w0 S nb idb ids st a w){b c:Nat}{E:EK}{l:List E.T}(hb:st.H b=some (true,[.aD E l]))(hc:st.H c=none)(hnb:nb<=c):
  eP w0 S nb idb (bn ids c (ids b)) (nY st b c) a w:=by
 have hdom:∀d,(st.H d).isSome=true->d≠c:=λd hd e=>by subst e;rw[hc] at hd;cases hd
 have hbc:b≠c:=hdom b (by rw[hb];rfl)
 have hmv:∀d,(st.H d).isSome=true->bn ids c (ids b) (mvR b c d)=ids d:=λd hd=>by
  unfold mvR
  by_cases hdb:d=b
  .subst hdb;rw[Nat.beq_refl];exact ay
  .rw[nI hdb];exact av (hdom d hd)
 have hH:∀x,(nY st b c).H x=if x=c then some (true,[.aD E l]) else if x=b then some (true,[]) else(match st.H x with|some B=>some (B.1,dP (mvR b c) B.2)|none=>none):=λx=>by
  simp only[nY]
  by_cases hxc:x=c
  .subst hxc;rw[Nat.beq_refl,if_pos rfl];exact hb
  .rw[nI hxc,if_neg hxc]
   by_cases hxb:x=b
   .subst hxb;rw[Nat.beq_refl,if_pos rfl];rfl
   .rw[nI hxb,if_neg hxb];rfl
 have hcase:∀d D,(nY st b c).H d=some D->(d=c/\D=(true,[.aD E l]))\/(d=b/\D=(true,[]))\/(d≠c/\d≠b/\∃D0,st.H d=some D0/\D=(D0.1,dP (mvR b c) D0.2)):=λd D hd=>by
  rw[hH] at hd
  by_cases hdc:d=c
  .rw[if_pos hdc] at hd;exact .inl ⟨hdc,(Option.some.inj hd).symm⟩
  .rw[if_neg hdc] at hd
   by_cases hdb:d=b
   .rw[if_pos hdb] at hd;exact .inr (.inl ⟨hdb,(Option.some.inj hd).symm⟩)
   .rw[if_neg hdb] at hd
    refine .inr (.inr ⟨hdc,hdb, ?_⟩)
    cases hD:st.H d with
    |none=>rw[hD] at hd;cases hd
    |some D0=>rw[hD] at hd;exact⟨D0,rfl,(Option.some.inj hd).symm⟩
 have hs:∀d,(st.H d).isSome=true->((nY st b c).H (mvR b c d)).isSome=true:=λd hd=>by
  rw[hH]
  unfold mvR
  by_cases hdb:d=b
  .subst hdb;rw[Nat.beq_refl];simp
  .rw[nI hdb]
   simp only[cond_false]
   rw[if_neg (hdom d hd),if_neg hdb]
   cases hD:st.H d with
   |none=>rw[hD] at hd;cases hd
   |some D0=>rfl
 have hfr:∀d,d≠c->bn ids c (ids b) d=ids d:=λd hd=>av hd
 have hin:∀d (D:bg) g,(nY st b c).H d=some D->oU w (bn ids c (ids b)) d D.2 g->∃e E',st.H e=some (D.1,E')/\oU w ids e E' g/\((d=c/\e=b)\/(d≠c/\d≠b/\e=d)):=λd D g hd hg=>by
  rcases hcase d D hd with⟨rfl,rfl⟩|⟨rfl,rfl⟩|⟨h1,h2,D0,h3,rfl⟩
  .refine⟨b,_,hb, ?_, .inl ⟨rfl,rfl⟩⟩
   unfold oU at*
   rw[ay] at hg;exact hg
  .rcases hg with⟨hg,_⟩|hg
   .exact hg.elim
   .rw[dD rfl] at hg;cases hg
  .refine⟨d,D0.2,h3, ?_, .inr ⟨h1,h2,rfl⟩⟩
   unfold oU at*
   rw[hfr d h1,gV] at hg
   exact hg.imp_left λh=>⟨dU.1 h.1,h.2⟩
 have hsepA:∀d e D F g,(nY st b c).H d=some (true,D)->(nY st b c).H e=some F->d≠e->oU w (bn ids c (ids b)) d D g->oU w (bn ids c (ids b)) e F.2 g->False:=λd e D F g hd he hne h1 h2=>by
  obtain⟨d',D',q1,q2,q3⟩:=hin d _ g hd h1
  obtain⟨e',F',p1,p2,p3⟩:=hin e F g he h2
  refine h.LH q1 p1 (λhe'=> ?_) q2 p2
  subst he'
  rcases q3 with⟨q3,q4⟩|⟨q3,q4,q5⟩<;>rcases p3 with⟨p3,p4⟩|⟨p3,p4,p5⟩
  .exact hne (q3.trans p3.symm)
  .exact p4 (p5.symm.trans q4)
  .exact q4 (q5.symm.trans p4)
  .exact hne (q5.symm.trans p5)
 have hfl:∀d D,(nY st b c).H d=some D->gB D.2=false->D.1=true:=λd D hd hno=>by
  rcases hcase d D hd with⟨rfl,rfl⟩|⟨rfl,rfl⟩|⟨h1,h2,D0,h3,rfl⟩
  .rfl
  .rfl
  .dsimp only at hno|-;rw[wT] at hno;exact h.hid.fl d D0 h3 hno
 have hfl':∀d D p g,(nY st b c).H d=some D->g∈foot w p D.2->D=(true,D.2):=λd D p g hd hg=>Prod.ext (hfl d D hd (by
  obtain⟨E,ll,hh,he⟩:=lK hg
  rw[he];rfl)) rfl
 refine⟨h.keeps,h.size,h.defers,λt=> ?_,λj hj=> ?_,λd D hd=> ?_,λd e D F hd he hne ld le heq=> ?_,λd D hd ld=> ?_,λt d hd=> ?_,λd D hd e he=> ?_,h.mU,
  ⟨hfl,λd D hd=> ?_,λd D hd g hg=> ?_,λd e D F hd he le hg=> ?_,λd e D F hd he hne g hg hg2=> ?_⟩⟩
 .show((st.T t).ren (mvR b c)).R _ _
  exact TV.mJ.2 ((h.tmps t).congr λd hd=>hmv d (h.yZ t d hd))
 .rw[hfr j (by omega)];exact h.Fs j hj
 .rcases hcase d D hd with⟨rfl,rfl⟩|⟨rfl,rfl⟩|⟨h1,h2,D0,h3,rfl⟩
  .exact(h.blk b _ hb).at rfl ay
  .exact⟨(λs hs=>nomatch hs),trivial,λhl=>hl.elim,λj x hx=>by simp[af] at hx⟩
  .obtain⟨q1,qg,q2,q3⟩:=h.blk d D0 h3
   refine⟨wW.2 q1,by rw[hfr d h1];exact qg.ren,by rw[hfr d h1];exact λhl=>q2 (dU.1 hl),λj x hx=> ?_⟩
   simp only[lF,List.getElem?_map,Option.map_eq_some_iff] at hx
   obtain⟨y,hy,rfl⟩:=hx
   obtain⟨u,u1,u2,u3⟩:=q3 j y hy
   rw[hfr d h1]
   exact⟨u,u1,SV.mJ.2 (u2.congr λe he=>hmv e (h.pz d D0 h3 e (gD _ y (List.mem_of_getElem? hy) e he))),u3⟩
 .exact hsepA d e D F _ hd he hne (.inl ⟨ld,rfl⟩) (.inl ⟨le,heq⟩)
 .obtain⟨e,E',q1,q2,q3⟩:=hin d _ _ hd (.inl ⟨ld,rfl⟩)
  rcases hcase d _ hd with⟨rfl,e1⟩|⟨rfl,e1⟩|⟨h1,h2,D0,h3,e1⟩
  .rw[ay]
   simp only[Prod.mk.injEq,true_and] at e1
   subst e1
   exact(h.own b _ hb ld).imp_right λh=>⟨hnb,h.2⟩
  .simp only[Prod.mk.injEq,true_and] at e1;subst e1;exact ld.elim
  .rw[hfr d h1]
   obtain⟨wr,D0⟩:=D0
   simp only[Prod.mk.injEq] at e1
   obtain⟨rfl,rfl⟩:=e1
   exact h.own d D0 h3 (dU.1 ld)
 .have hd':d∈((st.T t).ren (mvR b c)).nm:=hd
  rw[TV.lG,List.mem_map] at hd'
  obtain⟨e,he,rfl⟩:=hd'
  exact hs e (h.yZ t e he)
 .rcases hcase d D hd with⟨rfl,rfl⟩|⟨rfl,rfl⟩|⟨h1,h2,D0,h3,rfl⟩
  .simp[fo,Seg.nm] at he
  .simp[fo] at he
  .simp only[sU,List.mem_map] at he
   obtain⟨e0,he0,rfl⟩:=he
   exact hs e0 (h.pz d D0 h3 e0 he0)
 .rcases hcase d D hd with⟨rfl,rfl⟩|⟨rfl,rfl⟩|⟨h1,h2,D0,h3,rfl⟩
  .exact .BN rfl
  .exact .BN rfl
  .exact(h.hid.rel d D0 h3).ren (hfr d h1) λe he=>hmv e (h.pz d D0 h3 e he)
 .have hD:=hfl' d D _ g hd hg
  rw[hD] at hd
  obtain⟨e,E',q1,q2,q3⟩:=hin d _ g hd (.inr hg)
  exact h.oV q1 q2
 .have hD:=hfl' d D _ _ hd hg
  rw[hD] at hd hg
  refine hsepA d e _ F _ hd he (λh0=> ?_) (.inr hg) (.inl ⟨le,rfl⟩)
  subst h0
  rw[hd] at he
  obtain rfl:=Option.some.inj he
  obtain⟨E,ll,hh,h1⟩:=lK hg
  dsimp only at h1 le
  rw[h1] at le
  exact le
 .have hD:=hfl' d D _ _ hd hg
  rw[hD] at hd hg
  exact hsepA d e _ F _ hd he hne (.inr hg) (.inr hg2)
def aGn(st:St)(b c:Nat):Bool:=match st.H b with
 |some (true,[.aD _ _])=>match st.H c with
  |none=>true
  |some _=>false
 |_=>false
def Qc{α:Type}(tab:iL)(h:Hd)(fn:Func)(b:Nat)(args:List TV)(Bs:List bg)(k:TV->List (List Seg)->List (List Seg)->Option α):Option α:=
 match fn.body with
 |none=>none
 |some c=>cond (Nat.ble args.length fn.ntmps&&(Nat.ble Bs.length 1000&&aGn (st0 args Bs fn.ntmps) b (500000+b)))
   (ev tab h c (nY (st0 args Bs fn.ntmps) b (500000+b)) λe st=>match e with
    | .exit _=>none
    |_=>U2 tab fn.results.toList Bs Bs.length (List.range Bs.length) st k) none
theorem Qd{α:Type}{tab:iL}{h:Hd}(ht:a_ P tab)(hc:h.ah P)(hm:P.follows .mixedOrders=true){f:FuncId}{fn:Func}(hf:P.funcs[f]? =some fn)
  (hname:(fn.name== "runtime.NumGoroutine")=false) (hl:∀c,fn.body=some c->eO P h c) {b:Nat} {args:List TV} {Bs:List bg} {k:TV->List (List Seg)->List (List Seg)->Option α} {r:α}
  (hev:Qc tab h fn b args Bs k=some r):∃v Bs' Ns,k v Bs' Ns=some r/\Yd P f args Bs v Bs' Ns:=by
 unfold Qc at hev
 split at hev
 .cases hev
 .rename_i c hbody
  obtain⟨hcond,hev⟩:=aU hev
  simp only[Bool.and_eq_true] at hcond
  obtain⟨h1,h2,h3⟩:=hcond
  refine Au ht hc hm hf hname hl hbody (by simp only[Bool.and_eq_true];exact⟨h1,h2⟩) ?_ hev
  rintro w0 S nb idb a w ⟨ids,hr⟩
  unfold aGn at h3
  split at h3
  .rename_i E l hb
   split at h3
   .rename_i hcn
    exact⟨_,hr.move hb hcn (by have:=hr.lim;omega)⟩
   .cases h3
  .cases h3
end
section
variable {P:Program}
inductive Lf where
 |i (n:Int)
 |b (x:Bool)
 |s (x:ByteArray)
 |m (x:Nat)
 |l (E:EK) (x:List E.T)
 |mp (K V:EK) (x:List (K.T×V.T))
 |ll (E:EK) (x:List (List E.T))
def Lf.int:Lf->Int
 | .i n=>n
 |_=>0
def Lf.bool:Lf->Bool
 | .b x=>x
 |_=>false
def Lf.str:Lf->ByteArray
 | .s x=>x
 |_=>⟨#[]⟩
def Lf.nat:Lf->Nat
 | .m x=>x
 |_=>0
def Lf.ak(E:EK):Lf->List E.T
 | .l E' x=>if h:E'=E then h▸x else[]
 |_=>[]
def Lf.map(K V:EK):Lf->List (K.T×V.T)
 | .mp K' V' x=>if h:K'=K/\V'=V then h.1▸h.2▸x else[]
 |_=>[]
theorem Lf.aAi(K V:EK)(x:List (K.T×V.T)):(Lf.mp K V x).map K V=x:=by simp[Lf.map]
def Lf.rows(E:EK):Lf->List (List E.T)
 | .ll E' x=>if h:E'=E then h▸x else[]
 |_=>[]
theorem Lf.ae2(E:EK)(x:List (List E.T)):(Lf.ll E x).rows E=x:=by simp[Lf.rows]
theorem Lf.EX(E:EK)(x:List E.T):(Lf.l E x).ak E=x:=by simp[Lf.ak]
def nU:List Lf->Lf
 |x::_=>x
 |[]=> .m 0
def jo:List Lf->List Lf
 |_::r=>r
 |[]=>[]
def lf:List Lf->Nat->Lf
 |ls,0=>nU ls
 |ls,n+1=>lf (jo ls) n
inductive SP where
 |unk
 |bool
 |int (k:IntKind)
 |str
 |ptr (b o:Nat)
 |el (b o s f:Nat)
 |MH
 |eX (b o s:Nat)
 |gM
 |PW (f:Nat) (ps:List (Nat×Nat))
 |aQ (b s:Nat)
 |rA (b o s:Nat)
 |opq
 |jZ (b:Nat)
 |clb (f b o:Nat)
 |La
 |ifo
inductive GP where
 |one (x:SP)
 |seq (E:EK) (n:Nat)
 |iD (E:EK)
 |aD (E:EK)
 |mp (K V:EK)
 |rws (E:EK)
 |rwh (E:EK) (c:Nat)
inductive VP where
 |sv (x:SP)
 |agg (l:List GP)
inductive TP where
 |vl (x:VP)
 |iO (l:List VP)
abbrev BP:=Bool×List GP
def acu:List (Nat×Nat)->List (Nat×Nat)->Bool
 |[],[]=>true
 |p::r,q::s=>Nat.beq p.1 q.1&&(Nat.beq p.2 q.2&&acu r s)
 |_,_=>false
theorem UE:∀{l m:List (Nat×Nat)},acu l m=true->l=m
 |[],[],_=>rfl
 |p::r,q::s,h=>by
  simp only[acu,Bool.and_eq_true] at h
  rw[UE h.2.2,show p=q from Prod.ext (Nat.eq_of_beq_eq_true h.1) (Nat.eq_of_beq_eq_true h.2.1)]
 |[],_::_,h=>by cases h
 |_::_,[],h=>by cases h
def SP.fill:SP->List Lf->SV×List Lf
 | .unk,ls=>(.unk,ls)
 | .bool,ls=>(.bool (nU ls).bool,jo ls)
 | .int k,ls=>(.int k (nU ls).int,jo ls)
 | .str,ls=>(.str (nU ls).str,jo ls)
 | .ptr b o,ls=>(.ptr b o,ls)
 | .el b o s f,ls=>(.el b o s (nU ls).nat f,jo ls)
 | .MH,ls=>(.MH,ls)
 | .eX b o s,ls=>(.eX b o s (nU ls).nat (nU (jo ls)).nat (nU (jo (jo ls))).nat,jo (jo (jo ls)))
 | .gM,ls=>(.gM,ls)
 | .PW f ps,ls=>(.PW f ps,ls)
 | .aQ b s,ls=>(.aQ b s,ls)
 | .rA b o s,ls=>(.rA b o s (nU ls).nat (nU (jo ls)).nat (nU (jo (jo ls))).nat,jo (jo (jo ls)))
 | .opq,ls=>(.opq,ls)
 | .jZ b,ls=>(.jZ b,ls)
 | .clb f b o,ls=>(.clb f b o,ls)
 | .La,ls=>(.La,ls)
 | .ifo,ls=>(.ifo,ls)
def GP.fill:GP->List Lf->Seg×List Lf
 | .one x,ls=>(.one (x.fill ls).1,(x.fill ls).2)
 | .seq E n,ls=>(.seq E n ((nU ls).ak E),jo ls)
 | .iD E,ls=>(.seq E (nU ls).nat ((nU (jo ls)).ak E),jo (jo ls))
 | .aD E,ls=>(.aD E ((nU ls).ak E),jo ls)
 | .mp K V,ls=>(.mp K V ((nU ls).map K V),jo ls)
 | .rws E,ls=>(.rws E ((nU ls).rows E) none,jo ls)
 | .rwh E c,ls=>(.rws E ((nU ls).rows E) (some ((nU (jo ls)).nat,c)),jo (jo ls))
def ic:List GP->List Lf->List Seg×List Lf
 |[],ls=>([],ls)
 |p::r,ls=>((p.fill ls).1::(ic r (p.fill ls).2).1,(ic r (p.fill ls).2).2)
def VP.fill:VP->List Lf->Val×List Lf
 | .sv x,ls=>(.sv (x.fill ls).1,(x.fill ls).2)
 | .agg l,ls=>(.agg (ic l ls).1,(ic l ls).2)
def Nv:List VP->List Lf->List Val×List Lf
 |[],ls=>([],ls)
 |p::r,ls=>((p.fill ls).1::(Nv r (p.fill ls).2).1,(Nv r (p.fill ls).2).2)
def TP.fill:TP->List Lf->TV×List Lf
 | .vl x,ls=>(.vl (x.fill ls).1,(x.fill ls).2)
 | .iO l,ls=>(.iO (Nv l ls).1,(Nv l ls).2)
def dS:List TP->List Lf->List TV×List Lf
 |[],ls=>([],ls)
 |p::r,ls=>((p.fill ls).1::(dS r (p.fill ls).2).1,(dS r (p.fill ls).2).2)
def fZ:List BP->List Lf->List bg×List Lf
 |[],ls=>([],ls)
 |p::r,ls=>((p.1,(ic p.2 ls).1)::(fZ r (ic p.2 ls).2).1,(fZ r (ic p.2 ls).2).2)
def SP.WY:SP->SV->Option (List Lf)
 | .unk, .unk=>some []
 | .bool, .bool b=>some [.b b]
 | .int k, .int k' n=>cond (decide (k=k')) (some [.i n]) none
 | .str, .str s=>some [.s s]
 | .ptr b o, .ptr b' o'=>cond (Nat.beq b b'&&Nat.beq o o') (some []) none
 | .el b o s f, .el b' o' s' i f'=>cond (Nat.beq b b'&&(Nat.beq o o'&&(Nat.beq s s'&&Nat.beq f f'))) (some [.m i]) none
 | .MH, .MH=>some []
 | .eX b o s, .eX b' o' s' lo len cap=>cond (Nat.beq b b'&&(Nat.beq o o'&&Nat.beq s s')) (some [.m lo, .m len, .m cap]) none
 | .gM, .gM=>some []
 | .PW f ps, .PW f' ps'=>cond (Nat.beq f f'&&acu ps ps') (some []) none
 | .aQ b s, .aQ b' s'=>cond (Nat.beq b b'&&Nat.beq s s') (some []) none
 | .rA b o s, .rA b' o' s' lo len cap=>cond (Nat.beq b b'&&(Nat.beq o o'&&Nat.beq s s')) (some [.m lo, .m len, .m cap]) none
 | .opq, .opq=>some []
 | .jZ b, .jZ b'=>cond (Nat.beq b b') (some []) none
 | .clb f b o, .clb f' b' o'=>cond (Nat.beq f f'&&(Nat.beq b b'&&Nat.beq o o')) (some []) none
 | .La, .La=>some []
 | .ifo, .ifo=>some []
 |_,_=>none
def GP.WY:GP->Seg->Option (List Lf)
 | .one x, .one y=>x.WY y
 | .seq E n, .seq E' n' l=>cond (decide (E=E')&&Nat.beq n n') (some [.l E' l]) none
 | .iD E, .seq E' n' l=>cond (decide (E=E')) (some [.m n', .l E' l]) none
 | .aD E, .aD E' l=>cond (decide (E=E')) (some [.l E' l]) none
 | .mp K V, .mp K' V' l=>cond (decide (K=K')&&decide (V=V')) (some [.mp K' V' l]) none
 | .rws E, .rws E' l none=>cond (decide (E=E')) (some [.ll E' l]) none
 | .rwh E c, .rws E' l (some (i,c'))=>cond (decide (E=E')&&Nat.beq c c') (some [.ll E' l, .m i]) none
 |_,_=>none
def anZ:List GP->List Seg->Option (List Lf)
 |[],[]=>some []
 |p::r,x::xs=>match p.WY x with
  |some l=>match anZ r xs with
   |some m=>some (l++m)
   |none=>none
  |none=>none
 |_,_=>none
def VP.WY:VP->Val->Option (List Lf)
 | .sv x, .sv y=>x.WY y
 | .agg l, .agg m=>anZ l m
 |_,_=>none
def ase:List VP->List Val->Option (List Lf)
 |[],[]=>some []
 |p::r,x::xs=>match p.WY x with
  |some l=>match ase r xs with
   |some m=>some (l++m)
   |none=>none
  |none=>none
 |_,_=>none
def TP.WY:TP->TV->Option (List Lf)
 | .vl x, .vl y=>x.WY y
 | .iO l, .iO m=>ase l m
 |_,_=>none
def aaE:List TP->List TV->Option (List Lf)
 |[],[]=>some []
 |p::r,x::xs=>match p.WY x with
  |some l=>match aaE r xs with
   |some m=>some (l++m)
   |none=>none
  |none=>none
 |_,_=>none
def aBl:Bool->Bool->Bool
 |true,true=>true
 |false,false=>true
 |_,_=>false
theorem apk:∀{a b:Bool},aBl a b=true->a=b:=by decide
def aaD:List BP->List bg->Option (List Lf)
 |[],[]=>some []
 |p::r,x::xs=>cond (aBl p.1 x.1) (match anZ p.2 x.2 with
  |some l=>match aaD r xs with
   |some m=>some (l++m)
   |none=>none
  |none=>none) none
 |_,_=>none
theorem dh{β:Type _}{b:Bool}{x:Option β}{r:β}(h:cond b x none=some r):b=true/\x=some r:=by
 cases b with
 |true=>exact⟨rfl,h⟩
 |false=>cases h
theorem SP.jY{p:SP}{x:SV}{l:List Lf}(h:p.WY x=some l)(r:List Lf):p.fill (l++r)=(x,r):=by
 unfold SP.WY at h
 split at h
 .cases h;rfl
 .cases h;rfl
 .obtain⟨h1,h2⟩:=dh h;cases h2;rw[of_decide_eq_true h1];rfl
 .cases h;rfl
 .obtain⟨h1,h2⟩:=dh h;cases h2;simp only[Bool.and_eq_true] at h1
  rw[Nat.eq_of_beq_eq_true h1.1,Nat.eq_of_beq_eq_true h1.2];rfl
 .obtain⟨h1,h2⟩:=dh h;cases h2;simp only[Bool.and_eq_true] at h1
  rw[Nat.eq_of_beq_eq_true h1.1,Nat.eq_of_beq_eq_true h1.2.1,Nat.eq_of_beq_eq_true h1.2.2.1,Nat.eq_of_beq_eq_true h1.2.2.2];rfl
 .cases h;rfl
 .obtain⟨h1,h2⟩:=dh h;cases h2;simp only[Bool.and_eq_true] at h1
  rw[Nat.eq_of_beq_eq_true h1.1,Nat.eq_of_beq_eq_true h1.2.1,Nat.eq_of_beq_eq_true h1.2.2];rfl
 .cases h;rfl
 .obtain⟨h1,h2⟩:=dh h;cases h2;simp only[Bool.and_eq_true] at h1
  rw[Nat.eq_of_beq_eq_true h1.1,UE h1.2];rfl
 .obtain⟨h1,h2⟩:=dh h;cases h2;simp only[Bool.and_eq_true] at h1
  rw[Nat.eq_of_beq_eq_true h1.1,Nat.eq_of_beq_eq_true h1.2];rfl
 .obtain⟨h1,h2⟩:=dh h;cases h2;simp only[Bool.and_eq_true] at h1
  rw[Nat.eq_of_beq_eq_true h1.1,Nat.eq_of_beq_eq_true h1.2.1,Nat.eq_of_beq_eq_true h1.2.2];rfl
 .cases h;rfl
 .obtain⟨h1,h2⟩:=dh h;cases h2;rw[Nat.eq_of_beq_eq_true h1];rfl
 .obtain⟨h1,h2⟩:=dh h;cases h2;simp only[Bool.and_eq_true] at h1
  rw[Nat.eq_of_beq_eq_true h1.1,Nat.eq_of_beq_eq_true h1.2.1,Nat.eq_of_beq_eq_true h1.2.2];rfl
 .cases h;rfl
 .cases h;rfl
 .cases h
theorem GP.jY{p:GP}{x:Seg}{l:List Lf}(h:p.WY x=some l)(r:List Lf):p.fill (l++r)=(x,r):=by
 unfold GP.WY at h
 split at h
 .simp only[GP.fill,SP.jY h r]
 .obtain⟨h1,h2⟩:=dh h;cases h2;simp only[Bool.and_eq_true] at h1
  obtain rfl:=of_decide_eq_true h1.1
  rw[Nat.eq_of_beq_eq_true h1.2]
  simp[GP.fill,nU,jo,Lf.EX]
 .obtain⟨h1,h2⟩:=dh h;cases h2
  obtain rfl:=of_decide_eq_true h1
  simp[GP.fill,nU,jo,Lf.EX,Lf.nat]
 .obtain⟨h1,h2⟩:=dh h;cases h2
  obtain rfl:=of_decide_eq_true h1
  simp[GP.fill,nU,jo,Lf.EX]
 .obtain⟨h1,h2⟩:=dh h;cases h2;simp only[Bool.and_eq_true] at h1
  obtain rfl:=of_decide_eq_true h1.1
  obtain rfl:=of_decide_eq_true h1.2
  simp[GP.fill,nU,jo,Lf.aAi]
 .obtain⟨h1,h2⟩:=dh h;cases h2
  obtain rfl:=of_decide_eq_true h1
  simp[GP.fill,nU,jo,Lf.ae2]
 .obtain⟨h1,h2⟩:=dh h;cases h2;simp only[Bool.and_eq_true] at h1
  obtain rfl:=of_decide_eq_true h1.1
  rw[Nat.eq_of_beq_eq_true h1.2]
  simp[GP.fill,nU,jo,Lf.ae2,Lf.nat]
 .cases h
theorem DI:∀{p:List GP} {x:List Seg} {l:List Lf},anZ p x=some l->∀r,ic p (l++r)=(x,r)
 |[],[],l,h,r=>by cases h;rfl
 |p::ps,x::xs,l,h,r=>by
  simp only[anZ] at h
  split at h
  .rename_i l1 h1
   split at h
   .rename_i l2 h2
    cases h
    rw[List.append_assoc]
    simp only[ic,GP.jY h1,DI h2]
   .cases h
  .cases h
 |[],_::_,l,h,r=>by cases h
 |_::_,[],l,h,r=>by cases h
theorem VP.jY{p:VP}{x:Val}{l:List Lf}(h:p.WY x=some l)(r:List Lf):p.fill (l++r)=(x,r):=by
 unfold VP.WY at h
 split at h
 .simp only[VP.fill,SP.jY h r]
 .simp only[VP.fill,DI h r]
 .cases h
theorem Ol:∀{p:List VP} {x:List Val} {l:List Lf},ase p x=some l->∀r,Nv p (l++r)=(x,r)
 |[],[],l,h,r=>by cases h;rfl
 |p::ps,x::xs,l,h,r=>by
  simp only[ase] at h
  split at h
  .rename_i l1 h1
   split at h
   .rename_i l2 h2
    cases h
    rw[List.append_assoc]
    simp only[Nv,VP.jY h1,Ol h2]
   .cases h
  .cases h
 |[],_::_,l,h,r=>by cases h
 |_::_,[],l,h,r=>by cases h
theorem TP.jY{p:TP}{x:TV}{l:List Lf}(h:p.WY x=some l)(r:List Lf):p.fill (l++r)=(x,r):=by
 unfold TP.WY at h
 split at h
 .simp only[TP.fill,VP.jY h r]
 .simp only[TP.fill,Ol h r]
 .cases h
theorem DJ:∀{p:List TP} {x:List TV} {l:List Lf},aaE p x=some l->∀r,dS p (l++r)=(x,r)
 |[],[],l,h,r=>by cases h;rfl
 |p::ps,x::xs,l,h,r=>by
  simp only[aaE] at h
  split at h
  .rename_i l1 h1
   split at h
   .rename_i l2 h2
    cases h
    rw[List.append_assoc]
    simp only[dS,TP.jY h1,DJ h2]
   .cases h
  .cases h
 |[],_::_,l,h,r=>by cases h
 |_::_,[],l,h,r=>by cases h
theorem DF:∀{p:List BP} {x:List bg} {l:List Lf},aaD p x=some l->∀r,fZ p (l++r)=(x,r)
 |[],[],l,h,r=>by cases h;rfl
 |p::ps,x::xs,l,h,r=>by
  simp only[aaD] at h
  obtain⟨hw,h⟩:=dh h
  split at h
  .rename_i l1 h1
   split at h
   .rename_i l2 h2
    cases h
    rw[List.append_assoc]
    obtain⟨p1,p2⟩:=p
    obtain⟨x1,x2⟩:=x
    obtain rfl:p1=x1:=apk hw
    simp only[fZ,DI h1,DF h2]
   .cases h
  .cases h
 |[],_::_,l,h,r=>by cases h
 |_::_,[],l,h,r=>by cases h
def KQ:List Nat->List TV->Nat->TV
 |s::sl,x::xs,t=>cond (Nat.beq t s) x (KQ sl xs t)
 |_,_,_=>Cm
def BF:List Nat->List bg->Nat->Option bg
 |s::sl,x::xs,t=>cond (Nat.beq t s) (some x) (BF sl xs t)
 |_,_,_=>none
def bG(n:Nat)(sl:List Nat)(ts:List TV)(bl:List Nat)(bs:List bg):St:={T:=KQ sl ts,H:=BF bl bs,n:=n}
def BV(H:Nat->Option bg):List Nat->Option (List bg)
 |[]=>some []
 |b::r=>match H b with
  |some B=>match BV H r with
   |some m=>some (B::m)
   |none=>none
  |none=>none
def qZ(T:Nat->TV):List Nat->List TV
 |[]=>[]
 |t::r=>T t::qZ T r
def allIn(bl:List Nat):List Nat->Bool
 |[]=>true
 |b::r=>has bl b&&allIn bl r
def Gf(bl:List Nat):List TV->Bool
 |[]=>true
 |x::r=>allIn bl x.nm&&Gf bl r
def Aj(bl:List Nat):List bg->Bool
 |[]=>true
 |x::r=>allIn bl (fo x.2)&&Aj bl r
theorem yh{bl:List Nat}:∀{l:List Nat},allIn bl l=true->∀b∈l,b∈bl
 |c::r,h,b,hb=>by
  simp only[allIn,Bool.and_eq_true] at h
  rcases List.mem_cons.1 hb with rfl|hb
  .exact jB h.1
  .exact yh h.2 b hb
theorem Ak{bl:List Nat}:∀{xs:List TV},Gf bl xs=true->∀x∈xs,∀b∈x.nm,b∈bl
 |x::r,h,y,hy,b,hb=>by
  simp only[Gf,Bool.and_eq_true] at h
  rcases List.mem_cons.1 hy with rfl|hy
  .exact yh h.1 b hb
  .exact Ak h.2 y hy b hb
theorem xJ{bl:List Nat}:∀{xs:List bg},Aj bl xs=true->∀x∈xs,∀b∈fo x.2,b∈bl
 |x::r,h,y,hy,b,hb=>by
  simp only[Aj,Bool.and_eq_true] at h
  rcases List.mem_cons.1 hy with rfl|hy
  .exact yh h.1 b hb
  .exact xJ h.2 y hy b hb
def St.to(st' st:St):Prop:=∀w0 S nb idb a w,iY w0 S nb idb st a w->iY w0 S nb idb st' a w
theorem Yr{c:Code}{st st1 st2:St}{e:Ex}(hl:st1.to st)(h:g_ P c st1 e st2):g_ P c st e st2:=
 λw0 S nb idb a w hr=>h w0 S nb idb a w (hl _ _ _ _ _ _ hr)
theorem UH{c:Code}{st st1 st2:St}{e:Ex}(hl:st2.to st1)(h:g_ P c st e st1):g_ P c st e st2:=by
 intro w0 S nb idb a w hr
 refine wp_mono (h w0 S nb idb a w hr) ?_
 rintro e' a' w' ⟨rfl,h'⟩
 exact⟨rfl,hl _ _ _ _ _ _ h'⟩
def hn(names:List Nat)(b:Nat):Nat:=cond (Nat.blt b 1000) b (1000000+idx names b)
def Lx(ρ:Nat->Nat):List bg->List bg
 |[]=>[]
 |B::r=>(B.1,dP ρ B.2)::Lx ρ r
def canon(low sl:List Nat)(st:St):Option (List TV×List Nat×List bg):=
 let names:=gather st.H 200 (low++(qZ st.T sl).flatMap TV.nm) []
 match BV st.H names with
 |some bs=>cond (nodupB names&&(Gf names (qZ st.T sl)&&Aj names bs)) (some ((qZ st.T sl).map (TV.ren (hn names)),names.map (hn names),Lx (hn names) bs)) none
 |none=>none
theorem avs{names:List Nat}{b:Nat}(h:b<1000):hn names b=b:=by
 unfold hn;rw[show Nat.blt b 1000=true by simpa using h];rfl
theorem avr{names:List Nat}{b:Nat}(h:¬b<1000):hn names b=1000000+idx names b:=by
 unfold hn;rw[kU h];rfl
def N_(ids:bF)(names:List Nat):bF:=λc=>if c<1000 then ids c else ids (names.getD (c-1000000) 0)
theorem f_{ids:bF}{names:List Nat}{b:Nat}(h:b∈names):N_ ids names (hn names b)=ids b:=by
 by_cases hb:b<1000
 .rw[avs hb];simp[N_,hb]
 .rw[avr hb]
  unfold N_
  rw[if_neg (by omega),show 1000000+idx names b-1000000=idx names b by omega,(pM h).2]
theorem Dz{T:Nat->TV}{f:TV->TV}:∀(sl:List Nat) (t:Nat),KQ sl ((qZ T sl).map f) t=Cm\/(t∈sl/\KQ sl ((qZ T sl).map f) t=f (T t))
 |[],t=> .inl rfl
 |s::sl,t=>by
  simp only[qZ,List.map_cons,KQ]
  cases h:Nat.beq t s with
  |true=>right;rw[Nat.eq_of_beq_eq_true h];exact⟨by simp,rfl⟩
  |false=>
   rcases Dz (T:=T) (f:=f) sl t with h|⟨h1,h2⟩
   .exact .inl h
   .exact .inr ⟨by simp[h1],h2⟩
theorem Oh{H:Nat->Option bg}{ρ:Nat->Nat}:∀{names:List Nat} {bs:List bg} {b:Nat} {B:bg},BV H names=some bs->BF (names.map ρ) (Lx ρ bs) b=some B->
  ∃c B0,c∈names/\b=ρ c/\H c=some B0/\B=(B0.1,dP ρ B0.2)
 |[],bs,b,B,h,hl=>by simp only[BV,Option.some.injEq] at h;subst h;cases hl
 |s::sl,bs,b,B,h,hl=>by
  simp only[BV] at h
  split at h
  .rename_i B0 hB0
   split at h
   .rename_i m hm
    cases h
    simp only[List.map_cons,Lx,BF] at hl
    cases hb:Nat.beq b (ρ s) with
    |true=>rw[hb] at hl;cases hl;exact⟨s,B0,by simp,Nat.eq_of_beq_eq_true hb,hB0,rfl⟩
    |false=>
     rw[hb] at hl
     obtain⟨c,B1,h1,h2⟩:=Oh hm hl
     exact⟨c,B1,by simp[h1],h2⟩
   .cases h
  .cases h
theorem nW{H:Nat->Option bg}{ρ:Nat->Nat}:∀{names:List Nat} {bs:List bg} {c:Nat},BV H names=some bs->c∈names->(BF (names.map ρ) (Lx ρ bs) (ρ c)).isSome=true
 |s::sl,bs,c,h,hc=>by
  simp only[BV] at h
  split at h
  .rename_i B hB
   split at h
   .rename_i m hm
    cases h
    simp only[List.map_cons,Lx,BF]
    cases hb:Nat.beq (ρ c) (ρ s) with
    |true=>rfl
    |false=>
     rcases List.mem_cons.1 hc with rfl|hc
     .rw[Nat.beq_refl] at hb;cases hb
     .exact nW hm hc
   .cases h
  .cases h
theorem D5{T:Nat->TV}:∀{sl:List Nat} {t:Nat},t∈sl->T t∈qZ T sl
 |s::sl,t,h=>by
  rcases List.mem_cons.1 h with rfl|h
  .simp[qZ]
  .simp only[qZ,List.mem_cons];exact .inr (D5 h)
theorem Oz{H:Nat->Option bg}:∀{bl:List Nat} {bs:List bg} {c:Nat} {B:bg},BV H bl=some bs->c∈bl->H c=some B->B∈bs
 |s::sl,bs,c,B,h,hc,hB=>by
  simp only[BV] at h
  split at h
  .rename_i B0 hB0
   split at h
   .rename_i m hm
    cases h
    rcases List.mem_cons.1 hc with rfl|hc
    .rw[hB] at hB0;cases hB0;simp
    .exact List.mem_cons_of_mem _ (Oz hm hc hB)
   .cases h
  .cases h
theorem Ij{low sl:List Nat}{st:St}{n:Nat}{ts:List TV}{bl:List Nat}{bs:List bg}(hn_:n=st.n)(h:canon low sl st=some (ts,bl,bs)):(bG n sl ts bl bs).to st:=by
 unfold canon at h
 simp only at h
 generalize gather st.H 200 (low++(qZ st.T sl).flatMap TV.nm) []=names at h
 split at h
 .rename_i bs0 hbs
  obtain⟨h1,h2⟩:=dh h
  simp only[Option.some.injEq,Prod.mk.injEq] at h2
  obtain⟨rfl,rfl,rfl⟩:=h2
  simp only[Bool.and_eq_true] at h1
  obtain⟨hnd,hcT,hcB⟩:=h1
  have hT:=Ak hcT
  have hB:=xJ hcB
  rintro w0 S nb idb a w ⟨ids,hr⟩
  have hblk:∀b B,BF (names.map (hn names)) (Lx (hn names) bs0) b=some B->∃c B0,c∈names/\b=hn names c/\st.H c=some B0/\B=(B0.1,dP (hn names) B0.2):=λb B hb=>Oh hbs hb
  have hcl:∀c∈names,∀B0,st.H c=some B0->∀d∈fo B0.2,d∈names:=λc hc B0 hB0 d hd=>hB B0 (Oz hbs hc hB0) d hd
  refine⟨N_ ids names,hr.keeps,hr.size.trans hn_.symm,hr.defers,λt=> ?_,λi hi=> ?_,λb B hb=> ?_,λb c B C hb hc hne lb lc=> ?_,λb B hb lb=> ?_,λt b hb=> ?_,λc B hc b hb=> ?_,hr.mU,
   ⟨λb B hb hno=> ?_,λb B hb=> ?_,λb B hb g hg=> ?_,λb c B C hb hc lc hg=> ?_,λb c B C hb hc hne g hg hg2=> ?_⟩⟩
  rotate_right 5
  .obtain⟨c,B0,hc,rfl,hB0,rfl⟩:=hblk b B hb
   dsimp only at hno|-
   rw[wT] at hno
   exact hr.hid.fl c B0 hB0 hno
  .obtain⟨c,B0,hc,rfl,hB0,rfl⟩:=hblk b B hb
   exact(hr.hid.rel c B0 hB0).ren (f_ hc) λd hd=>f_ (hcl c hc B0 hB0 d hd)
  .obtain⟨c,B0,hc,rfl,hB0,rfl⟩:=hblk b B hb
   dsimp only at hg
   rw[gV,f_ hc] at hg
   exact hr.hid.own c B0 hB0 g hg
  .obtain⟨b0,B0,hb0,rfl,hB0,rfl⟩:=hblk b _ hb
   obtain⟨c0,C0,hc0,rfl,hC0,rfl⟩:=hblk c _ hc
   dsimp only at hg lc
   rw[gV,f_ hb0,f_ hc0] at hg
   exact hr.hid.sepL b0 c0 B0 C0 hB0 hC0 (dU.1 lc) hg
  .obtain⟨b0,B0,hb0,rfl,hB0,rfl⟩:=hblk b _ hb
   obtain⟨c0,C0,hc0,rfl,hC0,rfl⟩:=hblk c _ hc
   dsimp only at hg hg2
   rw[gV,f_ hb0] at hg
   rw[gV,f_ hc0] at hg2
   exact hr.hid.sW b0 c0 B0 C0 hB0 hC0 (λe=>hne (by rw[e])) g hg hg2
  .show(KQ sl _ t).R _ _
   rcases Dz (T:=st.T) (f:=TV.ren (hn names)) sl t with h|⟨hm,h⟩
   .rw[h];trivial
   .rw[h]
    exact TV.mJ.2 ((hr.tmps t).congr λb hb=>f_ (hT _ (D5 hm) b hb))
  .have:=hr.lim
   rw[show N_ ids names i=ids i by simp[N_,show i<1000 by omega]]
   exact hr.Fs i hi
  .obtain⟨c,B0,hc,rfl,hB0,rfl⟩:=hblk b B hb
   obtain⟨q1,qg,q2,q3⟩:=hr.blk c B0 hB0
   refine⟨wW.2 q1,by rw[f_ hc];exact qg.ren,by rw[f_ hc];exact λhl=>q2 (dU.1 hl),λj x hx=> ?_⟩
   simp only[lF,List.getElem?_map,Option.map_eq_some_iff] at hx
   obtain⟨y,hy,rfl⟩:=hx
   obtain⟨u,u1,u2,u3⟩:=q3 j y hy
   rw[f_ hc]
   exact⟨u,u1,SV.mJ.2 (u2.congr λd hd=>f_ (hcl c hc B0 hB0 d (gD _ y (List.mem_of_getElem? hy) d hd))),u3⟩
  .obtain⟨b0,B0,hb0,rfl,hB0,eB⟩:=hblk b _ hb
   obtain⟨c0,C0,hc0,rfl,hC0,rfl⟩:=hblk c _ hc
   simp only[Prod.mk.injEq] at eB
   obtain⟨e1,rfl⟩:=eB
   rw[f_ hb0,f_ hc0]
   obtain⟨wr,B0⟩:=B0
   simp only at e1
   subst e1
   exact hr.sep b0 c0 B0 C0 hB0 hC0 (λe=>hne (by rw[e])) (dU.1 lb) (dU.1 lc)
  .obtain⟨b0,B0,hb0,rfl,hB0,eB⟩:=hblk b _ hb
   simp only[Prod.mk.injEq] at eB
   obtain⟨e1,rfl⟩:=eB
   rw[f_ hb0]
   obtain⟨wr,B0⟩:=B0
   simp only at e1
   subst e1
   rcases hr.own b0 B0 hB0 (dU.1 lb) with h|⟨h1,h2⟩
   .exact .inl h
   .refine .inr ⟨?_,h2⟩
    by_cases hlt:b0<1000
    .rw[avs hlt];exact h1
    .rw[avr hlt];have:=hr.lim;omega
  .show(BF _ _ b).isSome=true
   have hb':b∈(KQ sl ((qZ st.T sl).map (TV.ren (hn names))) t).nm:=hb
   rcases Dz (T:=st.T) (f:=TV.ren (hn names)) sl t with h|⟨hm,h⟩
   .rw[h] at hb';cases hb'
   .rw[h,TV.lG,List.mem_map] at hb'
    obtain⟨d,hd,rfl⟩:=hb'
    exact nW hbs (hT _ (D5 hm) d hd)
  .show(BF _ _ b).isSome=true
   obtain⟨c0,C0,hc0,rfl,hC0,rfl⟩:=hblk c _ hc
   simp only[sU,List.mem_map] at hb
   obtain⟨d,hd,rfl⟩:=hb
   exact nW hbs (hcl c0 hc0 C0 hC0 d hd)
 .cases h
def Na:List Nat->List Nat->Bool
 |[],[]=>true
 |a::r,b::s=>Nat.beq a b&&Na r s
 |_,_=>false
theorem UD:∀{l m:List Nat},Na l m=true->l=m
 |[],[],_=>rfl
 |a::r,b::s,h=>by
  simp only[Na,Bool.and_eq_true] at h
  rw[Nat.eq_of_beq_eq_true h.1,UD h.2]
 |[],_::_,h=>by cases h
 |_::_,[],h=>by cases h
structure uz where
 n:Nat
 low:List Nat
 sl:List Nat
 bl:List Nat
 tp:List TP
 bp:List BP
 xs:List (Nat×List Nat)
def Ex.code:Ex->Nat
 | .normal=>0
 | .ret=>1
 | .exit j=>j+2
section
variable {α:Type}
def OD:List Nat->St->(St->Option α)->Option α
 |[],st,k=>k st
 |b::r,st,k=>match st.H b with
  |some (true,[.rws E ll (some p)])=>match st.H p.2 with
   |some (true,[.aD E' l'])=>match jQ E E' l' with
    |some l=>if p.1<ll.length then OD r {st with H:=bU st.H [(b,true,[.rws E (ll.set p.1 l) none]),(p.2,true,[])]} k else none
    |none=>none
   |_=>OD r st k
  |_=>OD r st k
theorem tq:∀{l:List Nat} {st:St} {k:St->Option α} {r:α},OD l st k=some r->∃st',k st'=some r/\st'.to st
 |[],st,k,r,h=>⟨st,h,λ_ _ _ _ _ _ h=>h⟩
 |b::l,st,k,r,h=>by
  simp only[OD] at h
  split at h
  .rename_i E ll p hb
   split at h
   .rename_i E' l' hc
    split at h
    .rename_i m hm
     split at h
     .rename_i hi
      obtain⟨st',h1,h2⟩:=tq h
      refine⟨st',h1,λw0 S nb idb a w hr=>h2 _ _ _ _ _ _ ?_⟩
      obtain⟨ids,hr⟩:=hr
      obtain⟨i,c⟩:=p
      have hEE:=(sZ hm).1
      subst hEE
      have hml:m=l':=by
       cases E with
       |int k=>simpa[jQ] using hm.symm
       |bool=>simpa[jQ] using hm.symm
       |str=>simpa[jQ] using hm.symm
       |rc ks=>simpa[jQ] using hm.symm
       |mx ps=>simpa[jQ] using hm.symm
      subst hml
      exact⟨ids,hr.shut hb hi hc⟩
     .cases h
    .cases h
   .exact tq h
  .exact tq h
def ahM(D:uz)(id:Nat)(k:Ex->St->Option α)(e:Ex)(st:St):Option α:=
 match aT D.xs e.code with
 |some sl=>OD (gather st.H 200 (D.low++(qZ st.T sl).flatMap TV.nm) []) st λst=>match canon D.low sl st with
  |some (ts,bl,bs)=>cond (Nat.beq D.n st.n) (k (e.inBlock id) (bG D.n sl ts bl bs)) none
  |none=>none
 |none=>none
def xO(D:uz)(F:List Lf->(Ex->St->Option α)->Option α)(st:St)(k:Ex->St->Option α):Option α:=
 match canon D.low D.sl st with
 |some (ts,bl,bs)=>cond (Na bl D.bl&&Nat.beq D.n st.n) (match aaE D.tp ts with
  |some l1=>match aaD D.bp bs with
   |some l2=>F (l1++l2) k
   |none=>none
  |none=>none) none
 |none=>none
def aeO(D:uz)(F:List Lf->(Ex->St->Option α)->Option α)(e:St->(Ex->St->Option α)->Option α)(st:St)(k:Ex->St->Option α):Option α:=
 match canon D.low D.sl st with
 |some (ts,bl,bs)=>cond (Na bl D.bl&&Nat.beq D.n st.n) (match aaE D.tp ts with
  |some l1=>match aaD D.bp bs with
   |some l2=>F (l1++l2) k
   |none=>e st k
  |none=>e st k) (e st k)
 |none=>e st k
theorem af7{D:uz}{F:List Lf->(Ex->St->Option α)->Option α}{e:St->(Ex->St->Option α)->Option α}{st:St}{k:Ex->St->Option α}{r:α}(h:aeO D F e st k=some r):
  xO D F st k=some r\/e st k=some r:=by
 unfold aeO at h
 unfold xO
 split at h
 .rename_i ts bl bs hbs
  try simp only[hbs]
  cases hc:(Na bl D.bl&&Nat.beq D.n st.n) with
  |false=>rw[hc] at h;exact .inr h
  |true=>
   rw[hc] at h
   simp only[cond_true] at h|-
   split at h
   .rename_i l1 hl1
    try simp only[hl1]
    split at h
    .rename_i l2 hl2
     try simp only[hl2]
     exact .inl h
    .exact .inr h
   .exact .inr h
 .exact .inr h
def Ih(D:uz)(ls:List Lf):St:=bG D.n D.sl (dS D.tp ls).1 D.bl (fZ D.bp (dS D.tp ls).2).1
def anX(D:uz)(id:Nat)(L:St->(Ex->St->Option α)->Option α)(k:Ex->St->Option α)(e:Ex)(st:St):Option α:=
 match e with
 | .normal=>L st k
 |e=>ahM D id k e st
theorem IL{D:uz}{id:Nat}{k:Ex->St->Option α}{e:Ex}{st:St}{r:α}(h:ahM D id k e st=some r):∃st',k (e.inBlock id) st'=some r/\st'.to st:=by
 unfold ahM at h
 split at h
 .rename_i sl _
  obtain⟨st1,h,hto⟩:=tq h
  split at h
  .rename_i ts bl bs hbs
   obtain⟨h1,h2⟩:=dh h
   exact⟨_,h2,λw0 S nb idb a w hr=>Ij (Nat.eq_of_beq_eq_true h1) hbs _ _ _ _ _ _ (hto _ _ _ _ _ _ hr)⟩
  .cases h
 .cases h
theorem KS{D:uz}{F:List Lf->(Ex->St->Option α)->Option α}{st:St}{k:Ex->St->Option α}{r:α}(h:xO D F st k=some r):
  ∃ls,F ls k=some r/\(Ih D ls).to st:=by
 unfold xO at h
 split at h
 .rename_i ts bl bs hbs
  obtain⟨h1,h2⟩:=dh h
  simp only[Bool.and_eq_true] at h1
  split at h2
  .rename_i l1 hl1
   split at h2
   .rename_i l2 hl2
    refine⟨_,h2, ?_⟩
    have e1:=DJ hl1 l2
    have e2:=DF hl2 []
    rw[List.append_nil] at e2
    unfold Ih
    rw[e1]
    simp only
    rw[e2,<-UD h1.1]
    exact Ij (Nat.eq_of_beq_eq_true h1.2) hbs
   .cases h2
  .cases h2
 .cases h
theorem aeP{tab:iL}{h:Hd}(ht:a_ P tab)(hc:h.ah P)(hm:P.follows .mixedOrders=true){b:Code}(hl:eO P h b){D:uz}{id:Nat}
  {F:Nat->List Lf->(Ex->St->Option α)->Option α} (h0:∀ls k,F 0 ls k=none)
  (hstep:∀n ls k,F (n+1) ls k=ev tab h b (Ih D ls) (anX D id (xO D (F n)) k)) {n:Nat} {st:St} {k:Ex->St->Option α} {r:α}
  (hev:xO D (F n) st k=some r):∃e st',k e st'=some r/\g_ P (.block id (.loop b)) st e st':=by
 suffices∃e st1 st',k (e.inBlock id) st'=some r/\Rounds P b n st e st1/\st'.to st1 by
  obtain⟨e,st1,st',h1,h2,h3⟩:=this
  exact⟨_,_,h1,UH h3 (Im (afu h2))⟩
 induction n generalizing st with
 |zero=>
  obtain⟨ls,h1,_⟩:=KS hev
  rw[h0] at h1;cases h1
 |succ n ih=>
  obtain⟨ls,h1,hle⟩:=KS hev
  rw[hstep] at h1
  obtain⟨e,st1,h2,h3⟩:=jV ht hc hm b _ _ r hl h1
  have h3':=Yr hle h3
  cases e with
  |normal=>
   obtain⟨e,st2,st',g1,g2,g3⟩:=ih h2
   exact⟨e,st2,st',g1, .inl ⟨st1,h3',g2⟩,g3⟩
  |ret=>
   obtain⟨st',g1,g2⟩:=IL h2
   exact⟨_,st1,st',g1, .inr ⟨by simp,h3'⟩,g2⟩
  |exit j=>
   obtain⟨st',g1,g2⟩:=IL h2
   exact⟨_,st1,st',g1, .inr ⟨by simp,h3'⟩,g2⟩
end
def fK:Code->List (Nat×Code)
 | .seq a b=>fK a++fK b
 | .cond _ a b=>fK a++fK b
 | .block id (.loop b)=>[(id,b)]
 | .block _ c=>fK c
 |_=>[]
theorem iC{h:Hd}:∀(c:Code),(∀p∈fK c,∀(α:Type) (st:St) (k:Ex->St->Option α) (r:α),h.loop p.1 st k=some r->∃e st',k e st'=some r/\g_ P (.block p.1 (.loop p.2)) st e st')->eO P h c
 | .seq a b,H=>⟨iC a λp hp=>H p (List.mem_append_left _ hp),iC b λp hp=>H p (List.mem_append_right _ hp)⟩
 | .cond _ a b,H=>⟨iC a λp hp=>H p (List.mem_append_left _ hp),iC b λp hp=>H p (List.mem_append_right _ hp)⟩
 | .block id c,H=>by
  by_cases hloop:∃b,c= .loop b
  .obtain⟨b,rfl⟩:=hloop
   exact λα st k r h=>H (id,b) (by simp[fK]) α st k r h
  .have hl:fK (.block id c)=fK c:=by
    cases c<;>first|rfl|exact absurd ⟨_,rfl⟩ hloop
   have:=iC c (λp hp=>H p (by rw[hl];exact hp))
   cases c<;>first|exact this|exact absurd ⟨_,rfl⟩ hloop
 | .skip,_=>trivial
 | .ret,_=>trivial
 | .exit _,_=>trivial
 | .region ..,_=>trivial
 | .loop _,_=>trivial
 | .rangeFunc ..,_=>trivial
 | .scope _,_=>trivial
 | .label _,_=>trivial
 | .goto _,_=>trivial
 | .refuse _,_=>trivial
def yR:Code->Nat->Option Code
 | .seq a b,i=>match yR a i with
  |some c=>some c
  |none=>yR b i
 | .cond _ a b,i=>match yR a i with
  |some c=>some c
  |none=>yR b i
 | .block id (.loop b),i=>cond (Nat.beq id i) (some b) (yR b i)
 | .block _ c,i=>yR c i
 |_,_=>none
def pu(fn:Func):Code:=match fn.body with
 |some c=>c
 |none=> .skip
def rQ(fn:Func)(i:Nat):Code:=match yR (pu fn) i with
 |some c=>c
 |none=> .skip
theorem oF{fn:Func}{c:Code}(h:fn.body=some c):c=pu fn:=by simp[pu,h]
def COk(P:Program)(call:{α:Type}->Nat->List TV->List bg->(TV->List (List Seg)->List (List Seg)->Option α)->Option α):Prop:=
 ∀(α:Type) (f:Nat) (args:List TV) (Bs:List bg) (k:TV->List (List Seg)->List (List Seg)->Option α) (r:α),call f args Bs k=some r->
  ∃v Bs' Ns,k v Bs' Ns=some r/\Yd P f args Bs v Bs' Ns
abbrev Mk(α:Type):Type:=TV->List (List Seg)->List (List Seg)->Option α
abbrev KEx(α:Type):Type:=Ex->St->Option α
def asL(P:Program)(id:Nat)(b:Code){α:Type}(st:St)(k:KEx α)(r:α):Prop:=∃e st',k e st'=some r/\g_ P (.block id (.loop b)) st e st'
section
variable {α:Type}
def yY(tp:List TP)(bp:List BP)(F:List Lf->(TV->List (List Seg)->List (List Seg)->Option α)->Option α)(args:List TV)(Bs:List bg)
  (k:TV->List (List Seg)->List (List Seg)->Option α):Option α:=
 match aaE tp args with
 |some l1=>match aaD bp Bs with
  |some l2=>F (l1++l2) k
  |none=>none
 |none=>none
theorem agz{tp:List TP}{bp:List BP}{F:List Lf->(TV->List (List Seg)->List (List Seg)->Option α)->Option α}{args:List TV}{Bs:List bg}
  {k:TV->List (List Seg)->List (List Seg)->Option α} {r:α} (h:yY tp bp F args Bs k=some r):
  ∃ls,F ls k=some r/\args=(dS tp ls).1/\Bs=(fZ bp (dS tp ls).2).1:=by
 unfold yY at h
 split at h
 .rename_i l1 h1
  split at h
  .rename_i l2 h2
   have e1:=DJ h1 l2
   have e2:=DF h2 []
   rw[List.append_nil] at e2
   refine⟨_,h, ?_, ?_⟩
   .rw[e1]
   .rw[e1];simp only;rw[e2]
  .cases h
 .cases h
def lQ(P:Program)(f:Nat)(K:{α:Type}->List TV->List bg->(TV->List (List Seg)->List (List Seg)->Option α)->Option α):Prop:=
 ∀(α:Type) (args:List TV) (Bs:List bg) (k:TV->List (List Seg)->List (List Seg)->Option α) (r:α),K args Bs k=some r->
  ∃v Bs' Ns,k v Bs' Ns=some r/\Yd P f args Bs v Bs' Ns
end
theorem apt:COk P (λ_ _ _ _=>none):=by intro α f args Bs k r h;cases h
theorem ahr{g:Nat}{K:{α:Type}->List TV->List bg->(TV->List (List Seg)->List (List Seg)->Option α)->Option α}
  {c:{α:Type}->Nat->List TV->List bg->(TV->List (List Seg)->List (List Seg)->Option α)->Option α} (hK:lQ P g K) (hc:COk P c):
  COk P (λf args Bs k=>cond (Nat.beq f g) (K args Bs k) (c f args Bs k)):=by
 intro α f args Bs k r h
 simp only at h
 cases hb:Nat.beq f g with
 |true=>rw[hb] at h;rw[Nat.eq_of_beq_eq_true hb];exact hK α args Bs k r h
 |false=>rw[hb] at h;exact hc α f args Bs k r h
def rowE{α:Type}(tp:List TP)(bp:List BP)(F:List Lf->(TV->List (List Seg)->List (List Seg)->Option α)->Option α)
  (e:List TV->List bg->(TV->List (List Seg)->List (List Seg)->Option α)->Option α) (args:List TV) (Bs:List bg)
  (k:TV->List (List Seg)->List (List Seg)->Option α):Option α:=
 match aaE tp args with
 |some l1=>match aaD bp Bs with
  |some l2=>F (l1++l2) k
  |none=>e args Bs k
 |none=>e args Bs k
theorem aov{f:Nat}{tp:List TP}{bp:List BP}{F:{α:Type}->List Lf->(TV->List (List Seg)->List (List Seg)->Option α)->Option α}
  {e:{α:Type}->List TV->List bg->(TV->List (List Seg)->List (List Seg)->Option α)->Option α} (h1:lQ P f (λ{α}=>yY tp bp (F (α:=α)))) (h2:lQ P f e):
  lQ P f (λ{α}=>rowE tp bp (F (α:=α)) (e (α:=α))):=by
 intro α args Bs k r h
 replace h:rowE tp bp F e args Bs k=some r:=h
 simp only[rowE] at h
 split at h
 .rename_i l1 hl1
  split at h
  .rename_i l2 hl2
   refine h1 α args Bs k r ?_
   show yY tp bp F args Bs k=some r
   simp only[yY,hl1,hl2];exact h
  .exact h2 α args Bs k r h
 .exact h2 α args Bs k r h
def uo(P:Program)(f:Nat)(tp:List TP)(bp:List BP)(F:{α:Type}->List Lf->(TV->List (List Seg)->List (List Seg)->Option α)->Option α):Prop:=
 ∀(α:Type) (ls:List Lf) (k:TV->List (List Seg)->List (List Seg)->Option α) (r:α),F ls k=some r->
  ∃v Bs' Ns,k v Bs' Ns=some r/\Yd P f (dS tp ls).1 (fZ bp (dS tp ls).2).1 v Bs' Ns
theorem asZ{tab:iL}{h:Hd}(ht:a_ P tab)(hc:h.ah P)(hm:P.follows .mixedOrders=true){f:FuncId}{fn:Func}(hf:P.funcs[f]? =some fn)
  (hname:(fn.name== "runtime.NumGoroutine")=false) (hl:∀c,fn.body=some c->eO P h c) {tp:List TP} {bp:List BP}
  {F:{α:Type}->List Lf->(TV->List (List Seg)->List (List Seg)->Option α)->Option α}
  (hmain:∀(α:Type) ls (k:TV->List (List Seg)->List (List Seg)->Option α),F ls k=Nn tab h fn (dS tp ls).1 (fZ bp (dS tp ls).2).1 k):
  uo P f tp bp F:=by
 intro α ls k r h1
 replace h1:F ls k=some r:=h1
 rw[hmain] at h1
 exact U3 ht hc hm hf hname hl h1
theorem awf{tab:iL}{h:Hd}(ht:a_ P tab)(hc:h.ah P)(hm:P.follows .mixedOrders=true){f:FuncId}{fn:Func}(hf:P.funcs[f]? =some fn)
  (hname:(fn.name== "runtime.NumGoroutine")=false) (hl:∀c,fn.body=some c->eO P h c) {b:Nat} {tp:List TP} {bp:List BP}
  {F:{α:Type}->List Lf->(TV->List (List Seg)->List (List Seg)->Option α)->Option α}
  (hmain:∀(α:Type) ls (k:TV->List (List Seg)->List (List Seg)->Option α),F ls k=Qc tab h fn b (dS tp ls).1 (fZ bp (dS tp ls).2).1 k):
  uo P f tp bp F:=by
 intro α ls k r h1
 replace h1:F ls k=some r:=h1
 rw[hmain] at h1
 exact Qd ht hc hm hf hname hl h1
theorem row_of{f:FuncId}{tp:List TP}{bp:List BP}{F:{α:Type}->List Lf->(TV->List (List Seg)->List (List Seg)->Option α)->Option α}(h:uo P f tp bp F):
  lQ P f (λ{α}=>yY tp bp (F (α:=α))):=by
 intro α args Bs k r hev
 obtain⟨ls,h1,rfl,rfl⟩:=agz hev
 exact h α ls k r h1
end
abbrev aH:Type:=List (List Int)
abbrev Ty1:Type:=List ByteArray
abbrev gN:Type:=List (List (Int×(Bool×(List Int×Unit))))
abbrev Ty3:Type:=List (Int×(Bool×(List Int×Unit)))
abbrev Ty4:Type:=Int×(Bool×(List Int×Unit))
abbrev iM:Type:=List (List Int×(Bool×(List Int×Unit)))
abbrev Ty6:Type:=List Bool
abbrev Ty7:Type:=Bool×(List Int×Unit)
def tab:iL where
 agg:=[(32,6),(34,7),(67,5),(145,2),(155,6),(174,6),(192,12)]
 GK:=[2,3,4,5,9,22,24,31,38,61,65,89,102,103,124,138,141]
 zero:=[(2,[(.one (.int .i64 (0:Int)))]),(4,[(.one (.bool false))]),(5,[(.one (.int .u8 (0:Int)))]),(9,[(.one (.str (⟨#[]⟩:ByteArray)))]),(32,[(.seq (.int .u32) 6 [0,0,0,0,0,0])]),(34,[(.one (.bool false)),(.seq (.int .u32) 6 [0,0,0,0,0,0])]),(38,[(.one .gM)]),(65,[(.one (.int .i16 (0:Int)))]),(67,[(.one (.int .i8 (0:Int))),(.one (.int .i16 (0:Int))),(.one (.int .i16 (0:Int))),(.one (.int .i64 (0:Int))),(.one (.int .i64 (0:Int)))]),(89,[(.one .gM)]),(105,[(.one (.bool false)),(.one .gM),(.one .unk),(.one .gM),(.one (.int .i64 (0:Int)))]),(126,[(.one .gM),(.one (.int .i64 (0:Int))),(.one (.int .u64 (0:Int)))]),(140,[(.one .gM),(.one .gM),(.one .gM)]),(141,[(.one .gM)]),(143,[(.one (.int .i64 (0:Int))),(.one (.bool false)),(.seq (.int .u32) 6 [0,0,0,0,0,0])]),(145,[(.one (.int .i16 (0:Int))),(.one (.int .i16 (0:Int)))]),(155,[(.seq (.int .u32) 6 [0,0,0,0,0,0])]),(174,[(.seq (.int .u32) 6 [0,0,0,0,0,0])]),(192,[(.seq (.int .u32) 12 [0,0,0,0,0,0,0,0,0,0,0,0])]),(213,[(.seq (.int .u8) 24 (List.replicate 24 0))]),(248,[(.seq (.int .u32) 7 [0,0,0,0,0,0,0])])]
 fld:=[(34,[(0,1),(1,6)]),(67,[(0,1),(1,1),(2,1),(3,1),(4,1)]),(101,[(0,1)]),(105,[(0,1),(1,1),(2,1),(3,1),(4,1)]),(126,[(0,1),(1,1),(2,1)]),(140,[(0,1),(1,1),(2,1)]),(143,[(0,1),(1,7)]),(145,[(0,1),(1,1)])]
 arr:=[(32,6,1),(155,6,1),(174,6,1),(192,12,1),(213,24,1),(231,20,1),(248,7,1)]
 kN:=[(22,5,1),(24,67,5),(38,2,1),(58,9,1),(89,65,1),(90,4,1),(103,145,2),(138,141,1),(141,143,8),(193,31,1)]
 knd:=[(2, .i64),(3, .i64),(5, .u8),(31, .u32),(61, .i8),(65, .i16),(124, .u64),(158, .u64)]
 str:=[9]
 bol:=[4]
 eqt:=[(32,[(.int .u32),(.int .u32),(.int .u32),(.int .u32),(.int .u32),(.int .u32)]),(34,[.bool,(.int .u32),(.int .u32),(.int .u32),(.int .u32),(.int .u32),(.int .u32)]),(67,[(.int .i8),(.int .i16),(.int .i16),(.int .i64),(.int .i64)]),(155,[(.int .u32),(.int .u32),(.int .u32),(.int .u32),(.int .u32),(.int .u32)]),(174,[(.int .u32),(.int .u32),(.int .u32),(.int .u32),(.int .u32),(.int .u32)])]
 aix:=[(155,6,31)]
 mps:=[(102,145,34,[.i16, .i16],(.mx [.b, .a .u32 6]))]
 rws:=[(138,(.mx [.i .i64, .b, .a .u32 6]))]
 ngs:=[(105,3,(.rc [.i16, .i16])),(140,2,(.rc [.i16, .i16]))]
 ifc:=[75]
 flt:=[(34,[4,32])]
def oq:ByteArray:=⟨#[0,1,2,2,3,3,3,3,4,4,4,4,4,4,4,4,5,5,5,5,5,5,5,5,5,5,5,5,5,5,5,5,6,6,6,6,6,6,6,6,6,6,6,6,6,6,6,6,6,6,6,6,6,6,6,6,6,6,6,6,6,6,6,6,7,7,7,7,7,7,7,7,7,7,7,7,7,7,7,7,7,7,7,7,7,7,7,7,7,7,7,7,7,7,7,7,7,7,7,7,7,7,7,7,7,7,7,7,7,7,7,7,7,7,7,7,7,7,7,7,7,7,7,7,7,7,7,7,8,8,8,8,8,8,8,8,8,8,8,8,8,8,8,8,8,8,8,8,8,8,8,8,8,8,8,8,8,8,8,8,8,8,8,8,8,8,8,8,8,8,8,8,8,8,8,8,8,8,8,8,8,8,8,8,8,8,8,8,8,8,8,8,8,8,8,8,8,8,8,8,8,8,8,8,8,8,8,8,8,8,8,8,8,8,8,8,8,8,8,8,8,8,8,8,8,8,8,8,8,8,8,8,8,8,8,8,8,8,8,8,8,8,8,8,8,8,8,8,8,8,8,8,8,8,8,8]⟩
theorem aAF:aAE Tryz.prog tab=true:=by kernel_rfl
theorem X0:a_ Tryz.prog tab:=aoT aAF
theorem mixed:Tryz.prog.follows .mixedOrders=true:=by kernel_rfl
noncomputable abbrev bE:Program:=Tryz.prog
abbrev ax(S:Type->Type):Type 1:={α:Type}->S α
abbrev aA:Type:=List Int
abbrev QLT(S:Type->Type):Type 1:={α:Type}->S α->S α
structure bR (S:Type->Type) where
 n:Nat
 tp:List TP
 bp:List BP
 K:{α:Type}->S α->List Lf->Mk α->Option α
structure jh (S:Type->Type) where
 i:Nat
 D:uz
 K:{α:Type}->S α->List Lf->KEx α->Option α
abbrev QRT:Type 1:={α:Type}->List TV->List bg->Mk α->Option α
abbrev QCT:Type 1:={α:Type}->Nat->List TV->List bg->Mk α->Option α
abbrev QST:Type 1:={α:Type}->St->KEx α->Option α
abbrev QQT:Type 1:={α:Type}->Nat->St->KEx α->Option α
section
variable {S S':Type->Type}
def aK(X:bR S)(G:ax S):QRT:=yY X.tp X.bp (X.K G)
def QRe(X:bR S)(G:ax S)(e:QRT):QRT:=rowE X.tp X.bp (X.K G) e
def aL(n:Nat)(R:QRT)(c:QCT):QCT:=λf a B k=>cond (Nat.beq f n) (R a B k) (c f a B k)
def bZ:QCT:=λ_ _ _ _=>none
def aS(Y:jh S)(L:ax S):QST:=xO Y.D (Y.K L)
def QLe(Y:jh S)(L:ax S)(e:QST):QST:=aeO Y.D (Y.K L) e
def jD(i:Nat)(R:QST)(c:QQT):QQT:=λid st k=>cond (Nat.beq id i) (R st k) (c id st k)
def cO:QQT:=λ_ _ _=>none
def bH(n:Nat)(l:List Nat)(r:Nat->List Nat):Nat->List Nat:=λf=>cond (Nat.beq f n) l (r f)
def cZ:Nat->List Nat:=λ_=>[]
abbrev bB(X:bR S)(G:ax S):Prop:=lQ bE X.n (aK X G)
theorem Qce{X:bR S}{G:ax S}{e:QRT}(h:bB X G)(g:lQ bE X.n e):lQ bE X.n (QRe X G e):=aov h g
theorem aM{n:Nat}{R:QRT}{c:QCT}{l:QQT}{r:Nat->List Nat}(h:lQ bE n R)(g:(⟨c,l,r⟩:Hd).ah bE):(⟨aL n R c,l,r⟩:Hd).ah bE:=ahr h g
theorem cK{l:QQT}{r:Nat->List Nat}:(⟨bZ,l,r⟩:Hd).ah bE:=apt
def jg(R:QST)(i:Nat)(f:Func):Prop:=∀(α:Type) (st:St) (k:KEx α) (r:α),R st k=some r->asL bE i (rQ f i) st k r
theorem Qle{Y:jh S}{L:ax S}{R:QST}{i:Nat}{f:Func}(h:jg (aS Y L) i f)(g:jg R i f):jg (QLe Y L R) i f:=λα st k r e=>(af7 (show aeO Y.D (Y.K L) R st k=some r from e)).elim (h α st k r) (g α st k r)
def QLA(h:Hd)(f:Func):List Nat->Prop
 |[]=>True
 |i::r=>jg (λst k=>h.loop i st k) i f/\QLA h f r
theorem abh{h:Hd}{f:Func}:∀{l:List Nat} {i:Nat},QLA h f l->i∈l->jg (λst k=>h.loop i st k) i f
 |j::l,i,h,hi=>by
  rcases List.mem_cons.1 hi with rfl|hi
  .exact h.1
  .exact abh h.2 hi
theorem avJ{h:Hd}{f:Func}{l:List Nat}{c:Code}(hl:QLA h f l)(e:fK c=l.map λi=>(i,rQ f i)):eO bE h c:=iC _ λp hp=>by
 rw[e] at hp
 obtain⟨i,hi,rfl⟩:=List.mem_map.1 hp
 exact abh hl hi
def dz(X:bR S)(F:ax S)(h:Hd)(f:Func):Prop:=∀(α:Type) (ls:List Lf) (k:Mk α),X.K F ls k=Nn tab h f (dS X.tp ls).1 (fZ X.bp (dS X.tp ls).2).1 k
def Ye(X:bR S)(F:ax S)(h:Hd)(f:Func)(b:Nat):Prop:=∀(α:Type) (ls:List Lf) (k:Mk α),X.K F ls k=Qc tab h f b (dS X.tp ls).1 (fZ X.bp (dS X.tp ls).2).1 k
theorem afi{X:bR S}{F:ax S}{h:Hd}{f:Func}{l:List Nat}(hc:h.ah bE)(hl:QLA h f l)(hm:dz X F h f)(e:fK (pu f)=l.map λi=>(i,rQ f i):=by kernel_rfl)(hf:bE.funcs[X.n]? =some f:=by kernel_rfl)
  (hn:(f.name== "runtime.NumGoroutine")=false:=by kernel_rfl):uo bE X.n X.tp X.bp (X.K F):=asZ X0 hc mixed hf hn (λc hc=>by rw[oF hc];exact avJ hl e) hm
theorem avK{X:bR S}{F:ax S}{h:Hd}{f:Func}{l:List Nat}{b:Nat}(hc:h.ah bE)(hl:QLA h f l)(hm:Ye X F h f b)(e:fK (pu f)=l.map λi=>(i,rQ f i):=by kernel_rfl)(hf:bE.funcs[X.n]? =some f:=by kernel_rfl)
  (hn:(f.name== "runtime.NumGoroutine")=false:=by kernel_rfl):uo bE X.n X.tp X.bp (X.K F):=awf X0 hc mixed hf hn (λc hc=>by rw[oF hc];exact avJ hl e) hm
theorem bT{X:bR S}{F:ax S}{h:Hd}{f:Func}(hc:h.ah bE)(hm:dz X F h f)(e:fK (pu f)=[]:=by kernel_rfl)(hf:bE.funcs[X.n]? =some f:=by kernel_rfl)
  (hn:(f.name== "runtime.NumGoroutine")=false:=by kernel_rfl):bB X F:=row_of (afi (l:=[]) hc trivial hm e hf hn)
theorem gu{X:bR S}{F:ax S}{h:Hd}{f:Func}(l:List Nat)(hc:h.ah bE)(hl:QLA h f l)(hm:dz X F h f)(e:fK (pu f)=l.map λi=>(i,rQ f i):=by kernel_rfl)(hf:bE.funcs[X.n]? =some f:=by kernel_rfl)
  (hn:(f.name== "runtime.NumGoroutine")=false:=by kernel_rfl):bB X F:=row_of (afi hc hl hm e hf hn)
theorem Fq{X:bR S}{F:ax S}{h:Hd}{f:Func}{b:Nat}(l:List Nat)(hc:h.ah bE)(hl:QLA h f l)(hm:Ye X F h f b)(e:fK (pu f)=l.map λi=>(i,rQ f i):=by kernel_rfl)(hf:bE.funcs[X.n]? =some f:=by kernel_rfl)
  (hn:(f.name== "runtime.NumGoroutine")=false:=by kernel_rfl):bB X F:=row_of (avK hc hl hm e hf hn)
def jq(Y:jh S)(q:QLT S)(h:Hd)(f:Func):Prop:=∀(α:Type) (r:S α) (ls:List Lf) (k:KEx α),Y.K (q r) ls k=ev tab h (rQ f Y.i) (Ih Y.D ls) (anX Y.D Y.i (xO Y.D (Y.K r)) k)
theorem jy{Y:jh S}{q:QLT S}{h:Hd}{f:Func}(l:List Nat)(N:Nat->ax S)(m:Nat)(hc:h.ah bE)(hl:QLA h f l)(hs:jq Y q h f)(h0:∀(α:Type) ls (k:KEx α),Y.K (N 0) ls k=none:=by exact λ_ _ _=>rfl)
  (hq:∀n (α:Type), @N (n+1) α=q (N n):=by exact λ_ _=>rfl) (e:fK (rQ f Y.i)=l.map λi=>(i,rQ f i):=by kernel_rfl):jg (aS Y (N m)) Y.i f:=λα st k r hev=>
 aeP (F:=λn=>Y.K (N n)) X0 hc mixed (avJ hl e) (h0 α) (λn ls k=>by rw[hq];exact hs α _ ls k) hev
end
abbrev aI(l:List Lf)(n:Nat):Int:=(lf l n).int
abbrev eu(l:List Lf)(n:Nat):Bool:=(lf l n).bool
abbrev aO(l:List Lf)(n:Nat):Nat:=(lf l n).nat
abbrev QvS(l:List Lf)(n:Nat):ByteArray:=(lf l n).str
abbrev aB:EK:= .rc [.i8, .i16, .i16, .i64, .i64]
abbrev aY:EK:= .rc [.i16, .i16]
abbrev iF:EK:= .mx [.b, .a .u32 6]
abbrev tJ:EK:= .mx [.i .i64, .b, .a .u32 6]
abbrev aC:EK:= .int .u32
abbrev bD:TP:= .vl (.sv (.int .i64))
abbrev xh:TP:= .vl (.agg [.one .bool, .seq (.int .u32) 6])
abbrev bL(b:Nat):TP:= .vl (.sv (.ptr b 0))
abbrev gL(b:Nat):TV:= .vl (.sv (.ptr b 0))
abbrev xE(x:Int):TV:= .vl (.sv (.int .i64 x))
abbrev zm(x:Bool):TV:= .vl (.sv (.bool x))
abbrev S_(b:Bool)(x:List Int):TV:= .vl (.agg [.one (.bool b), .seq (.int .u32) 6 x])
abbrev bX(x:List Int):Seg:= .seq (.int .u32) 6 x
abbrev lN(x:Bool):Seg:= .one (.bool x)
abbrev Ml(x:Int):Seg:= .one (.int .i64 x)
theorem lo0{P:Program}{h:Hd}{fn:Func}(h0:fK (pu fn)=[]):∀c,fn.body=some c->eO P h c:=λc hc=>by
 rw[oF hc]
 exact iC _ (λp hp=>by rw[h0] at hp;cases hp)
theorem lb0{P:Program}{h:Hd}{b:Code}(h0:fK b=[]):eO P h b:=iC _ (λp hp=>by rw[h0] at hp;cases hp)
theorem lo1{P:Program}{h:Hd}{fn:Func}{i:Nat}{b:Code}(h1:fK (pu fn)=[(i,b)])(H:∀(α:Type) (st:St) (k:Ex->St->Option α) (r:α),h.loop i st k=some r->∃e st',k e st'=some r/\g_ P (.block i (.loop b)) st e st'):∀c,fn.body=some c->eO P h c:=λc hc=>by
 rw[oF hc]
 exact iC _ (λp hp=>by
 rw[h1] at hp
 simp only[List.mem_cons,List.not_mem_nil,or_false] at hp
 rcases hp with rfl
 exact H)
theorem fnk{h:Hd}(hc:h.ah Tryz.prog){f:FuncId}{fn:Func}(hl:∀c,fn.body=some c->eO Tryz.prog h c){tp:List TP}{bp:List BP}{F:{α:Type}->List Lf->Mk α->Option α}
 (hmain:∀(α:Type) ls (k:Mk α),F ls k=Nn tab h fn (dS tp ls).1 (fZ bp (dS tp ls).2).1 k) (hf:Tryz.prog.funcs[f]? =some fn:=by kernel_rfl) (hname:(fn.name== "runtime.NumGoroutine")=false:=by kernel_rfl):uo Tryz.prog f tp bp F:=asZ X0 hc mixed hf hname hl hmain
theorem lpk{h:Hd}(hc:h.ah Tryz.prog){b:Code}(hl:eO Tryz.prog h b){D:uz}{id:Nat}{α:Type}{F:Nat->List Lf->KEx α->Option α}(h0:∀ls k,F 0 ls k=none)
 (hstep:∀n ls k,F (n+1) ls k=ev tab h b (Ih D ls) (anX D id (xO D (F n)) k)) {n:Nat} {st:St} {k:KEx α} {r:α} (hev:xO D (F n) st k=some r):asL Tryz.prog id b st k r:=aeP X0 hc mixed hl h0 hstep hev
theorem rwk{h:Hd}(hc:h.ah Tryz.prog){f:FuncId}{fn:Func}(hl:∀c,fn.body=some c->eO Tryz.prog h c){tp:List TP}{bp:List BP}{F:{α:Type}->List Lf->Mk α->Option α}
 (hmain:∀(α:Type) ls (k:Mk α),F ls k=Nn tab h fn (dS tp ls).1 (fZ bp (dS tp ls).2).1 k) (hf:Tryz.prog.funcs[f]? =some fn:=by kernel_rfl) (hname:(fn.name== "runtime.NumGoroutine")=false:=by kernel_rfl):lQ Tryz.prog f (λ{α}=>yY tp bp (F (α:=α))):=row_of (fnk hc hl hmain hf hname)
abbrev uU:EK:= .int .u32
abbrev bA:BP:=(true,[(.one .bool),(.one (.eX 1 0 5)),(.one (.jZ 2)),(.one (.aQ 3 2)),(.one (.int .i64))])
abbrev vW:TP:= .vl (.agg [(.one .bool),(.seq (.int .u32) 6)])
abbrev b6:BP:=(true,[(.seq (.int .u32) 6)])
abbrev tI:TP:= .vl (.sv (.int .i64))
abbrev Al(S:Type->Type):Type 1:={α:Type}->S α
abbrev fT(t:List TP)(ls:List Lf):=(dS t ls).1
abbrev fB(t:List TP)(b:List BP)(ls:List Lf):=(fZ b (dS t ls).2).1
abbrev rN:EK:= .rc [.i8, .i16, .i16, .i64, .i64]
abbrev rP:EK:= .rc [.i16, .i16]
abbrev mW:EK:= .mx [.b, .a .u32 6]
abbrev mK:EK:= .mx [.i .i64, .b, .a .u32 6]
noncomputable section
variable {α:Type}
abbrev H6(α:Type):Type:=Int->Int->(ByteArray->Option α)->Option α
def au7:List TP:=[bD,bD]
def au6:List BP:=[]
def azK{α:Type}(G:H6 α)(ls:List Lf)(k:Mk α):Option α:=
 G (lf ls 0).int (lf ls 1).int
  (λa=>k (.vl (.sv (.str a))) [] [])
def aHL{α:Type}(G:H6 α):=yY au7 au6 (azK G)
def au5:bR H6:=⟨82,au7,au6,azK⟩
variable (G82:ax H6)
abbrev En(α:Type):Type:=Int->(ByteArray->Option α)->Option α
def amq:List TP:=[bD]
def amo:List BP:=[]
def ay5{α:Type}(G:En α)(ls:List Lf)(k:Mk α):Option α:=
 G (lf ls 0).int
  (λa=>k (.vl (.sv (.str a))) [] [])
def aHk{α:Type}(G:En α):=yY amq amo (ay5 G)
def aDs:bR En:=⟨39,amq,amo,ay5⟩
variable (G39:ax En)
abbrev M6(α:Type):Type:=ByteArray->ByteArray->(Int->Option α)->Option α
def auU:List TP:=[(.vl (.sv .str)),(.vl (.sv .str))]
def auT:List BP:=[]
def azB{α:Type}(G:M6 α)(ls:List Lf)(k:Mk α):Option α:=
 G (lf ls 0).str (lf ls 1).str
  (λa=>k (.vl (.sv (.int .i64 a))) [] [])
def aHG{α:Type}(G:M6 α):=yY auU auT (azB G)
def aE2:bR M6:=⟨75,auU,auT,azB⟩
variable (G75:ax M6)
abbrev El(α:Type):Type:=ByteArray->ByteArray->(Nat->Nat->Nat->Ty1->Option α)->Option α
def at0:List TP:=[(.vl (.sv .str)),(.vl (.sv .str))]
def atZ:List BP:=[]
def ay1{α:Type}(G:El α)(ls:List Lf)(k:Mk α):Option α:=
 G (lf ls 0).str (lf ls 1).str
  (λa b c d=>k (.vl (.sv (.eX 0 0 1 0 a b))) [] [[(.seq .str c d)]])
def aHj{α:Type}(G:El α):=yY at0 atZ (ay1 G)
def atY:bR El:=⟨34,at0,atZ,ay1⟩
variable (G34:ax El)
abbrev Cv(α:Type):Type:=ByteArray->Int->Int->(Int->Option α)->(Int->Option α)->Option α
def Qy:List TP:=[(.vl (.sv .str)),bD,bD]
def YP:List BP:=[]
def ajg{α:Type}(G:Cv α)(ls:List Lf)(k:Mk α):Option α:=
 G (lf ls 0).str (lf ls 1).int (lf ls 2).int
  (λa=>k (.iO [(.sv (.int .i64 a)),(.sv .La)]) [] [])
  (λa=>k (.iO [(.sv (.int .i64 a)),(.sv .ifo)]) [] [])
def aBP{α:Type}(G:Cv α):=yY Qy YP (ajg G)
def awZ:bR Cv:=⟨122,Qy,YP,ajg⟩
variable (G122:ax Cv)
abbrev Eo(α:Type):Type:=ByteArray->Int->(ByteArray->Option α)->Option α
def auM:List TP:=[(.vl (.sv .str)),bD]
def auL:List BP:=[]
def azt{α:Type}(G:Eo α)(ls:List Lf)(k:Mk α):Option α:=
 G (lf ls 0).str (lf ls 1).int
  (λa=>k (.vl (.sv (.str a))) [] [])
def aHA{α:Type}(G:Eo α):=yY auM auL (azt G)
def auK:bR Eo:=⟨66,auM,auL,azt⟩
variable (G66:ax Eo)
end
section
variable {P:Program}
theorem Ep:∀Bs:List bg,dN Bs (Bs.map (·.2))=Bs
 |[]=>rfl
 |B::r=>by
  simp only[List.map_cons,dN,Ep r]
  cases hb:B.1<;>simp[<-hb]
theorem uw.kept{ids:bF}{Bs:List bg}{w w':World}(h:uw ids Bs w)(hk:Keeps w w' []):uw ids Bs w':=by
 have hfoot:∀(b:Nat) (B:bg),Bs[b]? =some B->∀g∈foot w (ids b) B.2,w'.heap[g]? =w.heap[g]? :=λb B hb g hg=>
  hk.block g ((h.hid.rel b B hb).lt g hg) (by simp)
 have hf:∀(b:Nat) (B:bg),Bs[b]? =some B->foot w' (ids b) B.2=foot w (ids b) B.2:=λb B hb=>fF λhm=>hfoot b B hb _ hm
 refine⟨λi B hB=>(h.blk i B hB).congr rfl (λ_ _=>rfl) hk.size λhl=>hk.block _ ((h.blk i B hB).2.2.1 hl) (by simp),h.sep,h.cl,
  h.hid.fl,λb B hb=>(h.hid.rel b B hb).congr rfl (λ_ _=>rfl) hk.size (hfoot b B hb),λb B hb g hg=> .inl (Bw (i:=0) hb (by rw[Nat.zero_add];exact hg)),
  λb c B C hb hc lc hg=> ?_,λb c B C hb hc hne g hg hg2=> ?_⟩
 .rw[hf b B hb] at hg
  exact h.hid.sepL b c B C hb hc lc hg
 .rw[hf b B hb] at hg
  rw[hf c C hc] at hg2
  exact h.hid.sW b c B C hb hc hne g hg hg2
theorem Keeps.mono{w w':World}{S:List Nat}(h:Keeps w w' []):Keeps w w' S:=⟨h.os,h.tape,h.output,h.size,λk hk _=>h.block k hk (by simp)⟩
theorem qR{f:FuncId}{fn:Func}(hf:P.funcs[f]? =some fn)(hb:fn.body.isSome=true)(hn:(fn.name== "runtime.NumGoroutine")=false){args:List TV}{Bs:List bg}{v:TV}(hv:v.nm=[])
  (H:∀(ids:bF) (w:World) (cargs:List Value),uw ids Bs w->Cz ids args cargs->gQ w (mh w ids Bs)->Calls P f cargs.toArray w λe w'=>∃cv,e= .returned cv/\v.R ids cv/\Keeps w w' []):
  Yd P f args Bs v (Bs.map (·.2)) []:=by
 refine⟨by simp,⟨fn,hf,hb,hn⟩,λids w cargs hH hA _ _ hg=>(H ids w cargs hH hA hg).mono ?_⟩
 rintro e w' ⟨cv,rfl,hvr,hk⟩
 have hH':=hH.kept hk
 have hall:dN Bs (Bs.map (·.2))++([]:List (List Seg)).map (λN=>((true,N):bg))=Bs:=by rw[Ep];simp
 refine⟨ids,cv,rfl,⟨λ_ _=>rfl,hvr,by rw[hall];exact hH',hk.mono,λi B C h1 h2 hl=> ?_,λj N hj=>by simp at hj,λi B hB g hg'=> ?_,λb hb'=>by rw[hv] at hb';cases hb'⟩⟩
 .rw[List.getElem?_map,h1] at h2
  simp only[Option.map_some,Option.some.injEq] at h2
  rw[<-h2] at hl;exact hl
 .rw[hall] at hB
  right
  rw[fF λhm=>hk.block _ ((hH.hid.rel i B hB).lt _ hm) (by simp)] at hg'
  exact List.mem_append_right _ (Bw (i:=0) hB (by rw[Nat.zero_add];exact hg'))
theorem apI{f:FuncId}{fn:Func}(hf:P.funcs[f]? =some fn)(hb:fn.body.isSome=true)(hn:(fn.name== "runtime.NumGoroutine")=false){args:List TV}{v:TV}{N:List Seg}(hv:∀b∈v.nm,b=0)(hno:aeV N=true)(hnm:fo N=[])
  (H:∀(ids:bF) (w:World) (cargs:List Value),Cz ids args cargs->gQ w []->Calls P f cargs.toArray w λe w'=>∃cv g,e= .returned cv/\w.heap.size<=g/\(∀ids':bF,ids' 0=(g,0,0,0)->v.R ids' cv/\rC ids' w' 0 (true,N))/\Keeps w w' []):
  Yd P f args [] v [] [N]:=by
 refine⟨rfl,⟨fn,hf,hb,hn⟩,λids w cargs hH hA _ _ hg=>(H ids w cargs hA hg).mono ?_⟩
 rintro e w' ⟨cv,g,rfl,hgs,hall,hk⟩
 obtain⟨h1,h2⟩:=hall (λb=>if b=0 then(g,0,0,0) else ids b) rfl
 have hget:∀(i:Nat) (B:bg),(dN [] []++[N].map (λN=>((true,N):bg)))[i]? =some B->i=0/\B=(true,N):=by
  intro i B hB
  cases i with
  |zero=>simp[dN] at hB;exact⟨rfl,hB.symm⟩
  |succ i=>simp[dN] at hB
 refine⟨λb=>if b=0 then(g,0,0,0) else ids b,cv,rfl,⟨λi hi=>by simp at hi,h1,⟨λi B hB=> ?_,λi j B C hi hj hne=> ?_,λi B hB b hb'=> ?_,⟨λi B hB h0=> ?_,λi B hB=> ?_,λi B hB g' hg'=> ?_,λi j B C hB hC lc hg'=> ?_,λi j B C hB hC hne=> ?_⟩⟩,hk.mono,λi B C hi=>by simp at hi,λj M hj hl=> ?_,λi B hB g' hg'=> ?_,λb hb'=> ?_⟩⟩
 .obtain⟨rfl,rfl⟩:=hget i B hB;exact h2
 .obtain⟨rfl,_⟩:=hget i _ hi
  obtain⟨rfl,_⟩:=hget j _ hj
  exact absurd rfl hne
 .obtain⟨rfl,rfl⟩:=hget i B hB
  rw[hnm] at hb';cases hb'
 .obtain⟨rfl,rfl⟩:=hget i B hB;rfl
 .obtain⟨rfl,rfl⟩:=hget i B hB
  exact .BN (BL hno)
 .obtain⟨rfl,rfl⟩:=hget i B hB
  rw[dD (BL hno)] at hg';cases hg'
 .obtain⟨rfl,rfl⟩:=hget i B hB
  rw[dD (BL hno)] at hg';cases hg'
 .obtain⟨rfl,_⟩:=hget i _ hB
  obtain⟨rfl,_⟩:=hget j _ hC
  exact absurd rfl hne
 .left
  cases j with
  |zero=>simpa using hgs
  |succ j=>simp at hj
 .obtain⟨rfl,rfl⟩:=hget i B hB
  rw[dD (BL hno)] at hg';cases hg'
 .rw[hv b hb'];simp
theorem gX{w w':World}(h:RowKit.Below w.heap.size w w'):Keeps w w' []:=⟨h.os,h.tape,h.output,h.size,λk hk _=>h.block k hk⟩
theorem ahi{w w':World}(h:Keeps w w' []):RowKit.Below w.heap.size w w':=⟨h.os,h.tape,h.output,h.size,λk hk=>h.block k hk (by simp)⟩
theorem gQ.kept{w w':World}(h:gQ w [])(k:Keeps w w' []):gQ w' []:=
 ⟨λp hp=>let ⟨_,b,c⟩:=h.1 p hp;⟨by simp,Nat.lt_of_lt_of_le b k.size,λj=>(World.cell?_of_block (k.block _ b (by simp))).trans (c j)⟩,
  λg hg=>let ⟨_,b,t,v,c⟩:=h.2 g hg;⟨by simp,Nat.lt_of_lt_of_le b k.size,t,v,(World.cell?_of_block (k.block _ b (by simp))).trans c⟩⟩
theorem gQ.sub{w:World}{S:List Nat}(h:gQ w S):gQ w []:=
 ⟨λp hp=>let ⟨_,b,c⟩:=h.1 p hp;⟨by simp,b,c⟩,λg hg=>let ⟨_,b,c⟩:=h.2 g hg;⟨by simp,b,c⟩⟩
theorem O0{w:World}{ids:bF}{Bs:List bg}(hfl:∀B∈Bs,B.1=false/\gB B.2=true):mh w ids Bs=[]:=by
 have h1:∀(Bs:List bg) (i:Nat),(∀B∈Bs,B.1=false/\gB B.2=true)->Eb ids Bs i=[]/\KF w ids Bs i=[]:=by
  intro Bs
  induction Bs with
  |nil=>intro i _;exact⟨rfl,rfl⟩
  |cons B r ih=>
   intro i h
   obtain⟨a,b⟩:=ih (i+1) (λB hB=>h B (by simp[hB]))
   obtain⟨c,d⟩:=h B (by simp)
   simp only[Eb,KF,c,Bool.false_and,cond_false,a,b,dD d,List.append_nil,and_self]
 obtain⟨a,b⟩:=h1 Bs 0 hfl
 simp[mh,a,b]
theorem wI{f:FuncId}{args:List TV}{Bs:List bg}{v:TV}{Bs' Ns:List (List Seg)}(h:Yd P f args Bs v Bs' Ns)(hfl:∀B∈Bs,B.1=false/\gB B.2=true)(hl:Bs.length<=1000)(hnm:∀x∈args,∀b∈x.nm,b<Bs.length)
  {ids:bF} {w:World} {cargs:List Value} (hH:uw ids Bs w) (hA:Cz ids args cargs) (hg:gQ w []):Calls P f cargs.toArray w λe w'=>∃ids' cv,e= .returned cv/\v.R ids' cv/\RowKit.Below w.heap.size w w':=by
 refine(h.2.2 ids w cargs hH hA hnm hl (by rw[O0 hfl];exact hg)).mono ?_
 rintro e w' ⟨ids',cv,rfl,hr⟩
 refine⟨ids',cv,rfl,hr.val, ?_⟩
 have:=hr.keeps
 rw[O0 hfl] at this
 exact ahi this
theorem KE(ids:bF)(w:World):uw ids [] w:=by
 refine⟨λi B h=>by simp at h,λi j B C h=>by simp at h,λi B h=>by simp at h,λb B h=>by simp at h,λb B h=>by simp at h,λb B h=>by simp at h,λb c B C h=>by simp at h,λb c B C h=>by simp at h⟩
end
section
open Go Go.Shelf Go.RowKit
set_option maxHeartbeats 2000000
def g75{α:Type}(m:Nat):M6 α:=λs sep k=>match sep.data.toList with
 |[c]=>k ((Lib.countByte s.data.toList c:Nat):Int)
 |_=>none
theorem aol{sep:ByteArray}{c:UInt8}(h:sep.data.toList=[c]):sep=⟨#[c]⟩:=by
 apply ByteArray.ext
 exact Array.toList_inj.1 h
theorem aE1(m:Nat):lQ Tryz.prog 75 (λ{α}=>aHG (g75 m (α:=α))):=by
 refine row_of (F:=λ{α}=>azB (g75 m (α:=α))) λα ls k r h=> ?_
 replace h:g75 m (lf ls 0).str (lf ls 1).str (λy0=>k (.vl (.sv (.int .i64 y0))) [] [])=some r:=h
 unfold g75 at h
 split at h
 .rename_i c hc
  refine⟨_,_,_,h,qR (fn:=Tryz.f75) (by kernel_rfl) (by kernel_rfl) (by kernel_rfl) rfl λids w cargs hH hA hg=> ?_⟩
  obtain⟨v1,v2,rfl⟩:∃v1 v2,cargs=[v1,v2]:=by
   match cargs,hA with
   |[v1,v2],_=>exact⟨v1,v2,rfl⟩
  obtain rfl:v1= .string (lf ls 0).str:=hA.1
  obtain rfl:v2= .string (lf ls 1).str:=hA.2.1
  rw[aol hc]
  refine(Any.strings_Count_one ({Tryz.Gz with}:Lays.n138 Tryz.prog Tryz.jd) (lf ls 0).str c w).mono ?_
  rintro e w' ⟨rfl,rfl⟩
  exact⟨_,rfl,rfl,gX (Below.refl _ _)⟩
 .cases h
def lH(s:ByteArray)(c:UInt8):List ByteArray:=Lib.splitB ⟨#[c]⟩ 0 (Lib.countB s ⟨#[c]⟩) s
theorem aa_(s:ByteArray)(c:UInt8):(lH s c).length=Lib.countB s ⟨#[c]⟩+1:=Lib.splitB_all ⟨#[c]⟩ (Nat.le_refl 1) 0 _ s rfl
theorem agH(s:ByteArray)(c:UInt8)(w:World)(hs:s.size<4294967281):
  Calls Tryz.prog 34 #[.string s, .string ⟨#[c]⟩] w λe w'=>
   e= .returned (.slice (some ⟨w.heap.size,0,none⟩) (lH s c).length (lH s c).length)/\w'=w.alloc (.cells ((lH s c).map Value.string).toArray (Tryz.jd.t 9)):=by
 have h1:1<=(⟨#[c]⟩:ByteArray).size:=Nat.le_refl 1
 have hle:=Lib.countB_le ⟨#[c]⟩ h1 s.size s (Nat.le_refl _)
 have hlen:=Lib.splitB_all ⟨#[c]⟩ h1 0 _ s rfl
 have hidx:∀x:ByteArray,Lib.indexB x ⟨#[c]⟩=Lib.indexByte x.data.toList c:=λx=>Lib.index_one _ _
 have hcnt:Lib.countB s ⟨#[c]⟩=Lib.countByte s.data.toList c:=Lib.count_one c _
 have C:=Any.strings_genSplit_core ({Tryz.Gz with}:Lays.n221 Tryz.prog Tryz.jd) (by kernel_rfl) s ⟨#[c]⟩ 0 (-1) (Lib.countB s ⟨#[c]⟩+1) w hs h1 (Nat.zero_le _)
  (λx cs hx=>by
   rw[hidx]
   exact Any.strings_Index_one ({Tryz.Gz with}:Lays.n143 Tryz.prog Tryz.jd) x c _)
  (by
   rw[hcnt]
   exact Any.strings_Count_one ({Tryz.Gz with}:Lays.n138 Tryz.prog Tryz.jd) s c w)
  (by decide) (by decide) (by rw[if_pos (by decide)];omega)
 rw[Nat.add_sub_cancel,hlen] at C
 have e2:Lib.cellsOf (Lib.splitB ⟨#[c]⟩ 0 (Lib.countB s ⟨#[c]⟩) s) (Lib.countB s ⟨#[c]⟩+1)=((Lib.splitB ⟨#[c]⟩ 0 (Lib.countB s ⟨#[c]⟩) s).map Value.string).toArray:=by rw[<-hlen];exact Lib.cellsOf_full _
 rw[e2] at C
 rw[aa_]
 clear hcnt hidx e2 hlen hle
 go_enter Tryz.func34,Tryz.ntmps34
 go_wp2_with (go_at_call 78;refine C.mono ?_;rintro e w' ⟨rfl,hw⟩;rw[hw])
 go_ret
 exact⟨rfl,rfl⟩
def Fv{α:Type}(m:Nat):El α:=λs sep k=>match sep.data.toList with
 |[c]=>if s.size<4294967281 then k (lH s c).length (lH s c).length (lH s c).length (lH s c) else none
 |_=>none
theorem atX(m:Nat):lQ Tryz.prog 34 (λ{α}=>aHj (Fv m (α:=α))):=by
 refine row_of (F:=λ{α}=>ay1 (Fv m (α:=α))) λα ls k r h=> ?_
 replace h:Fv m (lf ls 0).str (lf ls 1).str (λy1 y2 y3 y4=>k (.vl (.sv (.eX 0 0 1 0 y1 y2))) [] [[(.seq .str y3 y4)]])=some r:=h
 unfold Fv at h
 split at h
 .rename_i c hc
  split at h
  .rename_i hsz
   refine⟨_,_,_,h,apI (fn:=Tryz.f34) (by kernel_rfl) (by kernel_rfl) (by kernel_rfl) (by intro b hb;simpa[TV.nm,Val.nm,SV.nm] using hb) rfl rfl λids w cargs hA hg=> ?_⟩
   obtain⟨v1,v2,rfl⟩:∃v1 v2,cargs=[v1,v2]:=by
    match cargs,hA with
    |[v1,v2],_=>exact⟨v1,v2,rfl⟩
   obtain rfl:v1= .string (lf ls 0).str:=hA.1
   obtain rfl:v2= .string (lf ls 1).str:=hA.2.1
   rw[aol hc]
   refine(agH (lf ls 0).str c w hsz).mono ?_
   rintro e w' ⟨rfl,rfl⟩
   have hob:=heap_alloc_new w (.cells ((lH (lf ls 0).str c).map Value.string).toArray (Tryz.jd.t 9))
   refine⟨_,w.heap.size,rfl,Nat.le_refl _,λids' h0=>⟨?_, ?_⟩,gX ((Below.refl _ w).alloc (Nat.le_refl _) _)⟩
   .show _=Value.slice (some ⟨(ids' 0).1,(ids' 0).2.1+(0+0*1),none⟩) _ _
    rw[h0]
   .refine⟨?_,trivial,λ_=> ?_,λj x hx=> ?_⟩
    .intro s hs
     simp only[List.mem_singleton] at hs
     subst hs
     rfl
    .rw[h0];simp
    .have hcl:af [Seg.seq .str (lH (lf ls 0).str c).length (lH (lf ls 0).str c)]=(lH (lf ls 0).str c).map SV.str:=by
      simp only[af,Seg.cells,List.flatMap_cons,List.flatMap_nil,List.append_nil]
      have:∀l:List ByteArray,l.flatMap EK.str.enc=l.map SV.str:=by
       intro l
       induction l with
       |nil=>rfl
       |cons a l ih=>rw[List.flatMap_cons,ih];rfl
      exact this _
     rw[hcl,List.getElem?_map] at hx
     simp only[Option.map_eq_some_iff] at hx
     obtain⟨y,hy,rfl⟩:=hx
     rw[h0]
     refine⟨.string y, ?_,rfl,λ_=> ?_⟩
     .rw[Nat.zero_add]
      rw[Lib.cell_of_heap hob]
      simp[hy]
     .rw[Nat.zero_add]
      exact Lib.frozen_of_heap hob _
  .cases h
 .cases h
def Fu{α:Type}(m:Nat):Cv α:=λs base bits k e=>
 if base=10/\bits=64/\s.size<=281474976710656 then(match Lib.parseIntB 64 s.data.toList with
  | .ok v=>k v
  | .range=>e (Lib.intSat 64 s.data.toList)
  |_=>e 0) else none
theorem N9{w:World}{g:Nat}(hg:gQ w [])(h:g∈anE):∃ev,w.cell? ⟨g,0,none⟩=some ev/\(ev= .nilIface\/∃te pe,ev= .iface te pe):=by
 obtain⟨_,_,t,v,h1⟩:=hg.2 g h
 exact⟨_,h1, .inr ⟨t,v,rfl⟩⟩
theorem awY(m:Nat):lQ Tryz.prog 122 (λ{α}=>aBP (Fu m (α:=α))):=by
 refine row_of (F:=λ{α}=>ajg (Fu m (α:=α))) λα ls k r h=> ?_
 replace h:Fu m (lf ls 0).str (lf ls 1).int (lf ls 2).int (λy0=>k (.iO [(.sv (.int .i64 y0)),(.sv .La)]) [] []) (λy0=>k (.iO [(.sv (.int .i64 y0)),(.sv .ifo)]) [] [])=some r:=h
 unfold Fu at h
 split at h
 .rename_i hc
  have hargs:∀(v:TV) (hv:v.nm=[]),(∀(ids:bF) (w:World),gQ w []->Calls Tryz.prog 122 #[.string (lf ls 0).str, .int .i64 10, .int .i64 64] w λe w'=>∃cv,e= .returned cv/\v.R ids cv/\Keeps w w' [])->
    Yd Tryz.prog 122 (dS Qy ls).1 (fZ YP (dS Qy ls).2).1 v [] []:=by
   intro v hv H
   refine qR (Bs:=[]) (fn:=Tryz.f122) (by kernel_rfl) (by kernel_rfl) (by kernel_rfl) hv λids w cargs hH hA hg=> ?_
   obtain⟨v1,v2,v3,rfl⟩:∃v1 v2 v3,cargs=[v1,v2,v3]:=by
    match cargs,hA with
    |[v1,v2,v3],_=>exact⟨v1,v2,v3,rfl⟩
   obtain rfl:v1= .string (lf ls 0).str:=hA.1
   obtain rfl:v2= .int .i64 (lf ls 1).int:=hA.2.1
   obtain rfl:v3= .int .i64 (lf ls 2).int:=hA.2.2.1
   rw[hc.1,hc.2.1]
   exact H ids w hg.sub
  split at h
  .rename_i v hp
   refine⟨_,_,_,h,hargs _ rfl λids w hg=>(Any.strconv_ParseInt_10_at64_ok Tryz.KL (lf ls 0).str (by omega) v hp w).mono ?_⟩
   rintro e w' ⟨rfl,hw⟩
   refine⟨_,rfl,⟨_,rfl,rfl,rfl,trivial⟩, ?_⟩
   rcases hw with rfl|⟨t,rfl⟩
   .exact gX (Below.refl _ _)
   .exact gX ⟨rfl,rfl,rfl,by rw[Lib.bytesWorld_size];omega,λk hk=>Lib.bytesWorld_at_old w _ _ k hk⟩
  .rename_i hp
   refine⟨_,_,_,h,hargs _ rfl λids w hg=> ?_⟩
   obtain⟨ev,he,hev⟩:=N9 (g:=Tryz.sI.g 16) hg (by decide)
   refine(Any.strconv_ParseInt_10_at64_range Tryz.KL (lf ls 0).str hc.2.2 hp ev w he hev).mono ?_
   rintro e w' ⟨N,rfl,_,_,hb⟩
   exact⟨_,rfl,⟨_,rfl,rfl,⟨_,_,rfl⟩,trivial⟩,gX hb⟩
  .rename_i n1 n2
   rcases hp:Lib.parseIntB 64 (lf ls 0).str.data.toList with v|_|_
   .exact absurd hp (n1 v)
   rotate_left
   .exact absurd hp n2
   refine⟨_,_,_,h,hargs _ rfl λids w hg=> ?_⟩
   obtain⟨ev,he,hev⟩:=N9 (g:=Tryz.sI.g 15) hg (by decide)
   refine(Any.strconv_ParseInt_10_at64_syntax Tryz.KL (lf ls 0).str hc.2.2 hp ev w he hev).mono ?_
   rintro e w' ⟨N,rfl,_,_,hb⟩
   exact⟨_,rfl,⟨_,rfl,rfl,⟨_,_,rfl⟩,trivial⟩,gX hb⟩
 .cases h
theorem aoU{w:World}(hg:gQ w []):Lib.TabIs Tryz.prog w "internal/strconv.uint64pow10" .u64 Lib.pow10Tab:=by
 obtain⟨_,h2,h3⟩:=hg.1 (1, .u64,DX) (by simp[Wz])
 have key:∃cs T fr,w.heap[1]? =some (.cells cs T fr):=by
  have h0:=h3 0
  unfold World.cell? at h0
  split at h0
  .rename_i cs T fr hh;exact⟨cs,T,fr,hh⟩
  .simp[DX] at h0
 obtain⟨cs,T,fr,hh⟩:=key
 unfold Lib.TabIs World.var?
 rw[show Tryz.prog.globalNamed "internal/strconv.uint64pow10" =some 1 by kernel_rfl]
 simp only[Option.bind_some,hh]
 congr 1
 apply Array.ext_getElem?
 intro j
 have h4:=h3 j
 unfold World.cell? at h4
 simp only[hh] at h4
 rw[show(⟨1,j,none⟩:Addr).spot.isSome=false from rfl] at h4
 simp only[Bool.false_eq_true,if_false] at h4
 rw[h4,show Lib.pow10Tab=DX from rfl]
 simp
theorem ET{w w':World}(h:∃k os,w'=Sort.grow (w.drewN k) os):Keeps w w' []:=by
 obtain⟨k,os,rfl⟩:=h
 exact gX ⟨rfl,rfl,rfl,by simp[Sort.grow,World.drewN],λk hk=>by simp[Sort.grow,World.drewN,Array.getElem?_append,hk]⟩
def WI(n:Int):ByteArray:=⟨(Lib.itoa n).toArray⟩
def g82{α:Type}(m:Nat):H6 α:=λn base k=>if base=10/\-9223372036854775808<=n/\n<=9223372036854775807 then k (WI n) else none
theorem au4(m:Nat):lQ Tryz.prog 82 (λ{α}=>aHL (g82 m (α:=α))):=by
 refine row_of (F:=λ{α}=>azK (g82 m (α:=α))) λα ls k r h=> ?_
 replace h:g82 m (lf ls 0).int (lf ls 1).int (λy0=>k (.vl (.sv (.str y0))) [] [])=some r:=h
 unfold g82 at h
 split at h
 .rename_i hc
  refine⟨_,_,_,h,qR (fn:=Tryz.f82) (by kernel_rfl) (by kernel_rfl) (by kernel_rfl) rfl λids w cargs hH hA hg=> ?_⟩
  obtain⟨v1,v2,rfl⟩:∃v1 v2,cargs=[v1,v2]:=by
   match cargs,hA with
   |[v1,v2],_=>exact⟨v1,v2,rfl⟩
  obtain rfl:v1= .int .i64 (lf ls 0).int:=hA.1
  obtain rfl:v2= .int .i64 (lf ls 1).int:=hA.2.1
  rw[hc.1]
  refine(Any.strconv_FormatInt_10 Tryz.anT (lf ls 0).int hc.2.1 hc.2.2 w (aoU hg.sub)).mono ?_
  rintro e w' ⟨rfl,hw⟩
  exact⟨_,rfl,rfl,ET hw⟩
 .cases h
def Gs{α:Type}(m:Nat):En α:=λn k=>if-9223372036854775808<=n/\n<=9223372036854775807 then k (WI n) else none
theorem auc(m:Nat):uo Tryz.prog 39 amq amo (λ{α}=>ay5 (Gs m (α:=α))):=by
 refine λα ls k r h=> ?_
 replace h:Gs m (lf ls 0).int (λy0=>k (.vl (.sv (.str y0))) [] [])=some r:=h
 unfold Gs at h
 split at h
 .rename_i hc
  refine⟨_,_,_,h,qR (fn:=Tryz.f39) (by kernel_rfl) (by kernel_rfl) (by kernel_rfl) rfl λids w cargs hH hA hg=> ?_⟩
  obtain⟨v1,rfl⟩:∃v1,cargs=[v1]:=by
   match cargs,hA with
   |[v1],_=>exact⟨v1,rfl⟩
  obtain rfl:v1= .int .i64 (lf ls 0).int:=hA.1
  refine(Any.strconv_Itoa Tryz.anS (lf ls 0).int hc.1 hc.2 w (aoU hg.sub)).mono ?_
  rintro e w' ⟨rfl,hw⟩
  exact⟨_,rfl,rfl,ET hw⟩
 .cases h
theorem aDr(m:Nat):lQ Tryz.prog 39 (λ{α}=>aHk (Gs m (α:=α))):=row_of (auc m)
def Gt{α:Type}(m:Nat):Eo α:=λs n k=>if 0<=n/\n<=1000/\s.size<=1000 then k ⟨(Lib.repeatL s.data.toList n.toNat).toArray⟩ else none
theorem auJ(m:Nat):lQ Tryz.prog 66 (λ{α}=>aHA (Gt m (α:=α))):=by
 refine row_of (F:=λ{α}=>azt (Gt m (α:=α))) λα ls k r h=> ?_
 replace h:Gt m (lf ls 0).str (lf ls 1).int (λy0=>k (.vl (.sv (.str y0))) [] [])=some r:=h
 unfold Gt at h
 split at h
 .rename_i hc
  refine⟨_,_,_,h,qR (fn:=Tryz.f66) (by kernel_rfl) (by kernel_rfl) (by kernel_rfl) rfl λids w cargs hH hA hg=> ?_⟩
  obtain⟨v1,v2,rfl⟩:∃v1 v2,cargs=[v1,v2]:=by
   match cargs,hA with
   |[v1,v2],_=>exact⟨v1,v2,rfl⟩
  obtain rfl:v1= .string (lf ls 0).str:=hA.1
  obtain rfl:v2= .int .i64 (lf ls 1).int:=hA.2.1
  have hn:(lf ls 1).int=(((lf ls 1).int.toNat:Nat):Int):=by omega
  have hmul:(lf ls 0).str.size*(lf ls 1).int.toNat<=1000*1000:=Nat.mul_le_mul hc.2.2 (by omega)
  have C:=Any.strings_Repeat Tryz.ar5 Tryz.zh (lf ls 0).str (lf ls 1).int.toNat w (by omega) (by omega)
  rw[<-hn] at C
  refine C.mono ?_
  rintro e w' ⟨rfl,hw⟩
  exact⟨_,rfl,rfl,gX hw⟩
 .cases h
end
end Go.Proofs.YtlmmgjngihlpeaaGreatDoor.Sx
