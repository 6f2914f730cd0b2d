/- Functions. Printed by our own sx.py. -/
import Derived.Test.YtlmmgjngihlpeaaGreatDoorSxV0
namespace Go.Proofs.YtlmmgjngihlpeaaGreatDoor.Sx
open Go
set_option linter.unusedVariables false
set_option maxRecDepth 100000
abbrev S_g153(α:Type):Type:=(List Int)→(List Int)→((List Int)→Option α)→Option α
abbrev S_g153l0(α:Type):Type:=(List Int)→(List Int)→(List Int)→((List Int)→Option α)→Int→Int→(List Int)→Option α
def g153l0b{α:Type}(a b c:List Int)(d:(List Int)→Option α)(e:Int→Int→(List Int)→Option α)(h i:Int)(j:List Int):Option α:=cond (decide (i<(6:Int))) (if 0≤i∧i<(6:Nat) then if i.toNat<6 then if 0≤i∧i<(6:Nat) then if i.toNat<6 then let l:Int:=IntKind.wrap .i64 ((IntKind.wrap .i64 ((IntKind.wrap .i64 (List.getD a i.toNat 0))-(IntKind.wrap .i64 (List.getD b i.toNat 0))))-h);cond (decide (l<(0:Int))) (if 0≤i∧i<(6:Nat) then if i.toNat<6 then e (1:Int) (IntKind.wrap .i64 (i+(1:Int))) (List.set j (i.toNat) (IntKind.wrap .u32 (IntKind.wrap .i64 (l+(4294967296:Int))))) else none else none) (if 0≤i∧i<(6:Nat) then if i.toNat<6 then e (0:Int) (IntKind.wrap .i64 (i+(1:Int))) (List.set j (i.toNat) (IntKind.wrap .u32 l)) else none else none) else none else none else none else none) (d j)
def g153l0{α:Type}(a b c:List Int)(d:(List Int)→Option α):Nat→Int→Int→(List Int)→Option α
 |0=>fun _ _ _=>none
 |m+1=>fun e h i=>g153l0b a b c d (g153l0 a b c d m) e h i
def g153l0M{α:Type}(m:Nat):S_g153l0 α:=
 fun a b c d e h i=>g153l0 a b c d m e h i
def g153l0D:LoopD:={n:=38,low:=[0,1],sl:=[0,1,4,5,6,7],bl:=[0,1,1000002,1000003],tp:=[(.vl (.sv (.ptr 0 0))),(.vl (.sv (.ptr 1 0))),(.vl (.sv (.ptr 1000002 0))),(.vl (.sv (.ptr 1000003 0))),tI,tI],bp:=[(false,[(.seq uU 6)]),(false,[(.seq uU 6)]),b6,b6],xs:=[(2,[4,5])]}
def g153l0K{α:Type}(L:S_g153l0 α)(ls:List Lf)(k:KEx α):Option α:=
 L ((lf ls 2).lst uU) ((lf ls 3).lst uU) ((lf ls 4).lst uU)
  (fun a=>k .normal (mkSt 38 [4,5] [(.vl (.sv (.ptr 1000002 0))),(.vl (.sv (.ptr 1000003 0)))] [0,1,1000002,1000003] [(false,[(.seq uU 6 ((lf ls 2).lst uU))]),(false,[(.seq uU 6 ((lf ls 3).lst uU))]),(true,[(.seq uU 6 ((lf ls 4).lst uU))]),(true,[(.seq uU 6 a)])]))
  (lf ls 0).int (lf ls 1).int ((lf ls 5).lst uU)
def g153b{α:Type}(L153l0:Al S_g153l0)(a b:List Int)(c:(List Int)→Option α):Option α:=L153l0 a b [0,0,0,0,0,0] (fun d=>c d) (0:Int) (0:Int) [0,0,0,0,0,0]
def g153{α:Type}(m:Nat):S_g153 α:=
 g153b (g153l0M m)
def g153tp:List TP:=[(.vl (.sv (.ptr 0 0))),(.vl (.sv (.ptr 1 0)))]
def g153bp:List BP:=[(false,[(.seq uU 6)]),(false,[(.seq uU 6)])]
def g153K{α:Type}(G:S_g153 α)(ls:List Lf)(k:KRe α):Option α:=
 G ((lf ls 0).lst uU) ((lf ls 1).lst uU)
  (fun a=>k (.vl (.agg [(.seq uU 6 a)])) [[(.seq uU 6 ((lf ls 0).lst uU))],[(.seq uU 6 ((lf ls 1).lst uU))]] [])
def g153R{α:Type}(G:S_g153 α):=rowK g153tp g153bp (g153K G)
def g153hd(L153l0:Al S_g153l0):Hd where
 call:=fun f args Bs k=>none
 loop:=fun id st k=>cond (Nat.beq id 0) (loopH g153l0D (g153l0K L153l0) st k) (none)
 ro:=fun f=>[]
def g153h(m:Nat):Hd:=g153hd (g153l0M m)
theorem g153l0Step(L153l0:Al S_g153l0){α:Type}(L:S_g153l0 α)(ls:List Lf)(k:KEx α):
  g153l0K (fun a b c d e h i=>g153l0b a b c d (L a b c d) e h i) ls k=ev tab (g153hd L153l0) (bodyAt Tryz.f153 0) (atHead g153l0D ls) (loopK g153l0D 0 (loopH g153l0D (g153l0K L)) k):=by kernel_rfl
theorem g153Main(L153l0:Al S_g153l0){α:Type}(ls:List Lf)(k:KRe α):
  g153K (g153b L153l0) ls k=evFun tab (g153hd L153l0) Tryz.f153 (fT g153tp ls) (fB g153tp g153bp ls) k:=by kernel_rfl
theorem g153Calls(m:Nat):(g153h m).CallsOk Tryz.prog:=cok_nil
theorem g153l0Ok(m:Nat)(α:Type)(st:St)(k:KEx α)(r:α)(h:(g153h m).loop 0 st k=some r):
  LoopS Tryz.prog 0 (bodyAt Tryz.f153 0) st k r:=
 lpk (F:=fun n ls k=>g153l0K (fun a b c d e i j=>g153l0 a b c d n e i j) ls k) (g153Calls m) (lb0 (by kernel_rfl))
  (fun _ _=>rfl) (fun n ls k=>g153l0Step (g153l0M m) (fun a b c d=>g153l0 a b c d n) ls k) (n:=m) h
theorem g153Ok(m:Nat):RowOk Tryz.prog 153 (fun{α}=>g153R (g153 m (α:=α))):=
 rwk (g153Calls m) (lo1 (by kernel_rfl) (g153l0Ok m))
  (fun _=>g153Main (g153l0M m))
abbrev S_g159(α:Type):Type:=(List Int)→(List Int)→(Int→Option α)→Option α
abbrev S_g159l0(α:Type):Type:=(List Int)→(List Int)→(Int→Option α)→(Option α)→Int→Option α
def g159l0b{α:Type}(a b:List Int)(c:Int→Option α)(d:Option α)(e:Int→Option α)(h:Int):Option α:=cond (decide (h≥(0:Int))) (if 0≤h∧h<(6:Nat) then if h.toNat<6 then if 0≤h∧h<(6:Nat) then if h.toNat<6 then cond (decide ((List.getD a h.toNat 0)<(List.getD b h.toNat 0))) (c (-1:Int)) (if 0≤h∧h<(6:Nat) then if h.toNat<6 then if 0≤h∧h<(6:Nat) then if h.toNat<6 then cond (decide ((List.getD a h.toNat 0)>(List.getD b h.toNat 0))) (c (1:Int)) (e (IntKind.wrap .i64 (h-(1:Int)))) else none else none else none else none) else none else none else none else none) (d)
def g159l0{α:Type}(a b:List Int)(c:Int→Option α)(d:Option α):Nat→Int→Option α
 |0=>fun _=>none
 |m+1=>fun e=>g159l0b a b c d (g159l0 a b c d m) e
def g159l0M{α:Type}(m:Nat):S_g159l0 α:=
 fun a b c d e=>g159l0 a b c d m e
def g159l0D:LoopD:={n:=32,low:=[0,1],sl:=[0,1,5],bl:=[0,1],tp:=[(.vl (.sv (.ptr 0 0))),(.vl (.sv (.ptr 1 0))),tI],bp:=[(false,[(.seq uU 6)]),(false,[(.seq uU 6)])],xs:=[(1,[4]),(2,[])]}
def g159l0K{α:Type}(L:S_g159l0 α)(ls:List Lf)(k:KEx α):Option α:=
 L ((lf ls 1).lst uU) ((lf ls 2).lst uU)
  (fun a=>k .ret (mkSt 32 [4] [(.vl (.sv (.int .i64 a)))] [0,1] [(false,[(.seq uU 6 ((lf ls 1).lst uU))]),(false,[(.seq uU 6 ((lf ls 2).lst uU))])]))
  (k .normal (mkSt 32 [] [] [0,1] [(false,[(.seq uU 6 ((lf ls 1).lst uU))]),(false,[(.seq uU 6 ((lf ls 2).lst uU))])]))
  (lf ls 0).int
def g159b{α:Type}(L159l0:Al S_g159l0)(a b:List Int)(c:Int→Option α):Option α:=L159l0 a b (fun d=>c d) (c (0:Int)) (5:Int)
def g159{α:Type}(m:Nat):S_g159 α:=
 g159b (g159l0M m)
def g159tp:List TP:=[(.vl (.sv (.ptr 0 0))),(.vl (.sv (.ptr 1 0)))]
def g159bp:List BP:=[(false,[(.seq uU 6)]),(false,[(.seq uU 6)])]
def g159K{α:Type}(G:S_g159 α)(ls:List Lf)(k:KRe α):Option α:=
 G ((lf ls 0).lst uU) ((lf ls 1).lst uU)
  (fun a=>k (.vl (.sv (.int .i64 a))) [[(.seq uU 6 ((lf ls 0).lst uU))],[(.seq uU 6 ((lf ls 1).lst uU))]] [])
def g159R{α:Type}(G:S_g159 α):=rowK g159tp g159bp (g159K G)
def g159hd(L159l0:Al S_g159l0):Hd where
 call:=fun f args Bs k=>none
 loop:=fun id st k=>cond (Nat.beq id 0) (loopH g159l0D (g159l0K L159l0) st k) (none)
 ro:=fun f=>[]
def g159h(m:Nat):Hd:=g159hd (g159l0M m)
theorem g159l0Step(L159l0:Al S_g159l0){α:Type}(L:S_g159l0 α)(ls:List Lf)(k:KEx α):
  g159l0K (fun a b c d e=>g159l0b a b c d (L a b c d) e) ls k=ev tab (g159hd L159l0) (bodyAt Tryz.f159 0) (atHead g159l0D ls) (loopK g159l0D 0 (loopH g159l0D (g159l0K L)) k):=by kernel_rfl
theorem g159Main(L159l0:Al S_g159l0){α:Type}(ls:List Lf)(k:KRe α):
  g159K (g159b L159l0) ls k=evFun tab (g159hd L159l0) Tryz.f159 (fT g159tp ls) (fB g159tp g159bp ls) k:=by kernel_rfl
theorem g159Calls(m:Nat):(g159h m).CallsOk Tryz.prog:=cok_nil
theorem g159l0Ok(m:Nat)(α:Type)(st:St)(k:KEx α)(r:α)(h:(g159h m).loop 0 st k=some r):
  LoopS Tryz.prog 0 (bodyAt Tryz.f159 0) st k r:=
 lpk (F:=fun n ls k=>g159l0K (fun a b c d e=>g159l0 a b c d n e) ls k) (g159Calls m) (lb0 (by kernel_rfl))
  (fun _ _=>rfl) (fun n ls k=>g159l0Step (g159l0M m) (fun a b c d=>g159l0 a b c d n) ls k) (n:=m) h
theorem g159Ok(m:Nat):RowOk Tryz.prog 159 (fun{α}=>g159R (g159 m (α:=α))):=
 rwk (g159Calls m) (lo1 (by kernel_rfl) (g159l0Ok m))
  (fun _=>g159Main (g159l0M m))
abbrev S_g155(α:Type):Type:=(List Int)→(List Int)→((List Int)→(List Int)→Option α)→Option α
abbrev S_g155l2(α:Type):Type:=Int→Int→(List Int)→(List Int)→(List Int)→(List Int)→(List Int)→((List Int)→Option α)→Int→(List Int)→Option α
def g155l2b{α:Type}(a b:Int)(c d:List Int)(e h i:List Int)(j:(List Int)→Option α)(l:Int→(List Int)→Option α)(n:Int)(o:List Int):Option α:=cond (decide (n>(0:Int))) (if 0≤n∧n<(6:Nat) then if n.toNat<6 then let p:Int:=IntKind.wrap .i64 (n-(1:Int));if 0≤p∧p<(6:Nat) then if p.toNat<6 then if 0≤n∧n<(6:Nat) then if n.toNat<6 then l (IntKind.wrap .i64 (n-(1:Int))) (List.set o (n.toNat) (ibits .or .u32 (IntKind.wrap .u32 ((List.getD o n.toNat 0)*2^1)) (Int.fdiv (List.getD o p.toNat 0) (2^31)))) else none else none else none else none else none else none) (j o)
def g155l2{α:Type}(a b:Int)(c d:List Int)(e h i:List Int)(j:(List Int)→Option α):Nat→Int→(List Int)→Option α
 |0=>fun _ _=>none
 |m+1=>fun l n=>g155l2b a b c d e h i j (g155l2 a b c d e h i j m) l n
def g155l2M{α:Type}(m:Nat):S_g155l2 α:=
 fun a b c d e h i j l n=>g155l2 a b c d e h i j m l n
def g155l2D:LoopD:={n:=76,low:=[0,1],sl:=[0,1,4,5,6,7,8,9,10],bl:=[0,1,1000002,1000003,1000004,1000005],tp:=[(.vl (.sv (.ptr 0 0))),(.vl (.sv (.ptr 1 0))),(.vl (.sv (.ptr 1000002 0))),(.vl (.sv (.ptr 1000003 0))),(.vl (.sv (.ptr 1000004 0))),(.vl (.sv (.ptr 1000005 0))),tI,(.vl (.sv (.int .u32))),tI],bp:=[(false,[(.seq uU 6)]),(false,[(.seq uU 6)]),b6,b6,b6,b6],xs:=[(4,[0,1,4,5,6,7,8,9])]}
def g155l2K{α:Type}(L:S_g155l2 α)(ls:List Lf)(k:KEx α):Option α:=
 L (lf ls 0).int (lf ls 1).int ((lf ls 3).lst uU) ((lf ls 4).lst uU) ((lf ls 5).lst uU) ((lf ls 6).lst uU) ((lf ls 7).lst uU)
  (fun a=>k .normal (mkSt 76 [0,1,4,5,6,7,8,9] [(.vl (.sv (.ptr 0 0))),(.vl (.sv (.ptr 1 0))),(.vl (.sv (.ptr 1000002 0))),(.vl (.sv (.ptr 1000003 0))),(.vl (.sv (.ptr 1000004 0))),(.vl (.sv (.ptr 1000005 0))),(.vl (.sv (.int .i64 (lf ls 0).int))),(.vl (.sv (.int .u32 (lf ls 1).int)))] [0,1,1000002,1000003,1000004,1000005] [(false,[(.seq uU 6 ((lf ls 3).lst uU))]),(false,[(.seq uU 6 ((lf ls 4).lst uU))]),(true,[(.seq uU 6 ((lf ls 5).lst uU))]),(true,[(.seq uU 6 ((lf ls 6).lst uU))]),(true,[(.seq uU 6 ((lf ls 7).lst uU))]),(true,[(.seq uU 6 a)])]))
  (lf ls 2).int ((lf ls 8).lst uU)
abbrev S_g155l0(α:Type):Type:=(List Int)→(List Int)→(List Int)→(List Int)→((List Int)→(List Int)→Option α)→Int→(List Int)→(List Int)→Option α
def g155l0b{α:Type}(G153:Al S_g153)(G159:Al S_g159)(L155l2:Al S_g155l2)(a b:List Int)(c d:List Int)(e:(List Int)→(List Int)→Option α)(h:Int→(List Int)→(List Int)→Option α)(i:Int)(j l:List Int):Option α:=cond (decide (i≥(0:Int))) (let n:Int:=Int.fdiv (List.getD l 5 0) (2^31);L155l2 i n a b c d j (fun o=>let p:Int:=IntKind.wrap .i64 (Int.tdiv i (32:Int));if 0≤p∧p<(6:Nat) then if p.toNat<6 then let q:Int:=IntKind.wrap .u64 (Int.tmod i (32:Int));if q<0 then none else let r:List Int:=List.set o 0 (ibits .or .u32 (IntKind.wrap .u32 ((List.getD o 0 0)*2^1)) (ibits .and .u32 (Int.fdiv (List.getD a p.toNat 0) (2^(min q.toNat 32))) (1:Int)));cond (n==(1:Int)) (G153 r b (fun s=>let t:Int:=IntKind.wrap .i64 (Int.tdiv i (32:Int));if 0≤t∧t<(6:Nat) then if t.toNat<6 then let u:Int:=IntKind.wrap .u64 (Int.tmod i (32:Int));if u<0 then none else if 0≤t∧t<(6:Nat) then if t.toNat<6 then h (IntKind.wrap .i64 (i-(1:Int))) (List.set j (t.toNat) (ibits .or .u32 (List.getD j t.toNat 0) (IntKind.wrap .u32 ((1:Int)*2^(min u.toNat 32))))) s else none else none else none else none)) (G159 r b (fun v=>cond (decide (v≥(0:Int))) (G153 r b (fun w=>let x:Int:=IntKind.wrap .i64 (Int.tdiv i (32:Int));if 0≤x∧x<(6:Nat) then if x.toNat<6 then let y:Int:=IntKind.wrap .u64 (Int.tmod i (32:Int));if y<0 then none else if 0≤x∧x<(6:Nat) then if x.toNat<6 then h (IntKind.wrap .i64 (i-(1:Int))) (List.set j (x.toNat) (ibits .or .u32 (List.getD j x.toNat 0) (IntKind.wrap .u32 ((1:Int)*2^(min y.toNat 32))))) w else none else none else none else none)) (h (IntKind.wrap .i64 (i-(1:Int))) j r))) else none else none) (5:Int) l) (e j l)
def g155l0{α:Type}(G153:Al S_g153)(G159:Al S_g159)(L155l2:Al S_g155l2)(a b:List Int)(c d:List Int)(e:(List Int)→(List Int)→Option α):Nat→Int→(List Int)→(List Int)→Option α
 |0=>fun _ _ _=>none
 |m+1=>fun h i j=>g155l0b G153 G159 L155l2 a b c d e (g155l0 G153 G159 L155l2 a b c d e m) h i j
def g155l0M{α:Type}(m:Nat):S_g155l0 α:=
 fun a b c d e h i j=>g155l0 (g153 m) (g159 m) (g155l2M m) a b c d e m h i j
def g155l0D:LoopD:={n:=76,low:=[0,1],sl:=[0,1,4,5,6,7,8],bl:=[0,1,1000002,1000003,1000004,1000005],tp:=[(.vl (.sv (.ptr 0 0))),(.vl (.sv (.ptr 1 0))),(.vl (.sv (.ptr 1000002 0))),(.vl (.sv (.ptr 1000003 0))),(.vl (.sv (.ptr 1000004 0))),(.vl (.sv (.ptr 1000005 0))),tI],bp:=[(false,[(.seq uU 6)]),(false,[(.seq uU 6)]),b6,b6,b6,b6],xs:=[(2,[4,5,6,7])]}
def g155l0K{α:Type}(L:S_g155l0 α)(ls:List Lf)(k:KEx α):Option α:=
 L ((lf ls 1).lst uU) ((lf ls 2).lst uU) ((lf ls 3).lst uU) ((lf ls 4).lst uU)
  (fun a b=>k .normal (mkSt 76 [4,5,6,7] [(.vl (.sv (.ptr 1000002 0))),(.vl (.sv (.ptr 1000003 0))),(.vl (.sv (.ptr 1000004 0))),(.vl (.sv (.ptr 1000005 0)))] [0,1,1000002,1000003,1000004,1000005] [(false,[(.seq uU 6 ((lf ls 1).lst uU))]),(false,[(.seq uU 6 ((lf ls 2).lst uU))]),(true,[(.seq uU 6 ((lf ls 3).lst uU))]),(true,[(.seq uU 6 ((lf ls 4).lst uU))]),(true,[(.seq uU 6 a)]),(true,[(.seq uU 6 b)])]))
  (lf ls 0).int ((lf ls 5).lst uU) ((lf ls 6).lst uU)
def g155b{α:Type}(G115:Al S_g115)(G153:Al S_g153)(G159:Al S_g159)(L155l2:Al S_g155l2)(L155l0:Al S_g155l0)(a b:List Int)(c:(List Int)→(List Int)→Option α):Option α:=G115 a (fun d=>L155l0 a b [0,0,0,0,0,0] [0,0,0,0,0,0] (fun e h=>c e h) (IntKind.wrap .i64 (d-(1:Int))) [0,0,0,0,0,0] [0,0,0,0,0,0])
def g155{α:Type}(m:Nat):S_g155 α:=
 g155b (g115 m) (g153 m) (g159 m) (g155l2M m) (g155l0M m)
def g155tp:List TP:=[(.vl (.sv (.ptr 0 0))),(.vl (.sv (.ptr 1 0)))]
def g155bp:List BP:=[(false,[(.seq uU 6)]),(false,[(.seq uU 6)])]
def g155K{α:Type}(G:S_g155 α)(ls:List Lf)(k:KRe α):Option α:=
 G ((lf ls 0).lst uU) ((lf ls 1).lst uU)
  (fun a b=>k (.tup [(.agg [(.seq uU 6 a)]),(.agg [(.seq uU 6 b)])]) [[(.seq uU 6 ((lf ls 0).lst uU))],[(.seq uU 6 ((lf ls 1).lst uU))]] [])
def g155R{α:Type}(G:S_g155 α):=rowK g155tp g155bp (g155K G)
def g155hd(G115:Al S_g115)(G153:Al S_g153)(G159:Al S_g159)(L155l2:Al S_g155l2)(L155l0:Al S_g155l0):Hd where
 call:=fun f args Bs k=>cond (Nat.beq f 115) (g115R G115 args Bs k) (cond (Nat.beq f 153) (g153R G153 args Bs k) (cond (Nat.beq f 159) (g159R G159 args Bs k) (none)))
 loop:=fun id st k=>cond (Nat.beq id 2) (loopH g155l2D (g155l2K L155l2) st k) (cond (Nat.beq id 0) (loopH g155l0D (g155l0K L155l0) st k) (none))
 ro:=fun f=>cond (Nat.beq f 115) [0] (cond (Nat.beq f 153) [0,1] (cond (Nat.beq f 159) [0,1] ([])))
def g155h(m:Nat):Hd:=g155hd (g115 m) (g153 m) (g159 m) (g155l2M m) (g155l0M m)
theorem g155l2Step(G115:Al S_g115)(G153:Al S_g153)(G159:Al S_g159)(L155l2:Al S_g155l2)(L155l0:Al S_g155l0){α:Type}(L:S_g155l2 α)(ls:List Lf)(k:KEx α):
  g155l2K (fun a b c d e h i j l n=>g155l2b a b c d e h i j (L a b c d e h i j) l n) ls k=ev tab (g155hd G115 G153 G159 L155l2 L155l0) (bodyAt Tryz.f155 2) (atHead g155l2D ls) (loopK g155l2D 2 (loopH g155l2D (g155l2K L)) k):=by kernel_rfl
theorem g155l0Step(G115:Al S_g115)(G153:Al S_g153)(G159:Al S_g159)(L155l2:Al S_g155l2)(L155l0:Al S_g155l0){α:Type}(L:S_g155l0 α)(ls:List Lf)(k:KEx α):
  g155l0K (fun a b c d e h i j=>g155l0b G153 G159 L155l2 a b c d e (L a b c d e) h i j) ls k=ev tab (g155hd G115 G153 G159 L155l2 L155l0) (bodyAt Tryz.f155 0) (atHead g155l0D ls) (loopK g155l0D 0 (loopH g155l0D (g155l0K L)) k):=by kernel_rfl
theorem g155Main(G115:Al S_g115)(G153:Al S_g153)(G159:Al S_g159)(L155l2:Al S_g155l2)(L155l0:Al S_g155l0){α:Type}(ls:List Lf)(k:KRe α):
  g155K (g155b G115 G153 G159 L155l2 L155l0) ls k=evFun tab (g155hd G115 G153 G159 L155l2 L155l0) Tryz.f155 (fT g155tp ls) (fB g155tp g155bp ls) k:=by kernel_rfl
theorem g155Calls(m:Nat):(g155h m).CallsOk Tryz.prog:=(cok_cons (g115Ok m) (cok_cons (g153Ok m) (cok_cons (g159Ok m) cok_nil)))
theorem g155l2Ok(m:Nat)(α:Type)(st:St)(k:KEx α)(r:α)(h:(g155h m).loop 2 st k=some r):
  LoopS Tryz.prog 2 (bodyAt Tryz.f155 2) st k r:=
 lpk (F:=fun n ls k=>g155l2K (fun a b c d e i j l o q=>g155l2 a b c d e i j l n o q) ls k) (g155Calls m) (lb0 (by kernel_rfl))
  (fun _ _=>rfl) (fun n ls k=>g155l2Step (g115 m) (g153 m) (g159 m) (g155l2M m) (g155l0M m) (fun a b c d e i j l=>g155l2 a b c d e i j l n) ls k) (n:=m) h
theorem g155l0Ok(m:Nat)(α:Type)(st:St)(k:KEx α)(r:α)(h:(g155h m).loop 0 st k=some r):
  LoopS Tryz.prog 0 (bodyAt Tryz.f155 0) st k r:=
 lpk (F:=fun n ls k=>g155l0K (fun a b c d e i j l=>g155l0 (g153 m) (g159 m) (g155l2M m) a b c d e n i j l) ls k) (g155Calls m) (loopsOk_of _ (fun p hp=>by
  rw[show loopsOf (bodyAt Tryz.f155 0)=[(2,bodyAt Tryz.f155 2)] by kernel_rfl] at hp
  simp only[List.mem_cons,List.not_mem_nil,or_false] at hp
  rcases hp with rfl
  exact g155l2Ok m))
  (fun _ _=>rfl) (fun n ls k=>g155l0Step (g115 m) (g153 m) (g159 m) (g155l2M m) (g155l0M m) (fun a b c d e=>g155l0 (g153 m) (g159 m) (g155l2M m) a b c d e n) ls k) (n:=m) h
theorem g155Ok(m:Nat):RowOk Tryz.prog 155 (fun{α}=>g155R (g155 m (α:=α))):=
 rwk (g155Calls m) (lo1 (by kernel_rfl) (g155l0Ok m))
  (fun _=>g155Main (g115 m) (g153 m) (g159 m) (g155l2M m) (g155l0M m))
abbrev S_g154(α:Type):Type:=(List Int)→(List Int)→((List Int)→Bool→Option α)→Option α
abbrev S_g154l0(α:Type):Type:=(List Int)→(List Int)→(List Int)→(Int→(List Int)→Option α)→Int→Int→(List Int)→Option α
def g154l0b{α:Type}(a b c:List Int)(d:Int→(List Int)→Option α)(e:Int→Int→(List Int)→Option α)(h i:Int)(j:List Int):Option α:=cond (decide (i<(6:Int))) (if 0≤i∧i<(6:Nat) then if i.toNat<6 then if 0≤i∧i<(6:Nat) then if i.toNat<6 then let l:Int:=IntKind.wrap .u64 ((IntKind.wrap .u64 ((IntKind.wrap .u64 (List.getD a i.toNat 0))+(IntKind.wrap .u64 (List.getD b i.toNat 0))))+h);if 0≤i∧i<(6:Nat) then if i.toNat<6 then e (Int.fdiv l (2^32)) (IntKind.wrap .i64 (i+(1:Int))) (List.set j (i.toNat) (IntKind.wrap .u32 l)) else none else none else none else none else none else none) (d h j)
def g154l0{α:Type}(a b c:List Int)(d:Int→(List Int)→Option α):Nat→Int→Int→(List Int)→Option α
 |0=>fun _ _ _=>none
 |m+1=>fun e h i=>g154l0b a b c d (g154l0 a b c d m) e h i
def g154l0M{α:Type}(m:Nat):S_g154l0 α:=
 fun a b c d e h i=>g154l0 a b c d m e h i
def g154l0D:LoopD:={n:=39,low:=[0,1],sl:=[0,1,4,6,7,8],bl:=[0,1,1000002,1000003],tp:=[(.vl (.sv (.ptr 0 0))),(.vl (.sv (.ptr 1 0))),(.vl (.sv (.ptr 1000002 0))),(.vl (.sv (.ptr 1000003 0))),(.vl (.sv (.int .u64))),tI],bp:=[(false,[(.seq uU 6)]),(false,[(.seq uU 6)]),b6,b6],xs:=[(2,[4,6,7])]}
def g154l0K{α:Type}(L:S_g154l0 α)(ls:List Lf)(k:KEx α):Option α:=
 L ((lf ls 2).lst uU) ((lf ls 3).lst uU) ((lf ls 4).lst uU)
  (fun a b=>k .normal (mkSt 39 [4,6,7] [(.vl (.sv (.ptr 1000002 0))),(.vl (.sv (.ptr 1000003 0))),(.vl (.sv (.int .u64 a)))] [0,1,1000002,1000003] [(false,[(.seq uU 6 ((lf ls 2).lst uU))]),(false,[(.seq uU 6 ((lf ls 3).lst uU))]),(true,[(.seq uU 6 ((lf ls 4).lst uU))]),(true,[(.seq uU 6 b)])]))
  (lf ls 0).int (lf ls 1).int ((lf ls 5).lst uU)
def g154b{α:Type}(L154l0:Al S_g154l0)(a b:List Int)(c:(List Int)→Bool→Option α):Option α:=L154l0 a b [0,0,0,0,0,0] (fun d e=>c e (d==(0:Int))) (0:Int) (0:Int) [0,0,0,0,0,0]
def g154{α:Type}(m:Nat):S_g154 α:=
 g154b (g154l0M m)
def g154tp:List TP:=[(.vl (.sv (.ptr 0 0))),(.vl (.sv (.ptr 1 0)))]
def g154bp:List BP:=[(false,[(.seq uU 6)]),(false,[(.seq uU 6)])]
def g154K{α:Type}(G:S_g154 α)(ls:List Lf)(k:KRe α):Option α:=
 G ((lf ls 0).lst uU) ((lf ls 1).lst uU)
  (fun a b=>k (.tup [(.agg [(.seq uU 6 a)]),(.sv (.bool b))]) [[(.seq uU 6 ((lf ls 0).lst uU))],[(.seq uU 6 ((lf ls 1).lst uU))]] [])
def g154R{α:Type}(G:S_g154 α):=rowK g154tp g154bp (g154K G)
def g154hd(L154l0:Al S_g154l0):Hd where
 call:=fun f args Bs k=>none
 loop:=fun id st k=>cond (Nat.beq id 0) (loopH g154l0D (g154l0K L154l0) st k) (none)
 ro:=fun f=>[]
def g154h(m:Nat):Hd:=g154hd (g154l0M m)
theorem g154l0Step(L154l0:Al S_g154l0){α:Type}(L:S_g154l0 α)(ls:List Lf)(k:KEx α):
  g154l0K (fun a b c d e h i=>g154l0b a b c d (L a b c d) e h i) ls k=ev tab (g154hd L154l0) (bodyAt Tryz.f154 0) (atHead g154l0D ls) (loopK g154l0D 0 (loopH g154l0D (g154l0K L)) k):=by kernel_rfl
theorem g154Main(L154l0:Al S_g154l0){α:Type}(ls:List Lf)(k:KRe α):
  g154K (g154b L154l0) ls k=evFun tab (g154hd L154l0) Tryz.f154 (fT g154tp ls) (fB g154tp g154bp ls) k:=by kernel_rfl
theorem g154Calls(m:Nat):(g154h m).CallsOk Tryz.prog:=cok_nil
theorem g154l0Ok(m:Nat)(α:Type)(st:St)(k:KEx α)(r:α)(h:(g154h m).loop 0 st k=some r):
  LoopS Tryz.prog 0 (bodyAt Tryz.f154 0) st k r:=
 lpk (F:=fun n ls k=>g154l0K (fun a b c d e i j=>g154l0 a b c d n e i j) ls k) (g154Calls m) (lb0 (by kernel_rfl))
  (fun _ _=>rfl) (fun n ls k=>g154l0Step (g154l0M m) (fun a b c d=>g154l0 a b c d n) ls k) (n:=m) h
theorem g154Ok(m:Nat):RowOk Tryz.prog 154 (fun{α}=>g154R (g154 m (α:=α))):=
 rwk (g154Calls m) (lo1 (by kernel_rfl) (g154l0Ok m))
  (fun _=>g154Main (g154l0M m))
abbrev S_g168(α:Type):Type:=Bool→(List Int)→Bool→(List Int)→(Bool→(List Int)→Bool→(List Int)→Option α)→Option α
def g168b{α:Type}(G155:Al S_g155)(G157:Al S_g157)(G154:Al S_g154)(G153:Al S_g153)(G150:Al S_g150)(a:Bool)(b:List Int)(c:Bool)(d:List Int)(e:Bool→(List Int)→Bool→(List Int)→Option α):Option α:=G155 b d (fun h i=>cond (!(a==c)) (G157 i (fun j=>cond (!j) (G154 h [(1:Int),0,0,0,0,0] (fun l n=>G153 d i (fun o=>G150 (!(a==c)) l (fun p=>G150 c o (fun q=>e p l q o))))) (G150 (!(a==c)) h (fun r=>G150 c i (fun s=>e r h s i))))) (G150 (!(a==c)) h (fun t=>G150 c i (fun u=>e t h u i))))
def g168{α:Type}(m:Nat):S_g168 α:=
 g168b (g155 m) (g157 m) (g154 m) (g153 m) (g150 m)
def g168tp:List TP:=[vW,vW]
def g168bp:List BP:=[]
def g168K{α:Type}(G:S_g168 α)(ls:List Lf)(k:KRe α):Option α:=
 G (lf ls 0).bool ((lf ls 1).lst uU) (lf ls 2).bool ((lf ls 3).lst uU)
  (fun a b c d=>k (.tup [(.agg [(.one (.bool a)),(.seq uU 6 b)]),(.agg [(.one (.bool c)),(.seq uU 6 d)])]) [] [])
def g168R{α:Type}(G:S_g168 α):=rowK g168tp g168bp (g168K G)
def g168hd(G155:Al S_g155)(G157:Al S_g157)(G154:Al S_g154)(G153:Al S_g153)(G150:Al S_g150):Hd where
 call:=fun f args Bs k=>cond (Nat.beq f 155) (g155R G155 args Bs k) (cond (Nat.beq f 157) (g157R G157 args Bs k) (cond (Nat.beq f 154) (g154R G154 args Bs k) (cond (Nat.beq f 153) (g153R G153 args Bs k) (cond (Nat.beq f 150) (g150R G150 args Bs k) (none)))))
 loop:=fun id st k=>none
 ro:=fun f=>cond (Nat.beq f 153) [0,1] (cond (Nat.beq f 154) [0,1] (cond (Nat.beq f 155) [0,1] (cond (Nat.beq f 157) [0] ([]))))
def g168h(m:Nat):Hd:=g168hd (g155 m) (g157 m) (g154 m) (g153 m) (g150 m)
theorem g168Main(G155:Al S_g155)(G157:Al S_g157)(G154:Al S_g154)(G153:Al S_g153)(G150:Al S_g150){α:Type}(ls:List Lf)(k:KRe α):
  g168K (g168b G155 G157 G154 G153 G150) ls k=evFun tab (g168hd G155 G157 G154 G153 G150) Tryz.f168 (fT g168tp ls) (fB g168tp g168bp ls) k:=by kernel_rfl
theorem g168Calls(m:Nat):(g168h m).CallsOk Tryz.prog:=(cok_cons (g155Ok m) (cok_cons (g157Ok m) (cok_cons (g154Ok m) (cok_cons (g153Ok m) (cok_cons (g150Ok m) cok_nil)))))
theorem g168Ok(m:Nat):RowOk Tryz.prog 168 (fun{α}=>g168R (g168 m (α:=α))):=
 rwk (g168Calls m) (lo0 (by kernel_rfl))
  (fun _=>g168Main (g155 m) (g157 m) (g154 m) (g153 m) (g150 m))
abbrev S_g114(α:Type):Type:=Bool→(List Int)→Bool→(List Int)→(Bool→(List Int)→Int→Option α)→Option α
def g114b{α:Type}(G154:Al S_g154)(G150:Al S_g150)(G159:Al S_g159)(G153:Al S_g153)(a:Bool)(b:List Int)(c:Bool)(d:List Int)(e:Bool→(List Int)→Int→Option α):Option α:=cond (a==c) (G154 b d (fun h i=>cond (!i) (e false [0,0,0,0,0,0] (3:Int)) (G150 a h (fun j=>e j h (0:Int))))) (G159 b d (fun l=>cond (decide (l≥(0:Int))) (G153 b d (fun n=>G150 a n (fun o=>e o n (0:Int)))) (G153 d b (fun p=>G150 c p (fun q=>e q p (0:Int))))))
def g114{α:Type}(m:Nat):S_g114 α:=
 g114b (g154 m) (g150 m) (g159 m) (g153 m)
def g114tp:List TP:=[vW,vW]
def g114bp:List BP:=[]
def g114K{α:Type}(G:S_g114 α)(ls:List Lf)(k:KRe α):Option α:=
 G (lf ls 0).bool ((lf ls 1).lst uU) (lf ls 2).bool ((lf ls 3).lst uU)
  (fun a b c=>k (.tup [(.agg [(.one (.bool a)),(.seq uU 6 b)]),(.sv (.int .i64 c))]) [] [])
def g114R{α:Type}(G:S_g114 α):=rowK g114tp g114bp (g114K G)
def g114hd(G154:Al S_g154)(G150:Al S_g150)(G159:Al S_g159)(G153:Al S_g153):Hd where
 call:=fun f args Bs k=>cond (Nat.beq f 154) (g154R G154 args Bs k) (cond (Nat.beq f 150) (g150R G150 args Bs k) (cond (Nat.beq f 159) (g159R G159 args Bs k) (cond (Nat.beq f 153) (g153R G153 args Bs k) (none))))
 loop:=fun id st k=>none
 ro:=fun f=>cond (Nat.beq f 153) [0,1] (cond (Nat.beq f 154) [0,1] (cond (Nat.beq f 159) [0,1] ([])))
def g114h(m:Nat):Hd:=g114hd (g154 m) (g150 m) (g159 m) (g153 m)
theorem g114Main(G154:Al S_g154)(G150:Al S_g150)(G159:Al S_g159)(G153:Al S_g153){α:Type}(ls:List Lf)(k:KRe α):
  g114K (g114b G154 G150 G159 G153) ls k=evFun tab (g114hd G154 G150 G159 G153) Tryz.f114 (fT g114tp ls) (fB g114tp g114bp ls) k:=by kernel_rfl
theorem g114Calls(m:Nat):(g114h m).CallsOk Tryz.prog:=(cok_cons (g154Ok m) (cok_cons (g150Ok m) (cok_cons (g159Ok m) (cok_cons (g153Ok m) cok_nil))))
theorem g114Ok(m:Nat):RowOk Tryz.prog 114 (fun{α}=>g114R (g114 m (α:=α))):=
 rwk (g114Calls m) (lo0 (by kernel_rfl))
  (fun _=>g114Main (g154 m) (g150 m) (g159 m) (g153 m))
abbrev S_g127(α:Type):Type:=Bool→(List Int)→Bool→(List Int)→(Bool→(List Int)→Option α)→Option α
def g127b{α:Type}(G168:Al S_g168)(G153:Al S_g153)(G159:Al S_g159)(G109:Al S_g109)(G114:Al S_g114)(a:Bool)(b:List Int)(c:Bool)(d:List Int)(e:Bool→(List Int)→Option α):Option α:=G168 a b c d (fun h i j l=>G153 d l (fun n=>G159 l n (fun o=>cond (decide (o≥(0:Int))) (G109 (1:Int) (fun p q=>G114 h i p q (fun r s t=>e r s))) (e h i))))
def g127{α:Type}(m:Nat):S_g127 α:=
 g127b (g168 m) (g153 m) (g159 m) (g109 m) (g114 m)
def g127tp:List TP:=[vW,vW]
def g127bp:List BP:=[]
def g127K{α:Type}(G:S_g127 α)(ls:List Lf)(k:KRe α):Option α:=
 G (lf ls 0).bool ((lf ls 1).lst uU) (lf ls 2).bool ((lf ls 3).lst uU)
  (fun a b=>k (.vl (.agg [(.one (.bool a)),(.seq uU 6 b)])) [] [])
def g127R{α:Type}(G:S_g127 α):=rowK g127tp g127bp (g127K G)
def g127hd(G168:Al S_g168)(G153:Al S_g153)(G159:Al S_g159)(G109:Al S_g109)(G114:Al S_g114):Hd where
 call:=fun f args Bs k=>cond (Nat.beq f 168) (g168R G168 args Bs k) (cond (Nat.beq f 153) (g153R G153 args Bs k) (cond (Nat.beq f 159) (g159R G159 args Bs k) (cond (Nat.beq f 109) (g109R G109 args Bs k) (cond (Nat.beq f 114) (g114R G114 args Bs k) (none)))))
 loop:=fun id st k=>none
 ro:=fun f=>cond (Nat.beq f 153) [0,1] (cond (Nat.beq f 159) [0,1] ([]))
def g127h(m:Nat):Hd:=g127hd (g168 m) (g153 m) (g159 m) (g109 m) (g114 m)
theorem g127Main(G168:Al S_g168)(G153:Al S_g153)(G159:Al S_g159)(G109:Al S_g109)(G114:Al S_g114){α:Type}(ls:List Lf)(k:KRe α):
  g127K (g127b G168 G153 G159 G109 G114) ls k=evFun tab (g127hd G168 G153 G159 G109 G114) Tryz.f127 (fT g127tp ls) (fB g127tp g127bp ls) k:=by kernel_rfl
theorem g127Calls(m:Nat):(g127h m).CallsOk Tryz.prog:=(cok_cons (g168Ok m) (cok_cons (g153Ok m) (cok_cons (g159Ok m) (cok_cons (g109Ok m) (cok_cons (g114Ok m) cok_nil)))))
theorem g127Ok(m:Nat):RowOk Tryz.prog 127 (fun{α}=>g127R (g127 m (α:=α))):=
 rwk (g127Calls m) (lo0 (by kernel_rfl))
  (fun _=>g127Main (g168 m) (g153 m) (g159 m) (g109 m) (g114 m))
abbrev S_g117(α:Type):Type:=Bool→(List Int)→Bool→(List Int)→(Int→Option α)→Option α
def g117b{α:Type}(G159:Al S_g159)(a:Bool)(b:List Int)(c:Bool)(d:List Int)(e:Int→Option α):Option α:=cond a (cond (!c) (e (-1:Int)) (cond (!a) (cond c (e (1:Int)) (cond a (G159 d b (fun h=>e h)) (G159 b d (fun i=>e i)))) (cond a (G159 d b (fun j=>e j)) (G159 b d (fun l=>e l))))) (cond (!a) (cond c (e (1:Int)) (cond a (G159 d b (fun n=>e n)) (G159 b d (fun o=>e o)))) (cond a (G159 d b (fun p=>e p)) (G159 b d (fun q=>e q))))
def g117{α:Type}(m:Nat):S_g117 α:=
 g117b (g159 m)
def g117tp:List TP:=[(.vl (.sv (.ptr 0 0))),(.vl (.sv (.ptr 1 0)))]
def g117bp:List BP:=[(false,[(.one .bool),(.seq uU 6)]),(false,[(.one .bool),(.seq uU 6)])]
def g117K{α:Type}(G:S_g117 α)(ls:List Lf)(k:KRe α):Option α:=
 G (lf ls 0).bool ((lf ls 1).lst uU) (lf ls 2).bool ((lf ls 3).lst uU)
  (fun a=>k (.vl (.sv (.int .i64 a))) [[(.one (.bool (lf ls 0).bool)),(.seq uU 6 ((lf ls 1).lst uU))],[(.one (.bool (lf ls 2).bool)),(.seq uU 6 ((lf ls 3).lst uU))]] [])
def g117R{α:Type}(G:S_g117 α):=rowK g117tp g117bp (g117K G)
def g117hd(G159:Al S_g159):Hd where
 call:=fun f args Bs k=>cond (Nat.beq f 159) (g159R G159 args Bs k) (none)
 loop:=fun id st k=>none
 ro:=fun f=>cond (Nat.beq f 159) [0,1] ([])
def g117h(m:Nat):Hd:=g117hd (g159 m)
theorem g117Main(G159:Al S_g159){α:Type}(ls:List Lf)(k:KRe α):
  g117K (g117b G159) ls k=evFun tab (g117hd G159) Tryz.f117 (fT g117tp ls) (fB g117tp g117bp ls) k:=by kernel_rfl
theorem g117Calls(m:Nat):(g117h m).CallsOk Tryz.prog:=(cok_cons (g159Ok m) cok_nil)
theorem g117Ok(m:Nat):RowOk Tryz.prog 117 (fun{α}=>g117R (g117 m (α:=α))):=
 rwk (g117Calls m) (lo0 (by kernel_rfl))
  (fun _=>g117Main (g159 m))
abbrev S_g130(α:Type):Type:=Bool→(List Int)→(Bool→Option α)→Option α
def g130b{α:Type}(G150:Al S_g150)(a:Bool)(b:List Int)(c:Bool→Option α):Option α:=G150 (!a) b (fun d=>c d)
def g130{α:Type}(m:Nat):S_g130 α:=
 g130b (g150 m)
def g130tp:List TP:=[vW]
def g130bp:List BP:=[]
def g130K{α:Type}(G:S_g130 α)(ls:List Lf)(k:KRe α):Option α:=
 G (lf ls 0).bool ((lf ls 1).lst uU)
  (fun a=>k (.vl (.agg [(.one (.bool a)),(.seq uU 6 ((lf ls 1).lst uU))])) [] [])
def g130R{α:Type}(G:S_g130 α):=rowK g130tp g130bp (g130K G)
def g130hd(G150:Al S_g150):Hd where
 call:=fun f args Bs k=>cond (Nat.beq f 150) (g150R G150 args Bs k) (none)
 loop:=fun id st k=>none
 ro:=fun f=>[]
def g130h(m:Nat):Hd:=g130hd (g150 m)
theorem g130Main(G150:Al S_g150){α:Type}(ls:List Lf)(k:KRe α):
  g130K (g130b G150) ls k=evFun tab (g130hd G150) Tryz.f130 (fT g130tp ls) (fB g130tp g130bp ls) k:=by kernel_rfl
theorem g130Calls(m:Nat):(g130h m).CallsOk Tryz.prog:=(cok_cons (g150Ok m) cok_nil)
theorem g130Ok(m:Nat):RowOk Tryz.prog 130 (fun{α}=>g130R (g130 m (α:=α))):=
 rwk (g130Calls m) (lo0 (by kernel_rfl))
  (fun _=>g130Main (g150 m))
abbrev S_g110(α:Type):Type:=Bool→(List Int)→Bool→(List Int)→(Bool→(List Int)→Int→Option α)→Option α
abbrev S_g110l2(α:Type):Type:=Int→Bool→(List Int)→Bool→(List Int)→Bool→(List Int)→(Int→(List Int)→Option α)→Int→Int→(List Int)→Option α
def g110l2b{α:Type}(a:Int)(b:Bool)(c:List Int)(d:Bool)(e:List Int)(h:Bool)(i:List Int)(j:Int→(List Int)→Option α)(l:Int→Int→(List Int)→Option α)(n o:Int)(p:List Int):Option α:=cond (decide (o<(6:Int))) (if 0≤a∧a<(6:Nat) then if a.toNat<6 then if 0≤o∧o<(6:Nat) then if o.toNat<6 then let q:Int:=IntKind.wrap .i64 (a+o);if 0≤q∧q<(12:Nat) then if q.toNat<12 then let r:Int:=IntKind.wrap .u64 ((IntKind.wrap .u64 ((IntKind.wrap .u64 ((IntKind.wrap .u64 (List.getD c a.toNat 0))*(IntKind.wrap .u64 (List.getD e o.toNat 0))))+(IntKind.wrap .u64 (List.getD p q.toNat 0))))+n);let s:Int:=IntKind.wrap .i64 (a+o);if 0≤s∧s<(12:Nat) then if s.toNat<12 then l (Int.fdiv r (2^32)) (IntKind.wrap .i64 (o+(1:Int))) (List.set p (s.toNat) (IntKind.wrap .u32 r)) else none else none else none else none else none else none else none else none) (j n p)
def g110l2{α:Type}(a:Int)(b:Bool)(c:List Int)(d:Bool)(e:List Int)(h:Bool)(i:List Int)(j:Int→(List Int)→Option α):Nat→Int→Int→(List Int)→Option α
 |0=>fun _ _ _=>none
 |m+1=>fun l n o=>g110l2b a b c d e h i j (g110l2 a b c d e h i j m) l n o
def g110l2M{α:Type}(m:Nat):S_g110l2 α:=
 fun a b c d e h i j l n o=>g110l2 a b c d e h i j m l n o
def g110l2D:LoopD:={n:=78,low:=[],sl:=[2,3,4,6,7,8,9],bl:=[1000000,1000001,1000002,1000003],tp:=[(.vl (.sv (.ptr 1000000 0))),(.vl (.sv (.ptr 1000001 0))),(.vl (.sv (.ptr 1000002 0))),(.vl (.sv (.ptr 1000003 0))),tI,(.vl (.sv (.int .u64))),tI],bp:=[(true,[(.one .bool),(.seq uU 6)]),(true,[(.one .bool),(.seq uU 6)]),(true,[(.one .bool),(.seq uU 6)]),(true,[(.seq uU 12)])],xs:=[(4,[2,3,4,6,7,8])]}
def g110l2K{α:Type}(L:S_g110l2 α)(ls:List Lf)(k:KEx α):Option α:=
 L (lf ls 0).int (lf ls 3).bool ((lf ls 4).lst uU) (lf ls 5).bool ((lf ls 6).lst uU) (lf ls 7).bool ((lf ls 8).lst uU)
  (fun a b=>k .normal (mkSt 78 [2,3,4,6,7,8] [(.vl (.sv (.ptr 1000000 0))),(.vl (.sv (.ptr 1000001 0))),(.vl (.sv (.ptr 1000002 0))),(.vl (.sv (.ptr 1000003 0))),(.vl (.sv (.int .i64 (lf ls 0).int))),(.vl (.sv (.int .u64 a)))] [1000000,1000001,1000002,1000003] [(true,[(.one (.bool (lf ls 3).bool)),(.seq uU 6 ((lf ls 4).lst uU))]),(true,[(.one (.bool (lf ls 5).bool)),(.seq uU 6 ((lf ls 6).lst uU))]),(true,[(.one (.bool (lf ls 7).bool)),(.seq uU 6 ((lf ls 8).lst uU))]),(true,[(.seq uU 12 b)])]))
  (lf ls 1).int (lf ls 2).int ((lf ls 9).lst uU)
abbrev S_g110l0(α:Type):Type:=Bool→(List Int)→Bool→(List Int)→Bool→(List Int)→((List Int)→Option α)→Int→(List Int)→Option α
def g110l0b{α:Type}(L110l2:Al S_g110l2)(a:Bool)(b:List Int)(c:Bool)(d:List Int)(e:Bool)(h:List Int)(i:(List Int)→Option α)(j:Int→(List Int)→Option α)(l:Int)(n:List Int):Option α:=cond (decide (l<(6:Int))) (L110l2 l a b c d e h (fun o p=>let q:Int:=IntKind.wrap .i64 (l+(6:Int));if 0≤q∧q<(12:Nat) then if q.toNat<12 then j (IntKind.wrap .i64 (l+(1:Int))) (List.set p (q.toNat) (IntKind.wrap .u32 o)) else none else none) (0:Int) (0:Int) n) (i n)
def g110l0{α:Type}(L110l2:Al S_g110l2)(a:Bool)(b:List Int)(c:Bool)(d:List Int)(e:Bool)(h:List Int)(i:(List Int)→Option α):Nat→Int→(List Int)→Option α
 |0=>fun _ _=>none
 |m+1=>fun j l=>g110l0b L110l2 a b c d e h i (g110l0 L110l2 a b c d e h i m) j l
def g110l0M{α:Type}(m:Nat):S_g110l0 α:=
 fun a b c d e h i j l=>g110l0 (g110l2M m) a b c d e h i m j l
def g110l0D:LoopD:={n:=78,low:=[],sl:=[2,3,4,6,7],bl:=[1000000,1000001,1000002,1000003],tp:=[(.vl (.sv (.ptr 1000000 0))),(.vl (.sv (.ptr 1000001 0))),(.vl (.sv (.ptr 1000002 0))),(.vl (.sv (.ptr 1000003 0))),tI],bp:=[(true,[(.one .bool),(.seq uU 6)]),(true,[(.one .bool),(.seq uU 6)]),(true,[(.one .bool),(.seq uU 6)]),(true,[(.seq uU 12)])],xs:=[(2,[2,3,4,6])]}
def g110l0K{α:Type}(L:S_g110l0 α)(ls:List Lf)(k:KEx α):Option α:=
 L (lf ls 1).bool ((lf ls 2).lst uU) (lf ls 3).bool ((lf ls 4).lst uU) (lf ls 5).bool ((lf ls 6).lst uU)
  (fun a=>k .normal (mkSt 78 [2,3,4,6] [(.vl (.sv (.ptr 1000000 0))),(.vl (.sv (.ptr 1000001 0))),(.vl (.sv (.ptr 1000002 0))),(.vl (.sv (.ptr 1000003 0)))] [1000000,1000001,1000002,1000003] [(true,[(.one (.bool (lf ls 1).bool)),(.seq uU 6 ((lf ls 2).lst uU))]),(true,[(.one (.bool (lf ls 3).bool)),(.seq uU 6 ((lf ls 4).lst uU))]),(true,[(.one (.bool (lf ls 5).bool)),(.seq uU 6 ((lf ls 6).lst uU))]),(true,[(.seq uU 12 a)])]))
  (lf ls 0).int ((lf ls 7).lst uU)
abbrev S_g110l4(α:Type):Type:=Bool→(List Int)→Bool→(List Int)→Bool→(List Int)→(List Int)→((List Int)→Option α)→((List Int)→Option α)→Int→(List Int)→Option α
def g110l4b{α:Type}(a:Bool)(b:List Int)(c:Bool)(d:List Int)(e:Bool)(h i:List Int)(j:(List Int)→Option α)(l:(List Int)→Option α)(n:Int→(List Int)→Option α)(o:Int)(p:List Int):Option α:=cond (decide (o<(6:Int))) (if 0≤o∧o<(12:Nat) then if o.toNat<12 then if 0≤o∧o<(6:Nat) then if o.toNat<6 then let q:Int:=IntKind.wrap .i64 (o+(6:Int));if 0≤q∧q<(12:Nat) then if q.toNat<12 then cond ((List.getD i q.toNat 0) !=(0:Int)) (j [0,0,0,0,0,0]) (n (IntKind.wrap .i64 (o+(1:Int))) (List.set p (o.toNat) (List.getD i o.toNat 0))) else none else none else none else none else none else none) (l p)
def g110l4{α:Type}(a:Bool)(b:List Int)(c:Bool)(d:List Int)(e:Bool)(h i:List Int)(j:(List Int)→Option α)(l:(List Int)→Option α):Nat→Int→(List Int)→Option α
 |0=>fun _ _=>none
 |m+1=>fun n o=>g110l4b a b c d e h i j l (g110l4 a b c d e h i j l m) n o
def g110l4M{α:Type}(m:Nat):S_g110l4 α:=
 fun a b c d e h i j l n o=>g110l4 a b c d e h i j l m n o
def g110l4D:LoopD:={n:=78,low:=[],sl:=[2,3,4,6,11,12],bl:=[1000000,1000001,1000002,1000003,1000004],tp:=[(.vl (.sv (.ptr 1000000 0))),(.vl (.sv (.ptr 1000001 0))),(.vl (.sv (.ptr 1000002 0))),(.vl (.sv (.ptr 1000003 0))),(.vl (.sv (.ptr 1000004 0))),tI],bp:=[(true,[(.one .bool),(.seq uU 6)]),(true,[(.one .bool),(.seq uU 6)]),(true,[(.one .bool),(.seq uU 6)]),(true,[(.seq uU 12)]),b6],xs:=[(1,[4,5]),(6,[2,3,4,11])]}
def g110l4K{α:Type}(L:S_g110l4 α)(ls:List Lf)(k:KEx α):Option α:=
 L (lf ls 1).bool ((lf ls 2).lst uU) (lf ls 3).bool ((lf ls 4).lst uU) (lf ls 5).bool ((lf ls 6).lst uU) ((lf ls 7).lst uU)
  (fun a=>k .ret (mkSt 78 [4,5] [(.vl (.sv (.ptr 1000000 0))),(.vl (.sv (.int .i64 (3:Int))))] [1000000] [(true,[(.one (.bool false)),(.seq uU 6 a)])]))
  (fun b=>k .normal (mkSt 78 [2,3,4,11] [(.vl (.sv (.ptr 1000000 0))),(.vl (.sv (.ptr 1000001 0))),(.vl (.sv (.ptr 1000002 0))),(.vl (.sv (.ptr 1000003 0)))] [1000000,1000001,1000002,1000003] [(true,[(.one (.bool (lf ls 1).bool)),(.seq uU 6 ((lf ls 2).lst uU))]),(true,[(.one (.bool (lf ls 3).bool)),(.seq uU 6 ((lf ls 4).lst uU))]),(true,[(.one (.bool (lf ls 5).bool)),(.seq uU 6 ((lf ls 6).lst uU))]),(true,[(.seq uU 6 b)])]))
  (lf ls 0).int ((lf ls 8).lst uU)
def g110b{α:Type}(G150:Al S_g150)(L110l2:Al S_g110l2)(L110l0:Al S_g110l0)(L110l4:Al S_g110l4)(a:Bool)(b:List Int)(c:Bool)(d:List Int)(e:Bool→(List Int)→Int→Option α):Option α:=L110l0 a b c d false [0,0,0,0,0,0] (fun h=>L110l4 a b c d false [0,0,0,0,0,0] h (fun i=>e false i (3:Int)) (fun j=>G150 (!(a==c)) j (fun l=>e l j (0:Int))) (0:Int) [0,0,0,0,0,0]) (0:Int) [0,0,0,0,0,0,0,0,0,0,0,0]
def g110{α:Type}(m:Nat):S_g110 α:=
 g110b (g150 m) (g110l2M m) (g110l0M m) (g110l4M m)
def g110tp:List TP:=[vW,vW]
def g110bp:List BP:=[]
def g110K{α:Type}(G:S_g110 α)(ls:List Lf)(k:KRe α):Option α:=
 G (lf ls 0).bool ((lf ls 1).lst uU) (lf ls 2).bool ((lf ls 3).lst uU)
  (fun a b c=>k (.tup [(.agg [(.one (.bool a)),(.seq uU 6 b)]),(.sv (.int .i64 c))]) [] [])
def g110R{α:Type}(G:S_g110 α):=rowK g110tp g110bp (g110K G)
def g110hd(G150:Al S_g150)(L110l2:Al S_g110l2)(L110l0:Al S_g110l0)(L110l4:Al S_g110l4):Hd where
 call:=fun f args Bs k=>cond (Nat.beq f 150) (g150R G150 args Bs k) (none)
 loop:=fun id st k=>cond (Nat.beq id 2) (loopH g110l2D (g110l2K L110l2) st k) (cond (Nat.beq id 0) (loopH g110l0D (g110l0K L110l0) st k) (cond (Nat.beq id 4) (loopH g110l4D (g110l4K L110l4) st k) (none)))
 ro:=fun f=>[]
def g110h(m:Nat):Hd:=g110hd (g150 m) (g110l2M m) (g110l0M m) (g110l4M m)
theorem g110l2Step(G150:Al S_g150)(L110l2:Al S_g110l2)(L110l0:Al S_g110l0)(L110l4:Al S_g110l4){α:Type}(L:S_g110l2 α)(ls:List Lf)(k:KEx α):
  g110l2K (fun a b c d e h i j l n o=>g110l2b a b c d e h i j (L a b c d e h i j) l n o) ls k=ev tab (g110hd G150 L110l2 L110l0 L110l4) (bodyAt Tryz.f110 2) (atHead g110l2D ls) (loopK g110l2D 2 (loopH g110l2D (g110l2K L)) k):=by kernel_rfl
theorem g110l0Step(G150:Al S_g150)(L110l2:Al S_g110l2)(L110l0:Al S_g110l0)(L110l4:Al S_g110l4){α:Type}(L:S_g110l0 α)(ls:List Lf)(k:KEx α):
  g110l0K (fun a b c d e h i j l=>g110l0b L110l2 a b c d e h i (L a b c d e h i) j l) ls k=ev tab (g110hd G150 L110l2 L110l0 L110l4) (bodyAt Tryz.f110 0) (atHead g110l0D ls) (loopK g110l0D 0 (loopH g110l0D (g110l0K L)) k):=by kernel_rfl
theorem g110l4Step(G150:Al S_g150)(L110l2:Al S_g110l2)(L110l0:Al S_g110l0)(L110l4:Al S_g110l4){α:Type}(L:S_g110l4 α)(ls:List Lf)(k:KEx α):
  g110l4K (fun a b c d e h i j l n o=>g110l4b a b c d e h i j l (L a b c d e h i j l) n o) ls k=ev tab (g110hd G150 L110l2 L110l0 L110l4) (bodyAt Tryz.f110 4) (atHead g110l4D ls) (loopK g110l4D 4 (loopH g110l4D (g110l4K L)) k):=by kernel_rfl
theorem g110Main(G150:Al S_g150)(L110l2:Al S_g110l2)(L110l0:Al S_g110l0)(L110l4:Al S_g110l4){α:Type}(ls:List Lf)(k:KRe α):
  g110K (g110b G150 L110l2 L110l0 L110l4) ls k=evFun tab (g110hd G150 L110l2 L110l0 L110l4) Tryz.f110 (fT g110tp ls) (fB g110tp g110bp ls) k:=by kernel_rfl
theorem g110Calls(m:Nat):(g110h m).CallsOk Tryz.prog:=(cok_cons (g150Ok m) cok_nil)
theorem g110l2Ok(m:Nat)(α:Type)(st:St)(k:KEx α)(r:α)(h:(g110h m).loop 2 st k=some r):
  LoopS Tryz.prog 2 (bodyAt Tryz.f110 2) st k r:=
 lpk (F:=fun n ls k=>g110l2K (fun a b c d e i j l o q s=>g110l2 a b c d e i j l n o q s) ls k) (g110Calls m) (lb0 (by kernel_rfl))
  (fun _ _=>rfl) (fun n ls k=>g110l2Step (g150 m) (g110l2M m) (g110l0M m) (g110l4M m) (fun a b c d e i j l=>g110l2 a b c d e i j l n) ls k) (n:=m) h
theorem g110l0Ok(m:Nat)(α:Type)(st:St)(k:KEx α)(r:α)(h:(g110h m).loop 0 st k=some r):
  LoopS Tryz.prog 0 (bodyAt Tryz.f110 0) st k r:=
 lpk (F:=fun n ls k=>g110l0K (fun a b c d e i j l o=>g110l0 (g110l2M m) a b c d e i j n l o) ls k) (g110Calls m) (loopsOk_of _ (fun p hp=>by
  rw[show loopsOf (bodyAt Tryz.f110 0)=[(2,bodyAt Tryz.f110 2)] by kernel_rfl] at hp
  simp only[List.mem_cons,List.not_mem_nil,or_false] at hp
  rcases hp with rfl
  exact g110l2Ok m))
  (fun _ _=>rfl) (fun n ls k=>g110l0Step (g150 m) (g110l2M m) (g110l0M m) (g110l4M m) (fun a b c d e i j=>g110l0 (g110l2M m) a b c d e i j n) ls k) (n:=m) h
theorem g110l4Ok(m:Nat)(α:Type)(st:St)(k:KEx α)(r:α)(h:(g110h m).loop 4 st k=some r):
  LoopS Tryz.prog 4 (bodyAt Tryz.f110 4) st k r:=
 lpk (F:=fun n ls k=>g110l4K (fun a b c d e i j l o q s=>g110l4 a b c d e i j l o n q s) ls k) (g110Calls m) (lb0 (by kernel_rfl))
  (fun _ _=>rfl) (fun n ls k=>g110l4Step (g150 m) (g110l2M m) (g110l0M m) (g110l4M m) (fun a b c d e i j l o=>g110l4 a b c d e i j l o n) ls k) (n:=m) h
theorem g110Fn(m:Nat):FnOk Tryz.prog 110 g110tp g110bp (fun{α}=>g110K (g110 m (α:=α))):=
 fn_ok (tab:=tab) (h:=g110h m) (fn:=Tryz.f110) (F:=fun{α}=>g110K (g110 m (α:=α))) tabOk (g110Calls m) mixed (by kernel_rfl) (by kernel_rfl) (fun c hc=>by
  rw[bodyOf_some hc]
  exact loopsOk_of _ (fun p hp=>by
  rw[show loopsOf (bodyOf Tryz.f110)=[(0,bodyAt Tryz.f110 0),(4,bodyAt Tryz.f110 4)] by kernel_rfl] at hp
  simp only[List.mem_cons,List.not_mem_nil,or_false] at hp
  rcases hp with rfl|rfl
  ·exact g110l0Ok m
  ·exact g110l4Ok m))
  (fun _=>g110Main (g150 m) (g110l2M m) (g110l0M m) (g110l4M m))
theorem g110Ok(m:Nat):RowOk Tryz.prog 110 (fun{α}=>g110R (g110 m (α:=α))):=row_of (g110Fn m)
abbrev S_g169(α:Type):Type:=Bool→(List Int)→Int→(Bool→(List Int)→Option α)→Option α
abbrev S_g169l0(α:Type):Type:=Int→Bool→(List Int)→Bool→(List Int)→(Bool→(List Int)→Option α)→Int→Bool→(List Int)→Bool→(List Int)→Option α
def g169l0b{α:Type}(G117:Al S_g117)(G168:Al S_g168)(G109:Al S_g109)(G130:Al S_g130)(G114:Al S_g114)(G110:Al S_g110)(a:Int)(b:Bool)(c:List Int)(d:Bool)(e:List Int)(h:Bool→(List Int)→Option α)(i:Int→Bool→(List Int)→Bool→(List Int)→Option α)(j:Int)(l:Bool)(n:List Int)(o:Bool)(p:List Int):Option α:=G117 o p b c (fun q=>cond (decide (q≤(0:Int))) (G168 b c o p (fun r s t u=>G109 (IntKind.wrap .i64 ((IntKind.wrap .i64 ((2:Int)*j))+(1:Int))) (fun v w=>G168 r s v w (fun x y z a0=>cond ((Int.tmod j (2:Int))==(1:Int)) (G130 x y (fun b0=>G114 l n b0 y (fun c0 d0 e0=>G109 (IntKind.wrap .i64 (a*a)) (fun h0 i0=>G110 o p h0 i0 (fun j0 l0 n0=>cond (n0 !=(0:Int)) (h c0 d0) (i (IntKind.wrap .i64 (j+(1:Int))) c0 d0 j0 l0)))))) (G114 l n x y (fun o0 p0 q0=>G109 (IntKind.wrap .i64 (a*a)) (fun r0 s0=>G110 o p r0 s0 (fun t0 u0 v0=>cond (v0 !=(0:Int)) (h o0 p0) (i (IntKind.wrap .i64 (j+(1:Int))) o0 p0 t0 u0))))))))) (h l n))
def g169l0{α:Type}(G117:Al S_g117)(G168:Al S_g168)(G109:Al S_g109)(G130:Al S_g130)(G114:Al S_g114)(G110:Al S_g110)(a:Int)(b:Bool)(c:List Int)(d:Bool)(e:List Int)(h:Bool→(List Int)→Option α):Nat→Int→Bool→(List Int)→Bool→(List Int)→Option α
 |0=>fun _ _ _ _ _=>none
 |m+1=>fun i j l n o=>g169l0b G117 G168 G109 G130 G114 G110 a b c d e h (g169l0 G117 G168 G109 G130 G114 G110 a b c d e h m) i j l n o
def g169l0M{α:Type}(m:Nat):S_g169l0 α:=
 fun a b c d e h i j l n o=>g169l0 (g117 m) (g168 m) (g109 m) (g130 m) (g114 m) (g110 m) a b c d e h m i j l n o
def g169l0D:LoopD:={n:=58,low:=[],sl:=[1,2,4,5,6,7],bl:=[1000000,1000001,1000002,1000003],tp:=[tI,(.vl (.sv (.ptr 1000000 0))),(.vl (.sv (.ptr 1000001 0))),(.vl (.sv (.ptr 1000002 0))),(.vl (.sv (.ptr 1000003 0))),tI],bp:=[(true,[(.one .bool),(.seq uU 6)]),(true,[(.one .bool),(.seq uU 6)]),(true,[(.one .bool),(.seq uU 6)]),(true,[(.one .bool),(.seq uU 6)])],xs:=[(2,[4,5])]}
def g169l0K{α:Type}(L:S_g169l0 α)(ls:List Lf)(k:KEx α):Option α:=
 L (lf ls 0).int (lf ls 2).bool ((lf ls 3).lst uU) (lf ls 4).bool ((lf ls 5).lst uU)
  (fun a b=>k .normal (mkSt 58 [4,5] [(.vl (.sv (.ptr 1000000 0))),(.vl (.sv (.ptr 1000001 0)))] [1000000,1000001] [(true,[(.one (.bool (lf ls 4).bool)),(.seq uU 6 ((lf ls 5).lst uU))]),(true,[(.one (.bool a)),(.seq uU 6 b)])]))
  (lf ls 1).int (lf ls 6).bool ((lf ls 7).lst uU) (lf ls 8).bool ((lf ls 9).lst uU)
def g169b{α:Type}(G109:Al S_g109)(G117:Al S_g117)(G168:Al S_g168)(G130:Al S_g130)(G114:Al S_g114)(G110:Al S_g110)(L169l0:Al S_g169l0)(a:Bool)(b:List Int)(c:Int)(d:Bool→(List Int)→Option α):Option α:=G109 c (fun e h=>L169l0 c a b false [0,0,0,0,0,0] (fun i j=>d i j) (0:Int) false [0,0,0,0,0,0] e h)
def g169{α:Type}(m:Nat):S_g169 α:=
 g169b (g109 m) (g117 m) (g168 m) (g130 m) (g114 m) (g110 m) (g169l0M m)
def g169tp:List TP:=[vW,tI]
def g169bp:List BP:=[]
def g169K{α:Type}(G:S_g169 α)(ls:List Lf)(k:KRe α):Option α:=
 G (lf ls 0).bool ((lf ls 1).lst uU) (lf ls 2).int
  (fun a b=>k (.vl (.agg [(.one (.bool a)),(.seq uU 6 b)])) [] [])
def g169R{α:Type}(G:S_g169 α):=rowK g169tp g169bp (g169K G)
def g169hd(G109:Al S_g109)(G117:Al S_g117)(G168:Al S_g168)(G130:Al S_g130)(G114:Al S_g114)(G110:Al S_g110)(L169l0:Al S_g169l0):Hd where
 call:=fun f args Bs k=>cond (Nat.beq f 109) (g109R G109 args Bs k) (cond (Nat.beq f 117) (g117R G117 args Bs k) (cond (Nat.beq f 168) (g168R G168 args Bs k) (cond (Nat.beq f 130) (g130R G130 args Bs k) (cond (Nat.beq f 114) (g114R G114 args Bs k) (cond (Nat.beq f 110) (g110R G110 args Bs k) (none))))))
 loop:=fun id st k=>cond (Nat.beq id 0) (loopH g169l0D (g169l0K L169l0) st k) (none)
 ro:=fun f=>cond (Nat.beq f 117) [0,1] ([])
def g169h(m:Nat):Hd:=g169hd (g109 m) (g117 m) (g168 m) (g130 m) (g114 m) (g110 m) (g169l0M m)
theorem g169l0Step(G109:Al S_g109)(G117:Al S_g117)(G168:Al S_g168)(G130:Al S_g130)(G114:Al S_g114)(G110:Al S_g110)(L169l0:Al S_g169l0){α:Type}(L:S_g169l0 α)(ls:List Lf)(k:KEx α):
  g169l0K (fun a b c d e h i j l n o=>g169l0b G117 G168 G109 G130 G114 G110 a b c d e h (L a b c d e h) i j l n o) ls k=ev tab (g169hd G109 G117 G168 G130 G114 G110 L169l0) (bodyAt Tryz.f169 0) (atHead g169l0D ls) (loopK g169l0D 0 (loopH g169l0D (g169l0K L)) k):=by kernel_rfl
theorem g169Main(G109:Al S_g109)(G117:Al S_g117)(G168:Al S_g168)(G130:Al S_g130)(G114:Al S_g114)(G110:Al S_g110)(L169l0:Al S_g169l0){α:Type}(ls:List Lf)(k:KRe α):
  g169K (g169b G109 G117 G168 G130 G114 G110 L169l0) ls k=evFun tab (g169hd G109 G117 G168 G130 G114 G110 L169l0) Tryz.f169 (fT g169tp ls) (fB g169tp g169bp ls) k:=by kernel_rfl
theorem g169Calls(m:Nat):(g169h m).CallsOk Tryz.prog:=(cok_cons (g109Ok m) (cok_cons (g117Ok m) (cok_cons (g168Ok m) (cok_cons (g130Ok m) (cok_cons (g114Ok m) (cok_cons (g110Ok m) cok_nil))))))
theorem g169l0Ok(m:Nat)(α:Type)(st:St)(k:KEx α)(r:α)(h:(g169h m).loop 0 st k=some r):
  LoopS Tryz.prog 0 (bodyAt Tryz.f169 0) st k r:=
 lpk (F:=fun n ls k=>g169l0K (fun a b c d e i j l o q s=>g169l0 (g117 m) (g168 m) (g109 m) (g130 m) (g114 m) (g110 m) a b c d e i n j l o q s) ls k) (g169Calls m) (lb0 (by kernel_rfl))
  (fun _ _=>rfl) (fun n ls k=>g169l0Step (g109 m) (g117 m) (g168 m) (g130 m) (g114 m) (g110 m) (g169l0M m) (fun a b c d e i=>g169l0 (g117 m) (g168 m) (g109 m) (g130 m) (g114 m) (g110 m) a b c d e i n) ls k) (n:=m) h
theorem g169Ok(m:Nat):RowOk Tryz.prog 169 (fun{α}=>g169R (g169 m (α:=α))):=
 rwk (g169Calls m) (lo1 (by kernel_rfl) (g169l0Ok m))
  (fun _=>g169Main (g109 m) (g117 m) (g168 m) (g130 m) (g114 m) (g110 m) (g169l0M m))
abbrev S_g151(α:Type):Type:=Int→(List Int)→((List Int)→Option α)→Option α
abbrev S_g151l0(α:Type):Type:=Int→(List Int)→(List Int)→((List Int)→Option α)→Int→(List Int)→Option α
def g151l0b{α:Type}(a:Int)(b c:List Int)(d:(List Int)→Option α)(e:Int→(List Int)→Option α)(h:Int)(i:List Int):Option α:=cond (decide (h<(6:Int))) (if 0≤h∧h<(6:Nat) then if h.toNat<6 then let j:Int:=IntKind.wrap .u64 (List.getD b h.toNat 0);cond (decide ((IntKind.wrap .i64 (h+(1:Int)))<(6:Int))) (let l:Int:=IntKind.wrap .i64 (h+(1:Int));if 0≤l∧l<(6:Nat) then if l.toNat<6 then let n:Int:=IntKind.wrap .i64 (h-(IntKind.wrap .i64 (Int.tdiv a (32:Int))));let o:Int:=IntKind.wrap .u64 (Int.tmod a (32:Int));if o<0 then none else if 0≤n∧n<(6:Nat) then if n.toNat<6 then e (IntKind.wrap .i64 (h+(1:Int))) (List.set i (n.toNat) (IntKind.wrap .u32 (Int.fdiv (IntKind.wrap .u64 (j+(IntKind.wrap .u64 ((IntKind.wrap .u64 (List.getD b l.toNat 0))*2^32)))) (2^(min o.toNat 64))))) else none else none else none else none) (let p:Int:=IntKind.wrap .i64 (h-(IntKind.wrap .i64 (Int.tdiv a (32:Int))));let q:Int:=IntKind.wrap .u64 (Int.tmod a (32:Int));if q<0 then none else if 0≤p∧p<(6:Nat) then if p.toNat<6 then e (IntKind.wrap .i64 (h+(1:Int))) (List.set i (p.toNat) (IntKind.wrap .u32 (Int.fdiv j (2^(min q.toNat 64))))) else none else none) else none else none) (d i)
def g151l0{α:Type}(a:Int)(b c:List Int)(d:(List Int)→Option α):Nat→Int→(List Int)→Option α
 |0=>fun _ _=>none
 |m+1=>fun e h=>g151l0b a b c d (g151l0 a b c d m) e h
def g151l0M{α:Type}(m:Nat):S_g151l0 α:=
 fun a b c d e h=>g151l0 a b c d m e h
def g151l0D:LoopD:={n:=46,low:=[0],sl:=[0,1,4,5,6],bl:=[0,1000001,1000002],tp:=[(.vl (.sv (.ptr 0 0))),tI,(.vl (.sv (.ptr 1000001 0))),(.vl (.sv (.ptr 1000002 0))),tI],bp:=[(false,[(.seq uU 6)]),b6,b6],xs:=[(2,[4,5])]}
def g151l0K{α:Type}(L:S_g151l0 α)(ls:List Lf)(k:KEx α):Option α:=
 L (lf ls 0).int ((lf ls 2).lst uU) ((lf ls 3).lst uU)
  (fun a=>k .normal (mkSt 46 [4,5] [(.vl (.sv (.ptr 1000001 0))),(.vl (.sv (.ptr 1000002 0)))] [0,1000001,1000002] [(false,[(.seq uU 6 ((lf ls 2).lst uU))]),(true,[(.seq uU 6 ((lf ls 3).lst uU))]),(true,[(.seq uU 6 a)])]))
  (lf ls 1).int ((lf ls 4).lst uU)
def g151b{α:Type}(L151l0:Al S_g151l0)(a:Int)(b:List Int)(c:(List Int)→Option α):Option α:=L151l0 a b [0,0,0,0,0,0] (fun d=>c d) (IntKind.wrap .i64 (Int.tdiv a (32:Int))) [0,0,0,0,0,0]
def g151{α:Type}(m:Nat):S_g151 α:=
 g151b (g151l0M m)
def g151tp:List TP:=[(.vl (.sv (.ptr 0 0))),tI]
def g151bp:List BP:=[(false,[(.seq uU 6)])]
def g151K{α:Type}(G:S_g151 α)(ls:List Lf)(k:KRe α):Option α:=
 G (lf ls 0).int ((lf ls 1).lst uU)
  (fun a=>k (.vl (.agg [(.seq uU 6 a)])) [[(.seq uU 6 ((lf ls 1).lst uU))]] [])
def g151R{α:Type}(G:S_g151 α):=rowK g151tp g151bp (g151K G)
def g151hd(L151l0:Al S_g151l0):Hd where
 call:=fun f args Bs k=>none
 loop:=fun id st k=>cond (Nat.beq id 0) (loopH g151l0D (g151l0K L151l0) st k) (none)
 ro:=fun f=>[]
def g151h(m:Nat):Hd:=g151hd (g151l0M m)
theorem g151l0Step(L151l0:Al S_g151l0){α:Type}(L:S_g151l0 α)(ls:List Lf)(k:KEx α):
  g151l0K (fun a b c d e h=>g151l0b a b c d (L a b c d) e h) ls k=ev tab (g151hd L151l0) (bodyAt Tryz.f151 0) (atHead g151l0D ls) (loopK g151l0D 0 (loopH g151l0D (g151l0K L)) k):=by kernel_rfl
theorem g151Main(L151l0:Al S_g151l0){α:Type}(ls:List Lf)(k:KRe α):
  g151K (g151b L151l0) ls k=evFun tab (g151hd L151l0) Tryz.f151 (fT g151tp ls) (fB g151tp g151bp ls) k:=by kernel_rfl
theorem g151Calls(m:Nat):(g151h m).CallsOk Tryz.prog:=cok_nil
theorem g151l0Ok(m:Nat)(α:Type)(st:St)(k:KEx α)(r:α)(h:(g151h m).loop 0 st k=some r):
  LoopS Tryz.prog 0 (bodyAt Tryz.f151 0) st k r:=
 lpk (F:=fun n ls k=>g151l0K (fun a b c d e i=>g151l0 a b c d n e i) ls k) (g151Calls m) (lb0 (by kernel_rfl))
  (fun _ _=>rfl) (fun n ls k=>g151l0Step (g151l0M m) (fun a b c d=>g151l0 a b c d n) ls k) (n:=m) h
theorem g151Ok(m:Nat):RowOk Tryz.prog 151 (fun{α}=>g151R (g151 m (α:=α))):=
 rwk (g151Calls m) (lo1 (by kernel_rfl) (g151l0Ok m))
  (fun _=>g151Main (g151l0M m))
abbrev S_g111(α:Type):Type:=Bool→(List Int)→Int→(Bool→(List Int)→Option α)→Option α
def g111b{α:Type}(G151:Al S_g151)(G152:Al S_g152)(G153:Al S_g153)(G150:Al S_g150)(G154:Al S_g154)(a:Bool)(b:List Int)(c:Int)(d:Bool→(List Int)→Option α):Option α:=cond (c==(0:Int)) (d a b) (G151 c b (fun e=>G151 (IntKind.wrap .i64 (c-(1:Int))) b (fun h=>G152 c e (fun i j=>G153 b i (fun l=>G152 (IntKind.wrap .i64 (c-(1:Int))) [(1:Int),0,0,0,0,0] (fun n o=>let p:Bool:=(Int.tmod (List.getD h 0 0) (2:Int))==(1:Int);cond a (cond (eqLI l n) (G150 a e (fun q=>d q e)) (cond p (G154 e [(1:Int),0,0,0,0,0] (fun r s=>G150 a r (fun t=>d t r))) (G150 a e (fun u=>d u e)))) (cond p (G154 e [(1:Int),0,0,0,0,0] (fun v w=>G150 a v (fun x=>d x v))) (G150 a e (fun y=>d y e)))))))))
def g111{α:Type}(m:Nat):S_g111 α:=
 g111b (g151 m) (g152 m) (g153 m) (g150 m) (g154 m)
def g111tp:List TP:=[vW,tI]
def g111bp:List BP:=[]
def g111K{α:Type}(G:S_g111 α)(ls:List Lf)(k:KRe α):Option α:=
 G (lf ls 0).bool ((lf ls 1).lst uU) (lf ls 2).int
  (fun a b=>k (.vl (.agg [(.one (.bool a)),(.seq uU 6 b)])) [] [])
def g111R{α:Type}(G:S_g111 α):=rowK g111tp g111bp (g111K G)
def g111hd(G151:Al S_g151)(G152:Al S_g152)(G153:Al S_g153)(G150:Al S_g150)(G154:Al S_g154):Hd where
 call:=fun f args Bs k=>cond (Nat.beq f 151) (g151R G151 args Bs k) (cond (Nat.beq f 152) (g152R G152 args Bs k) (cond (Nat.beq f 153) (g153R G153 args Bs k) (cond (Nat.beq f 150) (g150R G150 args Bs k) (cond (Nat.beq f 154) (g154R G154 args Bs k) (none)))))
 loop:=fun id st k=>none
 ro:=fun f=>cond (Nat.beq f 151) [0] (cond (Nat.beq f 152) [0] (cond (Nat.beq f 153) [0,1] (cond (Nat.beq f 154) [0,1] ([]))))
def g111h(m:Nat):Hd:=g111hd (g151 m) (g152 m) (g153 m) (g150 m) (g154 m)
theorem g111Main(G151:Al S_g151)(G152:Al S_g152)(G153:Al S_g153)(G150:Al S_g150)(G154:Al S_g154){α:Type}(ls:List Lf)(k:KRe α):
  g111K (g111b G151 G152 G153 G150 G154) ls k=evFun tab (g111hd G151 G152 G153 G150 G154) Tryz.f111 (fT g111tp ls) (fB g111tp g111bp ls) k:=by kernel_rfl
theorem g111Calls(m:Nat):(g111h m).CallsOk Tryz.prog:=(cok_cons (g151Ok m) (cok_cons (g152Ok m) (cok_cons (g153Ok m) (cok_cons (g150Ok m) (cok_cons (g154Ok m) cok_nil)))))
theorem g111Ok(m:Nat):RowOk Tryz.prog 111 (fun{α}=>g111R (g111 m (α:=α))):=
 rwk (g111Calls m) (lo0 (by kernel_rfl))
  (fun _=>g111Main (g151 m) (g152 m) (g153 m) (g150 m) (g154 m))
abbrev S_g128(α:Type):Type:=Int→(Bool→(List Int)→Option α)→Option α
def g128b{α:Type}(G109:Al S_g109)(G116:Al S_g116)(G169:Al S_g169)(G110:Al S_g110)(G114:Al S_g114)(G111:Al S_g111)(a:Int)(b:Bool→(List Int)→Option α):Option α:=G109 (1:Int) (fun c d=>G116 c d (IntKind.wrap .i64 (a+(16:Int))) (fun e h i=>G109 (16:Int) (fun j l=>G169 e h (5:Int) (fun n o=>G110 j l n o (fun p q r=>G109 (-4:Int) (fun s t=>G169 e h (239:Int) (fun u v=>G110 s t u v (fun w x y=>G114 p q w x (fun z a0 b0=>G111 z a0 (16:Int) (fun c0 d0=>b c0 d0))))))))))
def g128{α:Type}(m:Nat):S_g128 α:=
 g128b (g109 m) (g116 m) (g169 m) (g110 m) (g114 m) (g111 m)
def g128tp:List TP:=[tI]
def g128bp:List BP:=[]
def g128K{α:Type}(G:S_g128 α)(ls:List Lf)(k:KRe α):Option α:=
 G (lf ls 0).int
  (fun a b=>k (.tup [(.agg [(.one (.bool a)),(.seq uU 6 b)]),(.sv (.int .i64 (0:Int)))]) [] [])
def g128R{α:Type}(G:S_g128 α):=rowK g128tp g128bp (g128K G)
def g128hd(G109:Al S_g109)(G116:Al S_g116)(G169:Al S_g169)(G110:Al S_g110)(G114:Al S_g114)(G111:Al S_g111):Hd where
 call:=fun f args Bs k=>cond (Nat.beq f 109) (g109R G109 args Bs k) (cond (Nat.beq f 116) (g116R G116 args Bs k) (cond (Nat.beq f 169) (g169R G169 args Bs k) (cond (Nat.beq f 110) (g110R G110 args Bs k) (cond (Nat.beq f 114) (g114R G114 args Bs k) (cond (Nat.beq f 111) (g111R G111 args Bs k) (none))))))
 loop:=fun id st k=>none
 ro:=fun f=>[]
def g128h(m:Nat):Hd:=g128hd (g109 m) (g116 m) (g169 m) (g110 m) (g114 m) (g111 m)
theorem g128Main(G109:Al S_g109)(G116:Al S_g116)(G169:Al S_g169)(G110:Al S_g110)(G114:Al S_g114)(G111:Al S_g111){α:Type}(ls:List Lf)(k:KRe α):
  g128K (g128b G109 G116 G169 G110 G114 G111) ls k=evFun tab (g128hd G109 G116 G169 G110 G114 G111) Tryz.f128 (fT g128tp ls) (fB g128tp g128bp ls) k:=by kernel_rfl
theorem g128Calls(m:Nat):(g128h m).CallsOk Tryz.prog:=(cok_cons (g109Ok m) (cok_cons (g116Ok m) (cok_cons (g169Ok m) (cok_cons (g110Ok m) (cok_cons (g114Ok m) (cok_cons (g111Ok m) cok_nil))))))
theorem g128Ok(m:Nat):RowOk Tryz.prog 128 (fun{α}=>g128R (g128 m (α:=α))):=
 rwk (g128Calls m) (lo0 (by kernel_rfl))
  (fun _=>g128Main (g109 m) (g116 m) (g169 m) (g110 m) (g114 m) (g111 m))
abbrev S_g170(α:Type):Type:=Bool→(List Int)→(Int→Option α)→Option α
def g170b{α:Type}(a:Bool)(b:List Int)(c:Int→Option α):Option α:=cond a (c (-1:Int)) (cond (eqLI b [0,0,0,0,0,0]) (c (0:Int)) (c (1:Int)))
def g170{α:Type}(m:Nat):S_g170 α:=
 g170b
def g170tp:List TP:=[(.vl (.sv (.ptr 0 0)))]
def g170bp:List BP:=[(false,[(.one .bool),(.seq uU 6)])]
def g170K{α:Type}(G:S_g170 α)(ls:List Lf)(k:KRe α):Option α:=
 G (lf ls 0).bool ((lf ls 1).lst uU)
  (fun a=>k (.vl (.sv (.int .i64 a))) [[(.one (.bool (lf ls 0).bool)),(.seq uU 6 ((lf ls 1).lst uU))]] [])
def g170R{α:Type}(G:S_g170 α):=rowK g170tp g170bp (g170K G)
def g170hd:Hd where
 call:=fun f args Bs k=>none
 loop:=fun id st k=>none
 ro:=fun f=>[]
def g170h(m:Nat):Hd:=g170hd
theorem g170Main{α:Type}(ls:List Lf)(k:KRe α):
  g170K (g170b) ls k=evFun tab (g170hd) Tryz.f170 (fT g170tp ls) (fB g170tp g170bp ls) k:=by kernel_rfl
theorem g170Calls(m:Nat):(g170h m).CallsOk Tryz.prog:=cok_nil
theorem g170Ok(m:Nat):RowOk Tryz.prog 170 (fun{α}=>g170R (g170 m (α:=α))):=
 rwk (g170Calls m) (lo0 (by kernel_rfl))
  (fun _=>g170Main)
abbrev S_g129(α:Type):Type:=Int→(Bool→(List Int)→Option α)→Option α
abbrev S_g129l0(α:Type):Type:=Bool→(List Int)→(Bool→(List Int)→Option α)→Int→Bool→(List Int)→Bool→(List Int)→Option α
def g129l0b{α:Type}(G170:Al S_g170)(G109:Al S_g109)(G168:Al S_g168)(G114:Al S_g114)(a:Bool)(b:List Int)(c:Bool→(List Int)→Option α)(d:Int→Bool→(List Int)→Bool→(List Int)→Option α)(e:Int)(h:Bool)(i:List Int)(j:Bool)(l:List Int):Option α:=G170 h i (fun n=>cond (n !=(0:Int)) (G109 e (fun o p=>G168 h i o p (fun q r s t=>G114 j l q r (fun u v w=>d (IntKind.wrap .i64 (e+(1:Int))) q r u v)))) (c j l))
def g129l0{α:Type}(G170:Al S_g170)(G109:Al S_g109)(G168:Al S_g168)(G114:Al S_g114)(a:Bool)(b:List Int)(c:Bool→(List Int)→Option α):Nat→Int→Bool→(List Int)→Bool→(List Int)→Option α
 |0=>fun _ _ _ _ _=>none
 |m+1=>fun d e h i j=>g129l0b G170 G109 G168 G114 a b c (g129l0 G170 G109 G168 G114 a b c m) d e h i j
def g129l0M{α:Type}(m:Nat):S_g129l0 α:=
 fun a b c d e h i j=>g129l0 (g170 m) (g109 m) (g168 m) (g114 m) a b c m d e h i j
def g129l0D:LoopD:={n:=35,low:=[],sl:=[2,4,6,7],bl:=[1000000,1000001,1000002],tp:=[(.vl (.sv (.ptr 1000000 0))),(.vl (.sv (.ptr 1000001 0))),(.vl (.sv (.ptr 1000002 0))),tI],bp:=[(true,[(.one .bool),(.seq uU 6)]),(true,[(.one .bool),(.seq uU 6)]),(true,[(.one .bool),(.seq uU 6)])],xs:=[(2,[2,6])]}
def g129l0K{α:Type}(L:S_g129l0 α)(ls:List Lf)(k:KEx α):Option α:=
 L (lf ls 1).bool ((lf ls 2).lst uU)
  (fun a b=>k .normal (mkSt 35 [2,6] [(.vl (.sv (.ptr 1000000 0))),(.vl (.sv (.ptr 1000001 0)))] [1000000,1000001] [(true,[(.one (.bool (lf ls 1).bool)),(.seq uU 6 ((lf ls 2).lst uU))]),(true,[(.one (.bool a)),(.seq uU 6 b)])]))
  (lf ls 0).int (lf ls 3).bool ((lf ls 4).lst uU) (lf ls 5).bool ((lf ls 6).lst uU)
def g129b{α:Type}(G109:Al S_g109)(G116:Al S_g116)(G170:Al S_g170)(G168:Al S_g168)(G114:Al S_g114)(G111:Al S_g111)(L129l0:Al S_g129l0)(a:Int)(b:Bool→(List Int)→Option α):Option α:=G109 (1:Int) (fun c d=>G116 c d (IntKind.wrap .i64 (a+(16:Int))) (fun e h i=>L129l0 false [0,0,0,0,0,0] (fun j l=>G111 j l (16:Int) (fun n o=>b n o)) (1:Int) e h e h))
def g129{α:Type}(m:Nat):S_g129 α:=
 g129b (g109 m) (g116 m) (g170 m) (g168 m) (g114 m) (g111 m) (g129l0M m)
def g129tp:List TP:=[tI]
def g129bp:List BP:=[]
def g129K{α:Type}(G:S_g129 α)(ls:List Lf)(k:KRe α):Option α:=
 G (lf ls 0).int
  (fun a b=>k (.tup [(.agg [(.one (.bool a)),(.seq uU 6 b)]),(.sv (.int .i64 (0:Int)))]) [] [])
def g129R{α:Type}(G:S_g129 α):=rowK g129tp g129bp (g129K G)
def g129hd(G109:Al S_g109)(G116:Al S_g116)(G170:Al S_g170)(G168:Al S_g168)(G114:Al S_g114)(G111:Al S_g111)(L129l0:Al S_g129l0):Hd where
 call:=fun f args Bs k=>cond (Nat.beq f 109) (g109R G109 args Bs k) (cond (Nat.beq f 116) (g116R G116 args Bs k) (cond (Nat.beq f 170) (g170R G170 args Bs k) (cond (Nat.beq f 168) (g168R G168 args Bs k) (cond (Nat.beq f 114) (g114R G114 args Bs k) (cond (Nat.beq f 111) (g111R G111 args Bs k) (none))))))
 loop:=fun id st k=>cond (Nat.beq id 0) (loopH g129l0D (g129l0K L129l0) st k) (none)
 ro:=fun f=>cond (Nat.beq f 170) [0] ([])
def g129h(m:Nat):Hd:=g129hd (g109 m) (g116 m) (g170 m) (g168 m) (g114 m) (g111 m) (g129l0M m)
theorem g129l0Step(G109:Al S_g109)(G116:Al S_g116)(G170:Al S_g170)(G168:Al S_g168)(G114:Al S_g114)(G111:Al S_g111)(L129l0:Al S_g129l0){α:Type}(L:S_g129l0 α)(ls:List Lf)(k:KEx α):
  g129l0K (fun a b c d e h i j=>g129l0b G170 G109 G168 G114 a b c (L a b c) d e h i j) ls k=ev tab (g129hd G109 G116 G170 G168 G114 G111 L129l0) (bodyAt Tryz.f129 0) (atHead g129l0D ls) (loopK g129l0D 0 (loopH g129l0D (g129l0K L)) k):=by kernel_rfl
theorem g129Main(G109:Al S_g109)(G116:Al S_g116)(G170:Al S_g170)(G168:Al S_g168)(G114:Al S_g114)(G111:Al S_g111)(L129l0:Al S_g129l0){α:Type}(ls:List Lf)(k:KRe α):
  g129K (g129b G109 G116 G170 G168 G114 G111 L129l0) ls k=evFun tab (g129hd G109 G116 G170 G168 G114 G111 L129l0) Tryz.f129 (fT g129tp ls) (fB g129tp g129bp ls) k:=by kernel_rfl
theorem g129Calls(m:Nat):(g129h m).CallsOk Tryz.prog:=(cok_cons (g109Ok m) (cok_cons (g116Ok m) (cok_cons (g170Ok m) (cok_cons (g168Ok m) (cok_cons (g114Ok m) (cok_cons (g111Ok m) cok_nil))))))
theorem g129l0Ok(m:Nat)(α:Type)(st:St)(k:KEx α)(r:α)(h:(g129h m).loop 0 st k=some r):
  LoopS Tryz.prog 0 (bodyAt Tryz.f129 0) st k r:=
 lpk (F:=fun n ls k=>g129l0K (fun a b c d e i j l=>g129l0 (g170 m) (g109 m) (g168 m) (g114 m) a b c n d e i j l) ls k) (g129Calls m) (lb0 (by kernel_rfl))
  (fun _ _=>rfl) (fun n ls k=>g129l0Step (g109 m) (g116 m) (g170 m) (g168 m) (g114 m) (g111 m) (g129l0M m) (fun a b c=>g129l0 (g170 m) (g109 m) (g168 m) (g114 m) a b c n) ls k) (n:=m) h
theorem g129Ok(m:Nat):RowOk Tryz.prog 129 (fun{α}=>g129R (g129 m (α:=α))):=
 rwk (g129Calls m) (lo1 (by kernel_rfl) (g129l0Ok m))
  (fun _=>g129Main (g109 m) (g116 m) (g170 m) (g168 m) (g114 m) (g111 m) (g129l0M m))
abbrev S_g131(α:Type):Type:=Bool→(List Int)→(Bool→(List Int)→Option α)→Option α
abbrev S_g131l0(α:Type):Type:=Bool→(List Int)→Bool→(List Int)→(Bool→(List Int)→Option α)→Int→Bool→(List Int)→Option α
def g131l0b{α:Type}(G109:Al S_g109)(G116:Al S_g116)(G114:Al S_g114)(G110:Al S_g110)(G117:Al S_g117)(a:Bool)(b:List Int)(c:Bool)(d:List Int)(e:Bool→(List Int)→Option α)(h:Int→Bool→(List Int)→Option α)(i:Int)(j:Bool)(l:List Int):Option α:=cond (decide (i≥(0:Int))) (G109 (1:Int) (fun n o=>G116 n o i (fun p q r=>G114 j l p q (fun s t u=>cond (r !=(0:Int)) (h (IntKind.wrap .i64 (i-(1:Int))) j l) (cond (u !=(0:Int)) (h (IntKind.wrap .i64 (i-(1:Int))) j l) (G110 s t s t (fun v w x=>cond (x==(0:Int)) (G117 v w a b (fun y=>cond (decide (y≤(0:Int))) (h (IntKind.wrap .i64 (i-(1:Int))) s t) (h (IntKind.wrap .i64 (i-(1:Int))) j l))) (h (IntKind.wrap .i64 (i-(1:Int))) j l)))))))) (e j l)
def g131l0{α:Type}(G109:Al S_g109)(G116:Al S_g116)(G114:Al S_g114)(G110:Al S_g110)(G117:Al S_g117)(a:Bool)(b:List Int)(c:Bool)(d:List Int)(e:Bool→(List Int)→Option α):Nat→Int→Bool→(List Int)→Option α
 |0=>fun _ _ _=>none
 |m+1=>fun h i j=>g131l0b G109 G116 G114 G110 G117 a b c d e (g131l0 G109 G116 G114 G110 G117 a b c d e m) h i j
def g131l0M{α:Type}(m:Nat):S_g131l0 α:=
 fun a b c d e h i j=>g131l0 (g109 m) (g116 m) (g114 m) (g110 m) (g117 m) a b c d e m h i j
def g131l0D:LoopD:={n:=54,low:=[],sl:=[1,2,4,5],bl:=[1000000,1000001,1000002],tp:=[(.vl (.sv (.ptr 1000000 0))),(.vl (.sv (.ptr 1000001 0))),(.vl (.sv (.ptr 1000002 0))),tI],bp:=[(true,[(.one .bool),(.seq uU 6)]),(true,[(.one .bool),(.seq uU 6)]),(true,[(.one .bool),(.seq uU 6)])],xs:=[(2,[2,4])]}
def g131l0K{α:Type}(L:S_g131l0 α)(ls:List Lf)(k:KEx α):Option α:=
 L (lf ls 1).bool ((lf ls 2).lst uU) (lf ls 3).bool ((lf ls 4).lst uU)
  (fun a b=>k .normal (mkSt 54 [2,4] [(.vl (.sv (.ptr 1000000 0))),(.vl (.sv (.ptr 1000001 0)))] [1000000,1000001] [(true,[(.one (.bool (lf ls 3).bool)),(.seq uU 6 ((lf ls 4).lst uU))]),(true,[(.one (.bool a)),(.seq uU 6 b)])]))
  (lf ls 0).int (lf ls 5).bool ((lf ls 6).lst uU)
def g131b{α:Type}(G115:Al S_g115)(G109:Al S_g109)(G116:Al S_g116)(G114:Al S_g114)(G110:Al S_g110)(G117:Al S_g117)(L131l0:Al S_g131l0)(a:Bool)(b:List Int)(c:Bool→(List Int)→Option α):Option α:=G115 b (fun d=>L131l0 a b false [0,0,0,0,0,0] (fun e h=>c e h) (IntKind.wrap .i64 (Int.tdiv (IntKind.wrap .i64 (d+(1:Int))) (2:Int))) false [0,0,0,0,0,0])
def g131{α:Type}(m:Nat):S_g131 α:=
 g131b (g115 m) (g109 m) (g116 m) (g114 m) (g110 m) (g117 m) (g131l0M m)
def g131tp:List TP:=[vW]
def g131bp:List BP:=[]
def g131K{α:Type}(G:S_g131 α)(ls:List Lf)(k:KRe α):Option α:=
 G (lf ls 0).bool ((lf ls 1).lst uU)
  (fun a b=>k (.vl (.agg [(.one (.bool a)),(.seq uU 6 b)])) [] [])
def g131R{α:Type}(G:S_g131 α):=rowK g131tp g131bp (g131K G)
def g131hd(G115:Al S_g115)(G109:Al S_g109)(G116:Al S_g116)(G114:Al S_g114)(G110:Al S_g110)(G117:Al S_g117)(L131l0:Al S_g131l0):Hd where
 call:=fun f args Bs k=>cond (Nat.beq f 115) (g115R G115 args Bs k) (cond (Nat.beq f 109) (g109R G109 args Bs k) (cond (Nat.beq f 116) (g116R G116 args Bs k) (cond (Nat.beq f 114) (g114R G114 args Bs k) (cond (Nat.beq f 110) (g110R G110 args Bs k) (cond (Nat.beq f 117) (g117R G117 args Bs k) (none))))))
 loop:=fun id st k=>cond (Nat.beq id 0) (loopH g131l0D (g131l0K L131l0) st k) (none)
 ro:=fun f=>cond (Nat.beq f 115) [0] (cond (Nat.beq f 117) [0,1] ([]))
def g131h(m:Nat):Hd:=g131hd (g115 m) (g109 m) (g116 m) (g114 m) (g110 m) (g117 m) (g131l0M m)
theorem g131l0Step(G115:Al S_g115)(G109:Al S_g109)(G116:Al S_g116)(G114:Al S_g114)(G110:Al S_g110)(G117:Al S_g117)(L131l0:Al S_g131l0){α:Type}(L:S_g131l0 α)(ls:List Lf)(k:KEx α):
  g131l0K (fun a b c d e h i j=>g131l0b G109 G116 G114 G110 G117 a b c d e (L a b c d e) h i j) ls k=ev tab (g131hd G115 G109 G116 G114 G110 G117 L131l0) (bodyAt Tryz.f131 0) (atHead g131l0D ls) (loopK g131l0D 0 (loopH g131l0D (g131l0K L)) k):=by kernel_rfl
theorem g131Main(G115:Al S_g115)(G109:Al S_g109)(G116:Al S_g116)(G114:Al S_g114)(G110:Al S_g110)(G117:Al S_g117)(L131l0:Al S_g131l0){α:Type}(ls:List Lf)(k:KRe α):
  g131K (g131b G115 G109 G116 G114 G110 G117 L131l0) ls k=evFun tab (g131hd G115 G109 G116 G114 G110 G117 L131l0) Tryz.f131 (fT g131tp ls) (fB g131tp g131bp ls) k:=by kernel_rfl
theorem g131Calls(m:Nat):(g131h m).CallsOk Tryz.prog:=(cok_cons (g115Ok m) (cok_cons (g109Ok m) (cok_cons (g116Ok m) (cok_cons (g114Ok m) (cok_cons (g110Ok m) (cok_cons (g117Ok m) cok_nil))))))
theorem g131l0Ok(m:Nat)(α:Type)(st:St)(k:KEx α)(r:α)(h:(g131h m).loop 0 st k=some r):
  LoopS Tryz.prog 0 (bodyAt Tryz.f131 0) st k r:=
 lpk (F:=fun n ls k=>g131l0K (fun a b c d e i j l=>g131l0 (g109 m) (g116 m) (g114 m) (g110 m) (g117 m) a b c d e n i j l) ls k) (g131Calls m) (lb0 (by kernel_rfl))
  (fun _ _=>rfl) (fun n ls k=>g131l0Step (g115 m) (g109 m) (g116 m) (g114 m) (g110 m) (g117 m) (g131l0M m) (fun a b c d e=>g131l0 (g109 m) (g116 m) (g114 m) (g110 m) (g117 m) a b c d e n) ls k) (n:=m) h
theorem g131Ok(m:Nat):RowOk Tryz.prog 131 (fun{α}=>g131R (g131 m (α:=α))):=
 rwk (g131Calls m) (lo1 (by kernel_rfl) (g131l0Ok m))
  (fun _=>g131Main (g115 m) (g109 m) (g116 m) (g114 m) (g110 m) (g117 m) (g131l0M m))
abbrev S_g45(α:Type):Type:=Int→Int→Nat→Nat→Nat→Nat→Nat→Nat→Nat→Ty0→Ty1→Ty0→(Bool→(List Int)→Int→Nat→Nat→Nat→Nat→Nat→Nat→Nat→Ty0→Ty1→Ty0→Option α)→Option α
def g45tp:List TP:=[(.vl (.sv (.ptr 0 0))),tI,tI]
def g45bp:List BP:=[(true,[(.one (.slc 1 0 5)),(.one (.slc 2 0 1)),(.one (.gsl 3 2))]),(false,[(.seqv rN)]),(true,[(.rws mK)]),(true,[(.gro rP)])]
def g45K{α:Type}(G:S_g45 α)(ls:List Lf)(k:KRe α):Option α:=
 G (lf ls 0).int (lf ls 1).int (lf ls 2).nat (lf ls 3).nat (lf ls 4).nat (lf ls 5).nat (lf ls 6).nat (lf ls 7).nat (lf ls 8).nat ((lf ls 9).lst rN) ((lf ls 10).rows mK) ((lf ls 11).lst rP)
  (fun c d e h j l n o p q r s t=>k (.tup [(.agg [(.one (.bool c)),(.seq uU 6 d)]),(.sv (.int .i64 e))]) [[(.one (.slc 1 0 5 h j l)),(.one (.slc 2 0 1 n o p)),(.one (.gsl 4 2))],[(.seq rN q r)],[(.rws mK s none)],[]] [[(.gro rP t)]])
abbrev HA45(A45:Al S_g45):Prop:=RowOk Tryz.prog 45 (fun{α}=>rowK g45tp g45bp (g45K (A45 (α:=α))))
def g45R{α:Type}(G:S_g45 α):=rowK g45tp g45bp (g45K G)
abbrev S_g69(α:Type):Type:=Int→Nat→Nat→Nat→Nat→Nat→Nat→Nat→Ty0→Ty1→Ty0→(Int→Int→Nat→Nat→Nat→Nat→Nat→Nat→Ty1→Ty0→Option α)→Option α
def g69b{α:Type}(G45:Al S_g45)(G109:Al S_g109)(G114:Al S_g114)(G115:Al S_g115)(G116:Al S_g116)(G117:Al S_g117)(a:Int)(b c:Nat)(d e:Nat)(h i j:Nat)(l:Ty0)(n:Ty1)(o:Ty0)(p:Int→Int→Nat→Nat→Nat→Nat→Nat→Nat→Ty1→Ty0→Option α):Option α:=G45 a (0:Int) b c d e h i j l n o (fun q r s t u v w x y z a0 b0 c0=>cond (s !=(0:Int)) (p (0:Int) s t u v w x y b0 c0) (G109 (1:Int) (fun d0 e0=>G114 false r d0 e0 (fun h0 i0 j0=>cond (j0 !=(0:Int)) (p (0:Int) j0 t u v w x y b0 c0) (G115 i0 (fun l0=>G109 (1:Int) (fun n0 o0=>G116 n0 o0 (IntKind.wrap .i64 (l0-(1:Int))) (fun p0 q0 r0=>cond (r0==(0:Int)) (G117 p0 q0 h0 i0 (fun s0=>cond (s0==(0:Int)) (p (IntKind.wrap .i64 (l0-(1:Int))) (0:Int) t u v w x y b0 c0) (p l0 (0:Int) t u v w x y b0 c0))) (p l0 (0:Int) t u v w x y b0 c0)))))))))
def g69(A45:Al S_g45){α:Type}(m:Nat):S_g69 α:=
 g69b A45 (g109 m) (g114 m) (g115 m) (g116 m) (g117 m)
def g69tp:List TP:=[(.vl (.sv (.ptr 0 0))),tI]
def g69bp:List BP:=[(true,[(.one (.slc 1 0 5)),(.one (.slc 2 0 1)),(.one (.gsl 3 2))]),(false,[(.seqv rN)]),(true,[(.rws mK)]),(true,[(.gro rP)])]
def g69K{α:Type}(G:S_g69 α)(ls:List Lf)(k:KRe α):Option α:=
 G (lf ls 0).int (lf ls 1).nat (lf ls 2).nat (lf ls 3).nat (lf ls 4).nat (lf ls 5).nat (lf ls 6).nat (lf ls 7).nat ((lf ls 8).lst rN) ((lf ls 9).rows mK) ((lf ls 10).lst rP)
  (fun c d e h j l n o p q=>k (.tup [(.sv (.int .i64 c)),(.sv (.int .i64 d))]) [[(.one (.slc 1 0 5 e h j)),(.one (.slc 2 0 1 l n o)),(.one (.gsl 4 2))],[(.seq rN (lf ls 7).nat ((lf ls 8).lst rN))],[(.rws mK p none)],[]] [[(.gro rP q)]])
def g69R{α:Type}(G:S_g69 α):=rowK g69tp g69bp (g69K G)
def g69hd(G45:Al S_g45)(G109:Al S_g109)(G114:Al S_g114)(G115:Al S_g115)(G116:Al S_g116)(G117:Al S_g117):Hd where
 call:=fun f args Bs k=>cond (Nat.beq f 45) (g45R G45 args Bs k) (cond (Nat.beq f 109) (g109R G109 args Bs k) (cond (Nat.beq f 114) (g114R G114 args Bs k) (cond (Nat.beq f 115) (g115R G115 args Bs k) (cond (Nat.beq f 116) (g116R G116 args Bs k) (cond (Nat.beq f 117) (g117R G117 args Bs k) (none))))))
 loop:=fun id st k=>none
 ro:=fun f=>cond (Nat.beq f 45) [1] (cond (Nat.beq f 115) [0] (cond (Nat.beq f 117) [0,1] ([])))
def g69h(A45:Al S_g45)(m:Nat):Hd:=g69hd A45 (g109 m) (g114 m) (g115 m) (g116 m) (g117 m)
theorem g69Main(G45:Al S_g45)(G109:Al S_g109)(G114:Al S_g114)(G115:Al S_g115)(G116:Al S_g116)(G117:Al S_g117){α:Type}(ls:List Lf)(k:KRe α):
  g69K (g69b G45 G109 G114 G115 G116 G117) ls k=evFunM tab (g69hd G45 G109 G114 G115 G116 G117) Tryz.f69 3 (fT g69tp ls) (fB g69tp g69bp ls) k:=by kernel_rfl
theorem g69Calls(A45:Al S_g45)(hA45:HA45 A45)(m:Nat):(g69h A45 m).CallsOk Tryz.prog:=(cok_cons hA45 (cok_cons (g109Ok m) (cok_cons (g114Ok m) (cok_cons (g115Ok m) (cok_cons (g116Ok m) (cok_cons (g117Ok m) cok_nil))))))
theorem g69Fn(A45:Al S_g45)(hA45:HA45 A45)(m:Nat):FnOk Tryz.prog 69 g69tp g69bp (fun{α}=>g69K (g69 A45 m (α:=α))):=
 fn_okM (tab:=tab) (h:=g69h A45 m) (fn:=Tryz.f69) (F:=fun{α}=>g69K (g69 A45 m (α:=α))) tabOk (g69Calls A45 hA45 m) mixed (by kernel_rfl) (by kernel_rfl) (fun c hc=>by
  rw[bodyOf_some hc]
  exact loopsOk_of _ (fun p hp=>by rw[show loopsOf (bodyOf Tryz.f69)=[] by kernel_rfl] at hp;cases hp))
  (fun _=>g69Main A45 (g109 m) (g114 m) (g115 m) (g116 m) (g117 m))
theorem g69Ok(A45:Al S_g45)(hA45:HA45 A45)(m:Nat):RowOk Tryz.prog 69 (fun{α}=>g69R (g69 A45 m (α:=α))):=row_of (g69Fn A45 hA45 m)
abbrev S_g171(α:Type):Type:=Bool→(List Int)→Int→(Bool→(List Int)→Int→Option α)→Option α
def g171b{α:Type}(G111:Al S_g111)(a:Bool)(b:List Int)(c:Int)(d:Bool→(List Int)→Int→Option α):Option α:=cond (decide (c>(191:Int))) (d false [0,0,0,0,0,0] (3:Int)) (G111 a b c (fun e h=>d e h (0:Int)))
def g171{α:Type}(m:Nat):S_g171 α:=
 g171b (g111 m)
def g171tp:List TP:=[vW,tI]
def g171bp:List BP:=[]
def g171K{α:Type}(G:S_g171 α)(ls:List Lf)(k:KRe α):Option α:=
 G (lf ls 0).bool ((lf ls 1).lst uU) (lf ls 2).int
  (fun a b c=>k (.tup [(.agg [(.one (.bool a)),(.seq uU 6 b)]),(.sv (.int .i64 c))]) [] [])
def g171R{α:Type}(G:S_g171 α):=rowK g171tp g171bp (g171K G)
def g171hd(G111:Al S_g111):Hd where
 call:=fun f args Bs k=>cond (Nat.beq f 111) (g111R G111 args Bs k) (none)
 loop:=fun id st k=>none
 ro:=fun f=>[]
def g171h(m:Nat):Hd:=g171hd (g111 m)
theorem g171Main(G111:Al S_g111){α:Type}(ls:List Lf)(k:KRe α):
  g171K (g171b G111) ls k=evFun tab (g171hd G111) Tryz.f171 (fT g171tp ls) (fB g171tp g171bp ls) k:=by kernel_rfl
theorem g171Calls(m:Nat):(g171h m).CallsOk Tryz.prog:=(cok_cons (g111Ok m) cok_nil)
theorem g171Ok(m:Nat):RowOk Tryz.prog 171 (fun{α}=>g171R (g171 m (α:=α))):=
 rwk (g171Calls m) (lo0 (by kernel_rfl))
  (fun _=>g171Main (g111 m))
abbrev S_g132(α:Type):Type:=Nat→Int→Nat→Nat→Nat→Nat→Nat→Nat→Nat→Ty0→Ty1→Ty0→(Bool→(List Int)→Int→Nat→Nat→Nat→Nat→Nat→Nat→Ty1→Ty0→Option α)→Option α
def g132b{α:Type}(G69:Al S_g69)(G45:Al S_g45)(G110:Al S_g110)(G171:Al S_g171)(a:Nat)(b:Int)(c d:Nat)(e h:Nat)(i j l:Nat)(n:Ty0)(o:Ty1)(p:Ty0)(q:Bool→(List Int)→Int→Nat→Nat→Nat→Nat→Nat→Nat→Ty1→Ty0→Option α):Option α:=if a<l then G69 (IntKind.wrap .i64 (((List.getD n a []).tail).headD 0)) c d e h i j l n o p (fun r s t u v w x y z a0=>cond (s !=(0:Int)) (q false [0,0,0,0,0,0] s t u v w x y z a0) (if a<l then G69 (IntKind.wrap .i64 (((List.getD n a []).tail.tail).headD 0)) t u v w x y l n z a0 (fun b0 c0 d0 e0 h0 i0 j0 l0 n0 o0=>cond (c0 !=(0:Int)) (q false [0,0,0,0,0,0] c0 d0 e0 h0 i0 j0 l0 n0 o0) (if a<l then G45 (IntKind.wrap .i64 (((List.getD n a []).tail).headD 0)) (IntKind.wrap .i64 ((IntKind.wrap .i64 (b+b0))+(3:Int))) d0 e0 h0 i0 j0 l0 l n n0 o0 (fun p0 q0 r0 s0 t0 u0 v0 w0 x0 y0 z0 a1 b1=>cond (r0 !=(0:Int)) (q false [0,0,0,0,0,0] r0 s0 t0 u0 v0 w0 x0 a1 b1) (if a<l then G45 (IntKind.wrap .i64 (((List.getD n a []).tail.tail).headD 0)) (IntKind.wrap .i64 ((IntKind.wrap .i64 (b+r))+(3:Int))) s0 t0 u0 v0 w0 x0 l n a1 b1 (fun c1 d1 e1 h1 i1 j1 l1 n1 o1 p1 q1 r1 s1=>cond (e1 !=(0:Int)) (q false [0,0,0,0,0,0] e1 h1 i1 j1 l1 n1 o1 r1 s1) (G110 p0 q0 c1 d1 (fun t1 u1 v1=>cond (v1 !=(0:Int)) (q false [0,0,0,0,0,0] v1 h1 i1 j1 l1 n1 o1 r1 s1) (G171 t1 u1 (IntKind.wrap .i64 ((IntKind.wrap .i64 ((IntKind.wrap .i64 (b+r))+b0))+(6:Int))) (fun w1 x1 y1=>q w1 x1 y1 h1 i1 j1 l1 n1 o1 r1 s1))))) else none)) else none)) else none)) else none
def g132(A45:Al S_g45){α:Type}(m:Nat):S_g132 α:=
 g132b (g69 A45 m) A45 (g110 m) (g171 m)
def g132tp:List TP:=[(.vl (.sv (.ptr 0 0))),(.vl (.sv (.el 1 0 5 0))),tI]
def g132bp:List BP:=[(true,[(.one (.slc 1 0 5)),(.one (.slc 2 0 1)),(.one (.gsl 3 2))]),(false,[(.seqv rN)]),(true,[(.rws mK)]),(true,[(.gro rP)])]
def g132K{α:Type}(G:S_g132 α)(ls:List Lf)(k:KRe α):Option α:=
 G (lf ls 0).nat (lf ls 1).int (lf ls 2).nat (lf ls 3).nat (lf ls 4).nat (lf ls 5).nat (lf ls 6).nat (lf ls 7).nat (lf ls 8).nat ((lf ls 9).lst rN) ((lf ls 10).rows mK) ((lf ls 11).lst rP)
  (fun c d e h j l n o p q r=>k (.tup [(.agg [(.one (.bool c)),(.seq uU 6 d)]),(.sv (.int .i64 e))]) [[(.one (.slc 1 0 5 h j l)),(.one (.slc 2 0 1 n o p)),(.one (.gsl 4 2))],[(.seq rN (lf ls 8).nat ((lf ls 9).lst rN))],[(.rws mK q none)],[]] [[(.gro rP r)]])
def g132R{α:Type}(G:S_g132 α):=rowK g132tp g132bp (g132K G)
def g132hd(G69:Al S_g69)(G45:Al S_g45)(G110:Al S_g110)(G171:Al S_g171):Hd where
 call:=fun f args Bs k=>cond (Nat.beq f 69) (g69R G69 args Bs k) (cond (Nat.beq f 45) (g45R G45 args Bs k) (cond (Nat.beq f 110) (g110R G110 args Bs k) (cond (Nat.beq f 171) (g171R G171 args Bs k) (none))))
 loop:=fun id st k=>none
 ro:=fun f=>cond (Nat.beq f 45) [1] (cond (Nat.beq f 69) [1] ([]))
def g132h(A45:Al S_g45)(m:Nat):Hd:=g132hd (g69 A45 m) A45 (g110 m) (g171 m)
theorem g132Main(G69:Al S_g69)(G45:Al S_g45)(G110:Al S_g110)(G171:Al S_g171){α:Type}(ls:List Lf)(k:KRe α):
  g132K (g132b G69 G45 G110 G171) ls k=evFunM tab (g132hd G69 G45 G110 G171) Tryz.f132 3 (fT g132tp ls) (fB g132tp g132bp ls) k:=by kernel_rfl
theorem g132Calls(A45:Al S_g45)(hA45:HA45 A45)(m:Nat):(g132h A45 m).CallsOk Tryz.prog:=(cok_cons (g69Ok A45 hA45 m) (cok_cons hA45 (cok_cons (g110Ok m) (cok_cons (g171Ok m) cok_nil))))
theorem g132Fn(A45:Al S_g45)(hA45:HA45 A45)(m:Nat):FnOk Tryz.prog 132 g132tp g132bp (fun{α}=>g132K (g132 A45 m (α:=α))):=
 fn_okM (tab:=tab) (h:=g132h A45 m) (fn:=Tryz.f132) (F:=fun{α}=>g132K (g132 A45 m (α:=α))) tabOk (g132Calls A45 hA45 m) mixed (by kernel_rfl) (by kernel_rfl) (fun c hc=>by
  rw[bodyOf_some hc]
  exact loopsOk_of _ (fun p hp=>by rw[show loopsOf (bodyOf Tryz.f132)=[] by kernel_rfl] at hp;cases hp))
  (fun _=>g132Main (g69 A45 m) A45 (g110 m) (g171 m))
theorem g132Ok(A45:Al S_g45)(hA45:HA45 A45)(m:Nat):RowOk Tryz.prog 132 (fun{α}=>g132R (g132 A45 m (α:=α))):=row_of (g132Fn A45 hA45 m)
abbrev S_g172(α:Type):Type:=Int→Nat→Nat→Nat→Nat→Nat→Nat→Nat→Ty0→Ty1→Ty0→(Int→Int→Nat→Nat→Nat→Nat→Nat→Nat→Ty1→Ty0→Option α)→Option α
abbrev S_g172l0(α:Type):Type:=Int→Nat→Ty0→(Int→Int→Nat→Nat→Nat→Nat→Nat→Nat→Ty1→Ty0→Option α)→(Nat→Nat→Nat→Nat→Nat→Nat→Ty1→Ty0→Option α)→Int→Nat→Nat→Nat→Nat→Nat→Nat→Ty1→Ty0→Option α
def g172l0b{α:Type}(G45:Al S_g45)(G109:Al S_g109)(G117:Al S_g117)(a:Int)(b:Nat)(c:Ty0)(d:Int→Int→Nat→Nat→Nat→Nat→Nat→Nat→Ty1→Ty0→Option α)(e:Nat→Nat→Nat→Nat→Nat→Nat→Ty1→Ty0→Option α)(h:Int→Nat→Nat→Nat→Nat→Nat→Nat→Ty1→Ty0→Option α)(i:Int)(j l:Nat)(n o:Nat)(p q:Nat)(r:Ty1)(s:Ty0):Option α:=cond (decide (i≤(40:Int))) (G45 a (IntKind.wrap .i64 (i+(2:Int))) j l n o p q b c r s (fun t u v w x y z a0 b0 c0 d0 e0 h0=>cond (v !=(0:Int)) (d (0:Int) v w x y z a0 b0 e0 h0) (G109 (5:Int) (fun i0 j0=>G117 false u i0 j0 (fun l0=>cond (decide (l0≥(0:Int))) (d i (0:Int) w x y z a0 b0 e0 h0) (h (IntKind.wrap .i64 (i+(1:Int))) w x y z a0 b0 e0 h0)))))) (e j l n o p q r s)
def g172l0{α:Type}(G45:Al S_g45)(G109:Al S_g109)(G117:Al S_g117)(a:Int)(b:Nat)(c:Ty0)(d:Int→Int→Nat→Nat→Nat→Nat→Nat→Nat→Ty1→Ty0→Option α)(e:Nat→Nat→Nat→Nat→Nat→Nat→Ty1→Ty0→Option α):Nat→Int→Nat→Nat→Nat→Nat→Nat→Nat→Ty1→Ty0→Option α
 |0=>fun _ _ _ _ _ _ _ _ _=>none
 |m+1=>fun h i j l n o p q r=>g172l0b G45 G109 G117 a b c d e (g172l0 G45 G109 G117 a b c d e m) h i j l n o p q r
def g172l0M(A45:Al S_g45){α:Type}(m:Nat):S_g172l0 α:=
 fun a b c d e h i j l n o p q r=>g172l0 A45 (g109 m) (g117 m) a b c d e m h i j l n o p q r
def g172l0D:LoopD:={n:=30,low:=[0,1,2,3],sl:=[0,1,6],bl:=[0,1,2,3,1000004],tp:=[(.vl (.sv (.ptr 0 0))),tI,tI],bp:=[(true,[(.one (.slc 1 0 5)),(.one (.slc 2 0 1)),(.one (.gsl 1000004 2))]),(false,[(.seqv rN)]),(true,[(.rws mK)]),(true,[]),(true,[(.gro rP)])],xs:=[(1,[4,5]),(2,[])]}
def g172l0K{α:Type}(L:S_g172l0 α)(ls:List Lf)(k:KEx α):Option α:=
 L (lf ls 0).int (lf ls 8).nat ((lf ls 9).lst rN)
  (fun c d e h j l n o p q=>k .ret (mkSt 30 [4,5] [(.vl (.sv (.int .i64 c))),(.vl (.sv (.int .i64 d)))] [0,1,2,3,1000004] [(true,[(.one (.slc 1 0 5 e h j)),(.one (.slc 2 0 1 l n o)),(.one (.gsl 1000004 2))]),(false,[(.seq rN (lf ls 8).nat ((lf ls 9).lst rN))]),(true,[(.rws mK p none)]),(true,[]),(true,[(.gro rP q)])]))
  (fun c d e h j l r s=>k .normal (mkSt 30 [] [] [0,1,2,3,1000004] [(true,[(.one (.slc 1 0 5 c d e)),(.one (.slc 2 0 1 h j l)),(.one (.gsl 1000004 2))]),(false,[(.seq rN (lf ls 8).nat ((lf ls 9).lst rN))]),(true,[(.rws mK r none)]),(true,[]),(true,[(.gro rP s)])]))
  (lf ls 1).int (lf ls 2).nat (lf ls 3).nat (lf ls 4).nat (lf ls 5).nat (lf ls 6).nat (lf ls 7).nat ((lf ls 10).rows mK) ((lf ls 11).lst rP)
def g172b{α:Type}(G45:Al S_g45)(G109:Al S_g109)(G117:Al S_g117)(L172l0:Al S_g172l0)(a:Int)(b c:Nat)(d e:Nat)(h i j:Nat)(l:Ty0)(n:Ty1)(o:Ty0)(p:Int→Int→Nat→Nat→Nat→Nat→Nat→Nat→Ty1→Ty0→Option α):Option α:=L172l0 a j l (fun q r s t u v w x y z=>p q r s t u v w x y z) (fun a0 b0 c0 d0 e0 h0 i0 j0=>p (0:Int) (7:Int) a0 b0 c0 d0 e0 h0 i0 j0) (0:Int) b c d e h i n o
def g172(A45:Al S_g45){α:Type}(m:Nat):S_g172 α:=
 g172b A45 (g109 m) (g117 m) (g172l0M A45 m)
def g172tp:List TP:=[(.vl (.sv (.ptr 0 0))),tI]
def g172bp:List BP:=[(true,[(.one (.slc 1 0 5)),(.one (.slc 2 0 1)),(.one (.gsl 3 2))]),(false,[(.seqv rN)]),(true,[(.rws mK)]),(true,[(.gro rP)])]
def g172K{α:Type}(G:S_g172 α)(ls:List Lf)(k:KRe α):Option α:=
 G (lf ls 0).int (lf ls 1).nat (lf ls 2).nat (lf ls 3).nat (lf ls 4).nat (lf ls 5).nat (lf ls 6).nat (lf ls 7).nat ((lf ls 8).lst rN) ((lf ls 9).rows mK) ((lf ls 10).lst rP)
  (fun c d e h j l n o p q=>k (.tup [(.sv (.int .i64 c)),(.sv (.int .i64 d))]) [[(.one (.slc 1 0 5 e h j)),(.one (.slc 2 0 1 l n o)),(.one (.gsl 4 2))],[(.seq rN (lf ls 7).nat ((lf ls 8).lst rN))],[(.rws mK p none)],[]] [[(.gro rP q)]])
def g172R{α:Type}(G:S_g172 α):=rowK g172tp g172bp (g172K G)
def g172hd(G45:Al S_g45)(G109:Al S_g109)(G117:Al S_g117)(L172l0:Al S_g172l0):Hd where
 call:=fun f args Bs k=>cond (Nat.beq f 45) (g45R G45 args Bs k) (cond (Nat.beq f 109) (g109R G109 args Bs k) (cond (Nat.beq f 117) (g117R G117 args Bs k) (none)))
 loop:=fun id st k=>cond (Nat.beq id 0) (loopH g172l0D (g172l0K L172l0) st k) (none)
 ro:=fun f=>cond (Nat.beq f 45) [1] (cond (Nat.beq f 117) [0,1] ([]))
def g172h(A45:Al S_g45)(m:Nat):Hd:=g172hd A45 (g109 m) (g117 m) (g172l0M A45 m)
theorem g172l0Step(G45:Al S_g45)(G109:Al S_g109)(G117:Al S_g117)(L172l0:Al S_g172l0){α:Type}(L:S_g172l0 α)(ls:List Lf)(k:KEx α):
  g172l0K (fun a b c d e h i j l n o p q r=>g172l0b G45 G109 G117 a b c d e (L a b c d e) h i j l n o p q r) ls k=ev tab (g172hd G45 G109 G117 L172l0) (bodyAt Tryz.f172 0) (atHead g172l0D ls) (loopK g172l0D 0 (loopH g172l0D (g172l0K L)) k):=by kernel_rfl
theorem g172Main(G45:Al S_g45)(G109:Al S_g109)(G117:Al S_g117)(L172l0:Al S_g172l0){α:Type}(ls:List Lf)(k:KRe α):
  g172K (g172b G45 G109 G117 L172l0) ls k=evFunM tab (g172hd G45 G109 G117 L172l0) Tryz.f172 3 (fT g172tp ls) (fB g172tp g172bp ls) k:=by kernel_rfl
theorem g172Calls(A45:Al S_g45)(hA45:HA45 A45)(m:Nat):(g172h A45 m).CallsOk Tryz.prog:=(cok_cons hA45 (cok_cons (g109Ok m) (cok_cons (g117Ok m) cok_nil)))
theorem g172l0Ok(A45:Al S_g45)(hA45:HA45 A45)(m:Nat)(α:Type)(st:St)(k:KEx α)(r:α)(h:(g172h A45 m).loop 0 st k=some r):
  LoopS Tryz.prog 0 (bodyAt Tryz.f172 0) st k r:=
 lpk (F:=fun n ls k=>g172l0K (fun a b c d e i j l o q s t u v=>g172l0 A45 (g109 m) (g117 m) a b c d e n i j l o q s t u v) ls k) (g172Calls A45 hA45 m) (lb0 (by kernel_rfl))
  (fun _ _=>rfl) (fun n ls k=>g172l0Step A45 (g109 m) (g117 m) (g172l0M A45 m) (fun a b c d e=>g172l0 A45 (g109 m) (g117 m) a b c d e n) ls k) (n:=m) h
theorem g172Fn(A45:Al S_g45)(hA45:HA45 A45)(m:Nat):FnOk Tryz.prog 172 g172tp g172bp (fun{α}=>g172K (g172 A45 m (α:=α))):=
 fn_okM (tab:=tab) (h:=g172h A45 m) (fn:=Tryz.f172) (F:=fun{α}=>g172K (g172 A45 m (α:=α))) tabOk (g172Calls A45 hA45 m) mixed (by kernel_rfl) (by kernel_rfl) (fun c hc=>by
  rw[bodyOf_some hc]
  exact loopsOk_of _ (fun p hp=>by
  rw[show loopsOf (bodyOf Tryz.f172)=[(0,bodyAt Tryz.f172 0)] by kernel_rfl] at hp
  simp only[List.mem_cons,List.not_mem_nil,or_false] at hp
  rcases hp with rfl
  exact g172l0Ok A45 hA45 m))
  (fun _=>g172Main A45 (g109 m) (g117 m) (g172l0M A45 m))
theorem g172Ok(A45:Al S_g45)(hA45:HA45 A45)(m:Nat):RowOk Tryz.prog 172 (fun{α}=>g172R (g172 A45 m (α:=α))):=row_of (g172Fn A45 hA45 m)
abbrev S_g133(α:Type):Type:=Nat→Int→Nat→Nat→Nat→Nat→Nat→Nat→Nat→Ty0→Ty1→Ty0→(Bool→(List Int)→Int→Nat→Nat→Nat→Nat→Nat→Nat→Ty1→Ty0→Option α)→Option α
def g133b{α:Type}(G172:Al S_g172)(G69:Al S_g69)(G45:Al S_g45)(G126:Al S_g126)(G127:Al S_g127)(a:Nat)(b:Int)(c d:Nat)(e h:Nat)(i j l:Nat)(n:Ty0)(o:Ty1)(p:Ty0)(q:Bool→(List Int)→Int→Nat→Nat→Nat→Nat→Nat→Nat→Ty1→Ty0→Option α):Option α:=if a<l then G172 (IntKind.wrap .i64 (((List.getD n a []).tail.tail).headD 0)) c d e h i j l n o p (fun r s t u v w x y z a0=>cond (s !=(0:Int)) (q false [0,0,0,0,0,0] s t u v w x y z a0) (if a<l then G69 (IntKind.wrap .i64 (((List.getD n a []).tail).headD 0)) t u v w x y l n z a0 (fun b0 c0 d0 e0 h0 i0 j0 l0 n0 o0=>cond (c0 !=(0:Int)) (q false [0,0,0,0,0,0] c0 d0 e0 h0 i0 j0 l0 n0 o0) (if a<l then G45 (IntKind.wrap .i64 (((List.getD n a []).tail).headD 0)) (IntKind.wrap .i64 ((IntKind.wrap .i64 (b+r))+(3:Int))) d0 e0 h0 i0 j0 l0 l n n0 o0 (fun p0 q0 r0 s0 t0 u0 v0 w0 x0 y0 z0 a1 b1=>cond (r0 !=(0:Int)) (q false [0,0,0,0,0,0] r0 s0 t0 u0 v0 w0 x0 a1 b1) (if a<l then G45 (IntKind.wrap .i64 (((List.getD n a []).tail.tail).headD 0)) (IntKind.wrap .i64 ((IntKind.wrap .i64 ((IntKind.wrap .i64 (b+b0))+(IntKind.wrap .i64 ((2:Int)*r))))+(4:Int))) s0 t0 u0 v0 w0 x0 l n a1 b1 (fun c1 d1 e1 h1 i1 j1 l1 n1 o1 p1 q1 r1 s1=>cond (e1 !=(0:Int)) (q false [0,0,0,0,0,0] e1 h1 i1 j1 l1 n1 o1 r1 s1) (G126 p0 q0 (IntKind.wrap .i64 ((IntKind.wrap .i64 ((IntKind.wrap .i64 (b+b0))+r))+(1:Int))) (fun t1 u1 v1=>cond (v1 !=(0:Int)) (q false [0,0,0,0,0,0] v1 h1 i1 j1 l1 n1 o1 r1 s1) (G127 t1 u1 c1 d1 (fun w1 x1=>q w1 x1 (0:Int) h1 i1 j1 l1 n1 o1 r1 s1))))) else none)) else none)) else none)) else none
def g133(A45:Al S_g45){α:Type}(m:Nat):S_g133 α:=
 g133b (g172 A45 m) (g69 A45 m) A45 (g126 m) (g127 m)
def g133tp:List TP:=[(.vl (.sv (.ptr 0 0))),(.vl (.sv (.el 1 0 5 0))),tI]
def g133bp:List BP:=[(true,[(.one (.slc 1 0 5)),(.one (.slc 2 0 1)),(.one (.gsl 3 2))]),(false,[(.seqv rN)]),(true,[(.rws mK)]),(true,[(.gro rP)])]
def g133K{α:Type}(G:S_g133 α)(ls:List Lf)(k:KRe α):Option α:=
 G (lf ls 0).nat (lf ls 1).int (lf ls 2).nat (lf ls 3).nat (lf ls 4).nat (lf ls 5).nat (lf ls 6).nat (lf ls 7).nat (lf ls 8).nat ((lf ls 9).lst rN) ((lf ls 10).rows mK) ((lf ls 11).lst rP)
  (fun c d e h j l n o p q r=>k (.tup [(.agg [(.one (.bool c)),(.seq uU 6 d)]),(.sv (.int .i64 e))]) [[(.one (.slc 1 0 5 h j l)),(.one (.slc 2 0 1 n o p)),(.one (.gsl 4 2))],[(.seq rN (lf ls 8).nat ((lf ls 9).lst rN))],[(.rws mK q none)],[]] [[(.gro rP r)]])
def g133R{α:Type}(G:S_g133 α):=rowK g133tp g133bp (g133K G)
def g133hd(G172:Al S_g172)(G69:Al S_g69)(G45:Al S_g45)(G126:Al S_g126)(G127:Al S_g127):Hd where
 call:=fun f args Bs k=>cond (Nat.beq f 172) (g172R G172 args Bs k) (cond (Nat.beq f 69) (g69R G69 args Bs k) (cond (Nat.beq f 45) (g45R G45 args Bs k) (cond (Nat.beq f 126) (g126R G126 args Bs k) (cond (Nat.beq f 127) (g127R G127 args Bs k) (none)))))
 loop:=fun id st k=>none
 ro:=fun f=>cond (Nat.beq f 45) [1] (cond (Nat.beq f 69) [1] (cond (Nat.beq f 172) [1] ([])))
def g133h(A45:Al S_g45)(m:Nat):Hd:=g133hd (g172 A45 m) (g69 A45 m) A45 (g126 m) (g127 m)
theorem g133Main(G172:Al S_g172)(G69:Al S_g69)(G45:Al S_g45)(G126:Al S_g126)(G127:Al S_g127){α:Type}(ls:List Lf)(k:KRe α):
  g133K (g133b G172 G69 G45 G126 G127) ls k=evFunM tab (g133hd G172 G69 G45 G126 G127) Tryz.f133 3 (fT g133tp ls) (fB g133tp g133bp ls) k:=by kernel_rfl
theorem g133Calls(A45:Al S_g45)(hA45:HA45 A45)(m:Nat):(g133h A45 m).CallsOk Tryz.prog:=(cok_cons (g172Ok A45 hA45 m) (cok_cons (g69Ok A45 hA45 m) (cok_cons hA45 (cok_cons (g126Ok m) (cok_cons (g127Ok m) cok_nil)))))
theorem g133Fn(A45:Al S_g45)(hA45:HA45 A45)(m:Nat):FnOk Tryz.prog 133 g133tp g133bp (fun{α}=>g133K (g133 A45 m (α:=α))):=
 fn_okM (tab:=tab) (h:=g133h A45 m) (fn:=Tryz.f133) (F:=fun{α}=>g133K (g133 A45 m (α:=α))) tabOk (g133Calls A45 hA45 m) mixed (by kernel_rfl) (by kernel_rfl) (fun c hc=>by
  rw[bodyOf_some hc]
  exact loopsOk_of _ (fun p hp=>by rw[show loopsOf (bodyOf Tryz.f133)=[] by kernel_rfl] at hp;cases hp))
  (fun _=>g133Main (g172 A45 m) (g69 A45 m) A45 (g126 m) (g127 m))
theorem g133Ok(A45:Al S_g45)(hA45:HA45 A45)(m:Nat):RowOk Tryz.prog 133 (fun{α}=>g133R (g133 A45 m (α:=α))):=row_of (g133Fn A45 hA45 m)
abbrev S_g87(α:Type):Type:=Nat→Int→Nat→Nat→Nat→Nat→Nat→Nat→Nat→Ty0→Ty1→Ty0→(Bool→(List Int)→Int→Nat→Nat→Nat→Nat→Nat→Nat→Ty1→Ty0→Option α)→Option α
def g87b{α:Type}(G109:Al S_g109)(G126:Al S_g126)(G127:Al S_g127)(G128:Al S_g128)(G129:Al S_g129)(G45:Al S_g45)(G130:Al S_g130)(G131:Al S_g131)(G111:Al S_g111)(G132:Al S_g132)(G133:Al S_g133)(G117:Al S_g117)(G114:Al S_g114)(a:Nat)(b:Int)(c d:Nat)(e h:Nat)(i j l:Nat)(n:Ty0)(o:Ty1)(p:Ty0)(q:Bool→(List Int)→Int→Nat→Nat→Nat→Nat→Nat→Nat→Ty1→Ty0→Option α):Option α:=if a<l then let r:Int:=(List.getD n a []).headD 0;cond (r==(1:Int)) (if a<l then G109 (((List.getD n a []).tail.tail.tail).headD 0) (fun s t=>G126 s t b (fun u v w=>cond (w !=(0:Int)) (q false [0,0,0,0,0,0] w c d e h i j o p) (if a<l then G109 (((List.getD n a []).tail.tail.tail.tail).headD 0) (fun x y=>G127 u v x y (fun z a0=>q z a0 (0:Int) c d e h i j o p)) else none))) else none) (cond (r==(11:Int)) (G128 b (fun b0 c0=>q b0 c0 (0:Int) c d e h i j o p)) (cond (r==(12:Int)) (G129 b (fun d0 e0=>q d0 e0 (0:Int) c d e h i j o p)) (cond (r==(6:Int)) (if a<l then G45 (IntKind.wrap .i64 (((List.getD n a []).tail).headD 0)) b c d e h i j l n o p (fun h0 i0 j0 l0 n0 o0 p0 q0 r0 s0 t0 u0 v0=>cond (j0 !=(0:Int)) (q false [0,0,0,0,0,0] j0 l0 n0 o0 p0 q0 r0 u0 v0) (if a<l then cond (((List.getD n a []).headD 0)==(6:Int)) (G130 h0 i0 (fun w0=>q w0 i0 (0:Int) l0 n0 o0 p0 q0 r0 u0 v0)) (cond h0 (G130 h0 i0 (fun x0=>q x0 i0 (0:Int) l0 n0 o0 p0 q0 r0 u0 v0)) (q h0 i0 (0:Int) l0 n0 o0 p0 q0 r0 u0 v0)) else none)) else none) (cond (r==(7:Int)) (if a<l then G45 (IntKind.wrap .i64 (((List.getD n a []).tail).headD 0)) b c d e h i j l n o p (fun y0 z0 a1 b1 c1 d1 e1 h1 i1 j1 l1 n1 o1=>cond (a1 !=(0:Int)) (q false [0,0,0,0,0,0] a1 b1 c1 d1 e1 h1 i1 n1 o1) (if a<l then cond (((List.getD n a []).headD 0)==(6:Int)) (G130 y0 z0 (fun p1=>q p1 z0 (0:Int) b1 c1 d1 e1 h1 i1 n1 o1)) (cond y0 (G130 y0 z0 (fun q1=>q q1 z0 (0:Int) b1 c1 d1 e1 h1 i1 n1 o1)) (q y0 z0 (0:Int) b1 c1 d1 e1 h1 i1 n1 o1)) else none)) else none) (cond (r==(10:Int)) (if a<l then G45 (IntKind.wrap .i64 (((List.getD n a []).tail).headD 0)) (IntKind.wrap .i64 ((IntKind.wrap .i64 ((2:Int)*b))+(6:Int))) c d e h i j l n o p (fun r1 s1 t1 u1 v1 w1 x1 y1 z1 a2 b2 c2 d2=>cond (t1 !=(0:Int)) (q false [0,0,0,0,0,0] t1 u1 v1 w1 x1 y1 z1 c2 d2) (cond r1 (q false [0,0,0,0,0,0] t1 u1 v1 w1 x1 y1 z1 c2 d2) (G131 r1 s1 (fun e2 h2=>G111 e2 h2 (3:Int) (fun i2 j2=>q i2 j2 (0:Int) u1 v1 w1 x1 y1 z1 c2 d2))))) else none) (cond (r==(4:Int)) (G132 a b c d e h i j l n o p (fun l2 n2 o2 p2 q2 r2 s2 t2 u2 v2 w2=>q l2 n2 o2 p2 q2 r2 s2 t2 u2 v2 w2)) (cond (r==(5:Int)) (G133 a b c d e h i j l n o p (fun x2 y2 z2 a3 b3 c3 d3 e3 h3 i3 j3=>q x2 y2 z2 a3 b3 c3 d3 e3 h3 i3 j3)) (if a<l then cond (((List.getD n a []).headD 0)==(8:Int)) (if a<l then G45 (IntKind.wrap .i64 (((List.getD n a []).tail).headD 0)) (IntKind.wrap .i64 (b+(0:Int))) c d e h i j l n o p (fun l3 n3 o3 p3 q3 r3 s3 t3 u3 v3 w3 x3 y3=>cond (o3 !=(0:Int)) (q false [0,0,0,0,0,0] o3 p3 q3 r3 s3 t3 u3 x3 y3) (if a<l then G45 (IntKind.wrap .i64 (((List.getD n a []).tail.tail).headD 0)) (IntKind.wrap .i64 (b+(0:Int))) p3 q3 r3 s3 t3 u3 l n x3 y3 (fun z3 a4 b4 c4 d4 e4 h4 i4 j4 l4 n4 o4 p4=>cond (b4 !=(0:Int)) (q false [0,0,0,0,0,0] b4 c4 d4 e4 h4 i4 j4 o4 p4) (if a<l then let q4:Int:=(List.getD n a []).headD 0;cond (q4==(8:Int)) (G117 l3 n3 z3 a4 (fun r4=>if a<l then cond ((decide (r4<(0:Int)))==(((List.getD n a []).headD 0)==(8:Int))) (q l3 n3 (0:Int) c4 d4 e4 h4 i4 j4 o4 p4) (q z3 a4 (0:Int) c4 d4 e4 h4 i4 j4 o4 p4) else none)) (cond (q4==(9:Int)) (G117 l3 n3 z3 a4 (fun s4=>if a<l then cond ((decide (s4<(0:Int)))==(((List.getD n a []).headD 0)==(8:Int))) (q l3 n3 (0:Int) c4 d4 e4 h4 i4 j4 o4 p4) (q z3 a4 (0:Int) c4 d4 e4 h4 i4 j4 o4 p4) else none)) (cond (q4==(3:Int)) (G130 z3 a4 (fun t4=>G114 l3 n3 t4 a4 (fun u4 v4 w4=>cond (w4 !=(0:Int)) (q false [0,0,0,0,0,0] w4 c4 d4 e4 h4 i4 j4 o4 p4) (G111 u4 v4 (2:Int) (fun x4 y4=>q x4 y4 (0:Int) c4 d4 e4 h4 i4 j4 o4 p4))))) (G114 l3 n3 z3 a4 (fun z4 a5 b5=>cond (b5 !=(0:Int)) (q false [0,0,0,0,0,0] b5 c4 d4 e4 h4 i4 j4 o4 p4) (G111 z4 a5 (2:Int) (fun c5 d5=>q c5 d5 (0:Int) c4 d4 e4 h4 i4 j4 o4 p4)))))) else none)) else none)) else none) (if a<l then cond (((List.getD n a []).headD 0)==(9:Int)) (if a<l then G45 (IntKind.wrap .i64 (((List.getD n a []).tail).headD 0)) (IntKind.wrap .i64 (b+(0:Int))) c d e h i j l n o p (fun e5 h5 i5 j5 l5 n5 o5 p5 q5 r5 s5 t5 u5=>cond (i5 !=(0:Int)) (q false [0,0,0,0,0,0] i5 j5 l5 n5 o5 p5 q5 t5 u5) (if a<l then G45 (IntKind.wrap .i64 (((List.getD n a []).tail.tail).headD 0)) (IntKind.wrap .i64 (b+(0:Int))) j5 l5 n5 o5 p5 q5 l n t5 u5 (fun v5 w5 x5 y5 z5 a6 b6 c6 d6 e6 h6 i6 j6=>cond (x5 !=(0:Int)) (q false [0,0,0,0,0,0] x5 y5 z5 a6 b6 c6 d6 i6 j6) (if a<l then let l6:Int:=(List.getD n a []).headD 0;cond (l6==(8:Int)) (G117 e5 h5 v5 w5 (fun n6=>if a<l then cond ((decide (n6<(0:Int)))==(((List.getD n a []).headD 0)==(8:Int))) (q e5 h5 (0:Int) y5 z5 a6 b6 c6 d6 i6 j6) (q v5 w5 (0:Int) y5 z5 a6 b6 c6 d6 i6 j6) else none)) (cond (l6==(9:Int)) (G117 e5 h5 v5 w5 (fun o6=>if a<l then cond ((decide (o6<(0:Int)))==(((List.getD n a []).headD 0)==(8:Int))) (q e5 h5 (0:Int) y5 z5 a6 b6 c6 d6 i6 j6) (q v5 w5 (0:Int) y5 z5 a6 b6 c6 d6 i6 j6) else none)) (cond (l6==(3:Int)) (G130 v5 w5 (fun p6=>G114 e5 h5 p6 w5 (fun q6 r6 s6=>cond (s6 !=(0:Int)) (q false [0,0,0,0,0,0] s6 y5 z5 a6 b6 c6 d6 i6 j6) (G111 q6 r6 (2:Int) (fun t6 u6=>q t6 u6 (0:Int) y5 z5 a6 b6 c6 d6 i6 j6))))) (G114 e5 h5 v5 w5 (fun v6 w6 x6=>cond (x6 !=(0:Int)) (q false [0,0,0,0,0,0] x6 y5 z5 a6 b6 c6 d6 i6 j6) (G111 v6 w6 (2:Int) (fun y6 z6=>q y6 z6 (0:Int) y5 z5 a6 b6 c6 d6 i6 j6)))))) else none)) else none)) else none) (if a<l then G45 (IntKind.wrap .i64 (((List.getD n a []).tail).headD 0)) (IntKind.wrap .i64 (b+(2:Int))) c d e h i j l n o p (fun a7 b7 c7 d7 e7 h7 i7 j7 l7 n7 o7 p7 q7=>cond (c7 !=(0:Int)) (q false [0,0,0,0,0,0] c7 d7 e7 h7 i7 j7 l7 p7 q7) (if a<l then G45 (IntKind.wrap .i64 (((List.getD n a []).tail.tail).headD 0)) (IntKind.wrap .i64 (b+(2:Int))) d7 e7 h7 i7 j7 l7 l n p7 q7 (fun r7 s7 t7 u7 v7 w7 x7 y7 z7 a8 b8 c8 d8=>cond (t7 !=(0:Int)) (q false [0,0,0,0,0,0] t7 u7 v7 w7 x7 y7 z7 c8 d8) (if a<l then let e8:Int:=(List.getD n a []).headD 0;cond (e8==(8:Int)) (G117 a7 b7 r7 s7 (fun h8=>if a<l then cond ((decide (h8<(0:Int)))==(((List.getD n a []).headD 0)==(8:Int))) (q a7 b7 (0:Int) u7 v7 w7 x7 y7 z7 c8 d8) (q r7 s7 (0:Int) u7 v7 w7 x7 y7 z7 c8 d8) else none)) (cond (e8==(9:Int)) (G117 a7 b7 r7 s7 (fun i8=>if a<l then cond ((decide (i8<(0:Int)))==(((List.getD n a []).headD 0)==(8:Int))) (q a7 b7 (0:Int) u7 v7 w7 x7 y7 z7 c8 d8) (q r7 s7 (0:Int) u7 v7 w7 x7 y7 z7 c8 d8) else none)) (cond (e8==(3:Int)) (G130 r7 s7 (fun j8=>G114 a7 b7 j8 s7 (fun l8 n8 o8=>cond (o8 !=(0:Int)) (q false [0,0,0,0,0,0] o8 u7 v7 w7 x7 y7 z7 c8 d8) (G111 l8 n8 (2:Int) (fun p8 q8=>q p8 q8 (0:Int) u7 v7 w7 x7 y7 z7 c8 d8))))) (G114 a7 b7 r7 s7 (fun r8 s8 t8=>cond (t8 !=(0:Int)) (q false [0,0,0,0,0,0] t8 u7 v7 w7 x7 y7 z7 c8 d8) (G111 r8 s8 (2:Int) (fun u8 v8=>q u8 v8 (0:Int) u7 v7 w7 x7 y7 z7 c8 d8)))))) else none)) else none)) else none) else none) else none)))))))) else none
def g87(A45:Al S_g45){α:Type}(m:Nat):S_g87 α:=
 g87b (g109 m) (g126 m) (g127 m) (g128 m) (g129 m) A45 (g130 m) (g131 m) (g111 m) (g132 A45 m) (g133 A45 m) (g117 m) (g114 m)
def g87tp:List TP:=[(.vl (.sv (.ptr 0 0))),(.vl (.sv (.el 1 0 5 0))),tI]
def g87bp:List BP:=[(true,[(.one (.slc 1 0 5)),(.one (.slc 2 0 1)),(.one (.gsl 3 2))]),(false,[(.seqv rN)]),(true,[(.rws mK)]),(true,[(.gro rP)])]
def g87K{α:Type}(G:S_g87 α)(ls:List Lf)(k:KRe α):Option α:=
 G (lf ls 0).nat (lf ls 1).int (lf ls 2).nat (lf ls 3).nat (lf ls 4).nat (lf ls 5).nat (lf ls 6).nat (lf ls 7).nat (lf ls 8).nat ((lf ls 9).lst rN) ((lf ls 10).rows mK) ((lf ls 11).lst rP)
  (fun c d e h j l n o p q r=>k (.tup [(.agg [(.one (.bool c)),(.seq uU 6 d)]),(.sv (.int .i64 e))]) [[(.one (.slc 1 0 5 h j l)),(.one (.slc 2 0 1 n o p)),(.one (.gsl 4 2))],[(.seq rN (lf ls 8).nat ((lf ls 9).lst rN))],[(.rws mK q none)],[]] [[(.gro rP r)]])
def g87R{α:Type}(G:S_g87 α):=rowK g87tp g87bp (g87K G)
def g87hd(G109:Al S_g109)(G126:Al S_g126)(G127:Al S_g127)(G128:Al S_g128)(G129:Al S_g129)(G45:Al S_g45)(G130:Al S_g130)(G131:Al S_g131)(G111:Al S_g111)(G132:Al S_g132)(G133:Al S_g133)(G117:Al S_g117)(G114:Al S_g114):Hd where
 call:=fun f args Bs k=>cond (Nat.beq f 109) (g109R G109 args Bs k) (cond (Nat.beq f 126) (g126R G126 args Bs k) (cond (Nat.beq f 127) (g127R G127 args Bs k) (cond (Nat.beq f 128) (g128R G128 args Bs k) (cond (Nat.beq f 129) (g129R G129 args Bs k) (cond (Nat.beq f 45) (g45R G45 args Bs k) (cond (Nat.beq f 130) (g130R G130 args Bs k) (cond (Nat.beq f 131) (g131R G131 args Bs k) (cond (Nat.beq f 111) (g111R G111 args Bs k) (cond (Nat.beq f 132) (g132R G132 args Bs k) (cond (Nat.beq f 133) (g133R G133 args Bs k) (cond (Nat.beq f 117) (g117R G117 args Bs k) (cond (Nat.beq f 114) (g114R G114 args Bs k) (none)))))))))))))
 loop:=fun id st k=>none
 ro:=fun f=>cond (Nat.beq f 45) [1] (cond (Nat.beq f 117) [0,1] (cond (Nat.beq f 132) [1] (cond (Nat.beq f 133) [1] ([]))))
def g87h(A45:Al S_g45)(m:Nat):Hd:=g87hd (g109 m) (g126 m) (g127 m) (g128 m) (g129 m) A45 (g130 m) (g131 m) (g111 m) (g132 A45 m) (g133 A45 m) (g117 m) (g114 m)
theorem g87Main(G109:Al S_g109)(G126:Al S_g126)(G127:Al S_g127)(G128:Al S_g128)(G129:Al S_g129)(G45:Al S_g45)(G130:Al S_g130)(G131:Al S_g131)(G111:Al S_g111)(G132:Al S_g132)(G133:Al S_g133)(G117:Al S_g117)(G114:Al S_g114){α:Type}(ls:List Lf)(k:KRe α):
  g87K (g87b G109 G126 G127 G128 G129 G45 G130 G131 G111 G132 G133 G117 G114) ls k=evFunM tab (g87hd G109 G126 G127 G128 G129 G45 G130 G131 G111 G132 G133 G117 G114) Tryz.f87 3 (fT g87tp ls) (fB g87tp g87bp ls) k:=by kernel_rfl
theorem g87Calls(A45:Al S_g45)(hA45:HA45 A45)(m:Nat):(g87h A45 m).CallsOk Tryz.prog:=(cok_cons (g109Ok m) (cok_cons (g126Ok m) (cok_cons (g127Ok m) (cok_cons (g128Ok m) (cok_cons (g129Ok m) (cok_cons hA45 (cok_cons (g130Ok m) (cok_cons (g131Ok m) (cok_cons (g111Ok m) (cok_cons (g132Ok A45 hA45 m) (cok_cons (g133Ok A45 hA45 m) (cok_cons (g117Ok m) (cok_cons (g114Ok m) cok_nil)))))))))))))
theorem g87Fn(A45:Al S_g45)(hA45:HA45 A45)(m:Nat):FnOk Tryz.prog 87 g87tp g87bp (fun{α}=>g87K (g87 A45 m (α:=α))):=
 fn_okM (tab:=tab) (h:=g87h A45 m) (fn:=Tryz.f87) (F:=fun{α}=>g87K (g87 A45 m (α:=α))) tabOk (g87Calls A45 hA45 m) mixed (by kernel_rfl) (by kernel_rfl) (fun c hc=>by
  rw[bodyOf_some hc]
  exact loopsOk_of _ (fun p hp=>by rw[show loopsOf (bodyOf Tryz.f87)=[] by kernel_rfl] at hp;cases hp))
  (fun _=>g87Main (g109 m) (g126 m) (g127 m) (g128 m) (g129 m) A45 (g130 m) (g131 m) (g111 m) (g132 A45 m) (g133 A45 m) (g117 m) (g114 m))
theorem g87Ok(A45:Al S_g45)(hA45:HA45 A45)(m:Nat):RowOk Tryz.prog 87 (fun{α}=>g87R (g87 A45 m (α:=α))):=row_of (g87Fn A45 hA45 m)
abbrev S_g45l0(α:Type):Type:=Int→Int→Nat→Nat→Nat→Nat→Nat→Nat→Nat→Ty0→Ty1→Nat→Bool→(List Int)→Ty2→Ty0→(Ty1→Bool→(List Int)→Option α)→(Ty1→Option α)→Int→Option α
def g45l0b{α:Type}(c d:Int)(e h:Nat)(j l:Nat)(n o p:Nat)(q:Ty0)(r:Ty1)(s:Nat)(t:Bool)(u:List Int)(v:Ty2)(w:Ty0)(x:Ty1→Bool→(List Int)→Option α)(y:Ty1→Option α)(z:Int→Option α)(a0:Int):Option α:=cond (decide (a0<((v.length:Nat):Int))) (if 0≤a0∧a0<(v.length:Nat) then if a0.toNat<v.length then cond (((List.getD v (a0.toNat) (pD [.i .i64, .b, .a .u32 6])).1)==d) (if 0≤a0∧a0<(v.length:Nat) then if a0.toNat<v.length then let b0:Ty3:=List.getD v (a0.toNat) (pD [.i .i64, .b, .a .u32 6]);if s<r.length then x (List.set r s v) (b0.2.1) (padI 6 b0.2.2.1) else none else none else none) (z (IntKind.wrap .i64 (a0+(1:Int)))) else none else none) (if s<r.length then y (List.set r s v) else none)
def g45l0{α:Type}(a b:Int)(c d:Nat)(e h:Nat)(i j l:Nat)(n:Ty0)(o:Ty1)(p:Nat)(q:Bool)(r:List Int)(s:Ty2)(t:Ty0)(u:Ty1→Bool→(List Int)→Option α)(v:Ty1→Option α):Nat→Int→Option α
 |0=>fun _=>none
 |m+1=>fun w=>g45l0b a b c d e h i j l n o p q r s t u v (g45l0 a b c d e h i j l n o p q r s t u v m) w
def g45l0M(A45:Al S_g45){α:Type}(m:Nat):S_g45l0 α:=
 fun a b c d e h i j l n o p q r s t u v w=>g45l0 a b c d e h i j l n o p q r s t u v m w
def g45l0D:LoopD:={n:=89,low:=[0,1,2,3],sl:=[0,1,2,6,8,9],bl:=[0,1,2,3,1000004,1000005,1000006],tp:=[(.vl (.sv (.ptr 0 0))),tI,tI,(.vl (.sv (.ptr 1000004 0))),(.vl (.sv (.gsl 1000005 8))),tI],bp:=[(true,[(.one (.slc 1 0 5)),(.one (.slc 2 0 1)),(.one (.gsl 1000006 2))]),(false,[(.seqv rN)]),(true,[(.rwh mK 1000005)]),(true,[]),(true,[(.one .bool),(.seq uU 6)]),(true,[(.gro mK)]),(true,[(.gro rP)])],xs:=[(1,[6,7]),(2,[0,1,2,6])]}
def g45l0K{α:Type}(L:S_g45l0 α)(ls:List Lf)(k:KEx α):Option α:=
 L (lf ls 0).int (lf ls 1).int (lf ls 3).nat (lf ls 4).nat (lf ls 5).nat (lf ls 6).nat (lf ls 7).nat (lf ls 8).nat (lf ls 9).nat ((lf ls 10).lst rN) ((lf ls 11).rows mK) (lf ls 12).nat (lf ls 13).bool ((lf ls 14).lst uU) ((lf ls 15).lst mK) ((lf ls 16).lst rP)
  (fun c d e=>k .ret (mkSt 89 [6,7] [(.vl (.sv (.ptr 1000004 0))),(.vl (.sv (.int .i64 (0:Int))))] [0,1,2,3,1000004,1000005] [(true,[(.one (.slc 1 0 5 (lf ls 3).nat (lf ls 4).nat (lf ls 5).nat)),(.one (.slc 2 0 1 (lf ls 6).nat (lf ls 7).nat (lf ls 8).nat)),(.one (.gsl 1000005 2))]),(false,[(.seq rN (lf ls 9).nat ((lf ls 10).lst rN))]),(true,[(.rws mK c none)]),(true,[]),(true,[(.one (.bool d)),(.seq uU 6 e)]),(true,[(.gro rP ((lf ls 16).lst rP))])]))
  (fun d=>k .normal (mkSt 89 [0,1,2,6] [(.vl (.sv (.ptr 0 0))),(.vl (.sv (.int .i64 (lf ls 0).int))),(.vl (.sv (.int .i64 (lf ls 1).int))),(.vl (.sv (.ptr 1000004 0)))] [0,1,2,3,1000004,1000005] [(true,[(.one (.slc 1 0 5 (lf ls 3).nat (lf ls 4).nat (lf ls 5).nat)),(.one (.slc 2 0 1 (lf ls 6).nat (lf ls 7).nat (lf ls 8).nat)),(.one (.gsl 1000005 2))]),(false,[(.seq rN (lf ls 9).nat ((lf ls 10).lst rN))]),(true,[(.rws mK d none)]),(true,[]),(true,[(.one (.bool (lf ls 13).bool)),(.seq uU 6 ((lf ls 14).lst uU))]),(true,[(.gro rP ((lf ls 16).lst rP))])]))
  (lf ls 2).int
def g45b{α:Type}(G87:Al S_g87)(L45l0:Al S_g45l0)(a b:Int)(c d:Nat)(e h:Nat)(i j l:Nat)(n:Ty0)(o:Ty1)(p:Ty0)(q:Bool→(List Int)→Int→Nat→Nat→Nat→Nat→Nat→Nat→Nat→Ty0→Ty1→Ty0→Option α):Option α:=if 0≤a∧a<(i:Nat) then if(h+a.toNat)<o.length then L45l0 a b c d e h i j l n o (h+a.toNat) false [0,0,0,0,0,0] (List.getD o (h+a.toNat) []) p (fun r s t=>q s t (0:Int) c d e h i j l n r p) (fun u=>cond (decide (b>(160:Int))) (q false [0,0,0,0,0,0] (3:Int) c d e h i j l n u p) (if p.length+1≤67108864 then if 0≤a∧a<(d:Nat) then G87 (c+a.toNat) b c d e h i j l n u (p++[[(IntKind.wrap .i16 a),(IntKind.wrap .i16 b)]]) (fun v w x y z a0 b0 c0 d0 e0 h0=>cond (x !=(0:Int)) (q false [0,0,0,0,0,0] x y z a0 b0 c0 d0 l n e0 h0) (if 0≤a∧a<(c0:Nat) then if(b0+a.toNat)<e0.length then let i0:Ty2:=List.getD e0 (b0+a.toNat) [];if i0.length+1≤67108864 then if 0≤a∧a<(c0:Nat) then if(b0+a.toNat)<e0.length∧(b0+a.toNat)=(b0+a.toNat) then q v w (0:Int) y z a0 b0 c0 d0 l n (List.set e0 (b0+a.toNat) (i0++[(b,v,w,())])) h0 else none else none else none else none else none)) else none else none)) (0:Int) else none else none
noncomputable def g45(m:Nat):Al S_g45:=
 Nat.rec (motive:=fun _=>Al S_g45) (fun{α}=>fun _ _ _ _ _ _ _ _ _ _ _ _ _=>none) (fun m ih {α}=>g45b (g87 ih m) (g45l0M ih m)) m
def g45hd(G87:Al S_g87)(L45l0:Al S_g45l0):Hd where
 call:=fun f args Bs k=>cond (Nat.beq f 87) (g87R G87 args Bs k) (none)
 loop:=fun id st k=>cond (Nat.beq id 0) (loopH g45l0D (g45l0K L45l0) st k) (none)
 ro:=fun f=>cond (Nat.beq f 87) [1] ([])
def g45h(A45:Al S_g45)(m:Nat):Hd:=g45hd (g87 A45 m) (g45l0M A45 m)
theorem g45l0Step(G87:Al S_g87)(L45l0:Al S_g45l0){α:Type}(L:S_g45l0 α)(ls:List Lf)(k:KEx α):
  g45l0K (fun a b c d e h i j l n o p q r s t u v w=>g45l0b a b c d e h i j l n o p q r s t u v (L a b c d e h i j l n o p q r s t u v) w) ls k=ev tab (g45hd G87 L45l0) (bodyAt Tryz.f45 0) (atHead g45l0D ls) (loopK g45l0D 0 (loopH g45l0D (g45l0K L)) k):=by kernel_rfl
theorem g45Main(G87:Al S_g87)(L45l0:Al S_g45l0){α:Type}(ls:List Lf)(k:KRe α):
  g45K (g45b G87 L45l0) ls k=evFunM tab (g45hd G87 L45l0) Tryz.f45 3 (fT g45tp ls) (fB g45tp g45bp ls) k:=by kernel_rfl
theorem g45Calls(A45:Al S_g45)(hA45:HA45 A45)(m:Nat):(g45h A45 m).CallsOk Tryz.prog:=(cok_cons (g87Ok A45 hA45 m) cok_nil)
theorem g45l0Ok(A45:Al S_g45)(hA45:HA45 A45)(m:Nat)(α:Type)(st:St)(k:KEx α)(r:α)(h:(g45h A45 m).loop 0 st k=some r):
  LoopS Tryz.prog 0 (bodyAt Tryz.f45 0) st k r:=
 lpk (F:=fun n ls k=>g45l0K (fun a b c d e i j l o q s t u v w x y z a0=>g45l0 a b c d e i j l o q s t u v w x y z n a0) ls k) (g45Calls A45 hA45 m) (lb0 (by kernel_rfl))
  (fun _ _=>rfl) (fun n ls k=>g45l0Step (g87 A45 m) (g45l0M A45 m) (fun a b c d e i j l o q s t u v w x y z=>g45l0 a b c d e i j l o q s t u v w x y z n) ls k) (n:=m) h
theorem g45FnS(m:Nat)(hA:RowOk Tryz.prog 45 (fun{α}=>g45R (g45 m (α:=α)))):FnOk Tryz.prog 45 g45tp g45bp (fun{α}=>g45K (g45 (m+1) (α:=α))):=
 fn_okM (tab:=tab) (h:=g45h (g45 m) m) (fn:=Tryz.f45) (F:=fun{α}=>g45K (g45 (m+1) (α:=α))) tabOk (g45Calls (g45 m) hA m) mixed (by kernel_rfl) (by kernel_rfl) (fun c hc=>by
  rw[bodyOf_some hc]
  exact loopsOk_of _ (fun p hp=>by
  rw[show loopsOf (bodyOf Tryz.f45)=[(0,bodyAt Tryz.f45 0)] by kernel_rfl] at hp
  simp only[List.mem_cons,List.not_mem_nil,or_false] at hp
  rcases hp with rfl
  exact g45l0Ok (g45 m) hA m))
  (fun _=>g45Main (g87 (g45 m) m) (g45l0M (g45 m) m))
theorem g45Fn:∀m:Nat,FnOk Tryz.prog 45 g45tp g45bp (fun{α}=>g45K (g45 m (α:=α)))
 |0=>fun α ls k r h=>nomatch (show(none:Option α)=some r from h)
 |m+1=>g45FnS m (row_of (g45Fn m))
theorem g45Ok(m:Nat):RowOk Tryz.prog 45 (fun{α}=>g45R (g45 m (α:=α))):=row_of (g45Fn m)
abbrev S_g156(α:Type):Type:=Int→(ByteArray→Option α)→Option α
def g156tp:List TP:=[tI]
def g156bp:List BP:=[]
def g156K{α:Type}(G:S_g156 α)(ls:List Lf)(k:KRe α):Option α:=
 G (lf ls 0).int
  (fun a=>k (.vl (.sv (.str a))) [] [])
def g156R{α:Type}(G:S_g156 α):=rowK g156tp g156bp (g156K G)
def g156b{α:Type}(G156:Al S_g156)(a:Int)(b:ByteArray→Option α):Option α:=cond (decide (a<(10:Int))) (b (bytesS (List.take 1 (List.drop 0 [(IntKind.wrap .u8 (IntKind.wrap .i64 ((48:Int)+(Int.tmod a (10:Int)))))])))) (G156 (IntKind.wrap .i64 (Int.tdiv a (10:Int))) (fun c=>let d:ByteArray:=bytesS (List.take 1 (List.drop 0 [(IntKind.wrap .u8 (IntKind.wrap .i64 ((48:Int)+(Int.tmod a (10:Int)))))]));if c.size+d.size≤9223372036854775807 then b (c++d) else none))
noncomputable def g156(m:Nat):Al S_g156:=
 Nat.rec (motive:=fun _=>Al S_g156) (fun{α}=>fun _ _=>none) (fun m ih {α}=>g156b ih) m
def g156hd(G156:Al S_g156):Hd where
 call:=fun f args Bs k=>cond (Nat.beq f 156) (g156R G156 args Bs k) (none)
 loop:=fun id st k=>none
 ro:=fun f=>[]
def g156h(A156:Al S_g156)(m:Nat):Hd:=g156hd A156
theorem g156Main(G156:Al S_g156){α:Type}(ls:List Lf)(k:KRe α):
  g156K (g156b G156) ls k=evFun tab (g156hd G156) Tryz.f156 (fT g156tp ls) (fB g156tp g156bp ls) k:=by kernel_rfl
theorem g156Calls(A156:Al S_g156)(hA156:RowOk Tryz.prog 156 (fun{α}=>rowK g156tp g156bp (g156K (A156 (α:=α)))))(m:Nat):(g156h A156 m).CallsOk Tryz.prog:=(cok_cons hA156 cok_nil)
theorem g156FnS(m:Nat)(hA:RowOk Tryz.prog 156 (fun{α}=>g156R (g156 m (α:=α)))):FnOk Tryz.prog 156 g156tp g156bp (fun{α}=>g156K (g156 (m+1) (α:=α))):=
 fnk (g156Calls (g156 m) hA m) (lo0 (by kernel_rfl))
  (fun _=>g156Main (g156 m))
theorem g156Fn:∀m:Nat,FnOk Tryz.prog 156 g156tp g156bp (fun{α}=>g156K (g156 m (α:=α)))
 |0=>fun α ls k r h=>nomatch (show(none:Option α)=some r from h)
 |m+1=>g156FnS m (row_of (g156Fn m))
theorem g156Ok(m:Nat):RowOk Tryz.prog 156 (fun{α}=>g156R (g156 m (α:=α))):=row_of (g156Fn m)
end Go.Proofs.YtlmmgjngihlpeaaGreatDoor.Sx
