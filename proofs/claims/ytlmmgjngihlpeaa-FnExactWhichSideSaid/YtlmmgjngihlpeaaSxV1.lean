/- Functions. Printed by our own sx.py. -/
import Derived.Test.YtlmmgjngihlpeaaSxV0
namespace Go.Proofs.Ytlmmgjngihlpeaa.Sx
open Go
set_option linter.unusedVariables false
set_option maxRecDepth 100000
abbrev S_g102(α:Type):Type:=(List Int)→(List Int)→((List Int)→Option α)→Option α
abbrev S_g102l0(α:Type):Type:=(List Int)→(List Int)→(List Int)→((List Int)→Option α)→Int→Int→(List Int)→Option α
def g102l0b{α:Type}(a b c:List Int)(d:(List Int)→Option α)(e:Int→Int→(List Int)→Option α)(h i:Int)(j:List Int):Option α:=cond (decide (i<(6:Int))) (if 0≤i∧i<(6:Nat) then if i.toNat<6 then if 0≤i∧i<(6:Nat) then if i.toNat<6 then let l:Int:=IntKind.wrap .i64 ((IntKind.wrap .i64 ((IntKind.wrap .i64 (List.getD a i.toNat 0))-(IntKind.wrap .i64 (List.getD b i.toNat 0))))-h);cond (decide (l<(0:Int))) (if 0≤i∧i<(6:Nat) then if i.toNat<6 then e (1:Int) (IntKind.wrap .i64 (i+(1:Int))) (List.set j (i.toNat) (IntKind.wrap .u32 (IntKind.wrap .i64 (l+(4294967296:Int))))) else none else none) (if 0≤i∧i<(6:Nat) then if i.toNat<6 then e (0:Int) (IntKind.wrap .i64 (i+(1:Int))) (List.set j (i.toNat) (IntKind.wrap .u32 l)) else none else none) else none else none else none else none) (d j)
def g102l0{α:Type}(a b c:List Int)(d:(List Int)→Option α):Nat→Int→Int→(List Int)→Option α
 |0=>fun _ _ _=>none
 |m+1=>fun e h i=>g102l0b a b c d (g102l0 a b c d m) e h i
def g102l0M{α:Type}(m:Nat):S_g102l0 α:=
 fun a b c d e h i=>g102l0 a b c d m e h i
def g102l0D:LoopD:={n:=38,low:=[0,1],sl:=[0,1,4,5,6,7],bl:=[0,1,1000002,1000003],tp:=[(.vl (.sv (.ptr 0 0))),(.vl (.sv (.ptr 1 0))),(.vl (.sv (.ptr 1000002 0))),(.vl (.sv (.ptr 1000003 0))),tI,tI],bp:=[(false,[(.seq uU 6)]),(false,[(.seq uU 6)]),b6,b6],xs:=[(2,[4,5])]}
def g102l0K{α:Type}(L:S_g102l0 α)(ls:List Lf)(k:KEx α):Option α:=
 L ((lf ls 2).lst uU) ((lf ls 3).lst uU) ((lf ls 4).lst uU)
  (fun a=>k .normal (mkSt 38 [4,5] [(.vl (.sv (.ptr 1000002 0))),(.vl (.sv (.ptr 1000003 0)))] [0,1,1000002,1000003] [(false,[(.seq uU 6 ((lf ls 2).lst uU))]),(false,[(.seq uU 6 ((lf ls 3).lst uU))]),(true,[(.seq uU 6 ((lf ls 4).lst uU))]),(true,[(.seq uU 6 a)])]))
  (lf ls 0).int (lf ls 1).int ((lf ls 5).lst uU)
def g102b{α:Type}(L102l0:Al S_g102l0)(a b:List Int)(c:(List Int)→Option α):Option α:=L102l0 a b [0,0,0,0,0,0] (fun d=>c d) (0:Int) (0:Int) [0,0,0,0,0,0]
def g102{α:Type}(m:Nat):S_g102 α:=
 g102b (g102l0M m)
def g102tp:List TP:=[(.vl (.sv (.ptr 0 0))),(.vl (.sv (.ptr 1 0)))]
def g102bp:List BP:=[(false,[(.seq uU 6)]),(false,[(.seq uU 6)])]
def g102K{α:Type}(G:S_g102 α)(ls:List Lf)(k:KRe α):Option α:=
 G ((lf ls 0).lst uU) ((lf ls 1).lst uU)
  (fun a=>k (.vl (.agg [(.seq uU 6 a)])) [[(.seq uU 6 ((lf ls 0).lst uU))],[(.seq uU 6 ((lf ls 1).lst uU))]] [])
def g102R{α:Type}(G:S_g102 α):=rowK g102tp g102bp (g102K G)
def g102hd(L102l0:Al S_g102l0):Hd where
 call:=fun f args Bs k=>none
 loop:=fun id st k=>cond (Nat.beq id 0) (loopH g102l0D (g102l0K L102l0) st k) (none)
 ro:=fun f=>[]
def g102h(m:Nat):Hd:=g102hd (g102l0M m)
theorem g102l0Step(L102l0:Al S_g102l0){α:Type}(L:S_g102l0 α)(ls:List Lf)(k:KEx α):
  g102l0K (fun a b c d e h i=>g102l0b a b c d (L a b c d) e h i) ls k=ev tab (g102hd L102l0) (bodyAt Try.f102 0) (atHead g102l0D ls) (loopK g102l0D 0 (loopH g102l0D (g102l0K L)) k):=by kernel_rfl
theorem g102Main(L102l0:Al S_g102l0){α:Type}(ls:List Lf)(k:KRe α):
  g102K (g102b L102l0) ls k=evFun tab (g102hd L102l0) Try.f102 (fT g102tp ls) (fB g102tp g102bp ls) k:=by kernel_rfl
theorem g102Calls(m:Nat):(g102h m).CallsOk Try.prog:=cok_nil
theorem g102l0Ok(m:Nat)(α:Type)(st:St)(k:KEx α)(r:α)(h:(g102h m).loop 0 st k=some r):
  LoopS Try.prog 0 (bodyAt Try.f102 0) st k r:=
 lpk (F:=fun n ls k=>g102l0K (fun a b c d e i j=>g102l0 a b c d n e i j) ls k) (g102Calls m) (lb0 (by kernel_rfl))
  (fun _ _=>rfl) (fun n ls k=>g102l0Step (g102l0M m) (fun a b c d=>g102l0 a b c d n) ls k) (n:=m) h
theorem g102Ok(m:Nat):RowOk Try.prog 102 (fun{α}=>g102R (g102 m (α:=α))):=
 rwk (g102Calls m) (lo1 (by kernel_rfl) (g102l0Ok m))
  (fun _=>g102Main (g102l0M m))
abbrev S_g105(α:Type):Type:=(List Int)→(List Int)→(Int→Option α)→Option α
abbrev S_g105l0(α:Type):Type:=(List Int)→(List Int)→(Int→Option α)→(Option α)→Int→Option α
def g105l0b{α:Type}(a b:List Int)(c:Int→Option α)(d:Option α)(e:Int→Option α)(h:Int):Option α:=cond (decide (h≥(0:Int))) (if 0≤h∧h<(6:Nat) then if h.toNat<6 then if 0≤h∧h<(6:Nat) then if h.toNat<6 then cond (decide ((List.getD a h.toNat 0)<(List.getD b h.toNat 0))) (c (-1:Int)) (if 0≤h∧h<(6:Nat) then if h.toNat<6 then if 0≤h∧h<(6:Nat) then if h.toNat<6 then cond (decide ((List.getD a h.toNat 0)>(List.getD b h.toNat 0))) (c (1:Int)) (e (IntKind.wrap .i64 (h-(1:Int)))) else none else none else none else none) else none else none else none else none) (d)
def g105l0{α:Type}(a b:List Int)(c:Int→Option α)(d:Option α):Nat→Int→Option α
 |0=>fun _=>none
 |m+1=>fun e=>g105l0b a b c d (g105l0 a b c d m) e
def g105l0M{α:Type}(m:Nat):S_g105l0 α:=
 fun a b c d e=>g105l0 a b c d m e
def g105l0D:LoopD:={n:=32,low:=[0,1],sl:=[0,1,5],bl:=[0,1],tp:=[(.vl (.sv (.ptr 0 0))),(.vl (.sv (.ptr 1 0))),tI],bp:=[(false,[(.seq uU 6)]),(false,[(.seq uU 6)])],xs:=[(1,[4]),(2,[])]}
def g105l0K{α:Type}(L:S_g105l0 α)(ls:List Lf)(k:KEx α):Option α:=
 L ((lf ls 1).lst uU) ((lf ls 2).lst uU)
  (fun a=>k .ret (mkSt 32 [4] [(.vl (.sv (.int .i64 a)))] [0,1] [(false,[(.seq uU 6 ((lf ls 1).lst uU))]),(false,[(.seq uU 6 ((lf ls 2).lst uU))])]))
  (k .normal (mkSt 32 [] [] [0,1] [(false,[(.seq uU 6 ((lf ls 1).lst uU))]),(false,[(.seq uU 6 ((lf ls 2).lst uU))])]))
  (lf ls 0).int
def g105b{α:Type}(L105l0:Al S_g105l0)(a b:List Int)(c:Int→Option α):Option α:=L105l0 a b (fun d=>c d) (c (0:Int)) (5:Int)
def g105{α:Type}(m:Nat):S_g105 α:=
 g105b (g105l0M m)
def g105tp:List TP:=[(.vl (.sv (.ptr 0 0))),(.vl (.sv (.ptr 1 0)))]
def g105bp:List BP:=[(false,[(.seq uU 6)]),(false,[(.seq uU 6)])]
def g105K{α:Type}(G:S_g105 α)(ls:List Lf)(k:KRe α):Option α:=
 G ((lf ls 0).lst uU) ((lf ls 1).lst uU)
  (fun a=>k (.vl (.sv (.int .i64 a))) [[(.seq uU 6 ((lf ls 0).lst uU))],[(.seq uU 6 ((lf ls 1).lst uU))]] [])
def g105R{α:Type}(G:S_g105 α):=rowK g105tp g105bp (g105K G)
def g105hd(L105l0:Al S_g105l0):Hd where
 call:=fun f args Bs k=>none
 loop:=fun id st k=>cond (Nat.beq id 0) (loopH g105l0D (g105l0K L105l0) st k) (none)
 ro:=fun f=>[]
def g105h(m:Nat):Hd:=g105hd (g105l0M m)
theorem g105l0Step(L105l0:Al S_g105l0){α:Type}(L:S_g105l0 α)(ls:List Lf)(k:KEx α):
  g105l0K (fun a b c d e=>g105l0b a b c d (L a b c d) e) ls k=ev tab (g105hd L105l0) (bodyAt Try.f105 0) (atHead g105l0D ls) (loopK g105l0D 0 (loopH g105l0D (g105l0K L)) k):=by kernel_rfl
theorem g105Main(L105l0:Al S_g105l0){α:Type}(ls:List Lf)(k:KRe α):
  g105K (g105b L105l0) ls k=evFun tab (g105hd L105l0) Try.f105 (fT g105tp ls) (fB g105tp g105bp ls) k:=by kernel_rfl
theorem g105Calls(m:Nat):(g105h m).CallsOk Try.prog:=cok_nil
theorem g105l0Ok(m:Nat)(α:Type)(st:St)(k:KEx α)(r:α)(h:(g105h m).loop 0 st k=some r):
  LoopS Try.prog 0 (bodyAt Try.f105 0) st k r:=
 lpk (F:=fun n ls k=>g105l0K (fun a b c d e=>g105l0 a b c d n e) ls k) (g105Calls m) (lb0 (by kernel_rfl))
  (fun _ _=>rfl) (fun n ls k=>g105l0Step (g105l0M m) (fun a b c d=>g105l0 a b c d n) ls k) (n:=m) h
theorem g105Ok(m:Nat):RowOk Try.prog 105 (fun{α}=>g105R (g105 m (α:=α))):=
 rwk (g105Calls m) (lo1 (by kernel_rfl) (g105l0Ok m))
  (fun _=>g105Main (g105l0M m))
abbrev S_g100(α:Type):Type:=(List Int)→(List Int)→((List Int)→(List Int)→Option α)→Option α
abbrev S_g100l2(α:Type):Type:=Int→Int→(List Int)→(List Int)→(List Int)→(List Int)→(List Int)→((List Int)→Option α)→Int→(List Int)→Option α
def g100l2b{α:Type}(a b:Int)(c d:List Int)(e h i:List Int)(j:(List Int)→Option α)(l:Int→(List Int)→Option α)(n:Int)(o:List Int):Option α:=cond (decide (n>(0:Int))) (if 0≤n∧n<(6:Nat) then if n.toNat<6 then let p:Int:=IntKind.wrap .i64 (n-(1:Int));if 0≤p∧p<(6:Nat) then if p.toNat<6 then if 0≤n∧n<(6:Nat) then if n.toNat<6 then l (IntKind.wrap .i64 (n-(1:Int))) (List.set o (n.toNat) (ibits .or .u32 (IntKind.wrap .u32 ((List.getD o n.toNat 0)*2^1)) (Int.fdiv (List.getD o p.toNat 0) (2^31)))) else none else none else none else none else none else none) (j o)
def g100l2{α:Type}(a b:Int)(c d:List Int)(e h i:List Int)(j:(List Int)→Option α):Nat→Int→(List Int)→Option α
 |0=>fun _ _=>none
 |m+1=>fun l n=>g100l2b a b c d e h i j (g100l2 a b c d e h i j m) l n
def g100l2M{α:Type}(m:Nat):S_g100l2 α:=
 fun a b c d e h i j l n=>g100l2 a b c d e h i j m l n
def g100l2D:LoopD:={n:=76,low:=[0,1],sl:=[0,1,4,5,6,7,8,9,10],bl:=[0,1,1000002,1000003,1000004,1000005],tp:=[(.vl (.sv (.ptr 0 0))),(.vl (.sv (.ptr 1 0))),(.vl (.sv (.ptr 1000002 0))),(.vl (.sv (.ptr 1000003 0))),(.vl (.sv (.ptr 1000004 0))),(.vl (.sv (.ptr 1000005 0))),tI,(.vl (.sv (.int .u32))),tI],bp:=[(false,[(.seq uU 6)]),(false,[(.seq uU 6)]),b6,b6,b6,b6],xs:=[(4,[0,1,4,5,6,7,8,9])]}
def g100l2K{α:Type}(L:S_g100l2 α)(ls:List Lf)(k:KEx α):Option α:=
 L (lf ls 0).int (lf ls 1).int ((lf ls 3).lst uU) ((lf ls 4).lst uU) ((lf ls 5).lst uU) ((lf ls 6).lst uU) ((lf ls 7).lst uU)
  (fun a=>k .normal (mkSt 76 [0,1,4,5,6,7,8,9] [(.vl (.sv (.ptr 0 0))),(.vl (.sv (.ptr 1 0))),(.vl (.sv (.ptr 1000002 0))),(.vl (.sv (.ptr 1000003 0))),(.vl (.sv (.ptr 1000004 0))),(.vl (.sv (.ptr 1000005 0))),(.vl (.sv (.int .i64 (lf ls 0).int))),(.vl (.sv (.int .u32 (lf ls 1).int)))] [0,1,1000002,1000003,1000004,1000005] [(false,[(.seq uU 6 ((lf ls 3).lst uU))]),(false,[(.seq uU 6 ((lf ls 4).lst uU))]),(true,[(.seq uU 6 ((lf ls 5).lst uU))]),(true,[(.seq uU 6 ((lf ls 6).lst uU))]),(true,[(.seq uU 6 ((lf ls 7).lst uU))]),(true,[(.seq uU 6 a)])]))
  (lf ls 2).int ((lf ls 8).lst uU)
abbrev S_g100l0(α:Type):Type:=(List Int)→(List Int)→(List Int)→(List Int)→((List Int)→(List Int)→Option α)→Int→(List Int)→(List Int)→Option α
def g100l0b{α:Type}(G102:Al S_g102)(G105:Al S_g105)(L100l2:Al S_g100l2)(a b:List Int)(c d:List Int)(e:(List Int)→(List Int)→Option α)(h:Int→(List Int)→(List Int)→Option α)(i:Int)(j l:List Int):Option α:=cond (decide (i≥(0:Int))) (let n:Int:=Int.fdiv (List.getD l 5 0) (2^31);L100l2 i n a b c d j (fun o=>let p:Int:=IntKind.wrap .i64 (Int.tdiv i (32:Int));if 0≤p∧p<(6:Nat) then if p.toNat<6 then let q:Int:=IntKind.wrap .u64 (Int.tmod i (32:Int));if q<0 then none else let r:List Int:=List.set o 0 (ibits .or .u32 (IntKind.wrap .u32 ((List.getD o 0 0)*2^1)) (ibits .and .u32 (Int.fdiv (List.getD a p.toNat 0) (2^(min q.toNat 32))) (1:Int)));cond (n==(1:Int)) (G102 r b (fun s=>let t:Int:=IntKind.wrap .i64 (Int.tdiv i (32:Int));if 0≤t∧t<(6:Nat) then if t.toNat<6 then let u:Int:=IntKind.wrap .u64 (Int.tmod i (32:Int));if u<0 then none else if 0≤t∧t<(6:Nat) then if t.toNat<6 then h (IntKind.wrap .i64 (i-(1:Int))) (List.set j (t.toNat) (ibits .or .u32 (List.getD j t.toNat 0) (IntKind.wrap .u32 ((1:Int)*2^(min u.toNat 32))))) s else none else none else none else none)) (G105 r b (fun v=>cond (decide (v≥(0:Int))) (G102 r b (fun w=>let x:Int:=IntKind.wrap .i64 (Int.tdiv i (32:Int));if 0≤x∧x<(6:Nat) then if x.toNat<6 then let y:Int:=IntKind.wrap .u64 (Int.tmod i (32:Int));if y<0 then none else if 0≤x∧x<(6:Nat) then if x.toNat<6 then h (IntKind.wrap .i64 (i-(1:Int))) (List.set j (x.toNat) (ibits .or .u32 (List.getD j x.toNat 0) (IntKind.wrap .u32 ((1:Int)*2^(min y.toNat 32))))) w else none else none else none else none)) (h (IntKind.wrap .i64 (i-(1:Int))) j r))) else none else none) (5:Int) l) (e j l)
def g100l0{α:Type}(G102:Al S_g102)(G105:Al S_g105)(L100l2:Al S_g100l2)(a b:List Int)(c d:List Int)(e:(List Int)→(List Int)→Option α):Nat→Int→(List Int)→(List Int)→Option α
 |0=>fun _ _ _=>none
 |m+1=>fun h i j=>g100l0b G102 G105 L100l2 a b c d e (g100l0 G102 G105 L100l2 a b c d e m) h i j
def g100l0M{α:Type}(m:Nat):S_g100l0 α:=
 fun a b c d e h i j=>g100l0 (g102 m) (g105 m) (g100l2M m) a b c d e m h i j
def g100l0D:LoopD:={n:=76,low:=[0,1],sl:=[0,1,4,5,6,7,8],bl:=[0,1,1000002,1000003,1000004,1000005],tp:=[(.vl (.sv (.ptr 0 0))),(.vl (.sv (.ptr 1 0))),(.vl (.sv (.ptr 1000002 0))),(.vl (.sv (.ptr 1000003 0))),(.vl (.sv (.ptr 1000004 0))),(.vl (.sv (.ptr 1000005 0))),tI],bp:=[(false,[(.seq uU 6)]),(false,[(.seq uU 6)]),b6,b6,b6,b6],xs:=[(2,[4,5,6,7])]}
def g100l0K{α:Type}(L:S_g100l0 α)(ls:List Lf)(k:KEx α):Option α:=
 L ((lf ls 1).lst uU) ((lf ls 2).lst uU) ((lf ls 3).lst uU) ((lf ls 4).lst uU)
  (fun a b=>k .normal (mkSt 76 [4,5,6,7] [(.vl (.sv (.ptr 1000002 0))),(.vl (.sv (.ptr 1000003 0))),(.vl (.sv (.ptr 1000004 0))),(.vl (.sv (.ptr 1000005 0)))] [0,1,1000002,1000003,1000004,1000005] [(false,[(.seq uU 6 ((lf ls 1).lst uU))]),(false,[(.seq uU 6 ((lf ls 2).lst uU))]),(true,[(.seq uU 6 ((lf ls 3).lst uU))]),(true,[(.seq uU 6 ((lf ls 4).lst uU))]),(true,[(.seq uU 6 a)]),(true,[(.seq uU 6 b)])]))
  (lf ls 0).int ((lf ls 5).lst uU) ((lf ls 6).lst uU)
def g100b{α:Type}(G116:Al S_g116)(G102:Al S_g102)(G105:Al S_g105)(L100l2:Al S_g100l2)(L100l0:Al S_g100l0)(a b:List Int)(c:(List Int)→(List Int)→Option α):Option α:=G116 a (fun d=>L100l0 a b [0,0,0,0,0,0] [0,0,0,0,0,0] (fun e h=>c e h) (IntKind.wrap .i64 (d-(1:Int))) [0,0,0,0,0,0] [0,0,0,0,0,0])
def g100{α:Type}(m:Nat):S_g100 α:=
 g100b (g116 m) (g102 m) (g105 m) (g100l2M m) (g100l0M m)
def g100tp:List TP:=[(.vl (.sv (.ptr 0 0))),(.vl (.sv (.ptr 1 0)))]
def g100bp:List BP:=[(false,[(.seq uU 6)]),(false,[(.seq uU 6)])]
def g100K{α:Type}(G:S_g100 α)(ls:List Lf)(k:KRe α):Option α:=
 G ((lf ls 0).lst uU) ((lf ls 1).lst uU)
  (fun a b=>k (.tup [(.agg [(.seq uU 6 a)]),(.agg [(.seq uU 6 b)])]) [[(.seq uU 6 ((lf ls 0).lst uU))],[(.seq uU 6 ((lf ls 1).lst uU))]] [])
def g100R{α:Type}(G:S_g100 α):=rowK g100tp g100bp (g100K G)
def g100hd(G116:Al S_g116)(G102:Al S_g102)(G105:Al S_g105)(L100l2:Al S_g100l2)(L100l0:Al S_g100l0):Hd where
 call:=fun f args Bs k=>cond (Nat.beq f 116) (g116R G116 args Bs k) (cond (Nat.beq f 102) (g102R G102 args Bs k) (cond (Nat.beq f 105) (g105R G105 args Bs k) (none)))
 loop:=fun id st k=>cond (Nat.beq id 2) (loopH g100l2D (g100l2K L100l2) st k) (cond (Nat.beq id 0) (loopH g100l0D (g100l0K L100l0) st k) (none))
 ro:=fun f=>cond (Nat.beq f 102) [0,1] (cond (Nat.beq f 105) [0,1] (cond (Nat.beq f 116) [0] ([])))
def g100h(m:Nat):Hd:=g100hd (g116 m) (g102 m) (g105 m) (g100l2M m) (g100l0M m)
theorem g100l2Step(G116:Al S_g116)(G102:Al S_g102)(G105:Al S_g105)(L100l2:Al S_g100l2)(L100l0:Al S_g100l0){α:Type}(L:S_g100l2 α)(ls:List Lf)(k:KEx α):
  g100l2K (fun a b c d e h i j l n=>g100l2b a b c d e h i j (L a b c d e h i j) l n) ls k=ev tab (g100hd G116 G102 G105 L100l2 L100l0) (bodyAt Try.f100 2) (atHead g100l2D ls) (loopK g100l2D 2 (loopH g100l2D (g100l2K L)) k):=by kernel_rfl
theorem g100l0Step(G116:Al S_g116)(G102:Al S_g102)(G105:Al S_g105)(L100l2:Al S_g100l2)(L100l0:Al S_g100l0){α:Type}(L:S_g100l0 α)(ls:List Lf)(k:KEx α):
  g100l0K (fun a b c d e h i j=>g100l0b G102 G105 L100l2 a b c d e (L a b c d e) h i j) ls k=ev tab (g100hd G116 G102 G105 L100l2 L100l0) (bodyAt Try.f100 0) (atHead g100l0D ls) (loopK g100l0D 0 (loopH g100l0D (g100l0K L)) k):=by kernel_rfl
theorem g100Main(G116:Al S_g116)(G102:Al S_g102)(G105:Al S_g105)(L100l2:Al S_g100l2)(L100l0:Al S_g100l0){α:Type}(ls:List Lf)(k:KRe α):
  g100K (g100b G116 G102 G105 L100l2 L100l0) ls k=evFun tab (g100hd G116 G102 G105 L100l2 L100l0) Try.f100 (fT g100tp ls) (fB g100tp g100bp ls) k:=by kernel_rfl
theorem g100Calls(m:Nat):(g100h m).CallsOk Try.prog:=(cok_cons (g116Ok m) (cok_cons (g102Ok m) (cok_cons (g105Ok m) cok_nil)))
theorem g100l2Ok(m:Nat)(α:Type)(st:St)(k:KEx α)(r:α)(h:(g100h m).loop 2 st k=some r):
  LoopS Try.prog 2 (bodyAt Try.f100 2) st k r:=
 lpk (F:=fun n ls k=>g100l2K (fun a b c d e i j l o q=>g100l2 a b c d e i j l n o q) ls k) (g100Calls m) (lb0 (by kernel_rfl))
  (fun _ _=>rfl) (fun n ls k=>g100l2Step (g116 m) (g102 m) (g105 m) (g100l2M m) (g100l0M m) (fun a b c d e i j l=>g100l2 a b c d e i j l n) ls k) (n:=m) h
theorem g100l0Ok(m:Nat)(α:Type)(st:St)(k:KEx α)(r:α)(h:(g100h m).loop 0 st k=some r):
  LoopS Try.prog 0 (bodyAt Try.f100 0) st k r:=
 lpk (F:=fun n ls k=>g100l0K (fun a b c d e i j l=>g100l0 (g102 m) (g105 m) (g100l2M m) a b c d e n i j l) ls k) (g100Calls m) (loopsOk_of _ (fun p hp=>by
  rw[show loopsOf (bodyAt Try.f100 0)=[(2,bodyAt Try.f100 2)] by kernel_rfl] at hp
  simp only[List.mem_cons,List.not_mem_nil,or_false] at hp
  rcases hp with rfl
  exact g100l2Ok m))
  (fun _ _=>rfl) (fun n ls k=>g100l0Step (g116 m) (g102 m) (g105 m) (g100l2M m) (g100l0M m) (fun a b c d e=>g100l0 (g102 m) (g105 m) (g100l2M m) a b c d e n) ls k) (n:=m) h
theorem g100Ok(m:Nat):RowOk Try.prog 100 (fun{α}=>g100R (g100 m (α:=α))):=
 rwk (g100Calls m) (lo1 (by kernel_rfl) (g100l0Ok m))
  (fun _=>g100Main (g116 m) (g102 m) (g105 m) (g100l2M m) (g100l0M m))
abbrev S_g101(α:Type):Type:=(List Int)→(List Int)→((List Int)→Bool→Option α)→Option α
abbrev S_g101l0(α:Type):Type:=(List Int)→(List Int)→(List Int)→(Int→(List Int)→Option α)→Int→Int→(List Int)→Option α
def g101l0b{α:Type}(a b c:List Int)(d:Int→(List Int)→Option α)(e:Int→Int→(List Int)→Option α)(h i:Int)(j:List Int):Option α:=cond (decide (i<(6:Int))) (if 0≤i∧i<(6:Nat) then if i.toNat<6 then if 0≤i∧i<(6:Nat) then if i.toNat<6 then let l:Int:=IntKind.wrap .u64 ((IntKind.wrap .u64 ((IntKind.wrap .u64 (List.getD a i.toNat 0))+(IntKind.wrap .u64 (List.getD b i.toNat 0))))+h);if 0≤i∧i<(6:Nat) then if i.toNat<6 then e (Int.fdiv l (2^32)) (IntKind.wrap .i64 (i+(1:Int))) (List.set j (i.toNat) (IntKind.wrap .u32 l)) else none else none else none else none else none else none) (d h j)
def g101l0{α:Type}(a b c:List Int)(d:Int→(List Int)→Option α):Nat→Int→Int→(List Int)→Option α
 |0=>fun _ _ _=>none
 |m+1=>fun e h i=>g101l0b a b c d (g101l0 a b c d m) e h i
def g101l0M{α:Type}(m:Nat):S_g101l0 α:=
 fun a b c d e h i=>g101l0 a b c d m e h i
def g101l0D:LoopD:={n:=39,low:=[0,1],sl:=[0,1,4,6,7,8],bl:=[0,1,1000002,1000003],tp:=[(.vl (.sv (.ptr 0 0))),(.vl (.sv (.ptr 1 0))),(.vl (.sv (.ptr 1000002 0))),(.vl (.sv (.ptr 1000003 0))),(.vl (.sv (.int .u64))),tI],bp:=[(false,[(.seq uU 6)]),(false,[(.seq uU 6)]),b6,b6],xs:=[(2,[4,6,7])]}
def g101l0K{α:Type}(L:S_g101l0 α)(ls:List Lf)(k:KEx α):Option α:=
 L ((lf ls 2).lst uU) ((lf ls 3).lst uU) ((lf ls 4).lst uU)
  (fun a b=>k .normal (mkSt 39 [4,6,7] [(.vl (.sv (.ptr 1000002 0))),(.vl (.sv (.ptr 1000003 0))),(.vl (.sv (.int .u64 a)))] [0,1,1000002,1000003] [(false,[(.seq uU 6 ((lf ls 2).lst uU))]),(false,[(.seq uU 6 ((lf ls 3).lst uU))]),(true,[(.seq uU 6 ((lf ls 4).lst uU))]),(true,[(.seq uU 6 b)])]))
  (lf ls 0).int (lf ls 1).int ((lf ls 5).lst uU)
def g101b{α:Type}(L101l0:Al S_g101l0)(a b:List Int)(c:(List Int)→Bool→Option α):Option α:=L101l0 a b [0,0,0,0,0,0] (fun d e=>c e (d==(0:Int))) (0:Int) (0:Int) [0,0,0,0,0,0]
def g101{α:Type}(m:Nat):S_g101 α:=
 g101b (g101l0M m)
def g101tp:List TP:=[(.vl (.sv (.ptr 0 0))),(.vl (.sv (.ptr 1 0)))]
def g101bp:List BP:=[(false,[(.seq uU 6)]),(false,[(.seq uU 6)])]
def g101K{α:Type}(G:S_g101 α)(ls:List Lf)(k:KRe α):Option α:=
 G ((lf ls 0).lst uU) ((lf ls 1).lst uU)
  (fun a b=>k (.tup [(.agg [(.seq uU 6 a)]),(.sv (.bool b))]) [[(.seq uU 6 ((lf ls 0).lst uU))],[(.seq uU 6 ((lf ls 1).lst uU))]] [])
def g101R{α:Type}(G:S_g101 α):=rowK g101tp g101bp (g101K G)
def g101hd(L101l0:Al S_g101l0):Hd where
 call:=fun f args Bs k=>none
 loop:=fun id st k=>cond (Nat.beq id 0) (loopH g101l0D (g101l0K L101l0) st k) (none)
 ro:=fun f=>[]
def g101h(m:Nat):Hd:=g101hd (g101l0M m)
theorem g101l0Step(L101l0:Al S_g101l0){α:Type}(L:S_g101l0 α)(ls:List Lf)(k:KEx α):
  g101l0K (fun a b c d e h i=>g101l0b a b c d (L a b c d) e h i) ls k=ev tab (g101hd L101l0) (bodyAt Try.f101 0) (atHead g101l0D ls) (loopK g101l0D 0 (loopH g101l0D (g101l0K L)) k):=by kernel_rfl
theorem g101Main(L101l0:Al S_g101l0){α:Type}(ls:List Lf)(k:KRe α):
  g101K (g101b L101l0) ls k=evFun tab (g101hd L101l0) Try.f101 (fT g101tp ls) (fB g101tp g101bp ls) k:=by kernel_rfl
theorem g101Calls(m:Nat):(g101h m).CallsOk Try.prog:=cok_nil
theorem g101l0Ok(m:Nat)(α:Type)(st:St)(k:KEx α)(r:α)(h:(g101h m).loop 0 st k=some r):
  LoopS Try.prog 0 (bodyAt Try.f101 0) st k r:=
 lpk (F:=fun n ls k=>g101l0K (fun a b c d e i j=>g101l0 a b c d n e i j) ls k) (g101Calls m) (lb0 (by kernel_rfl))
  (fun _ _=>rfl) (fun n ls k=>g101l0Step (g101l0M m) (fun a b c d=>g101l0 a b c d n) ls k) (n:=m) h
theorem g101Ok(m:Nat):RowOk Try.prog 101 (fun{α}=>g101R (g101 m (α:=α))):=
 rwk (g101Calls m) (lo1 (by kernel_rfl) (g101l0Ok m))
  (fun _=>g101Main (g101l0M m))
abbrev S_g60(α:Type):Type:=Bool→(List Int)→Bool→(List Int)→(Bool→(List Int)→Bool→(List Int)→Option α)→Option α
def g60b{α:Type}(G100:Al S_g100)(G95:Al S_g95)(G101:Al S_g101)(G102:Al S_g102)(G52:Al S_g52)(a:Bool)(b:List Int)(c:Bool)(d:List Int)(e:Bool→(List Int)→Bool→(List Int)→Option α):Option α:=G100 b d (fun h i=>cond (!(a==c)) (G95 i (fun j=>cond (!j) (G101 h [(1:Int),0,0,0,0,0] (fun l n=>G102 d i (fun o=>G52 (!(a==c)) l (fun p=>G52 c o (fun q=>e p l q o))))) (G52 (!(a==c)) h (fun r=>G52 c i (fun s=>e r h s i))))) (G52 (!(a==c)) h (fun t=>G52 c i (fun u=>e t h u i))))
def g60{α:Type}(m:Nat):S_g60 α:=
 g60b (g100 m) (g95 m) (g101 m) (g102 m) (g52 m)
def g60tp:List TP:=[vW,vW]
def g60bp:List BP:=[]
def g60K{α:Type}(G:S_g60 α)(ls:List Lf)(k:KRe α):Option α:=
 G (lf ls 0).bool ((lf ls 1).lst uU) (lf ls 2).bool ((lf ls 3).lst uU)
  (fun a b c d=>k (.tup [(.agg [(.one (.bool a)),(.seq uU 6 b)]),(.agg [(.one (.bool c)),(.seq uU 6 d)])]) [] [])
def g60R{α:Type}(G:S_g60 α):=rowK g60tp g60bp (g60K G)
def g60hd(G100:Al S_g100)(G95:Al S_g95)(G101:Al S_g101)(G102:Al S_g102)(G52:Al S_g52):Hd where
 call:=fun f args Bs k=>cond (Nat.beq f 100) (g100R G100 args Bs k) (cond (Nat.beq f 95) (g95R G95 args Bs k) (cond (Nat.beq f 101) (g101R G101 args Bs k) (cond (Nat.beq f 102) (g102R G102 args Bs k) (cond (Nat.beq f 52) (g52R G52 args Bs k) (none)))))
 loop:=fun id st k=>none
 ro:=fun f=>cond (Nat.beq f 95) [0] (cond (Nat.beq f 100) [0,1] (cond (Nat.beq f 101) [0,1] (cond (Nat.beq f 102) [0,1] ([]))))
def g60h(m:Nat):Hd:=g60hd (g100 m) (g95 m) (g101 m) (g102 m) (g52 m)
theorem g60Main(G100:Al S_g100)(G95:Al S_g95)(G101:Al S_g101)(G102:Al S_g102)(G52:Al S_g52){α:Type}(ls:List Lf)(k:KRe α):
  g60K (g60b G100 G95 G101 G102 G52) ls k=evFun tab (g60hd G100 G95 G101 G102 G52) Try.f60 (fT g60tp ls) (fB g60tp g60bp ls) k:=by kernel_rfl
theorem g60Calls(m:Nat):(g60h m).CallsOk Try.prog:=(cok_cons (g100Ok m) (cok_cons (g95Ok m) (cok_cons (g101Ok m) (cok_cons (g102Ok m) (cok_cons (g52Ok m) cok_nil)))))
theorem g60Ok(m:Nat):RowOk Try.prog 60 (fun{α}=>g60R (g60 m (α:=α))):=
 rwk (g60Calls m) (lo0 (by kernel_rfl))
  (fun _=>g60Main (g100 m) (g95 m) (g101 m) (g102 m) (g52 m))
abbrev S_g65(α:Type):Type:=Bool→(List Int)→Bool→(List Int)→(Bool→(List Int)→Int→Option α)→Option α
def g65b{α:Type}(G101:Al S_g101)(G52:Al S_g52)(G105:Al S_g105)(G102:Al S_g102)(a:Bool)(b:List Int)(c:Bool)(d:List Int)(e:Bool→(List Int)→Int→Option α):Option α:=cond (a==c) (G101 b d (fun h i=>cond (!i) (e false [0,0,0,0,0,0] (3:Int)) (G52 a h (fun j=>e j h (0:Int))))) (G105 b d (fun l=>cond (decide (l≥(0:Int))) (G102 b d (fun n=>G52 a n (fun o=>e o n (0:Int)))) (G102 d b (fun p=>G52 c p (fun q=>e q p (0:Int))))))
def g65{α:Type}(m:Nat):S_g65 α:=
 g65b (g101 m) (g52 m) (g105 m) (g102 m)
def g65tp:List TP:=[vW,vW]
def g65bp:List BP:=[]
def g65K{α:Type}(G:S_g65 α)(ls:List Lf)(k:KRe α):Option α:=
 G (lf ls 0).bool ((lf ls 1).lst uU) (lf ls 2).bool ((lf ls 3).lst uU)
  (fun a b c=>k (.tup [(.agg [(.one (.bool a)),(.seq uU 6 b)]),(.sv (.int .i64 c))]) [] [])
def g65R{α:Type}(G:S_g65 α):=rowK g65tp g65bp (g65K G)
def g65hd(G101:Al S_g101)(G52:Al S_g52)(G105:Al S_g105)(G102:Al S_g102):Hd where
 call:=fun f args Bs k=>cond (Nat.beq f 101) (g101R G101 args Bs k) (cond (Nat.beq f 52) (g52R G52 args Bs k) (cond (Nat.beq f 105) (g105R G105 args Bs k) (cond (Nat.beq f 102) (g102R G102 args Bs k) (none))))
 loop:=fun id st k=>none
 ro:=fun f=>cond (Nat.beq f 101) [0,1] (cond (Nat.beq f 102) [0,1] (cond (Nat.beq f 105) [0,1] ([])))
def g65h(m:Nat):Hd:=g65hd (g101 m) (g52 m) (g105 m) (g102 m)
theorem g65Main(G101:Al S_g101)(G52:Al S_g52)(G105:Al S_g105)(G102:Al S_g102){α:Type}(ls:List Lf)(k:KRe α):
  g65K (g65b G101 G52 G105 G102) ls k=evFun tab (g65hd G101 G52 G105 G102) Try.f65 (fT g65tp ls) (fB g65tp g65bp ls) k:=by kernel_rfl
theorem g65Calls(m:Nat):(g65h m).CallsOk Try.prog:=(cok_cons (g101Ok m) (cok_cons (g52Ok m) (cok_cons (g105Ok m) (cok_cons (g102Ok m) cok_nil))))
theorem g65Ok(m:Nat):RowOk Try.prog 65 (fun{α}=>g65R (g65 m (α:=α))):=
 rwk (g65Calls m) (lo0 (by kernel_rfl))
  (fun _=>g65Main (g101 m) (g52 m) (g105 m) (g102 m))
abbrev S_g71(α:Type):Type:=Bool→(List Int)→Bool→(List Int)→(Bool→(List Int)→Option α)→Option α
def g71b{α:Type}(G60:Al S_g60)(G102:Al S_g102)(G105:Al S_g105)(G110:Al S_g110)(G65:Al S_g65)(a:Bool)(b:List Int)(c:Bool)(d:List Int)(e:Bool→(List Int)→Option α):Option α:=G60 a b c d (fun h i j l=>G102 d l (fun n=>G105 l n (fun o=>cond (decide (o≥(0:Int))) (G110 (1:Int) (fun p q=>G65 h i p q (fun r s t=>e r s))) (e h i))))
def g71{α:Type}(m:Nat):S_g71 α:=
 g71b (g60 m) (g102 m) (g105 m) (g110 m) (g65 m)
def g71tp:List TP:=[vW,vW]
def g71bp:List BP:=[]
def g71K{α:Type}(G:S_g71 α)(ls:List Lf)(k:KRe α):Option α:=
 G (lf ls 0).bool ((lf ls 1).lst uU) (lf ls 2).bool ((lf ls 3).lst uU)
  (fun a b=>k (.vl (.agg [(.one (.bool a)),(.seq uU 6 b)])) [] [])
def g71R{α:Type}(G:S_g71 α):=rowK g71tp g71bp (g71K G)
def g71hd(G60:Al S_g60)(G102:Al S_g102)(G105:Al S_g105)(G110:Al S_g110)(G65:Al S_g65):Hd where
 call:=fun f args Bs k=>cond (Nat.beq f 60) (g60R G60 args Bs k) (cond (Nat.beq f 102) (g102R G102 args Bs k) (cond (Nat.beq f 105) (g105R G105 args Bs k) (cond (Nat.beq f 110) (g110R G110 args Bs k) (cond (Nat.beq f 65) (g65R G65 args Bs k) (none)))))
 loop:=fun id st k=>none
 ro:=fun f=>cond (Nat.beq f 102) [0,1] (cond (Nat.beq f 105) [0,1] ([]))
def g71h(m:Nat):Hd:=g71hd (g60 m) (g102 m) (g105 m) (g110 m) (g65 m)
theorem g71Main(G60:Al S_g60)(G102:Al S_g102)(G105:Al S_g105)(G110:Al S_g110)(G65:Al S_g65){α:Type}(ls:List Lf)(k:KRe α):
  g71K (g71b G60 G102 G105 G110 G65) ls k=evFun tab (g71hd G60 G102 G105 G110 G65) Try.f71 (fT g71tp ls) (fB g71tp g71bp ls) k:=by kernel_rfl
theorem g71Calls(m:Nat):(g71h m).CallsOk Try.prog:=(cok_cons (g60Ok m) (cok_cons (g102Ok m) (cok_cons (g105Ok m) (cok_cons (g110Ok m) (cok_cons (g65Ok m) cok_nil)))))
theorem g71Ok(m:Nat):RowOk Try.prog 71 (fun{α}=>g71R (g71 m (α:=α))):=
 rwk (g71Calls m) (lo0 (by kernel_rfl))
  (fun _=>g71Main (g60 m) (g102 m) (g105 m) (g110 m) (g65 m))
abbrev S_g66(α:Type):Type:=Bool→(List Int)→Bool→(List Int)→(Int→Option α)→Option α
def g66b{α:Type}(G105:Al S_g105)(a:Bool)(b:List Int)(c:Bool)(d:List Int)(e:Int→Option α):Option α:=cond a (cond (!c) (e (-1:Int)) (cond (!a) (cond c (e (1:Int)) (cond a (G105 d b (fun h=>e h)) (G105 b d (fun i=>e i)))) (cond a (G105 d b (fun j=>e j)) (G105 b d (fun l=>e l))))) (cond (!a) (cond c (e (1:Int)) (cond a (G105 d b (fun n=>e n)) (G105 b d (fun o=>e o)))) (cond a (G105 d b (fun p=>e p)) (G105 b d (fun q=>e q))))
def g66{α:Type}(m:Nat):S_g66 α:=
 g66b (g105 m)
def g66tp:List TP:=[(.vl (.sv (.ptr 0 0))),(.vl (.sv (.ptr 1 0)))]
def g66bp:List BP:=[(false,[(.one .bool),(.seq uU 6)]),(false,[(.one .bool),(.seq uU 6)])]
def g66K{α:Type}(G:S_g66 α)(ls:List Lf)(k:KRe α):Option α:=
 G (lf ls 0).bool ((lf ls 1).lst uU) (lf ls 2).bool ((lf ls 3).lst uU)
  (fun a=>k (.vl (.sv (.int .i64 a))) [[(.one (.bool (lf ls 0).bool)),(.seq uU 6 ((lf ls 1).lst uU))],[(.one (.bool (lf ls 2).bool)),(.seq uU 6 ((lf ls 3).lst uU))]] [])
def g66R{α:Type}(G:S_g66 α):=rowK g66tp g66bp (g66K G)
def g66hd(G105:Al S_g105):Hd where
 call:=fun f args Bs k=>cond (Nat.beq f 105) (g105R G105 args Bs k) (none)
 loop:=fun id st k=>none
 ro:=fun f=>cond (Nat.beq f 105) [0,1] ([])
def g66h(m:Nat):Hd:=g66hd (g105 m)
theorem g66Main(G105:Al S_g105){α:Type}(ls:List Lf)(k:KRe α):
  g66K (g66b G105) ls k=evFun tab (g66hd G105) Try.f66 (fT g66tp ls) (fB g66tp g66bp ls) k:=by kernel_rfl
theorem g66Calls(m:Nat):(g66h m).CallsOk Try.prog:=(cok_cons (g105Ok m) cok_nil)
theorem g66Ok(m:Nat):RowOk Try.prog 66 (fun{α}=>g66R (g66 m (α:=α))):=
 rwk (g66Calls m) (lo0 (by kernel_rfl))
  (fun _=>g66Main (g105 m))
abbrev S_g121(α:Type):Type:=Bool→(List Int)→(Bool→Option α)→Option α
def g121b{α:Type}(G52:Al S_g52)(a:Bool)(b:List Int)(c:Bool→Option α):Option α:=G52 (!a) b (fun d=>c d)
def g121{α:Type}(m:Nat):S_g121 α:=
 g121b (g52 m)
def g121tp:List TP:=[vW]
def g121bp:List BP:=[]
def g121K{α:Type}(G:S_g121 α)(ls:List Lf)(k:KRe α):Option α:=
 G (lf ls 0).bool ((lf ls 1).lst uU)
  (fun a=>k (.vl (.agg [(.one (.bool a)),(.seq uU 6 ((lf ls 1).lst uU))])) [] [])
def g121R{α:Type}(G:S_g121 α):=rowK g121tp g121bp (g121K G)
def g121hd(G52:Al S_g52):Hd where
 call:=fun f args Bs k=>cond (Nat.beq f 52) (g52R G52 args Bs k) (none)
 loop:=fun id st k=>none
 ro:=fun f=>[]
def g121h(m:Nat):Hd:=g121hd (g52 m)
theorem g121Main(G52:Al S_g52){α:Type}(ls:List Lf)(k:KRe α):
  g121K (g121b G52) ls k=evFun tab (g121hd G52) Try.f121 (fT g121tp ls) (fB g121tp g121bp ls) k:=by kernel_rfl
theorem g121Calls(m:Nat):(g121h m).CallsOk Try.prog:=(cok_cons (g52Ok m) cok_nil)
theorem g121Ok(m:Nat):RowOk Try.prog 121 (fun{α}=>g121R (g121 m (α:=α))):=
 rwk (g121Calls m) (lo0 (by kernel_rfl))
  (fun _=>g121Main (g52 m))
abbrev S_g145(α:Type):Type:=Bool→(List Int)→Bool→(List Int)→(Bool→(List Int)→Int→Option α)→Option α
abbrev S_g145l2(α:Type):Type:=Int→Bool→(List Int)→Bool→(List Int)→Bool→(List Int)→(Int→(List Int)→Option α)→Int→Int→(List Int)→Option α
def g145l2b{α:Type}(a:Int)(b:Bool)(c:List Int)(d:Bool)(e:List Int)(h:Bool)(i:List Int)(j:Int→(List Int)→Option α)(l:Int→Int→(List Int)→Option α)(n o:Int)(p:List Int):Option α:=cond (decide (o<(6:Int))) (if 0≤a∧a<(6:Nat) then if a.toNat<6 then if 0≤o∧o<(6:Nat) then if o.toNat<6 then let q:Int:=IntKind.wrap .i64 (a+o);if 0≤q∧q<(12:Nat) then if q.toNat<12 then let r:Int:=IntKind.wrap .u64 ((IntKind.wrap .u64 ((IntKind.wrap .u64 ((IntKind.wrap .u64 (List.getD c a.toNat 0))*(IntKind.wrap .u64 (List.getD e o.toNat 0))))+(IntKind.wrap .u64 (List.getD p q.toNat 0))))+n);let s:Int:=IntKind.wrap .i64 (a+o);if 0≤s∧s<(12:Nat) then if s.toNat<12 then l (Int.fdiv r (2^32)) (IntKind.wrap .i64 (o+(1:Int))) (List.set p (s.toNat) (IntKind.wrap .u32 r)) else none else none else none else none else none else none else none else none) (j n p)
def g145l2{α:Type}(a:Int)(b:Bool)(c:List Int)(d:Bool)(e:List Int)(h:Bool)(i:List Int)(j:Int→(List Int)→Option α):Nat→Int→Int→(List Int)→Option α
 |0=>fun _ _ _=>none
 |m+1=>fun l n o=>g145l2b a b c d e h i j (g145l2 a b c d e h i j m) l n o
def g145l2M{α:Type}(m:Nat):S_g145l2 α:=
 fun a b c d e h i j l n o=>g145l2 a b c d e h i j m l n o
def g145l2D:LoopD:={n:=78,low:=[],sl:=[2,3,4,6,7,8,9],bl:=[1000000,1000001,1000002,1000003],tp:=[(.vl (.sv (.ptr 1000000 0))),(.vl (.sv (.ptr 1000001 0))),(.vl (.sv (.ptr 1000002 0))),(.vl (.sv (.ptr 1000003 0))),tI,(.vl (.sv (.int .u64))),tI],bp:=[(true,[(.one .bool),(.seq uU 6)]),(true,[(.one .bool),(.seq uU 6)]),(true,[(.one .bool),(.seq uU 6)]),(true,[(.seq uU 12)])],xs:=[(4,[2,3,4,6,7,8])]}
def g145l2K{α:Type}(L:S_g145l2 α)(ls:List Lf)(k:KEx α):Option α:=
 L (lf ls 0).int (lf ls 3).bool ((lf ls 4).lst uU) (lf ls 5).bool ((lf ls 6).lst uU) (lf ls 7).bool ((lf ls 8).lst uU)
  (fun a b=>k .normal (mkSt 78 [2,3,4,6,7,8] [(.vl (.sv (.ptr 1000000 0))),(.vl (.sv (.ptr 1000001 0))),(.vl (.sv (.ptr 1000002 0))),(.vl (.sv (.ptr 1000003 0))),(.vl (.sv (.int .i64 (lf ls 0).int))),(.vl (.sv (.int .u64 a)))] [1000000,1000001,1000002,1000003] [(true,[(.one (.bool (lf ls 3).bool)),(.seq uU 6 ((lf ls 4).lst uU))]),(true,[(.one (.bool (lf ls 5).bool)),(.seq uU 6 ((lf ls 6).lst uU))]),(true,[(.one (.bool (lf ls 7).bool)),(.seq uU 6 ((lf ls 8).lst uU))]),(true,[(.seq uU 12 b)])]))
  (lf ls 1).int (lf ls 2).int ((lf ls 9).lst uU)
abbrev S_g145l0(α:Type):Type:=Bool→(List Int)→Bool→(List Int)→Bool→(List Int)→((List Int)→Option α)→Int→(List Int)→Option α
def g145l0b{α:Type}(L145l2:Al S_g145l2)(a:Bool)(b:List Int)(c:Bool)(d:List Int)(e:Bool)(h:List Int)(i:(List Int)→Option α)(j:Int→(List Int)→Option α)(l:Int)(n:List Int):Option α:=cond (decide (l<(6:Int))) (L145l2 l a b c d e h (fun o p=>let q:Int:=IntKind.wrap .i64 (l+(6:Int));if 0≤q∧q<(12:Nat) then if q.toNat<12 then j (IntKind.wrap .i64 (l+(1:Int))) (List.set p (q.toNat) (IntKind.wrap .u32 o)) else none else none) (0:Int) (0:Int) n) (i n)
def g145l0{α:Type}(L145l2:Al S_g145l2)(a:Bool)(b:List Int)(c:Bool)(d:List Int)(e:Bool)(h:List Int)(i:(List Int)→Option α):Nat→Int→(List Int)→Option α
 |0=>fun _ _=>none
 |m+1=>fun j l=>g145l0b L145l2 a b c d e h i (g145l0 L145l2 a b c d e h i m) j l
def g145l0M{α:Type}(m:Nat):S_g145l0 α:=
 fun a b c d e h i j l=>g145l0 (g145l2M m) a b c d e h i m j l
def g145l0D:LoopD:={n:=78,low:=[],sl:=[2,3,4,6,7],bl:=[1000000,1000001,1000002,1000003],tp:=[(.vl (.sv (.ptr 1000000 0))),(.vl (.sv (.ptr 1000001 0))),(.vl (.sv (.ptr 1000002 0))),(.vl (.sv (.ptr 1000003 0))),tI],bp:=[(true,[(.one .bool),(.seq uU 6)]),(true,[(.one .bool),(.seq uU 6)]),(true,[(.one .bool),(.seq uU 6)]),(true,[(.seq uU 12)])],xs:=[(2,[2,3,4,6])]}
def g145l0K{α:Type}(L:S_g145l0 α)(ls:List Lf)(k:KEx α):Option α:=
 L (lf ls 1).bool ((lf ls 2).lst uU) (lf ls 3).bool ((lf ls 4).lst uU) (lf ls 5).bool ((lf ls 6).lst uU)
  (fun a=>k .normal (mkSt 78 [2,3,4,6] [(.vl (.sv (.ptr 1000000 0))),(.vl (.sv (.ptr 1000001 0))),(.vl (.sv (.ptr 1000002 0))),(.vl (.sv (.ptr 1000003 0)))] [1000000,1000001,1000002,1000003] [(true,[(.one (.bool (lf ls 1).bool)),(.seq uU 6 ((lf ls 2).lst uU))]),(true,[(.one (.bool (lf ls 3).bool)),(.seq uU 6 ((lf ls 4).lst uU))]),(true,[(.one (.bool (lf ls 5).bool)),(.seq uU 6 ((lf ls 6).lst uU))]),(true,[(.seq uU 12 a)])]))
  (lf ls 0).int ((lf ls 7).lst uU)
abbrev S_g145l4(α:Type):Type:=Bool→(List Int)→Bool→(List Int)→Bool→(List Int)→(List Int)→((List Int)→Option α)→((List Int)→Option α)→Int→(List Int)→Option α
def g145l4b{α:Type}(a:Bool)(b:List Int)(c:Bool)(d:List Int)(e:Bool)(h i:List Int)(j:(List Int)→Option α)(l:(List Int)→Option α)(n:Int→(List Int)→Option α)(o:Int)(p:List Int):Option α:=cond (decide (o<(6:Int))) (if 0≤o∧o<(12:Nat) then if o.toNat<12 then if 0≤o∧o<(6:Nat) then if o.toNat<6 then let q:Int:=IntKind.wrap .i64 (o+(6:Int));if 0≤q∧q<(12:Nat) then if q.toNat<12 then cond ((List.getD i q.toNat 0) !=(0:Int)) (j [0,0,0,0,0,0]) (n (IntKind.wrap .i64 (o+(1:Int))) (List.set p (o.toNat) (List.getD i o.toNat 0))) else none else none else none else none else none else none) (l p)
def g145l4{α:Type}(a:Bool)(b:List Int)(c:Bool)(d:List Int)(e:Bool)(h i:List Int)(j:(List Int)→Option α)(l:(List Int)→Option α):Nat→Int→(List Int)→Option α
 |0=>fun _ _=>none
 |m+1=>fun n o=>g145l4b a b c d e h i j l (g145l4 a b c d e h i j l m) n o
def g145l4M{α:Type}(m:Nat):S_g145l4 α:=
 fun a b c d e h i j l n o=>g145l4 a b c d e h i j l m n o
def g145l4D:LoopD:={n:=78,low:=[],sl:=[2,3,4,6,11,12],bl:=[1000000,1000001,1000002,1000003,1000004],tp:=[(.vl (.sv (.ptr 1000000 0))),(.vl (.sv (.ptr 1000001 0))),(.vl (.sv (.ptr 1000002 0))),(.vl (.sv (.ptr 1000003 0))),(.vl (.sv (.ptr 1000004 0))),tI],bp:=[(true,[(.one .bool),(.seq uU 6)]),(true,[(.one .bool),(.seq uU 6)]),(true,[(.one .bool),(.seq uU 6)]),(true,[(.seq uU 12)]),b6],xs:=[(1,[4,5]),(6,[2,3,4,11])]}
def g145l4K{α:Type}(L:S_g145l4 α)(ls:List Lf)(k:KEx α):Option α:=
 L (lf ls 1).bool ((lf ls 2).lst uU) (lf ls 3).bool ((lf ls 4).lst uU) (lf ls 5).bool ((lf ls 6).lst uU) ((lf ls 7).lst uU)
  (fun a=>k .ret (mkSt 78 [4,5] [(.vl (.sv (.ptr 1000000 0))),(.vl (.sv (.int .i64 (3:Int))))] [1000000] [(true,[(.one (.bool false)),(.seq uU 6 a)])]))
  (fun b=>k .normal (mkSt 78 [2,3,4,11] [(.vl (.sv (.ptr 1000000 0))),(.vl (.sv (.ptr 1000001 0))),(.vl (.sv (.ptr 1000002 0))),(.vl (.sv (.ptr 1000003 0)))] [1000000,1000001,1000002,1000003] [(true,[(.one (.bool (lf ls 1).bool)),(.seq uU 6 ((lf ls 2).lst uU))]),(true,[(.one (.bool (lf ls 3).bool)),(.seq uU 6 ((lf ls 4).lst uU))]),(true,[(.one (.bool (lf ls 5).bool)),(.seq uU 6 ((lf ls 6).lst uU))]),(true,[(.seq uU 6 b)])]))
  (lf ls 0).int ((lf ls 8).lst uU)
def g145b{α:Type}(G52:Al S_g52)(L145l2:Al S_g145l2)(L145l0:Al S_g145l0)(L145l4:Al S_g145l4)(a:Bool)(b:List Int)(c:Bool)(d:List Int)(e:Bool→(List Int)→Int→Option α):Option α:=L145l0 a b c d false [0,0,0,0,0,0] (fun h=>L145l4 a b c d false [0,0,0,0,0,0] h (fun i=>e false i (3:Int)) (fun j=>G52 (!(a==c)) j (fun l=>e l j (0:Int))) (0:Int) [0,0,0,0,0,0]) (0:Int) [0,0,0,0,0,0,0,0,0,0,0,0]
def g145{α:Type}(m:Nat):S_g145 α:=
 g145b (g52 m) (g145l2M m) (g145l0M m) (g145l4M m)
def g145tp:List TP:=[vW,vW]
def g145bp:List BP:=[]
def g145K{α:Type}(G:S_g145 α)(ls:List Lf)(k:KRe α):Option α:=
 G (lf ls 0).bool ((lf ls 1).lst uU) (lf ls 2).bool ((lf ls 3).lst uU)
  (fun a b c=>k (.tup [(.agg [(.one (.bool a)),(.seq uU 6 b)]),(.sv (.int .i64 c))]) [] [])
def g145R{α:Type}(G:S_g145 α):=rowK g145tp g145bp (g145K G)
def g145hd(G52:Al S_g52)(L145l2:Al S_g145l2)(L145l0:Al S_g145l0)(L145l4:Al S_g145l4):Hd where
 call:=fun f args Bs k=>cond (Nat.beq f 52) (g52R G52 args Bs k) (none)
 loop:=fun id st k=>cond (Nat.beq id 2) (loopH g145l2D (g145l2K L145l2) st k) (cond (Nat.beq id 0) (loopH g145l0D (g145l0K L145l0) st k) (cond (Nat.beq id 4) (loopH g145l4D (g145l4K L145l4) st k) (none)))
 ro:=fun f=>[]
def g145h(m:Nat):Hd:=g145hd (g52 m) (g145l2M m) (g145l0M m) (g145l4M m)
theorem g145l2Step(G52:Al S_g52)(L145l2:Al S_g145l2)(L145l0:Al S_g145l0)(L145l4:Al S_g145l4){α:Type}(L:S_g145l2 α)(ls:List Lf)(k:KEx α):
  g145l2K (fun a b c d e h i j l n o=>g145l2b a b c d e h i j (L a b c d e h i j) l n o) ls k=ev tab (g145hd G52 L145l2 L145l0 L145l4) (bodyAt Try.f145 2) (atHead g145l2D ls) (loopK g145l2D 2 (loopH g145l2D (g145l2K L)) k):=by kernel_rfl
theorem g145l0Step(G52:Al S_g52)(L145l2:Al S_g145l2)(L145l0:Al S_g145l0)(L145l4:Al S_g145l4){α:Type}(L:S_g145l0 α)(ls:List Lf)(k:KEx α):
  g145l0K (fun a b c d e h i j l=>g145l0b L145l2 a b c d e h i (L a b c d e h i) j l) ls k=ev tab (g145hd G52 L145l2 L145l0 L145l4) (bodyAt Try.f145 0) (atHead g145l0D ls) (loopK g145l0D 0 (loopH g145l0D (g145l0K L)) k):=by kernel_rfl
theorem g145l4Step(G52:Al S_g52)(L145l2:Al S_g145l2)(L145l0:Al S_g145l0)(L145l4:Al S_g145l4){α:Type}(L:S_g145l4 α)(ls:List Lf)(k:KEx α):
  g145l4K (fun a b c d e h i j l n o=>g145l4b a b c d e h i j l (L a b c d e h i j l) n o) ls k=ev tab (g145hd G52 L145l2 L145l0 L145l4) (bodyAt Try.f145 4) (atHead g145l4D ls) (loopK g145l4D 4 (loopH g145l4D (g145l4K L)) k):=by kernel_rfl
theorem g145Main(G52:Al S_g52)(L145l2:Al S_g145l2)(L145l0:Al S_g145l0)(L145l4:Al S_g145l4){α:Type}(ls:List Lf)(k:KRe α):
  g145K (g145b G52 L145l2 L145l0 L145l4) ls k=evFun tab (g145hd G52 L145l2 L145l0 L145l4) Try.f145 (fT g145tp ls) (fB g145tp g145bp ls) k:=by kernel_rfl
theorem g145Calls(m:Nat):(g145h m).CallsOk Try.prog:=(cok_cons (g52Ok m) cok_nil)
theorem g145l2Ok(m:Nat)(α:Type)(st:St)(k:KEx α)(r:α)(h:(g145h m).loop 2 st k=some r):
  LoopS Try.prog 2 (bodyAt Try.f145 2) st k r:=
 lpk (F:=fun n ls k=>g145l2K (fun a b c d e i j l o q s=>g145l2 a b c d e i j l n o q s) ls k) (g145Calls m) (lb0 (by kernel_rfl))
  (fun _ _=>rfl) (fun n ls k=>g145l2Step (g52 m) (g145l2M m) (g145l0M m) (g145l4M m) (fun a b c d e i j l=>g145l2 a b c d e i j l n) ls k) (n:=m) h
theorem g145l0Ok(m:Nat)(α:Type)(st:St)(k:KEx α)(r:α)(h:(g145h m).loop 0 st k=some r):
  LoopS Try.prog 0 (bodyAt Try.f145 0) st k r:=
 lpk (F:=fun n ls k=>g145l0K (fun a b c d e i j l o=>g145l0 (g145l2M m) a b c d e i j n l o) ls k) (g145Calls m) (loopsOk_of _ (fun p hp=>by
  rw[show loopsOf (bodyAt Try.f145 0)=[(2,bodyAt Try.f145 2)] by kernel_rfl] at hp
  simp only[List.mem_cons,List.not_mem_nil,or_false] at hp
  rcases hp with rfl
  exact g145l2Ok m))
  (fun _ _=>rfl) (fun n ls k=>g145l0Step (g52 m) (g145l2M m) (g145l0M m) (g145l4M m) (fun a b c d e i j=>g145l0 (g145l2M m) a b c d e i j n) ls k) (n:=m) h
theorem g145l4Ok(m:Nat)(α:Type)(st:St)(k:KEx α)(r:α)(h:(g145h m).loop 4 st k=some r):
  LoopS Try.prog 4 (bodyAt Try.f145 4) st k r:=
 lpk (F:=fun n ls k=>g145l4K (fun a b c d e i j l o q s=>g145l4 a b c d e i j l o n q s) ls k) (g145Calls m) (lb0 (by kernel_rfl))
  (fun _ _=>rfl) (fun n ls k=>g145l4Step (g52 m) (g145l2M m) (g145l0M m) (g145l4M m) (fun a b c d e i j l o=>g145l4 a b c d e i j l o n) ls k) (n:=m) h
theorem g145Fn(m:Nat):FnOk Try.prog 145 g145tp g145bp (fun{α}=>g145K (g145 m (α:=α))):=
 fn_ok (tab:=tab) (h:=g145h m) (fn:=Try.f145) (F:=fun{α}=>g145K (g145 m (α:=α))) tabOk (g145Calls m) mixed (by kernel_rfl) (by kernel_rfl) (fun c hc=>by
  rw[bodyOf_some hc]
  exact loopsOk_of _ (fun p hp=>by
  rw[show loopsOf (bodyOf Try.f145)=[(0,bodyAt Try.f145 0),(4,bodyAt Try.f145 4)] by kernel_rfl] at hp
  simp only[List.mem_cons,List.not_mem_nil,or_false] at hp
  rcases hp with rfl|rfl
  ·exact g145l0Ok m
  ·exact g145l4Ok m))
  (fun _=>g145Main (g52 m) (g145l2M m) (g145l0M m) (g145l4M m))
theorem g145Ok(m:Nat):RowOk Try.prog 145 (fun{α}=>g145R (g145 m (α:=α))):=row_of (g145Fn m)
abbrev S_g146(α:Type):Type:=Bool→(List Int)→Int→(Bool→(List Int)→Option α)→Option α
abbrev S_g146l0(α:Type):Type:=Int→Bool→(List Int)→Bool→(List Int)→(Bool→(List Int)→Option α)→Int→Bool→(List Int)→Bool→(List Int)→Option α
def g146l0b{α:Type}(G66:Al S_g66)(G60:Al S_g60)(G110:Al S_g110)(G121:Al S_g121)(G65:Al S_g65)(G145:Al S_g145)(a:Int)(b:Bool)(c:List Int)(d:Bool)(e:List Int)(h:Bool→(List Int)→Option α)(i:Int→Bool→(List Int)→Bool→(List Int)→Option α)(j:Int)(l:Bool)(n:List Int)(o:Bool)(p:List Int):Option α:=G66 o p b c (fun q=>cond (decide (q≤(0:Int))) (G60 b c o p (fun r s t u=>G110 (IntKind.wrap .i64 ((IntKind.wrap .i64 ((2:Int)*j))+(1:Int))) (fun v w=>G60 r s v w (fun x y z a0=>cond ((Int.tmod j (2:Int))==(1:Int)) (G121 x y (fun b0=>G65 l n b0 y (fun c0 d0 e0=>G110 (IntKind.wrap .i64 (a*a)) (fun h0 i0=>G145 o p h0 i0 (fun j0 l0 n0=>cond (n0 !=(0:Int)) (h c0 d0) (i (IntKind.wrap .i64 (j+(1:Int))) c0 d0 j0 l0)))))) (G65 l n x y (fun o0 p0 q0=>G110 (IntKind.wrap .i64 (a*a)) (fun r0 s0=>G145 o p r0 s0 (fun t0 u0 v0=>cond (v0 !=(0:Int)) (h o0 p0) (i (IntKind.wrap .i64 (j+(1:Int))) o0 p0 t0 u0))))))))) (h l n))
def g146l0{α:Type}(G66:Al S_g66)(G60:Al S_g60)(G110:Al S_g110)(G121:Al S_g121)(G65:Al S_g65)(G145:Al S_g145)(a:Int)(b:Bool)(c:List Int)(d:Bool)(e:List Int)(h:Bool→(List Int)→Option α):Nat→Int→Bool→(List Int)→Bool→(List Int)→Option α
 |0=>fun _ _ _ _ _=>none
 |m+1=>fun i j l n o=>g146l0b G66 G60 G110 G121 G65 G145 a b c d e h (g146l0 G66 G60 G110 G121 G65 G145 a b c d e h m) i j l n o
def g146l0M{α:Type}(m:Nat):S_g146l0 α:=
 fun a b c d e h i j l n o=>g146l0 (g66 m) (g60 m) (g110 m) (g121 m) (g65 m) (g145 m) a b c d e h m i j l n o
def g146l0D:LoopD:={n:=58,low:=[],sl:=[1,2,4,5,6,7],bl:=[1000000,1000001,1000002,1000003],tp:=[tI,(.vl (.sv (.ptr 1000000 0))),(.vl (.sv (.ptr 1000001 0))),(.vl (.sv (.ptr 1000002 0))),(.vl (.sv (.ptr 1000003 0))),tI],bp:=[(true,[(.one .bool),(.seq uU 6)]),(true,[(.one .bool),(.seq uU 6)]),(true,[(.one .bool),(.seq uU 6)]),(true,[(.one .bool),(.seq uU 6)])],xs:=[(2,[4,5])]}
def g146l0K{α:Type}(L:S_g146l0 α)(ls:List Lf)(k:KEx α):Option α:=
 L (lf ls 0).int (lf ls 2).bool ((lf ls 3).lst uU) (lf ls 4).bool ((lf ls 5).lst uU)
  (fun a b=>k .normal (mkSt 58 [4,5] [(.vl (.sv (.ptr 1000000 0))),(.vl (.sv (.ptr 1000001 0)))] [1000000,1000001] [(true,[(.one (.bool (lf ls 4).bool)),(.seq uU 6 ((lf ls 5).lst uU))]),(true,[(.one (.bool a)),(.seq uU 6 b)])]))
  (lf ls 1).int (lf ls 6).bool ((lf ls 7).lst uU) (lf ls 8).bool ((lf ls 9).lst uU)
def g146b{α:Type}(G110:Al S_g110)(G66:Al S_g66)(G60:Al S_g60)(G121:Al S_g121)(G65:Al S_g65)(G145:Al S_g145)(L146l0:Al S_g146l0)(a:Bool)(b:List Int)(c:Int)(d:Bool→(List Int)→Option α):Option α:=G110 c (fun e h=>L146l0 c a b false [0,0,0,0,0,0] (fun i j=>d i j) (0:Int) false [0,0,0,0,0,0] e h)
def g146{α:Type}(m:Nat):S_g146 α:=
 g146b (g110 m) (g66 m) (g60 m) (g121 m) (g65 m) (g145 m) (g146l0M m)
def g146tp:List TP:=[vW,tI]
def g146bp:List BP:=[]
def g146K{α:Type}(G:S_g146 α)(ls:List Lf)(k:KRe α):Option α:=
 G (lf ls 0).bool ((lf ls 1).lst uU) (lf ls 2).int
  (fun a b=>k (.vl (.agg [(.one (.bool a)),(.seq uU 6 b)])) [] [])
def g146R{α:Type}(G:S_g146 α):=rowK g146tp g146bp (g146K G)
def g146hd(G110:Al S_g110)(G66:Al S_g66)(G60:Al S_g60)(G121:Al S_g121)(G65:Al S_g65)(G145:Al S_g145)(L146l0:Al S_g146l0):Hd where
 call:=fun f args Bs k=>cond (Nat.beq f 110) (g110R G110 args Bs k) (cond (Nat.beq f 66) (g66R G66 args Bs k) (cond (Nat.beq f 60) (g60R G60 args Bs k) (cond (Nat.beq f 121) (g121R G121 args Bs k) (cond (Nat.beq f 65) (g65R G65 args Bs k) (cond (Nat.beq f 145) (g145R G145 args Bs k) (none))))))
 loop:=fun id st k=>cond (Nat.beq id 0) (loopH g146l0D (g146l0K L146l0) st k) (none)
 ro:=fun f=>cond (Nat.beq f 66) [0,1] ([])
def g146h(m:Nat):Hd:=g146hd (g110 m) (g66 m) (g60 m) (g121 m) (g65 m) (g145 m) (g146l0M m)
theorem g146l0Step(G110:Al S_g110)(G66:Al S_g66)(G60:Al S_g60)(G121:Al S_g121)(G65:Al S_g65)(G145:Al S_g145)(L146l0:Al S_g146l0){α:Type}(L:S_g146l0 α)(ls:List Lf)(k:KEx α):
  g146l0K (fun a b c d e h i j l n o=>g146l0b G66 G60 G110 G121 G65 G145 a b c d e h (L a b c d e h) i j l n o) ls k=ev tab (g146hd G110 G66 G60 G121 G65 G145 L146l0) (bodyAt Try.f146 0) (atHead g146l0D ls) (loopK g146l0D 0 (loopH g146l0D (g146l0K L)) k):=by kernel_rfl
theorem g146Main(G110:Al S_g110)(G66:Al S_g66)(G60:Al S_g60)(G121:Al S_g121)(G65:Al S_g65)(G145:Al S_g145)(L146l0:Al S_g146l0){α:Type}(ls:List Lf)(k:KRe α):
  g146K (g146b G110 G66 G60 G121 G65 G145 L146l0) ls k=evFun tab (g146hd G110 G66 G60 G121 G65 G145 L146l0) Try.f146 (fT g146tp ls) (fB g146tp g146bp ls) k:=by kernel_rfl
theorem g146Calls(m:Nat):(g146h m).CallsOk Try.prog:=(cok_cons (g110Ok m) (cok_cons (g66Ok m) (cok_cons (g60Ok m) (cok_cons (g121Ok m) (cok_cons (g65Ok m) (cok_cons (g145Ok m) cok_nil))))))
theorem g146l0Ok(m:Nat)(α:Type)(st:St)(k:KEx α)(r:α)(h:(g146h m).loop 0 st k=some r):
  LoopS Try.prog 0 (bodyAt Try.f146 0) st k r:=
 lpk (F:=fun n ls k=>g146l0K (fun a b c d e i j l o q s=>g146l0 (g66 m) (g60 m) (g110 m) (g121 m) (g65 m) (g145 m) a b c d e i n j l o q s) ls k) (g146Calls m) (lb0 (by kernel_rfl))
  (fun _ _=>rfl) (fun n ls k=>g146l0Step (g110 m) (g66 m) (g60 m) (g121 m) (g65 m) (g145 m) (g146l0M m) (fun a b c d e i=>g146l0 (g66 m) (g60 m) (g110 m) (g121 m) (g65 m) (g145 m) a b c d e i n) ls k) (n:=m) h
theorem g146Ok(m:Nat):RowOk Try.prog 146 (fun{α}=>g146R (g146 m (α:=α))):=
 rwk (g146Calls m) (lo1 (by kernel_rfl) (g146l0Ok m))
  (fun _=>g146Main (g110 m) (g66 m) (g60 m) (g121 m) (g65 m) (g145 m) (g146l0M m))
abbrev S_g147(α:Type):Type:=Int→(List Int)→((List Int)→Option α)→Option α
abbrev S_g147l0(α:Type):Type:=Int→(List Int)→(List Int)→((List Int)→Option α)→Int→(List Int)→Option α
def g147l0b{α:Type}(a:Int)(b c:List Int)(d:(List Int)→Option α)(e:Int→(List Int)→Option α)(h:Int)(i:List Int):Option α:=cond (decide (h<(6:Int))) (if 0≤h∧h<(6:Nat) then if h.toNat<6 then let j:Int:=IntKind.wrap .u64 (List.getD b h.toNat 0);cond (decide ((IntKind.wrap .i64 (h+(1:Int)))<(6:Int))) (let l:Int:=IntKind.wrap .i64 (h+(1:Int));if 0≤l∧l<(6:Nat) then if l.toNat<6 then let n:Int:=IntKind.wrap .i64 (h-(IntKind.wrap .i64 (Int.tdiv a (32:Int))));let o:Int:=IntKind.wrap .u64 (Int.tmod a (32:Int));if o<0 then none else if 0≤n∧n<(6:Nat) then if n.toNat<6 then e (IntKind.wrap .i64 (h+(1:Int))) (List.set i (n.toNat) (IntKind.wrap .u32 (Int.fdiv (IntKind.wrap .u64 (j+(IntKind.wrap .u64 ((IntKind.wrap .u64 (List.getD b l.toNat 0))*2^32)))) (2^(min o.toNat 64))))) else none else none else none else none) (let p:Int:=IntKind.wrap .i64 (h-(IntKind.wrap .i64 (Int.tdiv a (32:Int))));let q:Int:=IntKind.wrap .u64 (Int.tmod a (32:Int));if q<0 then none else if 0≤p∧p<(6:Nat) then if p.toNat<6 then e (IntKind.wrap .i64 (h+(1:Int))) (List.set i (p.toNat) (IntKind.wrap .u32 (Int.fdiv j (2^(min q.toNat 64))))) else none else none) else none else none) (d i)
def g147l0{α:Type}(a:Int)(b c:List Int)(d:(List Int)→Option α):Nat→Int→(List Int)→Option α
 |0=>fun _ _=>none
 |m+1=>fun e h=>g147l0b a b c d (g147l0 a b c d m) e h
def g147l0M{α:Type}(m:Nat):S_g147l0 α:=
 fun a b c d e h=>g147l0 a b c d m e h
def g147l0D:LoopD:={n:=46,low:=[0],sl:=[0,1,4,5,6],bl:=[0,1000001,1000002],tp:=[(.vl (.sv (.ptr 0 0))),tI,(.vl (.sv (.ptr 1000001 0))),(.vl (.sv (.ptr 1000002 0))),tI],bp:=[(false,[(.seq uU 6)]),b6,b6],xs:=[(2,[4,5])]}
def g147l0K{α:Type}(L:S_g147l0 α)(ls:List Lf)(k:KEx α):Option α:=
 L (lf ls 0).int ((lf ls 2).lst uU) ((lf ls 3).lst uU)
  (fun a=>k .normal (mkSt 46 [4,5] [(.vl (.sv (.ptr 1000001 0))),(.vl (.sv (.ptr 1000002 0)))] [0,1000001,1000002] [(false,[(.seq uU 6 ((lf ls 2).lst uU))]),(true,[(.seq uU 6 ((lf ls 3).lst uU))]),(true,[(.seq uU 6 a)])]))
  (lf ls 1).int ((lf ls 4).lst uU)
def g147b{α:Type}(L147l0:Al S_g147l0)(a:Int)(b:List Int)(c:(List Int)→Option α):Option α:=L147l0 a b [0,0,0,0,0,0] (fun d=>c d) (IntKind.wrap .i64 (Int.tdiv a (32:Int))) [0,0,0,0,0,0]
def g147{α:Type}(m:Nat):S_g147 α:=
 g147b (g147l0M m)
def g147tp:List TP:=[(.vl (.sv (.ptr 0 0))),tI]
def g147bp:List BP:=[(false,[(.seq uU 6)])]
def g147K{α:Type}(G:S_g147 α)(ls:List Lf)(k:KRe α):Option α:=
 G (lf ls 0).int ((lf ls 1).lst uU)
  (fun a=>k (.vl (.agg [(.seq uU 6 a)])) [[(.seq uU 6 ((lf ls 1).lst uU))]] [])
def g147R{α:Type}(G:S_g147 α):=rowK g147tp g147bp (g147K G)
def g147hd(L147l0:Al S_g147l0):Hd where
 call:=fun f args Bs k=>none
 loop:=fun id st k=>cond (Nat.beq id 0) (loopH g147l0D (g147l0K L147l0) st k) (none)
 ro:=fun f=>[]
def g147h(m:Nat):Hd:=g147hd (g147l0M m)
theorem g147l0Step(L147l0:Al S_g147l0){α:Type}(L:S_g147l0 α)(ls:List Lf)(k:KEx α):
  g147l0K (fun a b c d e h=>g147l0b a b c d (L a b c d) e h) ls k=ev tab (g147hd L147l0) (bodyAt Try.f147 0) (atHead g147l0D ls) (loopK g147l0D 0 (loopH g147l0D (g147l0K L)) k):=by kernel_rfl
theorem g147Main(L147l0:Al S_g147l0){α:Type}(ls:List Lf)(k:KRe α):
  g147K (g147b L147l0) ls k=evFun tab (g147hd L147l0) Try.f147 (fT g147tp ls) (fB g147tp g147bp ls) k:=by kernel_rfl
theorem g147Calls(m:Nat):(g147h m).CallsOk Try.prog:=cok_nil
theorem g147l0Ok(m:Nat)(α:Type)(st:St)(k:KEx α)(r:α)(h:(g147h m).loop 0 st k=some r):
  LoopS Try.prog 0 (bodyAt Try.f147 0) st k r:=
 lpk (F:=fun n ls k=>g147l0K (fun a b c d e i=>g147l0 a b c d n e i) ls k) (g147Calls m) (lb0 (by kernel_rfl))
  (fun _ _=>rfl) (fun n ls k=>g147l0Step (g147l0M m) (fun a b c d=>g147l0 a b c d n) ls k) (n:=m) h
theorem g147Ok(m:Nat):RowOk Try.prog 147 (fun{α}=>g147R (g147 m (α:=α))):=
 rwk (g147Calls m) (lo1 (by kernel_rfl) (g147l0Ok m))
  (fun _=>g147Main (g147l0M m))
abbrev S_g134(α:Type):Type:=Bool→(List Int)→Int→(Bool→(List Int)→Option α)→Option α
def g134b{α:Type}(G147:Al S_g147)(G130:Al S_g130)(G102:Al S_g102)(G52:Al S_g52)(G101:Al S_g101)(a:Bool)(b:List Int)(c:Int)(d:Bool→(List Int)→Option α):Option α:=cond (c==(0:Int)) (d a b) (G147 c b (fun e=>G147 (IntKind.wrap .i64 (c-(1:Int))) b (fun h=>G130 c e (fun i j=>G102 b i (fun l=>G130 (IntKind.wrap .i64 (c-(1:Int))) [(1:Int),0,0,0,0,0] (fun n o=>let p:Bool:=(Int.tmod (List.getD h 0 0) (2:Int))==(1:Int);cond a (cond (eqLI l n) (G52 a e (fun q=>d q e)) (cond p (G101 e [(1:Int),0,0,0,0,0] (fun r s=>G52 a r (fun t=>d t r))) (G52 a e (fun u=>d u e)))) (cond p (G101 e [(1:Int),0,0,0,0,0] (fun v w=>G52 a v (fun x=>d x v))) (G52 a e (fun y=>d y e)))))))))
def g134{α:Type}(m:Nat):S_g134 α:=
 g134b (g147 m) (g130 m) (g102 m) (g52 m) (g101 m)
def g134tp:List TP:=[vW,tI]
def g134bp:List BP:=[]
def g134K{α:Type}(G:S_g134 α)(ls:List Lf)(k:KRe α):Option α:=
 G (lf ls 0).bool ((lf ls 1).lst uU) (lf ls 2).int
  (fun a b=>k (.vl (.agg [(.one (.bool a)),(.seq uU 6 b)])) [] [])
def g134R{α:Type}(G:S_g134 α):=rowK g134tp g134bp (g134K G)
def g134hd(G147:Al S_g147)(G130:Al S_g130)(G102:Al S_g102)(G52:Al S_g52)(G101:Al S_g101):Hd where
 call:=fun f args Bs k=>cond (Nat.beq f 147) (g147R G147 args Bs k) (cond (Nat.beq f 130) (g130R G130 args Bs k) (cond (Nat.beq f 102) (g102R G102 args Bs k) (cond (Nat.beq f 52) (g52R G52 args Bs k) (cond (Nat.beq f 101) (g101R G101 args Bs k) (none)))))
 loop:=fun id st k=>none
 ro:=fun f=>cond (Nat.beq f 101) [0,1] (cond (Nat.beq f 102) [0,1] (cond (Nat.beq f 130) [0] (cond (Nat.beq f 147) [0] ([]))))
def g134h(m:Nat):Hd:=g134hd (g147 m) (g130 m) (g102 m) (g52 m) (g101 m)
theorem g134Main(G147:Al S_g147)(G130:Al S_g130)(G102:Al S_g102)(G52:Al S_g52)(G101:Al S_g101){α:Type}(ls:List Lf)(k:KRe α):
  g134K (g134b G147 G130 G102 G52 G101) ls k=evFun tab (g134hd G147 G130 G102 G52 G101) Try.f134 (fT g134tp ls) (fB g134tp g134bp ls) k:=by kernel_rfl
theorem g134Calls(m:Nat):(g134h m).CallsOk Try.prog:=(cok_cons (g147Ok m) (cok_cons (g130Ok m) (cok_cons (g102Ok m) (cok_cons (g52Ok m) (cok_cons (g101Ok m) cok_nil)))))
theorem g134Ok(m:Nat):RowOk Try.prog 134 (fun{α}=>g134R (g134 m (α:=α))):=
 rwk (g134Calls m) (lo0 (by kernel_rfl))
  (fun _=>g134Main (g147 m) (g130 m) (g102 m) (g52 m) (g101 m))
abbrev S_g132(α:Type):Type:=Int→(Bool→(List Int)→Option α)→Option α
def g132b{α:Type}(G110:Al S_g110)(G117:Al S_g117)(G146:Al S_g146)(G145:Al S_g145)(G65:Al S_g65)(G134:Al S_g134)(a:Int)(b:Bool→(List Int)→Option α):Option α:=G110 (1:Int) (fun c d=>G117 c d (IntKind.wrap .i64 (a+(16:Int))) (fun e h i=>G110 (16:Int) (fun j l=>G146 e h (5:Int) (fun n o=>G145 j l n o (fun p q r=>G110 (-4:Int) (fun s t=>G146 e h (239:Int) (fun u v=>G145 s t u v (fun w x y=>G65 p q w x (fun z a0 b0=>G134 z a0 (16:Int) (fun c0 d0=>b c0 d0))))))))))
def g132{α:Type}(m:Nat):S_g132 α:=
 g132b (g110 m) (g117 m) (g146 m) (g145 m) (g65 m) (g134 m)
def g132tp:List TP:=[tI]
def g132bp:List BP:=[]
def g132K{α:Type}(G:S_g132 α)(ls:List Lf)(k:KRe α):Option α:=
 G (lf ls 0).int
  (fun a b=>k (.tup [(.agg [(.one (.bool a)),(.seq uU 6 b)]),(.sv (.int .i64 (0:Int)))]) [] [])
def g132R{α:Type}(G:S_g132 α):=rowK g132tp g132bp (g132K G)
def g132hd(G110:Al S_g110)(G117:Al S_g117)(G146:Al S_g146)(G145:Al S_g145)(G65:Al S_g65)(G134:Al S_g134):Hd where
 call:=fun f args Bs k=>cond (Nat.beq f 110) (g110R G110 args Bs k) (cond (Nat.beq f 117) (g117R G117 args Bs k) (cond (Nat.beq f 146) (g146R G146 args Bs k) (cond (Nat.beq f 145) (g145R G145 args Bs k) (cond (Nat.beq f 65) (g65R G65 args Bs k) (cond (Nat.beq f 134) (g134R G134 args Bs k) (none))))))
 loop:=fun id st k=>none
 ro:=fun f=>[]
def g132h(m:Nat):Hd:=g132hd (g110 m) (g117 m) (g146 m) (g145 m) (g65 m) (g134 m)
theorem g132Main(G110:Al S_g110)(G117:Al S_g117)(G146:Al S_g146)(G145:Al S_g145)(G65:Al S_g65)(G134:Al S_g134){α:Type}(ls:List Lf)(k:KRe α):
  g132K (g132b G110 G117 G146 G145 G65 G134) ls k=evFun tab (g132hd G110 G117 G146 G145 G65 G134) Try.f132 (fT g132tp ls) (fB g132tp g132bp ls) k:=by kernel_rfl
theorem g132Calls(m:Nat):(g132h m).CallsOk Try.prog:=(cok_cons (g110Ok m) (cok_cons (g117Ok m) (cok_cons (g146Ok m) (cok_cons (g145Ok m) (cok_cons (g65Ok m) (cok_cons (g134Ok m) cok_nil))))))
theorem g132Ok(m:Nat):RowOk Try.prog 132 (fun{α}=>g132R (g132 m (α:=α))):=
 rwk (g132Calls m) (lo0 (by kernel_rfl))
  (fun _=>g132Main (g110 m) (g117 m) (g146 m) (g145 m) (g65 m) (g134 m))
abbrev S_g59(α:Type):Type:=Bool→(List Int)→(Int→Option α)→Option α
def g59b{α:Type}(a:Bool)(b:List Int)(c:Int→Option α):Option α:=cond a (c (-1:Int)) (cond (eqLI b [0,0,0,0,0,0]) (c (0:Int)) (c (1:Int)))
def g59{α:Type}(m:Nat):S_g59 α:=
 g59b
def g59tp:List TP:=[(.vl (.sv (.ptr 0 0)))]
def g59bp:List BP:=[(false,[(.one .bool),(.seq uU 6)])]
def g59K{α:Type}(G:S_g59 α)(ls:List Lf)(k:KRe α):Option α:=
 G (lf ls 0).bool ((lf ls 1).lst uU)
  (fun a=>k (.vl (.sv (.int .i64 a))) [[(.one (.bool (lf ls 0).bool)),(.seq uU 6 ((lf ls 1).lst uU))]] [])
def g59R{α:Type}(G:S_g59 α):=rowK g59tp g59bp (g59K G)
def g59hd:Hd where
 call:=fun f args Bs k=>none
 loop:=fun id st k=>none
 ro:=fun f=>[]
def g59h(m:Nat):Hd:=g59hd
theorem g59Main{α:Type}(ls:List Lf)(k:KRe α):
  g59K (g59b) ls k=evFun tab (g59hd) Try.f59 (fT g59tp ls) (fB g59tp g59bp ls) k:=by kernel_rfl
theorem g59Calls(m:Nat):(g59h m).CallsOk Try.prog:=cok_nil
theorem g59Ok(m:Nat):RowOk Try.prog 59 (fun{α}=>g59R (g59 m (α:=α))):=
 rwk (g59Calls m) (lo0 (by kernel_rfl))
  (fun _=>g59Main)
abbrev S_g133(α:Type):Type:=Int→(Bool→(List Int)→Option α)→Option α
abbrev S_g133l0(α:Type):Type:=Bool→(List Int)→(Bool→(List Int)→Option α)→Int→Bool→(List Int)→Bool→(List Int)→Option α
def g133l0b{α:Type}(G59:Al S_g59)(G110:Al S_g110)(G60:Al S_g60)(G65:Al S_g65)(a:Bool)(b:List Int)(c:Bool→(List Int)→Option α)(d:Int→Bool→(List Int)→Bool→(List Int)→Option α)(e:Int)(h:Bool)(i:List Int)(j:Bool)(l:List Int):Option α:=G59 h i (fun n=>cond (n !=(0:Int)) (G110 e (fun o p=>G60 h i o p (fun q r s t=>G65 j l q r (fun u v w=>d (IntKind.wrap .i64 (e+(1:Int))) q r u v)))) (c j l))
def g133l0{α:Type}(G59:Al S_g59)(G110:Al S_g110)(G60:Al S_g60)(G65:Al S_g65)(a:Bool)(b:List Int)(c:Bool→(List Int)→Option α):Nat→Int→Bool→(List Int)→Bool→(List Int)→Option α
 |0=>fun _ _ _ _ _=>none
 |m+1=>fun d e h i j=>g133l0b G59 G110 G60 G65 a b c (g133l0 G59 G110 G60 G65 a b c m) d e h i j
def g133l0M{α:Type}(m:Nat):S_g133l0 α:=
 fun a b c d e h i j=>g133l0 (g59 m) (g110 m) (g60 m) (g65 m) a b c m d e h i j
def g133l0D:LoopD:={n:=35,low:=[],sl:=[2,4,6,7],bl:=[1000000,1000001,1000002],tp:=[(.vl (.sv (.ptr 1000000 0))),(.vl (.sv (.ptr 1000001 0))),(.vl (.sv (.ptr 1000002 0))),tI],bp:=[(true,[(.one .bool),(.seq uU 6)]),(true,[(.one .bool),(.seq uU 6)]),(true,[(.one .bool),(.seq uU 6)])],xs:=[(2,[2,6])]}
def g133l0K{α:Type}(L:S_g133l0 α)(ls:List Lf)(k:KEx α):Option α:=
 L (lf ls 1).bool ((lf ls 2).lst uU)
  (fun a b=>k .normal (mkSt 35 [2,6] [(.vl (.sv (.ptr 1000000 0))),(.vl (.sv (.ptr 1000001 0)))] [1000000,1000001] [(true,[(.one (.bool (lf ls 1).bool)),(.seq uU 6 ((lf ls 2).lst uU))]),(true,[(.one (.bool a)),(.seq uU 6 b)])]))
  (lf ls 0).int (lf ls 3).bool ((lf ls 4).lst uU) (lf ls 5).bool ((lf ls 6).lst uU)
def g133b{α:Type}(G110:Al S_g110)(G117:Al S_g117)(G59:Al S_g59)(G60:Al S_g60)(G65:Al S_g65)(G134:Al S_g134)(L133l0:Al S_g133l0)(a:Int)(b:Bool→(List Int)→Option α):Option α:=G110 (1:Int) (fun c d=>G117 c d (IntKind.wrap .i64 (a+(16:Int))) (fun e h i=>L133l0 false [0,0,0,0,0,0] (fun j l=>G134 j l (16:Int) (fun n o=>b n o)) (1:Int) e h e h))
def g133{α:Type}(m:Nat):S_g133 α:=
 g133b (g110 m) (g117 m) (g59 m) (g60 m) (g65 m) (g134 m) (g133l0M m)
def g133tp:List TP:=[tI]
def g133bp:List BP:=[]
def g133K{α:Type}(G:S_g133 α)(ls:List Lf)(k:KRe α):Option α:=
 G (lf ls 0).int
  (fun a b=>k (.tup [(.agg [(.one (.bool a)),(.seq uU 6 b)]),(.sv (.int .i64 (0:Int)))]) [] [])
def g133R{α:Type}(G:S_g133 α):=rowK g133tp g133bp (g133K G)
def g133hd(G110:Al S_g110)(G117:Al S_g117)(G59:Al S_g59)(G60:Al S_g60)(G65:Al S_g65)(G134:Al S_g134)(L133l0:Al S_g133l0):Hd where
 call:=fun f args Bs k=>cond (Nat.beq f 110) (g110R G110 args Bs k) (cond (Nat.beq f 117) (g117R G117 args Bs k) (cond (Nat.beq f 59) (g59R G59 args Bs k) (cond (Nat.beq f 60) (g60R G60 args Bs k) (cond (Nat.beq f 65) (g65R G65 args Bs k) (cond (Nat.beq f 134) (g134R G134 args Bs k) (none))))))
 loop:=fun id st k=>cond (Nat.beq id 0) (loopH g133l0D (g133l0K L133l0) st k) (none)
 ro:=fun f=>cond (Nat.beq f 59) [0] ([])
def g133h(m:Nat):Hd:=g133hd (g110 m) (g117 m) (g59 m) (g60 m) (g65 m) (g134 m) (g133l0M m)
theorem g133l0Step(G110:Al S_g110)(G117:Al S_g117)(G59:Al S_g59)(G60:Al S_g60)(G65:Al S_g65)(G134:Al S_g134)(L133l0:Al S_g133l0){α:Type}(L:S_g133l0 α)(ls:List Lf)(k:KEx α):
  g133l0K (fun a b c d e h i j=>g133l0b G59 G110 G60 G65 a b c (L a b c) d e h i j) ls k=ev tab (g133hd G110 G117 G59 G60 G65 G134 L133l0) (bodyAt Try.f133 0) (atHead g133l0D ls) (loopK g133l0D 0 (loopH g133l0D (g133l0K L)) k):=by kernel_rfl
theorem g133Main(G110:Al S_g110)(G117:Al S_g117)(G59:Al S_g59)(G60:Al S_g60)(G65:Al S_g65)(G134:Al S_g134)(L133l0:Al S_g133l0){α:Type}(ls:List Lf)(k:KRe α):
  g133K (g133b G110 G117 G59 G60 G65 G134 L133l0) ls k=evFun tab (g133hd G110 G117 G59 G60 G65 G134 L133l0) Try.f133 (fT g133tp ls) (fB g133tp g133bp ls) k:=by kernel_rfl
theorem g133Calls(m:Nat):(g133h m).CallsOk Try.prog:=(cok_cons (g110Ok m) (cok_cons (g117Ok m) (cok_cons (g59Ok m) (cok_cons (g60Ok m) (cok_cons (g65Ok m) (cok_cons (g134Ok m) cok_nil))))))
theorem g133l0Ok(m:Nat)(α:Type)(st:St)(k:KEx α)(r:α)(h:(g133h m).loop 0 st k=some r):
  LoopS Try.prog 0 (bodyAt Try.f133 0) st k r:=
 lpk (F:=fun n ls k=>g133l0K (fun a b c d e i j l=>g133l0 (g59 m) (g110 m) (g60 m) (g65 m) a b c n d e i j l) ls k) (g133Calls m) (lb0 (by kernel_rfl))
  (fun _ _=>rfl) (fun n ls k=>g133l0Step (g110 m) (g117 m) (g59 m) (g60 m) (g65 m) (g134 m) (g133l0M m) (fun a b c=>g133l0 (g59 m) (g110 m) (g60 m) (g65 m) a b c n) ls k) (n:=m) h
theorem g133Ok(m:Nat):RowOk Try.prog 133 (fun{α}=>g133R (g133 m (α:=α))):=
 rwk (g133Calls m) (lo1 (by kernel_rfl) (g133l0Ok m))
  (fun _=>g133Main (g110 m) (g117 m) (g59 m) (g60 m) (g65 m) (g134 m) (g133l0M m))
abbrev S_g135(α:Type):Type:=Bool→(List Int)→(Bool→(List Int)→Option α)→Option α
abbrev S_g135l0(α:Type):Type:=Bool→(List Int)→Bool→(List Int)→(Bool→(List Int)→Option α)→Int→Bool→(List Int)→Option α
def g135l0b{α:Type}(G110:Al S_g110)(G117:Al S_g117)(G65:Al S_g65)(G145:Al S_g145)(G66:Al S_g66)(a:Bool)(b:List Int)(c:Bool)(d:List Int)(e:Bool→(List Int)→Option α)(h:Int→Bool→(List Int)→Option α)(i:Int)(j:Bool)(l:List Int):Option α:=cond (decide (i≥(0:Int))) (G110 (1:Int) (fun n o=>G117 n o i (fun p q r=>G65 j l p q (fun s t u=>cond (r !=(0:Int)) (h (IntKind.wrap .i64 (i-(1:Int))) j l) (cond (u !=(0:Int)) (h (IntKind.wrap .i64 (i-(1:Int))) j l) (G145 s t s t (fun v w x=>cond (x==(0:Int)) (G66 v w a b (fun y=>cond (decide (y≤(0:Int))) (h (IntKind.wrap .i64 (i-(1:Int))) s t) (h (IntKind.wrap .i64 (i-(1:Int))) j l))) (h (IntKind.wrap .i64 (i-(1:Int))) j l)))))))) (e j l)
def g135l0{α:Type}(G110:Al S_g110)(G117:Al S_g117)(G65:Al S_g65)(G145:Al S_g145)(G66:Al S_g66)(a:Bool)(b:List Int)(c:Bool)(d:List Int)(e:Bool→(List Int)→Option α):Nat→Int→Bool→(List Int)→Option α
 |0=>fun _ _ _=>none
 |m+1=>fun h i j=>g135l0b G110 G117 G65 G145 G66 a b c d e (g135l0 G110 G117 G65 G145 G66 a b c d e m) h i j
def g135l0M{α:Type}(m:Nat):S_g135l0 α:=
 fun a b c d e h i j=>g135l0 (g110 m) (g117 m) (g65 m) (g145 m) (g66 m) a b c d e m h i j
def g135l0D:LoopD:={n:=54,low:=[],sl:=[1,2,4,5],bl:=[1000000,1000001,1000002],tp:=[(.vl (.sv (.ptr 1000000 0))),(.vl (.sv (.ptr 1000001 0))),(.vl (.sv (.ptr 1000002 0))),tI],bp:=[(true,[(.one .bool),(.seq uU 6)]),(true,[(.one .bool),(.seq uU 6)]),(true,[(.one .bool),(.seq uU 6)])],xs:=[(2,[2,4])]}
def g135l0K{α:Type}(L:S_g135l0 α)(ls:List Lf)(k:KEx α):Option α:=
 L (lf ls 1).bool ((lf ls 2).lst uU) (lf ls 3).bool ((lf ls 4).lst uU)
  (fun a b=>k .normal (mkSt 54 [2,4] [(.vl (.sv (.ptr 1000000 0))),(.vl (.sv (.ptr 1000001 0)))] [1000000,1000001] [(true,[(.one (.bool (lf ls 3).bool)),(.seq uU 6 ((lf ls 4).lst uU))]),(true,[(.one (.bool a)),(.seq uU 6 b)])]))
  (lf ls 0).int (lf ls 5).bool ((lf ls 6).lst uU)
def g135b{α:Type}(G116:Al S_g116)(G110:Al S_g110)(G117:Al S_g117)(G65:Al S_g65)(G145:Al S_g145)(G66:Al S_g66)(L135l0:Al S_g135l0)(a:Bool)(b:List Int)(c:Bool→(List Int)→Option α):Option α:=G116 b (fun d=>L135l0 a b false [0,0,0,0,0,0] (fun e h=>c e h) (IntKind.wrap .i64 (Int.tdiv (IntKind.wrap .i64 (d+(1:Int))) (2:Int))) false [0,0,0,0,0,0])
def g135{α:Type}(m:Nat):S_g135 α:=
 g135b (g116 m) (g110 m) (g117 m) (g65 m) (g145 m) (g66 m) (g135l0M m)
def g135tp:List TP:=[vW]
def g135bp:List BP:=[]
def g135K{α:Type}(G:S_g135 α)(ls:List Lf)(k:KRe α):Option α:=
 G (lf ls 0).bool ((lf ls 1).lst uU)
  (fun a b=>k (.vl (.agg [(.one (.bool a)),(.seq uU 6 b)])) [] [])
def g135R{α:Type}(G:S_g135 α):=rowK g135tp g135bp (g135K G)
def g135hd(G116:Al S_g116)(G110:Al S_g110)(G117:Al S_g117)(G65:Al S_g65)(G145:Al S_g145)(G66:Al S_g66)(L135l0:Al S_g135l0):Hd where
 call:=fun f args Bs k=>cond (Nat.beq f 116) (g116R G116 args Bs k) (cond (Nat.beq f 110) (g110R G110 args Bs k) (cond (Nat.beq f 117) (g117R G117 args Bs k) (cond (Nat.beq f 65) (g65R G65 args Bs k) (cond (Nat.beq f 145) (g145R G145 args Bs k) (cond (Nat.beq f 66) (g66R G66 args Bs k) (none))))))
 loop:=fun id st k=>cond (Nat.beq id 0) (loopH g135l0D (g135l0K L135l0) st k) (none)
 ro:=fun f=>cond (Nat.beq f 66) [0,1] (cond (Nat.beq f 116) [0] ([]))
def g135h(m:Nat):Hd:=g135hd (g116 m) (g110 m) (g117 m) (g65 m) (g145 m) (g66 m) (g135l0M m)
theorem g135l0Step(G116:Al S_g116)(G110:Al S_g110)(G117:Al S_g117)(G65:Al S_g65)(G145:Al S_g145)(G66:Al S_g66)(L135l0:Al S_g135l0){α:Type}(L:S_g135l0 α)(ls:List Lf)(k:KEx α):
  g135l0K (fun a b c d e h i j=>g135l0b G110 G117 G65 G145 G66 a b c d e (L a b c d e) h i j) ls k=ev tab (g135hd G116 G110 G117 G65 G145 G66 L135l0) (bodyAt Try.f135 0) (atHead g135l0D ls) (loopK g135l0D 0 (loopH g135l0D (g135l0K L)) k):=by kernel_rfl
theorem g135Main(G116:Al S_g116)(G110:Al S_g110)(G117:Al S_g117)(G65:Al S_g65)(G145:Al S_g145)(G66:Al S_g66)(L135l0:Al S_g135l0){α:Type}(ls:List Lf)(k:KRe α):
  g135K (g135b G116 G110 G117 G65 G145 G66 L135l0) ls k=evFun tab (g135hd G116 G110 G117 G65 G145 G66 L135l0) Try.f135 (fT g135tp ls) (fB g135tp g135bp ls) k:=by kernel_rfl
theorem g135Calls(m:Nat):(g135h m).CallsOk Try.prog:=(cok_cons (g116Ok m) (cok_cons (g110Ok m) (cok_cons (g117Ok m) (cok_cons (g65Ok m) (cok_cons (g145Ok m) (cok_cons (g66Ok m) cok_nil))))))
theorem g135l0Ok(m:Nat)(α:Type)(st:St)(k:KEx α)(r:α)(h:(g135h m).loop 0 st k=some r):
  LoopS Try.prog 0 (bodyAt Try.f135 0) st k r:=
 lpk (F:=fun n ls k=>g135l0K (fun a b c d e i j l=>g135l0 (g110 m) (g117 m) (g65 m) (g145 m) (g66 m) a b c d e n i j l) ls k) (g135Calls m) (lb0 (by kernel_rfl))
  (fun _ _=>rfl) (fun n ls k=>g135l0Step (g116 m) (g110 m) (g117 m) (g65 m) (g145 m) (g66 m) (g135l0M m) (fun a b c d e=>g135l0 (g110 m) (g117 m) (g65 m) (g145 m) (g66 m) a b c d e n) ls k) (n:=m) h
theorem g135Ok(m:Nat):RowOk Try.prog 135 (fun{α}=>g135R (g135 m (α:=α))):=
 rwk (g135Calls m) (lo1 (by kernel_rfl) (g135l0Ok m))
  (fun _=>g135Main (g116 m) (g110 m) (g117 m) (g65 m) (g145 m) (g66 m) (g135l0M m))
abbrev S_g85(α:Type):Type:=Int→Int→Nat→Nat→Nat→Nat→Nat→Nat→Nat→Ty0→Ty1→Ty0→(Bool→(List Int)→Int→Nat→Nat→Nat→Nat→Nat→Nat→Nat→Ty0→Ty1→Ty0→Option α)→Option α
def g85tp:List TP:=[(.vl (.sv (.ptr 0 0))),tI,tI]
def g85bp:List BP:=[(true,[(.one (.slc 1 0 5)),(.one (.slc 2 0 1)),(.one (.gsl 3 2))]),(false,[(.seqv rN)]),(true,[(.rws mK)]),(true,[(.gro rP)])]
def g85K{α:Type}(G:S_g85 α)(ls:List Lf)(k:KRe α):Option α:=
 G (lf ls 0).int (lf ls 1).int (lf ls 2).nat (lf ls 3).nat (lf ls 4).nat (lf ls 5).nat (lf ls 6).nat (lf ls 7).nat (lf ls 8).nat ((lf ls 9).lst rN) ((lf ls 10).rows mK) ((lf ls 11).lst rP)
  (fun c d e h j l n o p q r s t=>k (.tup [(.agg [(.one (.bool c)),(.seq uU 6 d)]),(.sv (.int .i64 e))]) [[(.one (.slc 1 0 5 h j l)),(.one (.slc 2 0 1 n o p)),(.one (.gsl 4 2))],[(.seq rN q r)],[(.rws mK s none)],[]] [[(.gro rP t)]])
abbrev HA85(A85:Al S_g85):Prop:=RowOk Try.prog 85 (fun{α}=>rowK g85tp g85bp (g85K (A85 (α:=α))))
def g85R{α:Type}(G:S_g85 α):=rowK g85tp g85bp (g85K G)
abbrev S_g83(α:Type):Type:=Int→Nat→Nat→Nat→Nat→Nat→Nat→Nat→Ty0→Ty1→Ty0→(Int→Int→Nat→Nat→Nat→Nat→Nat→Nat→Ty1→Ty0→Option α)→Option α
def g83b{α:Type}(G85:Al S_g85)(G110:Al S_g110)(G65:Al S_g65)(G116:Al S_g116)(G117:Al S_g117)(G66:Al S_g66)(a:Int)(b c:Nat)(d e:Nat)(h i j:Nat)(l:Ty0)(n:Ty1)(o:Ty0)(p:Int→Int→Nat→Nat→Nat→Nat→Nat→Nat→Ty1→Ty0→Option α):Option α:=G85 a (0:Int) b c d e h i j l n o (fun q r s t u v w x y z a0 b0 c0=>cond (s !=(0:Int)) (p (0:Int) s t u v w x y b0 c0) (G110 (1:Int) (fun d0 e0=>G65 false r d0 e0 (fun h0 i0 j0=>cond (j0 !=(0:Int)) (p (0:Int) j0 t u v w x y b0 c0) (G116 i0 (fun l0=>G110 (1:Int) (fun n0 o0=>G117 n0 o0 (IntKind.wrap .i64 (l0-(1:Int))) (fun p0 q0 r0=>cond (r0==(0:Int)) (G66 p0 q0 h0 i0 (fun s0=>cond (s0==(0:Int)) (p (IntKind.wrap .i64 (l0-(1:Int))) (0:Int) t u v w x y b0 c0) (p l0 (0:Int) t u v w x y b0 c0))) (p l0 (0:Int) t u v w x y b0 c0)))))))))
def g83(A85:Al S_g85){α:Type}(m:Nat):S_g83 α:=
 g83b A85 (g110 m) (g65 m) (g116 m) (g117 m) (g66 m)
def g83tp:List TP:=[(.vl (.sv (.ptr 0 0))),tI]
def g83bp:List BP:=[(true,[(.one (.slc 1 0 5)),(.one (.slc 2 0 1)),(.one (.gsl 3 2))]),(false,[(.seqv rN)]),(true,[(.rws mK)]),(true,[(.gro rP)])]
def g83K{α:Type}(G:S_g83 α)(ls:List Lf)(k:KRe α):Option α:=
 G (lf ls 0).int (lf ls 1).nat (lf ls 2).nat (lf ls 3).nat (lf ls 4).nat (lf ls 5).nat (lf ls 6).nat (lf ls 7).nat ((lf ls 8).lst rN) ((lf ls 9).rows mK) ((lf ls 10).lst rP)
  (fun c d e h j l n o p q=>k (.tup [(.sv (.int .i64 c)),(.sv (.int .i64 d))]) [[(.one (.slc 1 0 5 e h j)),(.one (.slc 2 0 1 l n o)),(.one (.gsl 4 2))],[(.seq rN (lf ls 7).nat ((lf ls 8).lst rN))],[(.rws mK p none)],[]] [[(.gro rP q)]])
def g83R{α:Type}(G:S_g83 α):=rowK g83tp g83bp (g83K G)
def g83hd(G85:Al S_g85)(G110:Al S_g110)(G65:Al S_g65)(G116:Al S_g116)(G117:Al S_g117)(G66:Al S_g66):Hd where
 call:=fun f args Bs k=>cond (Nat.beq f 85) (g85R G85 args Bs k) (cond (Nat.beq f 110) (g110R G110 args Bs k) (cond (Nat.beq f 65) (g65R G65 args Bs k) (cond (Nat.beq f 116) (g116R G116 args Bs k) (cond (Nat.beq f 117) (g117R G117 args Bs k) (cond (Nat.beq f 66) (g66R G66 args Bs k) (none))))))
 loop:=fun id st k=>none
 ro:=fun f=>cond (Nat.beq f 66) [0,1] (cond (Nat.beq f 85) [1] (cond (Nat.beq f 116) [0] ([])))
def g83h(A85:Al S_g85)(m:Nat):Hd:=g83hd A85 (g110 m) (g65 m) (g116 m) (g117 m) (g66 m)
theorem g83Main(G85:Al S_g85)(G110:Al S_g110)(G65:Al S_g65)(G116:Al S_g116)(G117:Al S_g117)(G66:Al S_g66){α:Type}(ls:List Lf)(k:KRe α):
  g83K (g83b G85 G110 G65 G116 G117 G66) ls k=evFunM tab (g83hd G85 G110 G65 G116 G117 G66) Try.f83 3 (fT g83tp ls) (fB g83tp g83bp ls) k:=by kernel_rfl
theorem g83Calls(A85:Al S_g85)(hA85:HA85 A85)(m:Nat):(g83h A85 m).CallsOk Try.prog:=(cok_cons hA85 (cok_cons (g110Ok m) (cok_cons (g65Ok m) (cok_cons (g116Ok m) (cok_cons (g117Ok m) (cok_cons (g66Ok m) cok_nil))))))
theorem g83Fn(A85:Al S_g85)(hA85:HA85 A85)(m:Nat):FnOk Try.prog 83 g83tp g83bp (fun{α}=>g83K (g83 A85 m (α:=α))):=
 fn_okM (tab:=tab) (h:=g83h A85 m) (fn:=Try.f83) (F:=fun{α}=>g83K (g83 A85 m (α:=α))) tabOk (g83Calls A85 hA85 m) mixed (by kernel_rfl) (by kernel_rfl) (fun c hc=>by
  rw[bodyOf_some hc]
  exact loopsOk_of _ (fun p hp=>by rw[show loopsOf (bodyOf Try.f83)=[] by kernel_rfl] at hp;cases hp))
  (fun _=>g83Main A85 (g110 m) (g65 m) (g116 m) (g117 m) (g66 m))
theorem g83Ok(A85:Al S_g85)(hA85:HA85 A85)(m:Nat):RowOk Try.prog 83 (fun{α}=>g83R (g83 A85 m (α:=α))):=row_of (g83Fn A85 hA85 m)
abbrev S_g148(α:Type):Type:=Bool→(List Int)→Int→(Bool→(List Int)→Int→Option α)→Option α
def g148b{α:Type}(G134:Al S_g134)(a:Bool)(b:List Int)(c:Int)(d:Bool→(List Int)→Int→Option α):Option α:=cond (decide (c>(191:Int))) (d false [0,0,0,0,0,0] (3:Int)) (G134 a b c (fun e h=>d e h (0:Int)))
def g148{α:Type}(m:Nat):S_g148 α:=
 g148b (g134 m)
def g148tp:List TP:=[vW,tI]
def g148bp:List BP:=[]
def g148K{α:Type}(G:S_g148 α)(ls:List Lf)(k:KRe α):Option α:=
 G (lf ls 0).bool ((lf ls 1).lst uU) (lf ls 2).int
  (fun a b c=>k (.tup [(.agg [(.one (.bool a)),(.seq uU 6 b)]),(.sv (.int .i64 c))]) [] [])
def g148R{α:Type}(G:S_g148 α):=rowK g148tp g148bp (g148K G)
def g148hd(G134:Al S_g134):Hd where
 call:=fun f args Bs k=>cond (Nat.beq f 134) (g134R G134 args Bs k) (none)
 loop:=fun id st k=>none
 ro:=fun f=>[]
def g148h(m:Nat):Hd:=g148hd (g134 m)
theorem g148Main(G134:Al S_g134){α:Type}(ls:List Lf)(k:KRe α):
  g148K (g148b G134) ls k=evFun tab (g148hd G134) Try.f148 (fT g148tp ls) (fB g148tp g148bp ls) k:=by kernel_rfl
theorem g148Calls(m:Nat):(g148h m).CallsOk Try.prog:=(cok_cons (g134Ok m) cok_nil)
theorem g148Ok(m:Nat):RowOk Try.prog 148 (fun{α}=>g148R (g148 m (α:=α))):=
 rwk (g148Calls m) (lo0 (by kernel_rfl))
  (fun _=>g148Main (g134 m))
abbrev S_g136(α:Type):Type:=Nat→Int→Nat→Nat→Nat→Nat→Nat→Nat→Nat→Ty0→Ty1→Ty0→(Bool→(List Int)→Int→Nat→Nat→Nat→Nat→Nat→Nat→Ty1→Ty0→Option α)→Option α
def g136b{α:Type}(G83:Al S_g83)(G85:Al S_g85)(G145:Al S_g145)(G148:Al S_g148)(a:Nat)(b:Int)(c d:Nat)(e h:Nat)(i j l:Nat)(n:Ty0)(o:Ty1)(p:Ty0)(q:Bool→(List Int)→Int→Nat→Nat→Nat→Nat→Nat→Nat→Ty1→Ty0→Option α):Option α:=if a<l then G83 (IntKind.wrap .i64 (((List.getD n a []).tail).headD 0)) c d e h i j l n o p (fun r s t u v w x y z a0=>cond (s !=(0:Int)) (q false [0,0,0,0,0,0] s t u v w x y z a0) (if a<l then G83 (IntKind.wrap .i64 (((List.getD n a []).tail.tail).headD 0)) t u v w x y l n z a0 (fun b0 c0 d0 e0 h0 i0 j0 l0 n0 o0=>cond (c0 !=(0:Int)) (q false [0,0,0,0,0,0] c0 d0 e0 h0 i0 j0 l0 n0 o0) (if a<l then G85 (IntKind.wrap .i64 (((List.getD n a []).tail).headD 0)) (IntKind.wrap .i64 ((IntKind.wrap .i64 (b+b0))+(3:Int))) d0 e0 h0 i0 j0 l0 l n n0 o0 (fun p0 q0 r0 s0 t0 u0 v0 w0 x0 y0 z0 a1 b1=>cond (r0 !=(0:Int)) (q false [0,0,0,0,0,0] r0 s0 t0 u0 v0 w0 x0 a1 b1) (if a<l then G85 (IntKind.wrap .i64 (((List.getD n a []).tail.tail).headD 0)) (IntKind.wrap .i64 ((IntKind.wrap .i64 (b+r))+(3:Int))) s0 t0 u0 v0 w0 x0 l n a1 b1 (fun c1 d1 e1 h1 i1 j1 l1 n1 o1 p1 q1 r1 s1=>cond (e1 !=(0:Int)) (q false [0,0,0,0,0,0] e1 h1 i1 j1 l1 n1 o1 r1 s1) (G145 p0 q0 c1 d1 (fun t1 u1 v1=>cond (v1 !=(0:Int)) (q false [0,0,0,0,0,0] v1 h1 i1 j1 l1 n1 o1 r1 s1) (G148 t1 u1 (IntKind.wrap .i64 ((IntKind.wrap .i64 ((IntKind.wrap .i64 (b+r))+b0))+(6:Int))) (fun w1 x1 y1=>q w1 x1 y1 h1 i1 j1 l1 n1 o1 r1 s1))))) else none)) else none)) else none)) else none
def g136(A85:Al S_g85){α:Type}(m:Nat):S_g136 α:=
 g136b (g83 A85 m) A85 (g145 m) (g148 m)
def g136tp:List TP:=[(.vl (.sv (.ptr 0 0))),(.vl (.sv (.el 1 0 5 0))),tI]
def g136bp:List BP:=[(true,[(.one (.slc 1 0 5)),(.one (.slc 2 0 1)),(.one (.gsl 3 2))]),(false,[(.seqv rN)]),(true,[(.rws mK)]),(true,[(.gro rP)])]
def g136K{α:Type}(G:S_g136 α)(ls:List Lf)(k:KRe α):Option α:=
 G (lf ls 0).nat (lf ls 1).int (lf ls 2).nat (lf ls 3).nat (lf ls 4).nat (lf ls 5).nat (lf ls 6).nat (lf ls 7).nat (lf ls 8).nat ((lf ls 9).lst rN) ((lf ls 10).rows mK) ((lf ls 11).lst rP)
  (fun c d e h j l n o p q r=>k (.tup [(.agg [(.one (.bool c)),(.seq uU 6 d)]),(.sv (.int .i64 e))]) [[(.one (.slc 1 0 5 h j l)),(.one (.slc 2 0 1 n o p)),(.one (.gsl 4 2))],[(.seq rN (lf ls 8).nat ((lf ls 9).lst rN))],[(.rws mK q none)],[]] [[(.gro rP r)]])
def g136R{α:Type}(G:S_g136 α):=rowK g136tp g136bp (g136K G)
def g136hd(G83:Al S_g83)(G85:Al S_g85)(G145:Al S_g145)(G148:Al S_g148):Hd where
 call:=fun f args Bs k=>cond (Nat.beq f 83) (g83R G83 args Bs k) (cond (Nat.beq f 85) (g85R G85 args Bs k) (cond (Nat.beq f 145) (g145R G145 args Bs k) (cond (Nat.beq f 148) (g148R G148 args Bs k) (none))))
 loop:=fun id st k=>none
 ro:=fun f=>cond (Nat.beq f 83) [1] (cond (Nat.beq f 85) [1] ([]))
def g136h(A85:Al S_g85)(m:Nat):Hd:=g136hd (g83 A85 m) A85 (g145 m) (g148 m)
theorem g136Main(G83:Al S_g83)(G85:Al S_g85)(G145:Al S_g145)(G148:Al S_g148){α:Type}(ls:List Lf)(k:KRe α):
  g136K (g136b G83 G85 G145 G148) ls k=evFunM tab (g136hd G83 G85 G145 G148) Try.f136 3 (fT g136tp ls) (fB g136tp g136bp ls) k:=by kernel_rfl
theorem g136Calls(A85:Al S_g85)(hA85:HA85 A85)(m:Nat):(g136h A85 m).CallsOk Try.prog:=(cok_cons (g83Ok A85 hA85 m) (cok_cons hA85 (cok_cons (g145Ok m) (cok_cons (g148Ok m) cok_nil))))
theorem g136Fn(A85:Al S_g85)(hA85:HA85 A85)(m:Nat):FnOk Try.prog 136 g136tp g136bp (fun{α}=>g136K (g136 A85 m (α:=α))):=
 fn_okM (tab:=tab) (h:=g136h A85 m) (fn:=Try.f136) (F:=fun{α}=>g136K (g136 A85 m (α:=α))) tabOk (g136Calls A85 hA85 m) mixed (by kernel_rfl) (by kernel_rfl) (fun c hc=>by
  rw[bodyOf_some hc]
  exact loopsOk_of _ (fun p hp=>by rw[show loopsOf (bodyOf Try.f136)=[] by kernel_rfl] at hp;cases hp))
  (fun _=>g136Main (g83 A85 m) A85 (g145 m) (g148 m))
theorem g136Ok(A85:Al S_g85)(hA85:HA85 A85)(m:Nat):RowOk Try.prog 136 (fun{α}=>g136R (g136 A85 m (α:=α))):=row_of (g136Fn A85 hA85 m)
abbrev S_g77(α:Type):Type:=Int→Nat→Nat→Nat→Nat→Nat→Nat→Nat→Ty0→Ty1→Ty0→(Int→Int→Nat→Nat→Nat→Nat→Nat→Nat→Ty1→Ty0→Option α)→Option α
abbrev S_g77l0(α:Type):Type:=Int→Nat→Ty0→(Int→Int→Nat→Nat→Nat→Nat→Nat→Nat→Ty1→Ty0→Option α)→(Nat→Nat→Nat→Nat→Nat→Nat→Ty1→Ty0→Option α)→Int→Nat→Nat→Nat→Nat→Nat→Nat→Ty1→Ty0→Option α
def g77l0b{α:Type}(G85:Al S_g85)(G110:Al S_g110)(G66:Al S_g66)(a:Int)(b:Nat)(c:Ty0)(d:Int→Int→Nat→Nat→Nat→Nat→Nat→Nat→Ty1→Ty0→Option α)(e:Nat→Nat→Nat→Nat→Nat→Nat→Ty1→Ty0→Option α)(h:Int→Nat→Nat→Nat→Nat→Nat→Nat→Ty1→Ty0→Option α)(i:Int)(j l:Nat)(n o:Nat)(p q:Nat)(r:Ty1)(s:Ty0):Option α:=cond (decide (i≤(40:Int))) (G85 a (IntKind.wrap .i64 (i+(2:Int))) j l n o p q b c r s (fun t u v w x y z a0 b0 c0 d0 e0 h0=>cond (v !=(0:Int)) (d (0:Int) v w x y z a0 b0 e0 h0) (G110 (5:Int) (fun i0 j0=>G66 false u i0 j0 (fun l0=>cond (decide (l0≥(0:Int))) (d i (0:Int) w x y z a0 b0 e0 h0) (h (IntKind.wrap .i64 (i+(1:Int))) w x y z a0 b0 e0 h0)))))) (e j l n o p q r s)
def g77l0{α:Type}(G85:Al S_g85)(G110:Al S_g110)(G66:Al S_g66)(a:Int)(b:Nat)(c:Ty0)(d:Int→Int→Nat→Nat→Nat→Nat→Nat→Nat→Ty1→Ty0→Option α)(e:Nat→Nat→Nat→Nat→Nat→Nat→Ty1→Ty0→Option α):Nat→Int→Nat→Nat→Nat→Nat→Nat→Nat→Ty1→Ty0→Option α
 |0=>fun _ _ _ _ _ _ _ _ _=>none
 |m+1=>fun h i j l n o p q r=>g77l0b G85 G110 G66 a b c d e (g77l0 G85 G110 G66 a b c d e m) h i j l n o p q r
def g77l0M(A85:Al S_g85){α:Type}(m:Nat):S_g77l0 α:=
 fun a b c d e h i j l n o p q r=>g77l0 A85 (g110 m) (g66 m) a b c d e m h i j l n o p q r
def g77l0D:LoopD:={n:=30,low:=[0,1,2,3],sl:=[0,1,6],bl:=[0,1,2,3,1000004],tp:=[(.vl (.sv (.ptr 0 0))),tI,tI],bp:=[(true,[(.one (.slc 1 0 5)),(.one (.slc 2 0 1)),(.one (.gsl 1000004 2))]),(false,[(.seqv rN)]),(true,[(.rws mK)]),(true,[]),(true,[(.gro rP)])],xs:=[(1,[4,5]),(2,[])]}
def g77l0K{α:Type}(L:S_g77l0 α)(ls:List Lf)(k:KEx α):Option α:=
 L (lf ls 0).int (lf ls 8).nat ((lf ls 9).lst rN)
  (fun c d e h j l n o p q=>k .ret (mkSt 30 [4,5] [(.vl (.sv (.int .i64 c))),(.vl (.sv (.int .i64 d)))] [0,1,2,3,1000004] [(true,[(.one (.slc 1 0 5 e h j)),(.one (.slc 2 0 1 l n o)),(.one (.gsl 1000004 2))]),(false,[(.seq rN (lf ls 8).nat ((lf ls 9).lst rN))]),(true,[(.rws mK p none)]),(true,[]),(true,[(.gro rP q)])]))
  (fun c d e h j l r s=>k .normal (mkSt 30 [] [] [0,1,2,3,1000004] [(true,[(.one (.slc 1 0 5 c d e)),(.one (.slc 2 0 1 h j l)),(.one (.gsl 1000004 2))]),(false,[(.seq rN (lf ls 8).nat ((lf ls 9).lst rN))]),(true,[(.rws mK r none)]),(true,[]),(true,[(.gro rP s)])]))
  (lf ls 1).int (lf ls 2).nat (lf ls 3).nat (lf ls 4).nat (lf ls 5).nat (lf ls 6).nat (lf ls 7).nat ((lf ls 10).rows mK) ((lf ls 11).lst rP)
def g77b{α:Type}(G85:Al S_g85)(G110:Al S_g110)(G66:Al S_g66)(L77l0:Al S_g77l0)(a:Int)(b c:Nat)(d e:Nat)(h i j:Nat)(l:Ty0)(n:Ty1)(o:Ty0)(p:Int→Int→Nat→Nat→Nat→Nat→Nat→Nat→Ty1→Ty0→Option α):Option α:=L77l0 a j l (fun q r s t u v w x y z=>p q r s t u v w x y z) (fun a0 b0 c0 d0 e0 h0 i0 j0=>p (0:Int) (7:Int) a0 b0 c0 d0 e0 h0 i0 j0) (0:Int) b c d e h i n o
def g77(A85:Al S_g85){α:Type}(m:Nat):S_g77 α:=
 g77b A85 (g110 m) (g66 m) (g77l0M A85 m)
def g77tp:List TP:=[(.vl (.sv (.ptr 0 0))),tI]
def g77bp:List BP:=[(true,[(.one (.slc 1 0 5)),(.one (.slc 2 0 1)),(.one (.gsl 3 2))]),(false,[(.seqv rN)]),(true,[(.rws mK)]),(true,[(.gro rP)])]
def g77K{α:Type}(G:S_g77 α)(ls:List Lf)(k:KRe α):Option α:=
 G (lf ls 0).int (lf ls 1).nat (lf ls 2).nat (lf ls 3).nat (lf ls 4).nat (lf ls 5).nat (lf ls 6).nat (lf ls 7).nat ((lf ls 8).lst rN) ((lf ls 9).rows mK) ((lf ls 10).lst rP)
  (fun c d e h j l n o p q=>k (.tup [(.sv (.int .i64 c)),(.sv (.int .i64 d))]) [[(.one (.slc 1 0 5 e h j)),(.one (.slc 2 0 1 l n o)),(.one (.gsl 4 2))],[(.seq rN (lf ls 7).nat ((lf ls 8).lst rN))],[(.rws mK p none)],[]] [[(.gro rP q)]])
def g77R{α:Type}(G:S_g77 α):=rowK g77tp g77bp (g77K G)
def g77hd(G85:Al S_g85)(G110:Al S_g110)(G66:Al S_g66)(L77l0:Al S_g77l0):Hd where
 call:=fun f args Bs k=>cond (Nat.beq f 85) (g85R G85 args Bs k) (cond (Nat.beq f 110) (g110R G110 args Bs k) (cond (Nat.beq f 66) (g66R G66 args Bs k) (none)))
 loop:=fun id st k=>cond (Nat.beq id 0) (loopH g77l0D (g77l0K L77l0) st k) (none)
 ro:=fun f=>cond (Nat.beq f 66) [0,1] (cond (Nat.beq f 85) [1] ([]))
def g77h(A85:Al S_g85)(m:Nat):Hd:=g77hd A85 (g110 m) (g66 m) (g77l0M A85 m)
theorem g77l0Step(G85:Al S_g85)(G110:Al S_g110)(G66:Al S_g66)(L77l0:Al S_g77l0){α:Type}(L:S_g77l0 α)(ls:List Lf)(k:KEx α):
  g77l0K (fun a b c d e h i j l n o p q r=>g77l0b G85 G110 G66 a b c d e (L a b c d e) h i j l n o p q r) ls k=ev tab (g77hd G85 G110 G66 L77l0) (bodyAt Try.f77 0) (atHead g77l0D ls) (loopK g77l0D 0 (loopH g77l0D (g77l0K L)) k):=by kernel_rfl
theorem g77Main(G85:Al S_g85)(G110:Al S_g110)(G66:Al S_g66)(L77l0:Al S_g77l0){α:Type}(ls:List Lf)(k:KRe α):
  g77K (g77b G85 G110 G66 L77l0) ls k=evFunM tab (g77hd G85 G110 G66 L77l0) Try.f77 3 (fT g77tp ls) (fB g77tp g77bp ls) k:=by kernel_rfl
theorem g77Calls(A85:Al S_g85)(hA85:HA85 A85)(m:Nat):(g77h A85 m).CallsOk Try.prog:=(cok_cons hA85 (cok_cons (g110Ok m) (cok_cons (g66Ok m) cok_nil)))
theorem g77l0Ok(A85:Al S_g85)(hA85:HA85 A85)(m:Nat)(α:Type)(st:St)(k:KEx α)(r:α)(h:(g77h A85 m).loop 0 st k=some r):
  LoopS Try.prog 0 (bodyAt Try.f77 0) st k r:=
 lpk (F:=fun n ls k=>g77l0K (fun a b c d e i j l o q s t u v=>g77l0 A85 (g110 m) (g66 m) a b c d e n i j l o q s t u v) ls k) (g77Calls A85 hA85 m) (lb0 (by kernel_rfl))
  (fun _ _=>rfl) (fun n ls k=>g77l0Step A85 (g110 m) (g66 m) (g77l0M A85 m) (fun a b c d e=>g77l0 A85 (g110 m) (g66 m) a b c d e n) ls k) (n:=m) h
theorem g77Fn(A85:Al S_g85)(hA85:HA85 A85)(m:Nat):FnOk Try.prog 77 g77tp g77bp (fun{α}=>g77K (g77 A85 m (α:=α))):=
 fn_okM (tab:=tab) (h:=g77h A85 m) (fn:=Try.f77) (F:=fun{α}=>g77K (g77 A85 m (α:=α))) tabOk (g77Calls A85 hA85 m) mixed (by kernel_rfl) (by kernel_rfl) (fun c hc=>by
  rw[bodyOf_some hc]
  exact loopsOk_of _ (fun p hp=>by
  rw[show loopsOf (bodyOf Try.f77)=[(0,bodyAt Try.f77 0)] by kernel_rfl] at hp
  simp only[List.mem_cons,List.not_mem_nil,or_false] at hp
  rcases hp with rfl
  exact g77l0Ok A85 hA85 m))
  (fun _=>g77Main A85 (g110 m) (g66 m) (g77l0M A85 m))
theorem g77Ok(A85:Al S_g85)(hA85:HA85 A85)(m:Nat):RowOk Try.prog 77 (fun{α}=>g77R (g77 A85 m (α:=α))):=row_of (g77Fn A85 hA85 m)
abbrev S_g137(α:Type):Type:=Nat→Int→Nat→Nat→Nat→Nat→Nat→Nat→Nat→Ty0→Ty1→Ty0→(Bool→(List Int)→Int→Nat→Nat→Nat→Nat→Nat→Nat→Ty1→Ty0→Option α)→Option α
def g137b{α:Type}(G77:Al S_g77)(G83:Al S_g83)(G85:Al S_g85)(G131:Al S_g131)(G71:Al S_g71)(a:Nat)(b:Int)(c d:Nat)(e h:Nat)(i j l:Nat)(n:Ty0)(o:Ty1)(p:Ty0)(q:Bool→(List Int)→Int→Nat→Nat→Nat→Nat→Nat→Nat→Ty1→Ty0→Option α):Option α:=if a<l then G77 (IntKind.wrap .i64 (((List.getD n a []).tail.tail).headD 0)) c d e h i j l n o p (fun r s t u v w x y z a0=>cond (s !=(0:Int)) (q false [0,0,0,0,0,0] s t u v w x y z a0) (if a<l then G83 (IntKind.wrap .i64 (((List.getD n a []).tail).headD 0)) t u v w x y l n z a0 (fun b0 c0 d0 e0 h0 i0 j0 l0 n0 o0=>cond (c0 !=(0:Int)) (q false [0,0,0,0,0,0] c0 d0 e0 h0 i0 j0 l0 n0 o0) (if a<l then G85 (IntKind.wrap .i64 (((List.getD n a []).tail).headD 0)) (IntKind.wrap .i64 ((IntKind.wrap .i64 (b+r))+(3:Int))) d0 e0 h0 i0 j0 l0 l n n0 o0 (fun p0 q0 r0 s0 t0 u0 v0 w0 x0 y0 z0 a1 b1=>cond (r0 !=(0:Int)) (q false [0,0,0,0,0,0] r0 s0 t0 u0 v0 w0 x0 a1 b1) (if a<l then G85 (IntKind.wrap .i64 (((List.getD n a []).tail.tail).headD 0)) (IntKind.wrap .i64 ((IntKind.wrap .i64 ((IntKind.wrap .i64 (b+b0))+(IntKind.wrap .i64 ((2:Int)*r))))+(4:Int))) s0 t0 u0 v0 w0 x0 l n a1 b1 (fun c1 d1 e1 h1 i1 j1 l1 n1 o1 p1 q1 r1 s1=>cond (e1 !=(0:Int)) (q false [0,0,0,0,0,0] e1 h1 i1 j1 l1 n1 o1 r1 s1) (G131 p0 q0 (IntKind.wrap .i64 ((IntKind.wrap .i64 ((IntKind.wrap .i64 (b+b0))+r))+(1:Int))) (fun t1 u1 v1=>cond (v1 !=(0:Int)) (q false [0,0,0,0,0,0] v1 h1 i1 j1 l1 n1 o1 r1 s1) (G71 t1 u1 c1 d1 (fun w1 x1=>q w1 x1 (0:Int) h1 i1 j1 l1 n1 o1 r1 s1))))) else none)) else none)) else none)) else none
def g137(A85:Al S_g85){α:Type}(m:Nat):S_g137 α:=
 g137b (g77 A85 m) (g83 A85 m) A85 (g131 m) (g71 m)
def g137tp:List TP:=[(.vl (.sv (.ptr 0 0))),(.vl (.sv (.el 1 0 5 0))),tI]
def g137bp:List BP:=[(true,[(.one (.slc 1 0 5)),(.one (.slc 2 0 1)),(.one (.gsl 3 2))]),(false,[(.seqv rN)]),(true,[(.rws mK)]),(true,[(.gro rP)])]
def g137K{α:Type}(G:S_g137 α)(ls:List Lf)(k:KRe α):Option α:=
 G (lf ls 0).nat (lf ls 1).int (lf ls 2).nat (lf ls 3).nat (lf ls 4).nat (lf ls 5).nat (lf ls 6).nat (lf ls 7).nat (lf ls 8).nat ((lf ls 9).lst rN) ((lf ls 10).rows mK) ((lf ls 11).lst rP)
  (fun c d e h j l n o p q r=>k (.tup [(.agg [(.one (.bool c)),(.seq uU 6 d)]),(.sv (.int .i64 e))]) [[(.one (.slc 1 0 5 h j l)),(.one (.slc 2 0 1 n o p)),(.one (.gsl 4 2))],[(.seq rN (lf ls 8).nat ((lf ls 9).lst rN))],[(.rws mK q none)],[]] [[(.gro rP r)]])
def g137R{α:Type}(G:S_g137 α):=rowK g137tp g137bp (g137K G)
def g137hd(G77:Al S_g77)(G83:Al S_g83)(G85:Al S_g85)(G131:Al S_g131)(G71:Al S_g71):Hd where
 call:=fun f args Bs k=>cond (Nat.beq f 77) (g77R G77 args Bs k) (cond (Nat.beq f 83) (g83R G83 args Bs k) (cond (Nat.beq f 85) (g85R G85 args Bs k) (cond (Nat.beq f 131) (g131R G131 args Bs k) (cond (Nat.beq f 71) (g71R G71 args Bs k) (none)))))
 loop:=fun id st k=>none
 ro:=fun f=>cond (Nat.beq f 77) [1] (cond (Nat.beq f 83) [1] (cond (Nat.beq f 85) [1] ([])))
def g137h(A85:Al S_g85)(m:Nat):Hd:=g137hd (g77 A85 m) (g83 A85 m) A85 (g131 m) (g71 m)
theorem g137Main(G77:Al S_g77)(G83:Al S_g83)(G85:Al S_g85)(G131:Al S_g131)(G71:Al S_g71){α:Type}(ls:List Lf)(k:KRe α):
  g137K (g137b G77 G83 G85 G131 G71) ls k=evFunM tab (g137hd G77 G83 G85 G131 G71) Try.f137 3 (fT g137tp ls) (fB g137tp g137bp ls) k:=by kernel_rfl
theorem g137Calls(A85:Al S_g85)(hA85:HA85 A85)(m:Nat):(g137h A85 m).CallsOk Try.prog:=(cok_cons (g77Ok A85 hA85 m) (cok_cons (g83Ok A85 hA85 m) (cok_cons hA85 (cok_cons (g131Ok m) (cok_cons (g71Ok m) cok_nil)))))
theorem g137Fn(A85:Al S_g85)(hA85:HA85 A85)(m:Nat):FnOk Try.prog 137 g137tp g137bp (fun{α}=>g137K (g137 A85 m (α:=α))):=
 fn_okM (tab:=tab) (h:=g137h A85 m) (fn:=Try.f137) (F:=fun{α}=>g137K (g137 A85 m (α:=α))) tabOk (g137Calls A85 hA85 m) mixed (by kernel_rfl) (by kernel_rfl) (fun c hc=>by
  rw[bodyOf_some hc]
  exact loopsOk_of _ (fun p hp=>by rw[show loopsOf (bodyOf Try.f137)=[] by kernel_rfl] at hp;cases hp))
  (fun _=>g137Main (g77 A85 m) (g83 A85 m) A85 (g131 m) (g71 m))
theorem g137Ok(A85:Al S_g85)(hA85:HA85 A85)(m:Nat):RowOk Try.prog 137 (fun{α}=>g137R (g137 A85 m (α:=α))):=row_of (g137Fn A85 hA85 m)
abbrev S_g118(α:Type):Type:=Nat→Int→Nat→Nat→Nat→Nat→Nat→Nat→Nat→Ty0→Ty1→Ty0→(Bool→(List Int)→Int→Nat→Nat→Nat→Nat→Nat→Nat→Ty1→Ty0→Option α)→Option α
def g118b{α:Type}(G110:Al S_g110)(G131:Al S_g131)(G71:Al S_g71)(G132:Al S_g132)(G133:Al S_g133)(G85:Al S_g85)(G121:Al S_g121)(G135:Al S_g135)(G134:Al S_g134)(G136:Al S_g136)(G137:Al S_g137)(G66:Al S_g66)(G65:Al S_g65)(a:Nat)(b:Int)(c d:Nat)(e h:Nat)(i j l:Nat)(n:Ty0)(o:Ty1)(p:Ty0)(q:Bool→(List Int)→Int→Nat→Nat→Nat→Nat→Nat→Nat→Ty1→Ty0→Option α):Option α:=if a<l then let r:Int:=(List.getD n a []).headD 0;cond (r==(1:Int)) (if a<l then G110 (((List.getD n a []).tail.tail.tail).headD 0) (fun s t=>G131 s t b (fun u v w=>cond (w !=(0:Int)) (q false [0,0,0,0,0,0] w c d e h i j o p) (if a<l then G110 (((List.getD n a []).tail.tail.tail.tail).headD 0) (fun x y=>G71 u v x y (fun z a0=>q z a0 (0:Int) c d e h i j o p)) else none))) else none) (cond (r==(11:Int)) (G132 b (fun b0 c0=>q b0 c0 (0:Int) c d e h i j o p)) (cond (r==(12:Int)) (G133 b (fun d0 e0=>q d0 e0 (0:Int) c d e h i j o p)) (cond (r==(6:Int)) (if a<l then G85 (IntKind.wrap .i64 (((List.getD n a []).tail).headD 0)) b c d e h i j l n o p (fun h0 i0 j0 l0 n0 o0 p0 q0 r0 s0 t0 u0 v0=>cond (j0 !=(0:Int)) (q false [0,0,0,0,0,0] j0 l0 n0 o0 p0 q0 r0 u0 v0) (if a<l then cond (((List.getD n a []).headD 0)==(6:Int)) (G121 h0 i0 (fun w0=>q w0 i0 (0:Int) l0 n0 o0 p0 q0 r0 u0 v0)) (cond h0 (G121 h0 i0 (fun x0=>q x0 i0 (0:Int) l0 n0 o0 p0 q0 r0 u0 v0)) (q h0 i0 (0:Int) l0 n0 o0 p0 q0 r0 u0 v0)) else none)) else none) (cond (r==(7:Int)) (if a<l then G85 (IntKind.wrap .i64 (((List.getD n a []).tail).headD 0)) b c d e h i j l n o p (fun y0 z0 a1 b1 c1 d1 e1 h1 i1 j1 l1 n1 o1=>cond (a1 !=(0:Int)) (q false [0,0,0,0,0,0] a1 b1 c1 d1 e1 h1 i1 n1 o1) (if a<l then cond (((List.getD n a []).headD 0)==(6:Int)) (G121 y0 z0 (fun p1=>q p1 z0 (0:Int) b1 c1 d1 e1 h1 i1 n1 o1)) (cond y0 (G121 y0 z0 (fun q1=>q q1 z0 (0:Int) b1 c1 d1 e1 h1 i1 n1 o1)) (q y0 z0 (0:Int) b1 c1 d1 e1 h1 i1 n1 o1)) else none)) else none) (cond (r==(10:Int)) (if a<l then G85 (IntKind.wrap .i64 (((List.getD n a []).tail).headD 0)) (IntKind.wrap .i64 ((IntKind.wrap .i64 ((2:Int)*b))+(6:Int))) c d e h i j l n o p (fun r1 s1 t1 u1 v1 w1 x1 y1 z1 a2 b2 c2 d2=>cond (t1 !=(0:Int)) (q false [0,0,0,0,0,0] t1 u1 v1 w1 x1 y1 z1 c2 d2) (cond r1 (q false [0,0,0,0,0,0] t1 u1 v1 w1 x1 y1 z1 c2 d2) (G135 r1 s1 (fun e2 h2=>G134 e2 h2 (3:Int) (fun i2 j2=>q i2 j2 (0:Int) u1 v1 w1 x1 y1 z1 c2 d2))))) else none) (cond (r==(4:Int)) (G136 a b c d e h i j l n o p (fun l2 n2 o2 p2 q2 r2 s2 t2 u2 v2 w2=>q l2 n2 o2 p2 q2 r2 s2 t2 u2 v2 w2)) (cond (r==(5:Int)) (G137 a b c d e h i j l n o p (fun x2 y2 z2 a3 b3 c3 d3 e3 h3 i3 j3=>q x2 y2 z2 a3 b3 c3 d3 e3 h3 i3 j3)) (if a<l then cond (((List.getD n a []).headD 0)==(8:Int)) (if a<l then G85 (IntKind.wrap .i64 (((List.getD n a []).tail).headD 0)) (IntKind.wrap .i64 (b+(0:Int))) c d e h i j l n o p (fun l3 n3 o3 p3 q3 r3 s3 t3 u3 v3 w3 x3 y3=>cond (o3 !=(0:Int)) (q false [0,0,0,0,0,0] o3 p3 q3 r3 s3 t3 u3 x3 y3) (if a<l then G85 (IntKind.wrap .i64 (((List.getD n a []).tail.tail).headD 0)) (IntKind.wrap .i64 (b+(0:Int))) p3 q3 r3 s3 t3 u3 l n x3 y3 (fun z3 a4 b4 c4 d4 e4 h4 i4 j4 l4 n4 o4 p4=>cond (b4 !=(0:Int)) (q false [0,0,0,0,0,0] b4 c4 d4 e4 h4 i4 j4 o4 p4) (if a<l then let q4:Int:=(List.getD n a []).headD 0;cond (q4==(8:Int)) (G66 l3 n3 z3 a4 (fun r4=>if a<l then cond ((decide (r4<(0:Int)))==(((List.getD n a []).headD 0)==(8:Int))) (q l3 n3 (0:Int) c4 d4 e4 h4 i4 j4 o4 p4) (q z3 a4 (0:Int) c4 d4 e4 h4 i4 j4 o4 p4) else none)) (cond (q4==(9:Int)) (G66 l3 n3 z3 a4 (fun s4=>if a<l then cond ((decide (s4<(0:Int)))==(((List.getD n a []).headD 0)==(8:Int))) (q l3 n3 (0:Int) c4 d4 e4 h4 i4 j4 o4 p4) (q z3 a4 (0:Int) c4 d4 e4 h4 i4 j4 o4 p4) else none)) (cond (q4==(3:Int)) (G121 z3 a4 (fun t4=>G65 l3 n3 t4 a4 (fun u4 v4 w4=>cond (w4 !=(0:Int)) (q false [0,0,0,0,0,0] w4 c4 d4 e4 h4 i4 j4 o4 p4) (G134 u4 v4 (2:Int) (fun x4 y4=>q x4 y4 (0:Int) c4 d4 e4 h4 i4 j4 o4 p4))))) (G65 l3 n3 z3 a4 (fun z4 a5 b5=>cond (b5 !=(0:Int)) (q false [0,0,0,0,0,0] b5 c4 d4 e4 h4 i4 j4 o4 p4) (G134 z4 a5 (2:Int) (fun c5 d5=>q c5 d5 (0:Int) c4 d4 e4 h4 i4 j4 o4 p4)))))) else none)) else none)) else none) (if a<l then cond (((List.getD n a []).headD 0)==(9:Int)) (if a<l then G85 (IntKind.wrap .i64 (((List.getD n a []).tail).headD 0)) (IntKind.wrap .i64 (b+(0:Int))) c d e h i j l n o p (fun e5 h5 i5 j5 l5 n5 o5 p5 q5 r5 s5 t5 u5=>cond (i5 !=(0:Int)) (q false [0,0,0,0,0,0] i5 j5 l5 n5 o5 p5 q5 t5 u5) (if a<l then G85 (IntKind.wrap .i64 (((List.getD n a []).tail.tail).headD 0)) (IntKind.wrap .i64 (b+(0:Int))) j5 l5 n5 o5 p5 q5 l n t5 u5 (fun v5 w5 x5 y5 z5 a6 b6 c6 d6 e6 h6 i6 j6=>cond (x5 !=(0:Int)) (q false [0,0,0,0,0,0] x5 y5 z5 a6 b6 c6 d6 i6 j6) (if a<l then let l6:Int:=(List.getD n a []).headD 0;cond (l6==(8:Int)) (G66 e5 h5 v5 w5 (fun n6=>if a<l then cond ((decide (n6<(0:Int)))==(((List.getD n a []).headD 0)==(8:Int))) (q e5 h5 (0:Int) y5 z5 a6 b6 c6 d6 i6 j6) (q v5 w5 (0:Int) y5 z5 a6 b6 c6 d6 i6 j6) else none)) (cond (l6==(9:Int)) (G66 e5 h5 v5 w5 (fun o6=>if a<l then cond ((decide (o6<(0:Int)))==(((List.getD n a []).headD 0)==(8:Int))) (q e5 h5 (0:Int) y5 z5 a6 b6 c6 d6 i6 j6) (q v5 w5 (0:Int) y5 z5 a6 b6 c6 d6 i6 j6) else none)) (cond (l6==(3:Int)) (G121 v5 w5 (fun p6=>G65 e5 h5 p6 w5 (fun q6 r6 s6=>cond (s6 !=(0:Int)) (q false [0,0,0,0,0,0] s6 y5 z5 a6 b6 c6 d6 i6 j6) (G134 q6 r6 (2:Int) (fun t6 u6=>q t6 u6 (0:Int) y5 z5 a6 b6 c6 d6 i6 j6))))) (G65 e5 h5 v5 w5 (fun v6 w6 x6=>cond (x6 !=(0:Int)) (q false [0,0,0,0,0,0] x6 y5 z5 a6 b6 c6 d6 i6 j6) (G134 v6 w6 (2:Int) (fun y6 z6=>q y6 z6 (0:Int) y5 z5 a6 b6 c6 d6 i6 j6)))))) else none)) else none)) else none) (if a<l then G85 (IntKind.wrap .i64 (((List.getD n a []).tail).headD 0)) (IntKind.wrap .i64 (b+(2:Int))) c d e h i j l n o p (fun a7 b7 c7 d7 e7 h7 i7 j7 l7 n7 o7 p7 q7=>cond (c7 !=(0:Int)) (q false [0,0,0,0,0,0] c7 d7 e7 h7 i7 j7 l7 p7 q7) (if a<l then G85 (IntKind.wrap .i64 (((List.getD n a []).tail.tail).headD 0)) (IntKind.wrap .i64 (b+(2:Int))) d7 e7 h7 i7 j7 l7 l n p7 q7 (fun r7 s7 t7 u7 v7 w7 x7 y7 z7 a8 b8 c8 d8=>cond (t7 !=(0:Int)) (q false [0,0,0,0,0,0] t7 u7 v7 w7 x7 y7 z7 c8 d8) (if a<l then let e8:Int:=(List.getD n a []).headD 0;cond (e8==(8:Int)) (G66 a7 b7 r7 s7 (fun h8=>if a<l then cond ((decide (h8<(0:Int)))==(((List.getD n a []).headD 0)==(8:Int))) (q a7 b7 (0:Int) u7 v7 w7 x7 y7 z7 c8 d8) (q r7 s7 (0:Int) u7 v7 w7 x7 y7 z7 c8 d8) else none)) (cond (e8==(9:Int)) (G66 a7 b7 r7 s7 (fun i8=>if a<l then cond ((decide (i8<(0:Int)))==(((List.getD n a []).headD 0)==(8:Int))) (q a7 b7 (0:Int) u7 v7 w7 x7 y7 z7 c8 d8) (q r7 s7 (0:Int) u7 v7 w7 x7 y7 z7 c8 d8) else none)) (cond (e8==(3:Int)) (G121 r7 s7 (fun j8=>G65 a7 b7 j8 s7 (fun l8 n8 o8=>cond (o8 !=(0:Int)) (q false [0,0,0,0,0,0] o8 u7 v7 w7 x7 y7 z7 c8 d8) (G134 l8 n8 (2:Int) (fun p8 q8=>q p8 q8 (0:Int) u7 v7 w7 x7 y7 z7 c8 d8))))) (G65 a7 b7 r7 s7 (fun r8 s8 t8=>cond (t8 !=(0:Int)) (q false [0,0,0,0,0,0] t8 u7 v7 w7 x7 y7 z7 c8 d8) (G134 r8 s8 (2:Int) (fun u8 v8=>q u8 v8 (0:Int) u7 v7 w7 x7 y7 z7 c8 d8)))))) else none)) else none)) else none) else none) else none)))))))) else none
def g118(A85:Al S_g85){α:Type}(m:Nat):S_g118 α:=
 g118b (g110 m) (g131 m) (g71 m) (g132 m) (g133 m) A85 (g121 m) (g135 m) (g134 m) (g136 A85 m) (g137 A85 m) (g66 m) (g65 m)
def g118tp:List TP:=[(.vl (.sv (.ptr 0 0))),(.vl (.sv (.el 1 0 5 0))),tI]
def g118bp:List BP:=[(true,[(.one (.slc 1 0 5)),(.one (.slc 2 0 1)),(.one (.gsl 3 2))]),(false,[(.seqv rN)]),(true,[(.rws mK)]),(true,[(.gro rP)])]
def g118K{α:Type}(G:S_g118 α)(ls:List Lf)(k:KRe α):Option α:=
 G (lf ls 0).nat (lf ls 1).int (lf ls 2).nat (lf ls 3).nat (lf ls 4).nat (lf ls 5).nat (lf ls 6).nat (lf ls 7).nat (lf ls 8).nat ((lf ls 9).lst rN) ((lf ls 10).rows mK) ((lf ls 11).lst rP)
  (fun c d e h j l n o p q r=>k (.tup [(.agg [(.one (.bool c)),(.seq uU 6 d)]),(.sv (.int .i64 e))]) [[(.one (.slc 1 0 5 h j l)),(.one (.slc 2 0 1 n o p)),(.one (.gsl 4 2))],[(.seq rN (lf ls 8).nat ((lf ls 9).lst rN))],[(.rws mK q none)],[]] [[(.gro rP r)]])
def g118R{α:Type}(G:S_g118 α):=rowK g118tp g118bp (g118K G)
def g118hd(G110:Al S_g110)(G131:Al S_g131)(G71:Al S_g71)(G132:Al S_g132)(G133:Al S_g133)(G85:Al S_g85)(G121:Al S_g121)(G135:Al S_g135)(G134:Al S_g134)(G136:Al S_g136)(G137:Al S_g137)(G66:Al S_g66)(G65:Al S_g65):Hd where
 call:=fun f args Bs k=>cond (Nat.beq f 110) (g110R G110 args Bs k) (cond (Nat.beq f 131) (g131R G131 args Bs k) (cond (Nat.beq f 71) (g71R G71 args Bs k) (cond (Nat.beq f 132) (g132R G132 args Bs k) (cond (Nat.beq f 133) (g133R G133 args Bs k) (cond (Nat.beq f 85) (g85R G85 args Bs k) (cond (Nat.beq f 121) (g121R G121 args Bs k) (cond (Nat.beq f 135) (g135R G135 args Bs k) (cond (Nat.beq f 134) (g134R G134 args Bs k) (cond (Nat.beq f 136) (g136R G136 args Bs k) (cond (Nat.beq f 137) (g137R G137 args Bs k) (cond (Nat.beq f 66) (g66R G66 args Bs k) (cond (Nat.beq f 65) (g65R G65 args Bs k) (none)))))))))))))
 loop:=fun id st k=>none
 ro:=fun f=>cond (Nat.beq f 66) [0,1] (cond (Nat.beq f 85) [1] (cond (Nat.beq f 136) [1] (cond (Nat.beq f 137) [1] ([]))))
def g118h(A85:Al S_g85)(m:Nat):Hd:=g118hd (g110 m) (g131 m) (g71 m) (g132 m) (g133 m) A85 (g121 m) (g135 m) (g134 m) (g136 A85 m) (g137 A85 m) (g66 m) (g65 m)
theorem g118Main(G110:Al S_g110)(G131:Al S_g131)(G71:Al S_g71)(G132:Al S_g132)(G133:Al S_g133)(G85:Al S_g85)(G121:Al S_g121)(G135:Al S_g135)(G134:Al S_g134)(G136:Al S_g136)(G137:Al S_g137)(G66:Al S_g66)(G65:Al S_g65){α:Type}(ls:List Lf)(k:KRe α):
  g118K (g118b G110 G131 G71 G132 G133 G85 G121 G135 G134 G136 G137 G66 G65) ls k=evFunM tab (g118hd G110 G131 G71 G132 G133 G85 G121 G135 G134 G136 G137 G66 G65) Try.f118 3 (fT g118tp ls) (fB g118tp g118bp ls) k:=by kernel_rfl
theorem g118Calls(A85:Al S_g85)(hA85:HA85 A85)(m:Nat):(g118h A85 m).CallsOk Try.prog:=(cok_cons (g110Ok m) (cok_cons (g131Ok m) (cok_cons (g71Ok m) (cok_cons (g132Ok m) (cok_cons (g133Ok m) (cok_cons hA85 (cok_cons (g121Ok m) (cok_cons (g135Ok m) (cok_cons (g134Ok m) (cok_cons (g136Ok A85 hA85 m) (cok_cons (g137Ok A85 hA85 m) (cok_cons (g66Ok m) (cok_cons (g65Ok m) cok_nil)))))))))))))
theorem g118Fn(A85:Al S_g85)(hA85:HA85 A85)(m:Nat):FnOk Try.prog 118 g118tp g118bp (fun{α}=>g118K (g118 A85 m (α:=α))):=
 fn_okM (tab:=tab) (h:=g118h A85 m) (fn:=Try.f118) (F:=fun{α}=>g118K (g118 A85 m (α:=α))) tabOk (g118Calls A85 hA85 m) mixed (by kernel_rfl) (by kernel_rfl) (fun c hc=>by
  rw[bodyOf_some hc]
  exact loopsOk_of _ (fun p hp=>by rw[show loopsOf (bodyOf Try.f118)=[] by kernel_rfl] at hp;cases hp))
  (fun _=>g118Main (g110 m) (g131 m) (g71 m) (g132 m) (g133 m) A85 (g121 m) (g135 m) (g134 m) (g136 A85 m) (g137 A85 m) (g66 m) (g65 m))
theorem g118Ok(A85:Al S_g85)(hA85:HA85 A85)(m:Nat):RowOk Try.prog 118 (fun{α}=>g118R (g118 A85 m (α:=α))):=row_of (g118Fn A85 hA85 m)
abbrev S_g85l0(α:Type):Type:=Int→Int→Nat→Nat→Nat→Nat→Nat→Nat→Nat→Ty0→Ty1→Nat→Bool→(List Int)→Ty2→Ty0→(Ty1→Bool→(List Int)→Option α)→(Ty1→Option α)→Int→Option α
def g85l0b{α:Type}(c d:Int)(e h:Nat)(j l:Nat)(n o p:Nat)(q:Ty0)(r:Ty1)(s:Nat)(t:Bool)(u:List Int)(v:Ty2)(w:Ty0)(x:Ty1→Bool→(List Int)→Option α)(y:Ty1→Option α)(z:Int→Option α)(a0:Int):Option α:=cond (decide (a0<((v.length:Nat):Int))) (if 0≤a0∧a0<(v.length:Nat) then if a0.toNat<v.length then cond (((List.getD v (a0.toNat) (pD [.i .i64, .b, .a .u32 6])).1)==d) (if 0≤a0∧a0<(v.length:Nat) then if a0.toNat<v.length then let b0:Ty3:=List.getD v (a0.toNat) (pD [.i .i64, .b, .a .u32 6]);if s<r.length then x (List.set r s v) (b0.2.1) (padI 6 b0.2.2.1) else none else none else none) (z (IntKind.wrap .i64 (a0+(1:Int)))) else none else none) (if s<r.length then y (List.set r s v) else none)
def g85l0{α:Type}(a b:Int)(c d:Nat)(e h:Nat)(i j l:Nat)(n:Ty0)(o:Ty1)(p:Nat)(q:Bool)(r:List Int)(s:Ty2)(t:Ty0)(u:Ty1→Bool→(List Int)→Option α)(v:Ty1→Option α):Nat→Int→Option α
 |0=>fun _=>none
 |m+1=>fun w=>g85l0b a b c d e h i j l n o p q r s t u v (g85l0 a b c d e h i j l n o p q r s t u v m) w
def g85l0M(A85:Al S_g85){α:Type}(m:Nat):S_g85l0 α:=
 fun a b c d e h i j l n o p q r s t u v w=>g85l0 a b c d e h i j l n o p q r s t u v m w
def g85l0D:LoopD:={n:=89,low:=[0,1,2,3],sl:=[0,1,2,6,8,9],bl:=[0,1,2,3,1000004,1000005,1000006],tp:=[(.vl (.sv (.ptr 0 0))),tI,tI,(.vl (.sv (.ptr 1000004 0))),(.vl (.sv (.gsl 1000005 8))),tI],bp:=[(true,[(.one (.slc 1 0 5)),(.one (.slc 2 0 1)),(.one (.gsl 1000006 2))]),(false,[(.seqv rN)]),(true,[(.rwh mK 1000005)]),(true,[]),(true,[(.one .bool),(.seq uU 6)]),(true,[(.gro mK)]),(true,[(.gro rP)])],xs:=[(1,[6,7]),(2,[0,1,2,6])]}
def g85l0K{α:Type}(L:S_g85l0 α)(ls:List Lf)(k:KEx α):Option α:=
 L (lf ls 0).int (lf ls 1).int (lf ls 3).nat (lf ls 4).nat (lf ls 5).nat (lf ls 6).nat (lf ls 7).nat (lf ls 8).nat (lf ls 9).nat ((lf ls 10).lst rN) ((lf ls 11).rows mK) (lf ls 12).nat (lf ls 13).bool ((lf ls 14).lst uU) ((lf ls 15).lst mK) ((lf ls 16).lst rP)
  (fun c d e=>k .ret (mkSt 89 [6,7] [(.vl (.sv (.ptr 1000004 0))),(.vl (.sv (.int .i64 (0:Int))))] [0,1,2,3,1000004,1000005] [(true,[(.one (.slc 1 0 5 (lf ls 3).nat (lf ls 4).nat (lf ls 5).nat)),(.one (.slc 2 0 1 (lf ls 6).nat (lf ls 7).nat (lf ls 8).nat)),(.one (.gsl 1000005 2))]),(false,[(.seq rN (lf ls 9).nat ((lf ls 10).lst rN))]),(true,[(.rws mK c none)]),(true,[]),(true,[(.one (.bool d)),(.seq uU 6 e)]),(true,[(.gro rP ((lf ls 16).lst rP))])]))
  (fun d=>k .normal (mkSt 89 [0,1,2,6] [(.vl (.sv (.ptr 0 0))),(.vl (.sv (.int .i64 (lf ls 0).int))),(.vl (.sv (.int .i64 (lf ls 1).int))),(.vl (.sv (.ptr 1000004 0)))] [0,1,2,3,1000004,1000005] [(true,[(.one (.slc 1 0 5 (lf ls 3).nat (lf ls 4).nat (lf ls 5).nat)),(.one (.slc 2 0 1 (lf ls 6).nat (lf ls 7).nat (lf ls 8).nat)),(.one (.gsl 1000005 2))]),(false,[(.seq rN (lf ls 9).nat ((lf ls 10).lst rN))]),(true,[(.rws mK d none)]),(true,[]),(true,[(.one (.bool (lf ls 13).bool)),(.seq uU 6 ((lf ls 14).lst uU))]),(true,[(.gro rP ((lf ls 16).lst rP))])]))
  (lf ls 2).int
def g85b{α:Type}(G118:Al S_g118)(L85l0:Al S_g85l0)(a b:Int)(c d:Nat)(e h:Nat)(i j l:Nat)(n:Ty0)(o:Ty1)(p:Ty0)(q:Bool→(List Int)→Int→Nat→Nat→Nat→Nat→Nat→Nat→Nat→Ty0→Ty1→Ty0→Option α):Option α:=if 0≤a∧a<(i:Nat) then if(h+a.toNat)<o.length then L85l0 a b c d e h i j l n o (h+a.toNat) false [0,0,0,0,0,0] (List.getD o (h+a.toNat) []) p (fun r s t=>q s t (0:Int) c d e h i j l n r p) (fun u=>cond (decide (b>(160:Int))) (q false [0,0,0,0,0,0] (3:Int) c d e h i j l n u p) (if p.length+1≤67108864 then if 0≤a∧a<(d:Nat) then G118 (c+a.toNat) b c d e h i j l n u (p++[[(IntKind.wrap .i16 a),(IntKind.wrap .i16 b)]]) (fun v w x y z a0 b0 c0 d0 e0 h0=>cond (x !=(0:Int)) (q false [0,0,0,0,0,0] x y z a0 b0 c0 d0 l n e0 h0) (if 0≤a∧a<(c0:Nat) then if(b0+a.toNat)<e0.length then let i0:Ty2:=List.getD e0 (b0+a.toNat) [];if i0.length+1≤67108864 then if 0≤a∧a<(c0:Nat) then if(b0+a.toNat)<e0.length∧(b0+a.toNat)=(b0+a.toNat) then q v w (0:Int) y z a0 b0 c0 d0 l n (List.set e0 (b0+a.toNat) (i0++[(b,v,w,())])) h0 else none else none else none else none else none)) else none else none)) (0:Int) else none else none
noncomputable def g85(m:Nat):Al S_g85:=
 Nat.rec (motive:=fun _=>Al S_g85) (fun{α}=>fun _ _ _ _ _ _ _ _ _ _ _ _ _=>none) (fun m ih {α}=>g85b (g118 ih m) (g85l0M ih m)) m
def g85hd(G118:Al S_g118)(L85l0:Al S_g85l0):Hd where
 call:=fun f args Bs k=>cond (Nat.beq f 118) (g118R G118 args Bs k) (none)
 loop:=fun id st k=>cond (Nat.beq id 0) (loopH g85l0D (g85l0K L85l0) st k) (none)
 ro:=fun f=>cond (Nat.beq f 118) [1] ([])
def g85h(A85:Al S_g85)(m:Nat):Hd:=g85hd (g118 A85 m) (g85l0M A85 m)
theorem g85l0Step(G118:Al S_g118)(L85l0:Al S_g85l0){α:Type}(L:S_g85l0 α)(ls:List Lf)(k:KEx α):
  g85l0K (fun a b c d e h i j l n o p q r s t u v w=>g85l0b a b c d e h i j l n o p q r s t u v (L a b c d e h i j l n o p q r s t u v) w) ls k=ev tab (g85hd G118 L85l0) (bodyAt Try.f85 0) (atHead g85l0D ls) (loopK g85l0D 0 (loopH g85l0D (g85l0K L)) k):=by kernel_rfl
theorem g85Main(G118:Al S_g118)(L85l0:Al S_g85l0){α:Type}(ls:List Lf)(k:KRe α):
  g85K (g85b G118 L85l0) ls k=evFunM tab (g85hd G118 L85l0) Try.f85 3 (fT g85tp ls) (fB g85tp g85bp ls) k:=by kernel_rfl
theorem g85Calls(A85:Al S_g85)(hA85:HA85 A85)(m:Nat):(g85h A85 m).CallsOk Try.prog:=(cok_cons (g118Ok A85 hA85 m) cok_nil)
theorem g85l0Ok(A85:Al S_g85)(hA85:HA85 A85)(m:Nat)(α:Type)(st:St)(k:KEx α)(r:α)(h:(g85h A85 m).loop 0 st k=some r):
  LoopS Try.prog 0 (bodyAt Try.f85 0) st k r:=
 lpk (F:=fun n ls k=>g85l0K (fun a b c d e i j l o q s t u v w x y z a0=>g85l0 a b c d e i j l o q s t u v w x y z n a0) ls k) (g85Calls A85 hA85 m) (lb0 (by kernel_rfl))
  (fun _ _=>rfl) (fun n ls k=>g85l0Step (g118 A85 m) (g85l0M A85 m) (fun a b c d e i j l o q s t u v w x y z=>g85l0 a b c d e i j l o q s t u v w x y z n) ls k) (n:=m) h
theorem g85FnS(m:Nat)(hA:RowOk Try.prog 85 (fun{α}=>g85R (g85 m (α:=α)))):FnOk Try.prog 85 g85tp g85bp (fun{α}=>g85K (g85 (m+1) (α:=α))):=
 fn_okM (tab:=tab) (h:=g85h (g85 m) m) (fn:=Try.f85) (F:=fun{α}=>g85K (g85 (m+1) (α:=α))) tabOk (g85Calls (g85 m) hA m) mixed (by kernel_rfl) (by kernel_rfl) (fun c hc=>by
  rw[bodyOf_some hc]
  exact loopsOk_of _ (fun p hp=>by
  rw[show loopsOf (bodyOf Try.f85)=[(0,bodyAt Try.f85 0)] by kernel_rfl] at hp
  simp only[List.mem_cons,List.not_mem_nil,or_false] at hp
  rcases hp with rfl
  exact g85l0Ok (g85 m) hA m))
  (fun _=>g85Main (g118 (g85 m) m) (g85l0M (g85 m) m))
theorem g85Fn:∀m:Nat,FnOk Try.prog 85 g85tp g85bp (fun{α}=>g85K (g85 m (α:=α)))
 |0=>fun α ls k r h=>nomatch (show(none:Option α)=some r from h)
 |m+1=>g85FnS m (row_of (g85Fn m))
theorem g85Ok(m:Nat):RowOk Try.prog 85 (fun{α}=>g85R (g85 m (α:=α))):=row_of (g85Fn m)
abbrev S_g127(α:Type):Type:=Int→(Bool→Bool→Bool→Option α)→Option α
def g127b{α:Type}(a:Int)(b:Bool→Bool→Bool→Option α):Option α:=cond (a==(1:Int)) (b false false true) (cond (a==(2:Int)) (b true true false) (cond (a==(3:Int)) (b true true false) (cond (a==(4:Int)) (b true true false) (cond (a==(5:Int)) (b true true false) (cond (a==(8:Int)) (b true true false) (cond (a==(9:Int)) (b true true false) (cond (a==(6:Int)) (b true false false) (cond (a==(7:Int)) (b true false false) (cond (a==(10:Int)) (b true false false) (b false false false))))))))))
def g127{α:Type}(m:Nat):S_g127 α:=
 g127b
def g127tp:List TP:=[(.vl (.sv (.int .i8)))]
def g127bp:List BP:=[]
def g127K{α:Type}(G:S_g127 α)(ls:List Lf)(k:KRe α):Option α:=
 G (lf ls 0).int
  (fun a b c=>k (.tup [(.sv (.bool a)),(.sv (.bool b)),(.sv (.bool c))]) [] [])
def g127R{α:Type}(G:S_g127 α):=rowK g127tp g127bp (g127K G)
def g127hd:Hd where
 call:=fun f args Bs k=>none
 loop:=fun id st k=>none
 ro:=fun f=>[]
def g127h(m:Nat):Hd:=g127hd
theorem g127Main{α:Type}(ls:List Lf)(k:KRe α):
  g127K (g127b) ls k=evFun tab (g127hd) Try.f127 (fT g127tp ls) (fB g127tp g127bp ls) k:=by kernel_rfl
theorem g127Calls(m:Nat):(g127h m).CallsOk Try.prog:=cok_nil
theorem g127Ok(m:Nat):RowOk Try.prog 127 (fun{α}=>g127R (g127 m (α:=α))):=
 rwk (g127Calls m) (lo0 (by kernel_rfl))
  (fun _=>g127Main)
abbrev S_g68(α:Type):Type:=Int→Int→Int→(Bool→Option α)→Option α
def g68b{α:Type}(a b c:Int)(d:Bool→Option α):Option α:=cond (decide (a≥b)) (d (decide (a≤c))) (d false)
def g68{α:Type}(m:Nat):S_g68 α:=
 g68b
def g68tp:List TP:=[tI,tI,tI]
def g68bp:List BP:=[]
def g68K{α:Type}(G:S_g68 α)(ls:List Lf)(k:KRe α):Option α:=
 G (lf ls 0).int (lf ls 1).int (lf ls 2).int
  (fun a=>k (.vl (.sv (.bool a))) [] [])
def g68R{α:Type}(G:S_g68 α):=rowK g68tp g68bp (g68K G)
def g68hd:Hd where
 call:=fun f args Bs k=>none
 loop:=fun id st k=>none
 ro:=fun f=>[]
def g68h(m:Nat):Hd:=g68hd
theorem g68Main{α:Type}(ls:List Lf)(k:KRe α):
  g68K (g68b) ls k=evFun tab (g68hd) Try.f68 (fT g68tp ls) (fB g68tp g68bp ls) k:=by kernel_rfl
theorem g68Calls(m:Nat):(g68h m).CallsOk Try.prog:=cok_nil
theorem g68Ok(m:Nat):RowOk Try.prog 68 (fun{α}=>g68R (g68 m (α:=α))):=
 rwk (g68Calls m) (lo0 (by kernel_rfl))
  (fun _=>g68Main)
end Go.Proofs.Ytlmmgjngihlpeaa.Sx
