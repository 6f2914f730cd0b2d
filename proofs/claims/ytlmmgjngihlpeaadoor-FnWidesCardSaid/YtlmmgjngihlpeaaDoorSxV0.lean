/- Functions. Printed by our own sx.py. -/
import Derived.Test.YtlmmgjngihlpeaaDoorSxT
namespace Go.Proofs.YtlmmgjngihlpeaaDoor.Sx
open Go
set_option linter.unusedVariables false
set_option maxRecDepth 100000
abbrev S_g101(α:Type):Type:=Int→(Int→Option α)→Option α
def g101b{α:Type}(a:Int)(b:Int→Option α):Option α:=cond (decide (a≥(65536:Int))) (let c:Int:=Int.fdiv a (2^16);cond (decide (c≥(256:Int))) (let d:Int:=IntKind.wrap .u8 (Int.fdiv c (2^8));if 0≤d∧d<strC0.size then b (IntKind.wrap .i64 ((24:Int)+(IntKind.wrap .i64 (byteAt strC0 d.toNat)))) else none) (let e:Int:=IntKind.wrap .u8 c;if 0≤e∧e<strC0.size then b (IntKind.wrap .i64 ((16:Int)+(IntKind.wrap .i64 (byteAt strC0 e.toNat)))) else none)) (cond (decide (a≥(256:Int))) (let h:Int:=IntKind.wrap .u8 (Int.fdiv a (2^8));if 0≤h∧h<strC0.size then b (IntKind.wrap .i64 ((8:Int)+(IntKind.wrap .i64 (byteAt strC0 h.toNat)))) else none) (let i:Int:=IntKind.wrap .u8 a;if 0≤i∧i<strC0.size then b (IntKind.wrap .i64 ((0:Int)+(IntKind.wrap .i64 (byteAt strC0 i.toNat)))) else none))
def g101{α:Type}(m:Nat):S_g101 α:=
 g101b
def g101tp:List TP:=[(.vl (.sv (.int .u32)))]
def g101bp:List BP:=[]
def g101K{α:Type}(G:S_g101 α)(ls:List Lf)(k:KRe α):Option α:=
 G (lf ls 0).int
  (fun a=>k (.vl (.sv (.int .i64 a))) [] [])
def g101R{α:Type}(G:S_g101 α):=rowK g101tp g101bp (g101K G)
def g101hd:Hd where
 call:=fun f args Bs k=>none
 loop:=fun id st k=>none
 ro:=fun f=>[]
def g101h(m:Nat):Hd:=g101hd
theorem g101Main{α:Type}(ls:List Lf)(k:KRe α):
  g101K (g101b) ls k=evFun tab (g101hd) Tryd.f101 (fT g101tp ls) (fB g101tp g101bp ls) k:=by kernel_rfl
theorem g101Calls(m:Nat):(g101h m).CallsOk Tryd.prog:=cok_nil
theorem g101Ok(m:Nat):RowOk Tryd.prog 101 (fun{α}=>g101R (g101 m (α:=α))):=
 rwk (g101Calls m) (lo0 (by kernel_rfl))
  (fun _=>g101Main)
abbrev S_g126(α:Type):Type:=Int→(ByteArray→Option α)→Option α
def g126b{α:Type}(a:Int)(b:ByteArray→Option α):Option α:=cond (decide (a<(10:Int))) (let c:Int:=IntKind.wrap .i64 (a+(1:Int));if 0≤a∧a≤c∧c≤((strC1.size:Nat):Int) then b (ByteArray.extract strC1 (Int.toNat a) (Int.toNat c)) else none) (let d:Int:=IntKind.wrap .i64 (a*(2:Int));let e:Int:=IntKind.wrap .i64 ((IntKind.wrap .i64 (a*(2:Int)))+(2:Int));if 0≤d∧d≤e∧e≤((strC2.size:Nat):Int) then b (ByteArray.extract strC2 (Int.toNat d) (Int.toNat e)) else none)
def g126{α:Type}(m:Nat):S_g126 α:=
 g126b
def g126tp:List TP:=[tI]
def g126bp:List BP:=[]
def g126K{α:Type}(G:S_g126 α)(ls:List Lf)(k:KRe α):Option α:=
 G (lf ls 0).int
  (fun a=>k (.vl (.sv (.str a))) [] [])
def g126R{α:Type}(G:S_g126 α):=rowK g126tp g126bp (g126K G)
def g126hd:Hd where
 call:=fun f args Bs k=>none
 loop:=fun id st k=>none
 ro:=fun f=>[]
def g126h(m:Nat):Hd:=g126hd
theorem g126Main{α:Type}(ls:List Lf)(k:KRe α):
  g126K (g126b) ls k=evFun tab (g126hd) Tryd.f126 (fT g126tp ls) (fB g126tp g126bp ls) k:=by kernel_rfl
theorem g126Calls(m:Nat):(g126h m).CallsOk Tryd.prog:=cok_nil
theorem g126Ok(m:Nat):RowOk Tryd.prog 126 (fun{α}=>g126R (g126 m (α:=α))):=
 rwk (g126Calls m) (lo0 (by kernel_rfl))
  (fun _=>g126Main)
abbrev S_g46(α:Type):Type:=Bool→(List Int)→(Bool→Option α)→Option α
def g46b{α:Type}(a:Bool)(b:List Int)(c:Bool→Option α):Option α:=cond (!a) (c true) (c (!(eqLI b [0,0,0,0,0,0])))
def g46{α:Type}(m:Nat):S_g46 α:=
 g46b
def g46tp:List TP:=[(.vl (.sv (.ptr 0 0)))]
def g46bp:List BP:=[(false,[(.one .bool),(.seq uU 6)])]
def g46K{α:Type}(G:S_g46 α)(ls:List Lf)(k:KRe α):Option α:=
 G (lf ls 0).bool ((lf ls 1).lst uU)
  (fun a=>k (.vl (.sv (.bool a))) [[(.one (.bool (lf ls 0).bool)),(.seq uU 6 ((lf ls 1).lst uU))]] [])
def g46R{α:Type}(G:S_g46 α):=rowK g46tp g46bp (g46K G)
def g46hd:Hd where
 call:=fun f args Bs k=>none
 loop:=fun id st k=>none
 ro:=fun f=>[]
def g46h(m:Nat):Hd:=g46hd
theorem g46Main{α:Type}(ls:List Lf)(k:KRe α):
  g46K (g46b) ls k=evFun tab (g46hd) Tryd.f46 (fT g46tp ls) (fB g46tp g46bp ls) k:=by kernel_rfl
theorem g46Calls(m:Nat):(g46h m).CallsOk Tryd.prog:=cok_nil
theorem g46Ok(m:Nat):RowOk Tryd.prog 46 (fun{α}=>g46R (g46 m (α:=α))):=
 rwk (g46Calls m) (lo0 (by kernel_rfl))
  (fun _=>g46Main)
abbrev S_g100(α:Type):Type:=(List Int)→(List Int)→((List Int)→Option α)→Option α
abbrev S_g100l0(α:Type):Type:=(List Int)→(List Int)→(List Int)→((List Int)→Option α)→Int→Int→(List Int)→Option α
def g100l0b{α:Type}(a b c:List Int)(d:(List Int)→Option α)(e:Int→Int→(List Int)→Option α)(h i:Int)(j:List Int):Option α:=cond (decide (i<(6:Int))) (if 0≤i∧i<(6:Nat) then if i.toNat<6 then if 0≤i∧i<(6:Nat) then if i.toNat<6 then let l:Int:=IntKind.wrap .i64 ((IntKind.wrap .i64 ((IntKind.wrap .i64 (List.getD a i.toNat 0))-(IntKind.wrap .i64 (List.getD b i.toNat 0))))-h);cond (decide (l<(0:Int))) (if 0≤i∧i<(6:Nat) then if i.toNat<6 then e (1:Int) (IntKind.wrap .i64 (i+(1:Int))) (List.set j (i.toNat) (IntKind.wrap .u32 (IntKind.wrap .i64 (l+(4294967296:Int))))) else none else none) (if 0≤i∧i<(6:Nat) then if i.toNat<6 then e (0:Int) (IntKind.wrap .i64 (i+(1:Int))) (List.set j (i.toNat) (IntKind.wrap .u32 l)) else none else none) else none else none else none else none) (d j)
def g100l0{α:Type}(a b c:List Int)(d:(List Int)→Option α):Nat→Int→Int→(List Int)→Option α
 |0=>fun _ _ _=>none
 |m+1=>fun e h i=>g100l0b a b c d (g100l0 a b c d m) e h i
def g100l0M{α:Type}(m:Nat):S_g100l0 α:=
 fun a b c d e h i=>g100l0 a b c d m e h i
def g100l0D:LoopD:={n:=38,low:=[0,1],sl:=[0,1,4,5,6,7],bl:=[0,1,1000002,1000003],tp:=[(.vl (.sv (.ptr 0 0))),(.vl (.sv (.ptr 1 0))),(.vl (.sv (.ptr 1000002 0))),(.vl (.sv (.ptr 1000003 0))),tI,tI],bp:=[(false,[(.seq uU 6)]),(false,[(.seq uU 6)]),b6,b6],xs:=[(2,[4,5])]}
def g100l0K{α:Type}(L:S_g100l0 α)(ls:List Lf)(k:KEx α):Option α:=
 L ((lf ls 2).lst uU) ((lf ls 3).lst uU) ((lf ls 4).lst uU)
  (fun a=>k .normal (mkSt 38 [4,5] [(.vl (.sv (.ptr 1000002 0))),(.vl (.sv (.ptr 1000003 0)))] [0,1,1000002,1000003] [(false,[(.seq uU 6 ((lf ls 2).lst uU))]),(false,[(.seq uU 6 ((lf ls 3).lst uU))]),(true,[(.seq uU 6 ((lf ls 4).lst uU))]),(true,[(.seq uU 6 a)])]))
  (lf ls 0).int (lf ls 1).int ((lf ls 5).lst uU)
def g100b{α:Type}(L100l0:Al S_g100l0)(a b:List Int)(c:(List Int)→Option α):Option α:=L100l0 a b [0,0,0,0,0,0] (fun d=>c d) (0:Int) (0:Int) [0,0,0,0,0,0]
def g100{α:Type}(m:Nat):S_g100 α:=
 g100b (g100l0M m)
def g100tp:List TP:=[(.vl (.sv (.ptr 0 0))),(.vl (.sv (.ptr 1 0)))]
def g100bp:List BP:=[(false,[(.seq uU 6)]),(false,[(.seq uU 6)])]
def g100K{α:Type}(G:S_g100 α)(ls:List Lf)(k:KRe α):Option α:=
 G ((lf ls 0).lst uU) ((lf ls 1).lst uU)
  (fun a=>k (.vl (.agg [(.seq uU 6 a)])) [[(.seq uU 6 ((lf ls 0).lst uU))],[(.seq uU 6 ((lf ls 1).lst uU))]] [])
def g100R{α:Type}(G:S_g100 α):=rowK g100tp g100bp (g100K G)
def g100hd(L100l0:Al S_g100l0):Hd where
 call:=fun f args Bs k=>none
 loop:=fun id st k=>cond (Nat.beq id 0) (loopH g100l0D (g100l0K L100l0) st k) (none)
 ro:=fun f=>[]
def g100h(m:Nat):Hd:=g100hd (g100l0M m)
theorem g100l0Step(L100l0:Al S_g100l0){α:Type}(L:S_g100l0 α)(ls:List Lf)(k:KEx α):
  g100l0K (fun a b c d e h i=>g100l0b a b c d (L a b c d) e h i) ls k=ev tab (g100hd L100l0) (bodyAt Tryd.f100 0) (atHead g100l0D ls) (loopK g100l0D 0 (loopH g100l0D (g100l0K L)) k):=by kernel_rfl
theorem g100Main(L100l0:Al S_g100l0){α:Type}(ls:List Lf)(k:KRe α):
  g100K (g100b L100l0) ls k=evFun tab (g100hd L100l0) Tryd.f100 (fT g100tp ls) (fB g100tp g100bp ls) k:=by kernel_rfl
theorem g100Calls(m:Nat):(g100h m).CallsOk Tryd.prog:=cok_nil
theorem g100l0Ok(m:Nat)(α:Type)(st:St)(k:KEx α)(r:α)(h:(g100h m).loop 0 st k=some r):
  LoopS Tryd.prog 0 (bodyAt Tryd.f100 0) st k r:=
 lpk (F:=fun n ls k=>g100l0K (fun a b c d e i j=>g100l0 a b c d n e i j) ls k) (g100Calls m) (lb0 (by kernel_rfl))
  (fun _ _=>rfl) (fun n ls k=>g100l0Step (g100l0M m) (fun a b c d=>g100l0 a b c d n) ls k) (n:=m) h
theorem g100Ok(m:Nat):RowOk Tryd.prog 100 (fun{α}=>g100R (g100 m (α:=α))):=
 rwk (g100Calls m) (lo1 (by kernel_rfl) (g100l0Ok m))
  (fun _=>g100Main (g100l0M m))
abbrev S_g99(α:Type):Type:=(List Int)→(List Int)→(Int→Option α)→Option α
abbrev S_g99l0(α:Type):Type:=(List Int)→(List Int)→(Int→Option α)→(Option α)→Int→Option α
def g99l0b{α:Type}(a b:List Int)(c:Int→Option α)(d:Option α)(e:Int→Option α)(h:Int):Option α:=cond (decide (h≥(0:Int))) (if 0≤h∧h<(6:Nat) then if h.toNat<6 then if 0≤h∧h<(6:Nat) then if h.toNat<6 then cond (decide ((List.getD a h.toNat 0)<(List.getD b h.toNat 0))) (c (-1:Int)) (if 0≤h∧h<(6:Nat) then if h.toNat<6 then if 0≤h∧h<(6:Nat) then if h.toNat<6 then cond (decide ((List.getD a h.toNat 0)>(List.getD b h.toNat 0))) (c (1:Int)) (e (IntKind.wrap .i64 (h-(1:Int)))) else none else none else none else none) else none else none else none else none) (d)
def g99l0{α:Type}(a b:List Int)(c:Int→Option α)(d:Option α):Nat→Int→Option α
 |0=>fun _=>none
 |m+1=>fun e=>g99l0b a b c d (g99l0 a b c d m) e
def g99l0M{α:Type}(m:Nat):S_g99l0 α:=
 fun a b c d e=>g99l0 a b c d m e
def g99l0D:LoopD:={n:=32,low:=[0,1],sl:=[0,1,5],bl:=[0,1],tp:=[(.vl (.sv (.ptr 0 0))),(.vl (.sv (.ptr 1 0))),tI],bp:=[(false,[(.seq uU 6)]),(false,[(.seq uU 6)])],xs:=[(1,[4]),(2,[])]}
def g99l0K{α:Type}(L:S_g99l0 α)(ls:List Lf)(k:KEx α):Option α:=
 L ((lf ls 1).lst uU) ((lf ls 2).lst uU)
  (fun a=>k .ret (mkSt 32 [4] [(.vl (.sv (.int .i64 a)))] [0,1] [(false,[(.seq uU 6 ((lf ls 1).lst uU))]),(false,[(.seq uU 6 ((lf ls 2).lst uU))])]))
  (k .normal (mkSt 32 [] [] [0,1] [(false,[(.seq uU 6 ((lf ls 1).lst uU))]),(false,[(.seq uU 6 ((lf ls 2).lst uU))])]))
  (lf ls 0).int
def g99b{α:Type}(L99l0:Al S_g99l0)(a b:List Int)(c:Int→Option α):Option α:=L99l0 a b (fun d=>c d) (c (0:Int)) (5:Int)
def g99{α:Type}(m:Nat):S_g99 α:=
 g99b (g99l0M m)
def g99tp:List TP:=[(.vl (.sv (.ptr 0 0))),(.vl (.sv (.ptr 1 0)))]
def g99bp:List BP:=[(false,[(.seq uU 6)]),(false,[(.seq uU 6)])]
def g99K{α:Type}(G:S_g99 α)(ls:List Lf)(k:KRe α):Option α:=
 G ((lf ls 0).lst uU) ((lf ls 1).lst uU)
  (fun a=>k (.vl (.sv (.int .i64 a))) [[(.seq uU 6 ((lf ls 0).lst uU))],[(.seq uU 6 ((lf ls 1).lst uU))]] [])
def g99R{α:Type}(G:S_g99 α):=rowK g99tp g99bp (g99K G)
def g99hd(L99l0:Al S_g99l0):Hd where
 call:=fun f args Bs k=>none
 loop:=fun id st k=>cond (Nat.beq id 0) (loopH g99l0D (g99l0K L99l0) st k) (none)
 ro:=fun f=>[]
def g99h(m:Nat):Hd:=g99hd (g99l0M m)
theorem g99l0Step(L99l0:Al S_g99l0){α:Type}(L:S_g99l0 α)(ls:List Lf)(k:KEx α):
  g99l0K (fun a b c d e=>g99l0b a b c d (L a b c d) e) ls k=ev tab (g99hd L99l0) (bodyAt Tryd.f99 0) (atHead g99l0D ls) (loopK g99l0D 0 (loopH g99l0D (g99l0K L)) k):=by kernel_rfl
theorem g99Main(L99l0:Al S_g99l0){α:Type}(ls:List Lf)(k:KRe α):
  g99K (g99b L99l0) ls k=evFun tab (g99hd L99l0) Tryd.f99 (fT g99tp ls) (fB g99tp g99bp ls) k:=by kernel_rfl
theorem g99Calls(m:Nat):(g99h m).CallsOk Tryd.prog:=cok_nil
theorem g99l0Ok(m:Nat)(α:Type)(st:St)(k:KEx α)(r:α)(h:(g99h m).loop 0 st k=some r):
  LoopS Tryd.prog 0 (bodyAt Tryd.f99 0) st k r:=
 lpk (F:=fun n ls k=>g99l0K (fun a b c d e=>g99l0 a b c d n e) ls k) (g99Calls m) (lb0 (by kernel_rfl))
  (fun _ _=>rfl) (fun n ls k=>g99l0Step (g99l0M m) (fun a b c d=>g99l0 a b c d n) ls k) (n:=m) h
theorem g99Ok(m:Nat):RowOk Tryd.prog 99 (fun{α}=>g99R (g99 m (α:=α))):=
 rwk (g99Calls m) (lo1 (by kernel_rfl) (g99l0Ok m))
  (fun _=>g99Main (g99l0M m))
abbrev S_g87(α:Type):Type:=(List Int)→(Bool→Option α)→Option α
def g87b{α:Type}(a:List Int)(b:Bool→Option α):Option α:=b (eqLI a [0,0,0,0,0,0])
def g87{α:Type}(m:Nat):S_g87 α:=
 g87b
def g87tp:List TP:=[(.vl (.sv (.ptr 0 0)))]
def g87bp:List BP:=[(false,[(.seq uU 6)])]
def g87K{α:Type}(G:S_g87 α)(ls:List Lf)(k:KRe α):Option α:=
 G ((lf ls 0).lst uU)
  (fun a=>k (.vl (.sv (.bool a))) [[(.seq uU 6 ((lf ls 0).lst uU))]] [])
def g87R{α:Type}(G:S_g87 α):=rowK g87tp g87bp (g87K G)
def g87hd:Hd where
 call:=fun f args Bs k=>none
 loop:=fun id st k=>none
 ro:=fun f=>[]
def g87h(m:Nat):Hd:=g87hd
theorem g87Main{α:Type}(ls:List Lf)(k:KRe α):
  g87K (g87b) ls k=evFun tab (g87hd) Tryd.f87 (fT g87tp ls) (fB g87tp g87bp ls) k:=by kernel_rfl
theorem g87Calls(m:Nat):(g87h m).CallsOk Tryd.prog:=cok_nil
theorem g87Ok(m:Nat):RowOk Tryd.prog 87 (fun{α}=>g87R (g87 m (α:=α))):=
 rwk (g87Calls m) (lo0 (by kernel_rfl))
  (fun _=>g87Main)
abbrev S_g20(α:Type):Type:=Bool→(List Int)→(Bool→Option α)→Option α
def g20b{α:Type}(a:Bool)(b:List Int)(c:Bool→Option α):Option α:=cond (!a) (c true) (c (!(eqLI b [0,0,0,0,0,0])))
def g20{α:Type}(m:Nat):S_g20 α:=
 g20b
def g20tp:List TP:=[vW]
def g20bp:List BP:=[]
def g20K{α:Type}(G:S_g20 α)(ls:List Lf)(k:KRe α):Option α:=
 G (lf ls 0).bool ((lf ls 1).lst uU)
  (fun a=>k (.vl (.sv (.bool a))) [] [])
def g20R{α:Type}(G:S_g20 α):=rowK g20tp g20bp (g20K G)
def g20hd:Hd where
 call:=fun f args Bs k=>none
 loop:=fun id st k=>none
 ro:=fun f=>[]
def g20h(m:Nat):Hd:=g20hd
theorem g20Main{α:Type}(ls:List Lf)(k:KRe α):
  g20K (g20b) ls k=evFun tab (g20hd) Tryd.f20 (fT g20tp ls) (fB g20tp g20bp ls) k:=by kernel_rfl
theorem g20Calls(m:Nat):(g20h m).CallsOk Tryd.prog:=cok_nil
theorem g20Ok(m:Nat):RowOk Tryd.prog 20 (fun{α}=>g20R (g20 m (α:=α))):=
 rwk (g20Calls m) (lo0 (by kernel_rfl))
  (fun _=>g20Main)
abbrev S_g49(α:Type):Type:=(List Int)→Int→((List Int)→Int→Option α)→Option α
abbrev S_g49l0(α:Type):Type:=Int→(List Int)→(Int→(List Int)→Option α)→Int→Int→(List Int)→Option α
def g49l0b{α:Type}(a:Int)(b:List Int)(c:Int→(List Int)→Option α)(d:Int→Int→(List Int)→Option α)(e h:Int)(i:List Int):Option α:=cond (decide (h≥(0:Int))) (if 0≤h∧h<(6:Nat) then if h.toNat<6 then let j:Int:=ibits .or .u64 (IntKind.wrap .u64 (e*2^32)) (IntKind.wrap .u64 (List.getD i h.toNat 0));let l:Int:=IntKind.wrap .u64 a;if l=0 then none else if 0≤h∧h<(6:Nat) then if h.toNat<6 then let n:Int:=IntKind.wrap .u64 a;if n=0 then none else d (Int.tmod j n) (IntKind.wrap .i64 (h-(1:Int))) (List.set i (h.toNat) (IntKind.wrap .u32 (IntKind.wrap .u64 (Int.tdiv j l)))) else none else none else none else none) (c e i)
def g49l0{α:Type}(a:Int)(b:List Int)(c:Int→(List Int)→Option α):Nat→Int→Int→(List Int)→Option α
 |0=>fun _ _ _=>none
 |m+1=>fun d e h=>g49l0b a b c (g49l0 a b c m) d e h
def g49l0M{α:Type}(m:Nat):S_g49l0 α:=
 fun a b c d e h=>g49l0 a b c m d e h
def g49l0D:LoopD:={n:=33,low:=[],sl:=[1,2,4,6,7],bl:=[1000000,1000001],tp:=[(.vl (.sv (.int .u32))),(.vl (.sv (.ptr 1000000 0))),(.vl (.sv (.ptr 1000001 0))),(.vl (.sv (.int .u64))),tI],bp:=[b6,b6],xs:=[(2,[2,4,6])]}
def g49l0K{α:Type}(L:S_g49l0 α)(ls:List Lf)(k:KEx α):Option α:=
 L (lf ls 0).int ((lf ls 4).lst uU)
  (fun a b=>k .normal (mkSt 33 [2,4,6] [(.vl (.sv (.ptr 1000000 0))),(.vl (.sv (.ptr 1000001 0))),(.vl (.sv (.int .u64 a)))] [1000000,1000001] [(true,[(.seq uU 6 b)]),(true,[(.seq uU 6 ((lf ls 4).lst uU))])]))
  (lf ls 1).int (lf ls 2).int ((lf ls 3).lst uU)
def g49b{α:Type}(L49l0:Al S_g49l0)(a:List Int)(b:Int)(c:(List Int)→Int→Option α):Option α:=L49l0 b [0,0,0,0,0,0] (fun d e=>c e (IntKind.wrap .u32 d)) (0:Int) (5:Int) a
def g49{α:Type}(m:Nat):S_g49 α:=
 g49b (g49l0M m)
def g49tp:List TP:=[(.vl (.agg [(.seq uU 6)])),(.vl (.sv (.int .u32)))]
def g49bp:List BP:=[]
def g49K{α:Type}(G:S_g49 α)(ls:List Lf)(k:KRe α):Option α:=
 G ((lf ls 0).lst uU) (lf ls 1).int
  (fun a b=>k (.tup [(.agg [(.seq uU 6 a)]),(.sv (.int .u32 b))]) [] [])
def g49R{α:Type}(G:S_g49 α):=rowK g49tp g49bp (g49K G)
def g49hd(L49l0:Al S_g49l0):Hd where
 call:=fun f args Bs k=>none
 loop:=fun id st k=>cond (Nat.beq id 0) (loopH g49l0D (g49l0K L49l0) st k) (none)
 ro:=fun f=>[]
def g49h(m:Nat):Hd:=g49hd (g49l0M m)
theorem g49l0Step(L49l0:Al S_g49l0){α:Type}(L:S_g49l0 α)(ls:List Lf)(k:KEx α):
  g49l0K (fun a b c d e h=>g49l0b a b c (L a b c) d e h) ls k=ev tab (g49hd L49l0) (bodyAt Tryd.f49 0) (atHead g49l0D ls) (loopK g49l0D 0 (loopH g49l0D (g49l0K L)) k):=by kernel_rfl
theorem g49Main(L49l0:Al S_g49l0){α:Type}(ls:List Lf)(k:KRe α):
  g49K (g49b L49l0) ls k=evFun tab (g49hd L49l0) Tryd.f49 (fT g49tp ls) (fB g49tp g49bp ls) k:=by kernel_rfl
theorem g49Calls(m:Nat):(g49h m).CallsOk Tryd.prog:=cok_nil
theorem g49l0Ok(m:Nat)(α:Type)(st:St)(k:KEx α)(r:α)(h:(g49h m).loop 0 st k=some r):
  LoopS Tryd.prog 0 (bodyAt Tryd.f49 0) st k r:=
 lpk (F:=fun n ls k=>g49l0K (fun a b c d e i=>g49l0 a b c n d e i) ls k) (g49Calls m) (lb0 (by kernel_rfl))
  (fun _ _=>rfl) (fun n ls k=>g49l0Step (g49l0M m) (fun a b c=>g49l0 a b c n) ls k) (n:=m) h
theorem g49Ok(m:Nat):RowOk Tryd.prog 49 (fun{α}=>g49R (g49 m (α:=α))):=
 rwk (g49Calls m) (lo1 (by kernel_rfl) (g49l0Ok m))
  (fun _=>g49Main (g49l0M m))
abbrev S_g136(α:Type):Type:=Int→(Int→Option α)→Option α
def g136b{α:Type}(a:Int)(b:Int→Option α):Option α:=cond (decide (a≥(4294967296:Int))) (let c:Int:=Int.fdiv a (2^32);cond (decide (c≥(65536:Int))) (let d:Int:=Int.fdiv c (2^16);cond (decide (d≥(256:Int))) (let e:Int:=IntKind.wrap .u8 (Int.fdiv d (2^8));if 0≤e∧e<strC0.size then b (IntKind.wrap .i64 ((56:Int)+(IntKind.wrap .i64 (byteAt strC0 e.toNat)))) else none) (let h:Int:=IntKind.wrap .u8 d;if 0≤h∧h<strC0.size then b (IntKind.wrap .i64 ((48:Int)+(IntKind.wrap .i64 (byteAt strC0 h.toNat)))) else none)) (cond (decide (c≥(256:Int))) (let i:Int:=IntKind.wrap .u8 (Int.fdiv c (2^8));if 0≤i∧i<strC0.size then b (IntKind.wrap .i64 ((40:Int)+(IntKind.wrap .i64 (byteAt strC0 i.toNat)))) else none) (let j:Int:=IntKind.wrap .u8 c;if 0≤j∧j<strC0.size then b (IntKind.wrap .i64 ((32:Int)+(IntKind.wrap .i64 (byteAt strC0 j.toNat)))) else none))) (cond (decide (a≥(65536:Int))) (let l:Int:=Int.fdiv a (2^16);cond (decide (l≥(256:Int))) (let n:Int:=IntKind.wrap .u8 (Int.fdiv l (2^8));if 0≤n∧n<strC0.size then b (IntKind.wrap .i64 ((24:Int)+(IntKind.wrap .i64 (byteAt strC0 n.toNat)))) else none) (let o:Int:=IntKind.wrap .u8 l;if 0≤o∧o<strC0.size then b (IntKind.wrap .i64 ((16:Int)+(IntKind.wrap .i64 (byteAt strC0 o.toNat)))) else none)) (cond (decide (a≥(256:Int))) (let p:Int:=IntKind.wrap .u8 (Int.fdiv a (2^8));if 0≤p∧p<strC0.size then b (IntKind.wrap .i64 ((8:Int)+(IntKind.wrap .i64 (byteAt strC0 p.toNat)))) else none) (let q:Int:=IntKind.wrap .u8 a;if 0≤q∧q<strC0.size then b (IntKind.wrap .i64 ((0:Int)+(IntKind.wrap .i64 (byteAt strC0 q.toNat)))) else none)))
def g136{α:Type}(m:Nat):S_g136 α:=
 g136b
def g136tp:List TP:=[(.vl (.sv (.int .u64)))]
def g136bp:List BP:=[]
def g136K{α:Type}(G:S_g136 α)(ls:List Lf)(k:KRe α):Option α:=
 G (lf ls 0).int
  (fun a=>k (.vl (.sv (.int .i64 a))) [] [])
def g136R{α:Type}(G:S_g136 α):=rowK g136tp g136bp (g136K G)
def g136hd:Hd where
 call:=fun f args Bs k=>none
 loop:=fun id st k=>none
 ro:=fun f=>[]
def g136h(m:Nat):Hd:=g136hd
theorem g136Main{α:Type}(ls:List Lf)(k:KRe α):
  g136K (g136b) ls k=evFun tab (g136hd) Tryd.f136 (fT g136tp ls) (fB g136tp g136bp ls) k:=by kernel_rfl
theorem g136Calls(m:Nat):(g136h m).CallsOk Tryd.prog:=cok_nil
theorem g136Ok(m:Nat):RowOk Tryd.prog 136 (fun{α}=>g136R (g136 m (α:=α))):=
 rwk (g136Calls m) (lo0 (by kernel_rfl))
  (fun _=>g136Main)
abbrev S_g135(α:Type):Type:=Int→(Int→Option α)→Option α
def g135b{α:Type}(a:Int)(b:Int→Option α):Option α:=b (Int.fdiv (IntKind.wrap .i64 (a*(78913:Int))) (2^18))
def g135{α:Type}(m:Nat):S_g135 α:=
 g135b
def g135tp:List TP:=[tI]
def g135bp:List BP:=[]
def g135K{α:Type}(G:S_g135 α)(ls:List Lf)(k:KRe α):Option α:=
 G (lf ls 0).int
  (fun a=>k (.vl (.sv (.int .i64 a))) [] [])
def g135R{α:Type}(G:S_g135 α):=rowK g135tp g135bp (g135K G)
def g135hd:Hd where
 call:=fun f args Bs k=>none
 loop:=fun id st k=>none
 ro:=fun f=>[]
def g135h(m:Nat):Hd:=g135hd
theorem g135Main{α:Type}(ls:List Lf)(k:KRe α):
  g135K (g135b) ls k=evFun tab (g135hd) Tryd.f135 (fT g135tp ls) (fB g135tp g135bp ls) k:=by kernel_rfl
theorem g135Calls(m:Nat):(g135h m).CallsOk Tryd.prog:=cok_nil
theorem g135Ok(m:Nat):RowOk Tryd.prog 135 (fun{α}=>g135R (g135 m (α:=α))):=
 rwk (g135Calls m) (lo0 (by kernel_rfl))
  (fun _=>g135Main)
abbrev S_g137(α:Type):Type:=Bool→(Int→Option α)→Option α
def g137b{α:Type}(a:Bool)(b:Int→Option α):Option α:=cond a (b (1:Int)) (b (0:Int))
def g137{α:Type}(m:Nat):S_g137 α:=
 g137b
def g137tp:List TP:=[(.vl (.sv .bool))]
def g137bp:List BP:=[]
def g137K{α:Type}(G:S_g137 α)(ls:List Lf)(k:KRe α):Option α:=
 G (lf ls 0).bool
  (fun a=>k (.vl (.sv (.int .i64 a))) [] [])
def g137R{α:Type}(G:S_g137 α):=rowK g137tp g137bp (g137K G)
def g137hd:Hd where
 call:=fun f args Bs k=>none
 loop:=fun id st k=>none
 ro:=fun f=>[]
def g137h(m:Nat):Hd:=g137hd
theorem g137Main{α:Type}(ls:List Lf)(k:KRe α):
  g137K (g137b) ls k=evFun tab (g137hd) Tryd.f137 (fT g137tp ls) (fB g137tp g137bp ls) k:=by kernel_rfl
theorem g137Calls(m:Nat):(g137h m).CallsOk Tryd.prog:=cok_nil
theorem g137Ok(m:Nat):RowOk Tryd.prog 137 (fun{α}=>g137R (g137 m (α:=α))):=
 rwk (g137Calls m) (lo0 (by kernel_rfl))
  (fun _=>g137Main)
abbrev S_g127(α:Type):Type:=Int→(Int→Option α)→Option α
def g127b{α:Type}(G136:Al S_g136)(G135:Al S_g135)(G137:Al S_g137)(a:Int)(b:Int→Option α):Option α:=G136 a (fun c=>G135 c (fun d=>if 0≤d∧d<(20:Nat) then if d.toNat<pow10L.length then G137 (decide (a≥(List.getD pow10L (d.toNat) 0))) (fun e=>b (IntKind.wrap .i64 (d+e))) else none else none))
def g127{α:Type}(m:Nat):S_g127 α:=
 g127b (g136 m) (g135 m) (g137 m)
def g127tp:List TP:=[(.vl (.sv (.int .u64)))]
def g127bp:List BP:=[]
def g127K{α:Type}(G:S_g127 α)(ls:List Lf)(k:KRe α):Option α:=
 G (lf ls 0).int
  (fun a=>k (.vl (.sv (.int .i64 a))) [] [])
def g127R{α:Type}(G:S_g127 α):=rowK g127tp g127bp (g127K G)
def g127hd(G136:Al S_g136)(G135:Al S_g135)(G137:Al S_g137):Hd where
 call:=fun f args Bs k=>cond (Nat.beq f 136) (g136R G136 args Bs k) (cond (Nat.beq f 135) (g135R G135 args Bs k) (cond (Nat.beq f 137) (g137R G137 args Bs k) (none)))
 loop:=fun id st k=>none
 ro:=fun f=>[]
def g127h(m:Nat):Hd:=g127hd (g136 m) (g135 m) (g137 m)
theorem g127Main(G136:Al S_g136)(G135:Al S_g135)(G137:Al S_g137){α:Type}(ls:List Lf)(k:KRe α):
  g127K (g127b G136 G135 G137) ls k=evFun tab (g127hd G136 G135 G137) Tryd.f127 (fT g127tp ls) (fB g127tp g127bp ls) k:=by kernel_rfl
theorem g127Calls(m:Nat):(g127h m).CallsOk Tryd.prog:=(cok_cons (g136Ok m) (cok_cons (g135Ok m) (cok_cons (g137Ok m) cok_nil)))
theorem g127Ok(m:Nat):RowOk Tryd.prog 127 (fun{α}=>g127R (g127 m (α:=α))):=
 rwk (g127Calls m) (lo0 (by kernel_rfl))
  (fun _=>g127Main (g136 m) (g135 m) (g137 m))
abbrev S_g128(α:Type):Type:=Nat→Nat→Nat→Int→(List Int)→((List Int)→Option α)→Option α
abbrev S_g128l0(α:Type):Type:=Nat→Nat→Nat→(Int→Int→(List Int)→Option α)→Int→Int→(List Int)→Option α
def g128l0b{α:Type}(a b c:Nat)(d:Int→Int→(List Int)→Option α)(e:Int→Int→(List Int)→Option α)(h i:Int)(j:List Int):Option α:=cond (decide (i≥(8:Int))) (let l:Int:=IntKind.wrap .u32 (Int.tmod h (100000000:Int));let n:Int:=IntKind.wrap .u32 (Int.tdiv l (10000:Int));let o:Int:=Int.tmod l (10000:Int);let p:Int:=IntKind.wrap .u32 ((IntKind.wrap .u32 (Int.tdiv o (100:Int)))*(2:Int));let q:Int:=IntKind.wrap .u32 ((Int.tmod o (100:Int))*(2:Int));let r:Int:=IntKind.wrap .u32 ((IntKind.wrap .u32 (Int.tdiv n (100:Int)))*(2:Int));let s:Int:=IntKind.wrap .u32 ((Int.tmod n (100:Int))*(2:Int));let t:Int:=IntKind.wrap .i64 (i-(1:Int));let u:Int:=IntKind.wrap .i64 (i-(2:Int));let v:Int:=IntKind.wrap .u32 (q+(1:Int));if 0≤v∧v<strC2.size then if 0≤q∧q<strC2.size then if 0≤t∧t<(b:Nat) then if(a+t.toNat)<24 then if 0≤u∧u<(b:Nat) then if(a+u.toNat)<24 then let w:Int:=IntKind.wrap .i64 (i-(3:Int));let x:Int:=IntKind.wrap .i64 (i-(4:Int));let y:Int:=IntKind.wrap .u32 (p+(1:Int));if 0≤y∧y<strC2.size then if 0≤p∧p<strC2.size then if 0≤w∧w<(b:Nat) then if(a+w.toNat)<24 then if 0≤x∧x<(b:Nat) then if(a+x.toNat)<24 then let z:Int:=IntKind.wrap .i64 (i-(5:Int));let a0:Int:=IntKind.wrap .i64 (i-(6:Int));let b0:Int:=IntKind.wrap .u32 (s+(1:Int));if 0≤b0∧b0<strC2.size then if 0≤s∧s<strC2.size then if 0≤z∧z<(b:Nat) then if(a+z.toNat)<24 then if 0≤a0∧a0<(b:Nat) then if(a+a0.toNat)<24 then let c0:Int:=IntKind.wrap .i64 (i-(7:Int));let d0:Int:=IntKind.wrap .i64 (i-(8:Int));let e0:Int:=IntKind.wrap .u32 (r+(1:Int));if 0≤e0∧e0<strC2.size then if 0≤r∧r<strC2.size then if 0≤c0∧c0<(b:Nat) then if(a+c0.toNat)<24 then if 0≤d0∧d0<(b:Nat) then if(a+d0.toNat)<24 then e (IntKind.wrap .u64 (Int.tdiv h (100000000:Int))) (IntKind.wrap .i64 (i-(8:Int))) (List.set (List.set (List.set (List.set (List.set (List.set (List.set (List.set j (a+t.toNat) (byteAt strC2 v.toNat)) (a+u.toNat) (byteAt strC2 q.toNat)) (a+w.toNat) (byteAt strC2 y.toNat)) (a+x.toNat) (byteAt strC2 p.toNat)) (a+z.toNat) (byteAt strC2 b0.toNat)) (a+a0.toNat) (byteAt strC2 s.toNat)) (a+c0.toNat) (byteAt strC2 e0.toNat)) (a+d0.toNat) (byteAt strC2 r.toNat)) else none else none else none else none else none else none else none else none else none else none else none else none else none else none else none else none else none else none else none else none else none else none else none else none) (d h i j)
def g128l0{α:Type}(a b c:Nat)(d:Int→Int→(List Int)→Option α):Nat→Int→Int→(List Int)→Option α
 |0=>fun _ _ _=>none
 |m+1=>fun e h i=>g128l0b a b c d (g128l0 a b c d m) e h i
def g128l0M{α:Type}(m:Nat):S_g128l0 α:=
 fun a b c d e h i=>g128l0 a b c d m e h i
def g128l0D:LoopD:={n:=167,low:=[0],sl:=[0,1,4],bl:=[0],tp:=[(.vl (.sv (.slc 0 0 1))),(.vl (.sv (.int .u64))),tI],bp:=[(true,[(.seq (.int .u8) 24)])],xs:=[(2,[0,1,4])]}
def g128l0K{α:Type}(L:S_g128l0 α)(ls:List Lf)(k:KEx α):Option α:=
 L (lf ls 0).nat (lf ls 1).nat (lf ls 2).nat
  (fun a b c=>k .normal (mkSt 167 [0,1,4] [(.vl (.sv (.slc 0 0 1 (lf ls 0).nat (lf ls 1).nat (lf ls 2).nat))),(.vl (.sv (.int .u64 a))),(.vl (.sv (.int .i64 b)))] [0] [(true,[(.seq (.int .u8) 24 c)])]))
  (lf ls 3).int (lf ls 4).int ((lf ls 5).lst (.int .u8))
def g128b{α:Type}(L128l0:Al S_g128l0)(a b c:Nat)(d:Int)(e:List Int)(h:(List Int)→Option α):Option α:=L128l0 a b c (fun i j l=>let n:Int:=IntKind.wrap .u32 i;cond (decide (j≥(4:Int))) (let o:Int:=Int.tmod n (10000:Int);let p:Int:=IntKind.wrap .u32 (Int.tdiv n (10000:Int));let q:Int:=IntKind.wrap .u32 ((IntKind.wrap .u32 (Int.tdiv o (100:Int)))*(2:Int));let r:Int:=IntKind.wrap .u32 ((Int.tmod o (100:Int))*(2:Int));let s:Int:=IntKind.wrap .i64 (j-(1:Int));let t:Int:=IntKind.wrap .i64 (j-(2:Int));let u:Int:=IntKind.wrap .u32 (r+(1:Int));if 0≤u∧u<strC2.size then if 0≤r∧r<strC2.size then if 0≤s∧s<(b:Nat) then if(a+s.toNat)<24 then if 0≤t∧t<(b:Nat) then if(a+t.toNat)<24 then let v:Int:=IntKind.wrap .i64 (j-(3:Int));let w:Int:=IntKind.wrap .i64 (j-(4:Int));let x:Int:=IntKind.wrap .u32 (q+(1:Int));if 0≤x∧x<strC2.size then if 0≤q∧q<strC2.size then if 0≤v∧v<(b:Nat) then if(a+v.toNat)<24 then if 0≤w∧w<(b:Nat) then if(a+w.toNat)<24 then let y:List Int:=List.set (List.set (List.set (List.set l (a+s.toNat) (byteAt strC2 u.toNat)) (a+t.toNat) (byteAt strC2 r.toNat)) (a+v.toNat) (byteAt strC2 x.toNat)) (a+w.toNat) (byteAt strC2 q.toNat);let z:Int:=IntKind.wrap .i64 (j-(4:Int));cond (decide (z≥(2:Int))) (let a0:Int:=IntKind.wrap .u32 ((Int.tmod p (100:Int))*(2:Int));let b0:Int:=IntKind.wrap .i64 (z-(1:Int));let c0:Int:=IntKind.wrap .i64 (z-(2:Int));let d0:Int:=IntKind.wrap .u32 (a0+(1:Int));if 0≤d0∧d0<strC2.size then if 0≤a0∧a0<strC2.size then if 0≤b0∧b0<(b:Nat) then if(a+b0.toNat)<24 then if 0≤c0∧c0<(b:Nat) then if(a+c0.toNat)<24 then let e0:List Int:=List.set (List.set y (a+b0.toNat) (byteAt strC2 d0.toNat)) (a+c0.toNat) (byteAt strC2 a0.toNat);cond (decide ((IntKind.wrap .i64 (z-(2:Int)))>(0:Int))) (if 0≤(0:Int)∧(0:Int)<(b:Nat) then if(a+0)<24 then h (List.set e0 (a+0) (IntKind.wrap .u8 (IntKind.wrap .u32 ((48:Int)+(IntKind.wrap .u32 (Int.tdiv p (100:Int))))))) else none else none) (h e0) else none else none else none else none else none else none) (cond (decide (z>(0:Int))) (if 0≤(0:Int)∧(0:Int)<(b:Nat) then if(a+0)<24 then h (List.set y (a+0) (IntKind.wrap .u8 (IntKind.wrap .u32 ((48:Int)+p)))) else none else none) (h y)) else none else none else none else none else none else none else none else none else none else none else none else none) (cond (decide (j≥(2:Int))) (let h0:Int:=IntKind.wrap .u32 ((Int.tmod n (100:Int))*(2:Int));let i0:Int:=IntKind.wrap .i64 (j-(1:Int));let j0:Int:=IntKind.wrap .i64 (j-(2:Int));let l0:Int:=IntKind.wrap .u32 (h0+(1:Int));if 0≤l0∧l0<strC2.size then if 0≤h0∧h0<strC2.size then if 0≤i0∧i0<(b:Nat) then if(a+i0.toNat)<24 then if 0≤j0∧j0<(b:Nat) then if(a+j0.toNat)<24 then let n0:List Int:=List.set (List.set l (a+i0.toNat) (byteAt strC2 l0.toNat)) (a+j0.toNat) (byteAt strC2 h0.toNat);cond (decide ((IntKind.wrap .i64 (j-(2:Int)))>(0:Int))) (if 0≤(0:Int)∧(0:Int)<(b:Nat) then if(a+0)<24 then h (List.set n0 (a+0) (IntKind.wrap .u8 (IntKind.wrap .u32 ((48:Int)+(IntKind.wrap .u32 (Int.tdiv n (100:Int))))))) else none else none) (h n0) else none else none else none else none else none else none) (cond (decide (j>(0:Int))) (if 0≤(0:Int)∧(0:Int)<(b:Nat) then if(a+0)<24 then h (List.set l (a+0) (IntKind.wrap .u8 (IntKind.wrap .u32 ((48:Int)+n)))) else none else none) (h l)))) d ((b:Nat):Int) e
def g128{α:Type}(m:Nat):S_g128 α:=
 g128b (g128l0M m)
def g128tp:List TP:=[(.vl (.sv (.slc 0 0 1))),(.vl (.sv (.int .u64)))]
def g128bp:List BP:=[(true,[(.seq (.int .u8) 24)])]
def g128K{α:Type}(G:S_g128 α)(ls:List Lf)(k:KRe α):Option α:=
 G (lf ls 0).nat (lf ls 1).nat (lf ls 2).nat (lf ls 3).int ((lf ls 4).lst (.int .u8))
  (fun a=>k (.tup []) [[(.seq (.int .u8) 24 a)]] [])
def g128R{α:Type}(G:S_g128 α):=rowK g128tp g128bp (g128K G)
def g128hd(L128l0:Al S_g128l0):Hd where
 call:=fun f args Bs k=>none
 loop:=fun id st k=>cond (Nat.beq id 0) (loopH g128l0D (g128l0K L128l0) st k) (none)
 ro:=fun f=>[]
def g128h(m:Nat):Hd:=g128hd (g128l0M m)
theorem g128l0Step(L128l0:Al S_g128l0){α:Type}(L:S_g128l0 α)(ls:List Lf)(k:KEx α):
  g128l0K (fun a b c d e h i=>g128l0b a b c d (L a b c d) e h i) ls k=ev tab (g128hd L128l0) (bodyAt Tryd.f128 0) (atHead g128l0D ls) (loopK g128l0D 0 (loopH g128l0D (g128l0K L)) k):=by kernel_rfl
theorem g128Main(L128l0:Al S_g128l0){α:Type}(ls:List Lf)(k:KRe α):
  g128K (g128b L128l0) ls k=evFun tab (g128hd L128l0) Tryd.f128 (fT g128tp ls) (fB g128tp g128bp ls) k:=by kernel_rfl
theorem g128Calls(m:Nat):(g128h m).CallsOk Tryd.prog:=cok_nil
theorem g128l0Ok(m:Nat)(α:Type)(st:St)(k:KEx α)(r:α)(h:(g128h m).loop 0 st k=some r):
  LoopS Tryd.prog 0 (bodyAt Tryd.f128 0) st k r:=
 lpk (F:=fun n ls k=>g128l0K (fun a b c d e i j=>g128l0 a b c d n e i j) ls k) (g128Calls m) (lb0 (by kernel_rfl))
  (fun _ _=>rfl) (fun n ls k=>g128l0Step (g128l0M m) (fun a b c d=>g128l0 a b c d n) ls k) (n:=m) h
theorem g128Ok(m:Nat):RowOk Tryd.prog 128 (fun{α}=>g128R (g128 m (α:=α))):=
 rwk (g128Calls m) (lo1 (by kernel_rfl) (g128l0Ok m))
  (fun _=>g128Main (g128l0M m))
abbrev S_g114(α:Type):Type:=Int→Int→(ByteArray→Option α)→Option α
def g114b{α:Type}(G126:Al S_g126)(G127:Al S_g127)(G128:Al S_g128)(a b:Int)(c:ByteArray→Option α):Option α:=cond (b==(10:Int)) (cond (decide ((0:Int)≤a)) (cond (decide (a<(100:Int))) (G126 a (fun d=>c d)) (let e:Int:=IntKind.wrap .u64 a;cond (decide (a<(0:Int))) (let h:Int:=IntKind.wrap .u64 (0-e);G127 h (fun i=>let j:Int:=IntKind.wrap .i64 ((1:Int)+i);if 0≤(1:Int)∧(1:Int)≤j∧j≤((24:Nat):Int) then G128 1 ((Int.toNat j)-1) 23 h (List.replicate 24 0) (fun l=>cond (decide (a<(0:Int))) (let n:Int:=IntKind.wrap .i64 ((1:Int)+i);if 0≤(0:Int)∧(0:Int)≤n∧n≤((24:Nat):Int) then let o:Nat:=(Int.toNat n)-0;if 0+o≤24 then c (bytesS (List.take o (List.drop 0 (List.set l 0 (45:Int))))) else none else none) (let p:Int:=IntKind.wrap .i64 ((1:Int)+i);if 0≤(1:Int)∧(1:Int)≤p∧p≤((24:Nat):Int) then let q:Nat:=(Int.toNat p)-1;if 1+q≤24 then c (bytesS (List.take q (List.drop 1 l))) else none else none)) else none)) (G127 e (fun r=>let s:Int:=IntKind.wrap .i64 ((1:Int)+r);if 0≤(1:Int)∧(1:Int)≤s∧s≤((24:Nat):Int) then G128 1 ((Int.toNat s)-1) 23 e (List.replicate 24 0) (fun t=>cond (decide (a<(0:Int))) (let u:Int:=IntKind.wrap .i64 ((1:Int)+r);if 0≤(0:Int)∧(0:Int)≤u∧u≤((24:Nat):Int) then let v:Nat:=(Int.toNat u)-0;if 0+v≤24 then c (bytesS (List.take v (List.drop 0 (List.set t 0 (45:Int))))) else none else none) (let w:Int:=IntKind.wrap .i64 ((1:Int)+r);if 0≤(1:Int)∧(1:Int)≤w∧w≤((24:Nat):Int) then let x:Nat:=(Int.toNat w)-1;if 1+x≤24 then c (bytesS (List.take x (List.drop 1 t))) else none else none)) else none)))) (let y:Int:=IntKind.wrap .u64 a;cond (decide (a<(0:Int))) (let z:Int:=IntKind.wrap .u64 (0-y);G127 z (fun a0=>let b0:Int:=IntKind.wrap .i64 ((1:Int)+a0);if 0≤(1:Int)∧(1:Int)≤b0∧b0≤((24:Nat):Int) then G128 1 ((Int.toNat b0)-1) 23 z (List.replicate 24 0) (fun c0=>cond (decide (a<(0:Int))) (let d0:Int:=IntKind.wrap .i64 ((1:Int)+a0);if 0≤(0:Int)∧(0:Int)≤d0∧d0≤((24:Nat):Int) then let e0:Nat:=(Int.toNat d0)-0;if 0+e0≤24 then c (bytesS (List.take e0 (List.drop 0 (List.set c0 0 (45:Int))))) else none else none) (let h0:Int:=IntKind.wrap .i64 ((1:Int)+a0);if 0≤(1:Int)∧(1:Int)≤h0∧h0≤((24:Nat):Int) then let i0:Nat:=(Int.toNat h0)-1;if 1+i0≤24 then c (bytesS (List.take i0 (List.drop 1 c0))) else none else none)) else none)) (G127 y (fun j0=>let l0:Int:=IntKind.wrap .i64 ((1:Int)+j0);if 0≤(1:Int)∧(1:Int)≤l0∧l0≤((24:Nat):Int) then G128 1 ((Int.toNat l0)-1) 23 y (List.replicate 24 0) (fun n0=>cond (decide (a<(0:Int))) (let o0:Int:=IntKind.wrap .i64 ((1:Int)+j0);if 0≤(0:Int)∧(0:Int)≤o0∧o0≤((24:Nat):Int) then let p0:Nat:=(Int.toNat o0)-0;if 0+p0≤24 then c (bytesS (List.take p0 (List.drop 0 (List.set n0 0 (45:Int))))) else none else none) (let q0:Int:=IntKind.wrap .i64 ((1:Int)+j0);if 0≤(1:Int)∧(1:Int)≤q0∧q0≤((24:Nat):Int) then let r0:Nat:=(Int.toNat q0)-1;if 1+r0≤24 then c (bytesS (List.take r0 (List.drop 1 n0))) else none else none)) else none)))) (none)
def g114{α:Type}(m:Nat):S_g114 α:=
 g114b (g126 m) (g127 m) (g128 m)
def g114tp:List TP:=[tI,tI]
def g114bp:List BP:=[]
def g114K{α:Type}(G:S_g114 α)(ls:List Lf)(k:KRe α):Option α:=
 G (lf ls 0).int (lf ls 1).int
  (fun a=>k (.vl (.sv (.str a))) [] [])
def g114R{α:Type}(G:S_g114 α):=rowK g114tp g114bp (g114K G)
def g114hd(G126:Al S_g126)(G127:Al S_g127)(G128:Al S_g128):Hd where
 call:=fun f args Bs k=>cond (Nat.beq f 126) (g126R G126 args Bs k) (cond (Nat.beq f 127) (g127R G127 args Bs k) (cond (Nat.beq f 128) (g128R G128 args Bs k) (none)))
 loop:=fun id st k=>none
 ro:=fun f=>[]
def g114h(m:Nat):Hd:=g114hd (g126 m) (g127 m) (g128 m)
theorem g114Main(G126:Al S_g126)(G127:Al S_g127)(G128:Al S_g128){α:Type}(ls:List Lf)(k:KRe α):
  g114K (g114b G126 G127 G128) ls k=evFun tab (g114hd G126 G127 G128) Tryd.f114 (fT g114tp ls) (fB g114tp g114bp ls) k:=by kernel_rfl
theorem g114Calls(m:Nat):(g114h m).CallsOk Tryd.prog:=(cok_cons (g126Ok m) (cok_cons (g127Ok m) (cok_cons (g128Ok m) cok_nil)))
theorem g114Ok(m:Nat):RowOk Tryd.prog 114 (fun{α}=>g114R (g114 m (α:=α))):=
 rwk (g114Calls m) (lo0 (by kernel_rfl))
  (fun _=>g114Main (g126 m) (g127 m) (g128 m))
abbrev S_g84(α:Type):Type:=Int→(ByteArray→Option α)→Option α
def g84b{α:Type}(G114:Al S_g114)(a:Int)(b:ByteArray→Option α):Option α:=G114 a (10:Int) (fun c=>b c)
def g84{α:Type}(m:Nat):S_g84 α:=
 g84b (g114 m)
def g84tp:List TP:=[tI]
def g84bp:List BP:=[]
def g84K{α:Type}(G:S_g84 α)(ls:List Lf)(k:KRe α):Option α:=
 G (lf ls 0).int
  (fun a=>k (.vl (.sv (.str a))) [] [])
def g84R{α:Type}(G:S_g84 α):=rowK g84tp g84bp (g84K G)
def g84hd(G114:Al S_g114):Hd where
 call:=fun f args Bs k=>cond (Nat.beq f 114) (g114R G114 args Bs k) (none)
 loop:=fun id st k=>none
 ro:=fun f=>[]
def g84h(m:Nat):Hd:=g84hd (g114 m)
theorem g84Main(G114:Al S_g114){α:Type}(ls:List Lf)(k:KRe α):
  g84K (g84b G114) ls k=evFun tab (g84hd G114) Tryd.f84 (fT g84tp ls) (fB g84tp g84bp ls) k:=by kernel_rfl
theorem g84Calls(m:Nat):(g84h m).CallsOk Tryd.prog:=(cok_cons (g114Ok m) cok_nil)
theorem g84Ok(m:Nat):RowOk Tryd.prog 84 (fun{α}=>g84R (g84 m (α:=α))):=
 rwk (g84Calls m) (lo0 (by kernel_rfl))
  (fun _=>g84Main (g114 m))
abbrev S_g43(α:Type):Type:=Int→(ByteArray→Option α)→Option α
def g43b{α:Type}(G84:Al S_g84)(a:Int)(b:ByteArray→Option α):Option α:=G84 a (fun c=>b c)
def g43{α:Type}(m:Nat):S_g43 α:=
 g43b (g84 m)
def g43tp:List TP:=[tI]
def g43bp:List BP:=[]
def g43K{α:Type}(G:S_g43 α)(ls:List Lf)(k:KRe α):Option α:=
 G (lf ls 0).int
  (fun a=>k (.vl (.sv (.str a))) [] [])
def g43R{α:Type}(G:S_g43 α):=rowK g43tp g43bp (g43K G)
def g43hd(G84:Al S_g84):Hd where
 call:=fun f args Bs k=>cond (Nat.beq f 84) (g84R G84 args Bs k) (none)
 loop:=fun id st k=>none
 ro:=fun f=>[]
def g43h(m:Nat):Hd:=g43hd (g84 m)
theorem g43Main(G84:Al S_g84){α:Type}(ls:List Lf)(k:KRe α):
  g43K (g43b G84) ls k=evFun tab (g43hd G84) Tryd.f43 (fT g43tp ls) (fB g43tp g43bp ls) k:=by kernel_rfl
theorem g43Calls(m:Nat):(g43h m).CallsOk Tryd.prog:=(cok_cons (g84Ok m) cok_nil)
theorem g43Ok(m:Nat):RowOk Tryd.prog 43 (fun{α}=>g43R (g43 m (α:=α))):=
 rwk (g43Calls m) (lo0 (by kernel_rfl))
  (fun _=>g43Main (g84 m))
abbrev S_g117(α:Type):Type:=Int→Int→(Int→Int→Option α)→Option α
def g117b{α:Type}(a b:Int)(c:Int→Int→Option α):Option α:=let d:Int:=ibits .and .u64 a (4294967295:Int);let e:Int:=Int.fdiv a (2^32);let h:Int:=ibits .and .u64 b (4294967295:Int);let i:Int:=Int.fdiv b (2^32);let j:Int:=IntKind.wrap .u64 ((IntKind.wrap .u64 (e*h))+(Int.fdiv (IntKind.wrap .u64 (d*h)) (2^32)));c (IntKind.wrap .u64 ((IntKind.wrap .u64 ((IntKind.wrap .u64 (e*i))+(Int.fdiv j (2^32))))+(Int.fdiv (IntKind.wrap .u64 ((ibits .and .u64 j (4294967295:Int))+(IntKind.wrap .u64 (d*i)))) (2^32)))) (IntKind.wrap .u64 (a*b))
def g117{α:Type}(m:Nat):S_g117 α:=
 g117b
def g117tp:List TP:=[(.vl (.sv (.int .u64))),(.vl (.sv (.int .u64)))]
def g117bp:List BP:=[]
def g117K{α:Type}(G:S_g117 α)(ls:List Lf)(k:KRe α):Option α:=
 G (lf ls 0).int (lf ls 1).int
  (fun a b=>k (.tup [(.sv (.int .u64 a)),(.sv (.int .u64 b))]) [] [])
def g117R{α:Type}(G:S_g117 α):=rowK g117tp g117bp (g117K G)
def g117hd:Hd where
 call:=fun f args Bs k=>none
 loop:=fun id st k=>none
 ro:=fun f=>[]
def g117h(m:Nat):Hd:=g117hd
theorem g117Main{α:Type}(ls:List Lf)(k:KRe α):
  g117K (g117b) ls k=evFun tab (g117hd) Tryd.f117 (fT g117tp ls) (fB g117tp g117bp ls) k:=by kernel_rfl
theorem g117Calls(m:Nat):(g117h m).CallsOk Tryd.prog:=cok_nil
theorem g117Ok(m:Nat):RowOk Tryd.prog 117 (fun{α}=>g117R (g117 m (α:=α))):=
 rwk (g117Calls m) (lo0 (by kernel_rfl))
  (fun _=>g117Main)
abbrev S_g88(α:Type):Type:=Int→Int→(Int→Int→Option α)→Option α
def g88b{α:Type}(G117:Al S_g117)(a b:Int)(c:Int→Int→Option α):Option α:=G117 a b (fun d e=>c d e)
def g88{α:Type}(m:Nat):S_g88 α:=
 g88b (g117 m)
def g88tp:List TP:=[(.vl (.sv (.int .u64))),(.vl (.sv (.int .u64)))]
def g88bp:List BP:=[]
def g88K{α:Type}(G:S_g88 α)(ls:List Lf)(k:KRe α):Option α:=
 G (lf ls 0).int (lf ls 1).int
  (fun a b=>k (.tup [(.sv (.int .u64 a)),(.sv (.int .u64 b))]) [] [])
def g88R{α:Type}(G:S_g88 α):=rowK g88tp g88bp (g88K G)
def g88hd(G117:Al S_g117):Hd where
 call:=fun f args Bs k=>cond (Nat.beq f 117) (g117R G117 args Bs k) (none)
 loop:=fun id st k=>none
 ro:=fun f=>[]
def g88h(m:Nat):Hd:=g88hd (g117 m)
theorem g88Main(G117:Al S_g117){α:Type}(ls:List Lf)(k:KRe α):
  g88K (g88b G117) ls k=evFun tab (g88hd G117) Tryd.f88 (fT g88tp ls) (fB g88tp g88bp ls) k:=by kernel_rfl
theorem g88Calls(m:Nat):(g88h m).CallsOk Tryd.prog:=(cok_cons (g117Ok m) cok_nil)
theorem g88Ok(m:Nat):RowOk Tryd.prog 88 (fun{α}=>g88R (g88 m (α:=α))):=
 rwk (g88Calls m) (lo0 (by kernel_rfl))
  (fun _=>g88Main (g117 m))
abbrev S_g118(α:Type):Type:=ByteArray→ByteArray→(Bool→Option α)→Option α
def g118b{α:Type}(a:ByteArray)(b:ByteArray)(c:Bool→Option α):Option α:=cond (decide (((a.size:Nat):Int)≥((b.size:Nat):Int))) (if 0≤(0:Int)∧(0:Int)≤((b.size:Nat):Int)∧((b.size:Nat):Int)≤((a.size:Nat):Int) then c (bytesEq (ByteArray.extract a 0 (Int.toNat ((b.size:Nat):Int))) b) else none) (c false)
def g118{α:Type}(m:Nat):S_g118 α:=
 g118b
def g118tp:List TP:=[(.vl (.sv .str)),(.vl (.sv .str))]
def g118bp:List BP:=[]
def g118K{α:Type}(G:S_g118 α)(ls:List Lf)(k:KRe α):Option α:=
 G (lf ls 0).str (lf ls 1).str
  (fun a=>k (.vl (.sv (.bool a))) [] [])
def g118R{α:Type}(G:S_g118 α):=rowK g118tp g118bp (g118K G)
def g118hd:Hd where
 call:=fun f args Bs k=>none
 loop:=fun id st k=>none
 ro:=fun f=>[]
def g118h(m:Nat):Hd:=g118hd
theorem g118Main{α:Type}(ls:List Lf)(k:KRe α):
  g118K (g118b) ls k=evFun tab (g118hd) Tryd.f118 (fT g118tp ls) (fB g118tp g118bp ls) k:=by kernel_rfl
theorem g118Calls(m:Nat):(g118h m).CallsOk Tryd.prog:=cok_nil
theorem g118Ok(m:Nat):RowOk Tryd.prog 118 (fun{α}=>g118R (g118 m (α:=α))):=
 rwk (g118Calls m) (lo0 (by kernel_rfl))
  (fun _=>g118Main)
abbrev S_g89(α:Type):Type:=ByteArray→ByteArray→(Bool→Option α)→Option α
def g89b{α:Type}(G118:Al S_g118)(a:ByteArray)(b:ByteArray)(c:Bool→Option α):Option α:=G118 a b (fun d=>c d)
def g89{α:Type}(m:Nat):S_g89 α:=
 g89b (g118 m)
def g89tp:List TP:=[(.vl (.sv .str)),(.vl (.sv .str))]
def g89bp:List BP:=[]
def g89K{α:Type}(G:S_g89 α)(ls:List Lf)(k:KRe α):Option α:=
 G (lf ls 0).str (lf ls 1).str
  (fun a=>k (.vl (.sv (.bool a))) [] [])
def g89R{α:Type}(G:S_g89 α):=rowK g89tp g89bp (g89K G)
def g89hd(G118:Al S_g118):Hd where
 call:=fun f args Bs k=>cond (Nat.beq f 118) (g118R G118 args Bs k) (none)
 loop:=fun id st k=>none
 ro:=fun f=>[]
def g89h(m:Nat):Hd:=g89hd (g118 m)
theorem g89Main(G118:Al S_g118){α:Type}(ls:List Lf)(k:KRe α):
  g89K (g89b G118) ls k=evFun tab (g89hd G118) Tryd.f89 (fT g89tp ls) (fB g89tp g89bp ls) k:=by kernel_rfl
theorem g89Calls(m:Nat):(g89h m).CallsOk Tryd.prog:=(cok_cons (g118Ok m) cok_nil)
theorem g89Ok(m:Nat):RowOk Tryd.prog 89 (fun{α}=>g89R (g89 m (α:=α))):=
 rwk (g89Calls m) (lo0 (by kernel_rfl))
  (fun _=>g89Main (g118 m))
end Go.Proofs.YtlmmgjngihlpeaaDoor.Sx
