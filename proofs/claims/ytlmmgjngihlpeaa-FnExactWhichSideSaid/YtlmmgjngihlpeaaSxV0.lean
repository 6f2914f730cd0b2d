/- Functions. Printed by our own sx.py. -/
import Derived.Test.YtlmmgjngihlpeaaSxT
namespace Go.Proofs.Ytlmmgjngihlpeaa.Sx
open Go
set_option linter.unusedVariables false
set_option maxRecDepth 100000
abbrev S_g125(α:Type):Type:=Int→(Int→Option α)→Option α
def g125b{α:Type}(a:Int)(b:Int→Option α):Option α:=cond (decide (a≥(65536:Int))) (let c:Int:=Int.fdiv a (2^16);cond (decide (c≥(256:Int))) (let d:Int:=IntKind.wrap .u8 (Int.fdiv c (2^8));if 0≤d∧d<strC0.size then b (IntKind.wrap .i64 ((24:Int)+(IntKind.wrap .i64 (byteAt strC0 d.toNat)))) else none) (let e:Int:=IntKind.wrap .u8 c;if 0≤e∧e<strC0.size then b (IntKind.wrap .i64 ((16:Int)+(IntKind.wrap .i64 (byteAt strC0 e.toNat)))) else none)) (cond (decide (a≥(256:Int))) (let h:Int:=IntKind.wrap .u8 (Int.fdiv a (2^8));if 0≤h∧h<strC0.size then b (IntKind.wrap .i64 ((8:Int)+(IntKind.wrap .i64 (byteAt strC0 h.toNat)))) else none) (let i:Int:=IntKind.wrap .u8 a;if 0≤i∧i<strC0.size then b (IntKind.wrap .i64 ((0:Int)+(IntKind.wrap .i64 (byteAt strC0 i.toNat)))) else none))
def g125{α:Type}(m:Nat):S_g125 α:=
 g125b
def g125tp:List TP:=[(.vl (.sv (.int .u32)))]
def g125bp:List BP:=[]
def g125K{α:Type}(G:S_g125 α)(ls:List Lf)(k:KRe α):Option α:=
 G (lf ls 0).int
  (fun a=>k (.vl (.sv (.int .i64 a))) [] [])
def g125R{α:Type}(G:S_g125 α):=rowK g125tp g125bp (g125K G)
def g125hd:Hd where
 call:=fun f args Bs k=>none
 loop:=fun id st k=>none
 ro:=fun f=>[]
def g125h(m:Nat):Hd:=g125hd
theorem g125Main{α:Type}(ls:List Lf)(k:KRe α):
  g125K (g125b) ls k=evFun tab (g125hd) Try.f125 (fT g125tp ls) (fB g125tp g125bp ls) k:=by kernel_rfl
theorem g125Calls(m:Nat):(g125h m).CallsOk Try.prog:=cok_nil
theorem g125Ok(m:Nat):RowOk Try.prog 125 (fun{α}=>g125R (g125 m (α:=α))):=
 rwk (g125Calls m) (lo0 (by kernel_rfl))
  (fun _=>g125Main)
abbrev S_g107(α:Type):Type:=(List Int)→(Int→Option α)→Option α
abbrev S_g107l0(α:Type):Type:=(List Int)→(Int→Option α)→(Option α)→Int→Option α
def g107l0b{α:Type}(G125:Al S_g125)(a:List Int)(b:Int→Option α)(c:Option α)(d:Int→Option α)(e:Int):Option α:=cond (decide (e≥(0:Int))) (if 0≤e∧e<(6:Nat) then if e.toNat<6 then cond ((List.getD a e.toNat 0) !=(0:Int)) (if 0≤e∧e<(6:Nat) then if e.toNat<6 then G125 (List.getD a e.toNat 0) (fun h=>b (IntKind.wrap .i64 ((IntKind.wrap .i64 ((32:Int)*e))+h))) else none else none) (d (IntKind.wrap .i64 (e-(1:Int)))) else none else none) (c)
def g107l0{α:Type}(G125:Al S_g125)(a:List Int)(b:Int→Option α)(c:Option α):Nat→Int→Option α
 |0=>fun _=>none
 |m+1=>fun d=>g107l0b G125 a b c (g107l0 G125 a b c m) d
def g107l0M{α:Type}(m:Nat):S_g107l0 α:=
 fun a b c d=>g107l0 (g125 m) a b c m d
def g107l0D:LoopD:={n:=19,low:=[],sl:=[1,3],bl:=[1000000],tp:=[(.vl (.sv (.ptr 1000000 0))),tI],bp:=[b6],xs:=[(1,[2]),(2,[])]}
def g107l0K{α:Type}(L:S_g107l0 α)(ls:List Lf)(k:KEx α):Option α:=
 L ((lf ls 1).lst uU)
  (fun a=>k .ret (mkSt 19 [2] [(.vl (.sv (.int .i64 a)))] [] []))
  (k .normal (mkSt 19 [] [] [] []))
  (lf ls 0).int
def g107b{α:Type}(G125:Al S_g125)(L107l0:Al S_g107l0)(a:List Int)(b:Int→Option α):Option α:=L107l0 a (fun c=>b c) (b (0:Int)) (5:Int)
def g107{α:Type}(m:Nat):S_g107 α:=
 g107b (g125 m) (g107l0M m)
def g107tp:List TP:=[(.vl (.agg [(.seq uU 6)]))]
def g107bp:List BP:=[]
def g107K{α:Type}(G:S_g107 α)(ls:List Lf)(k:KRe α):Option α:=
 G ((lf ls 0).lst uU)
  (fun a=>k (.vl (.sv (.int .i64 a))) [] [])
def g107R{α:Type}(G:S_g107 α):=rowK g107tp g107bp (g107K G)
def g107hd(G125:Al S_g125)(L107l0:Al S_g107l0):Hd where
 call:=fun f args Bs k=>cond (Nat.beq f 125) (g125R G125 args Bs k) (none)
 loop:=fun id st k=>cond (Nat.beq id 0) (loopH g107l0D (g107l0K L107l0) st k) (none)
 ro:=fun f=>[]
def g107h(m:Nat):Hd:=g107hd (g125 m) (g107l0M m)
theorem g107l0Step(G125:Al S_g125)(L107l0:Al S_g107l0){α:Type}(L:S_g107l0 α)(ls:List Lf)(k:KEx α):
  g107l0K (fun a b c d=>g107l0b G125 a b c (L a b c) d) ls k=ev tab (g107hd G125 L107l0) (bodyAt Try.f107 0) (atHead g107l0D ls) (loopK g107l0D 0 (loopH g107l0D (g107l0K L)) k):=by kernel_rfl
theorem g107Main(G125:Al S_g125)(L107l0:Al S_g107l0){α:Type}(ls:List Lf)(k:KRe α):
  g107K (g107b G125 L107l0) ls k=evFun tab (g107hd G125 L107l0) Try.f107 (fT g107tp ls) (fB g107tp g107bp ls) k:=by kernel_rfl
theorem g107Calls(m:Nat):(g107h m).CallsOk Try.prog:=(cok_cons (g125Ok m) cok_nil)
theorem g107l0Ok(m:Nat)(α:Type)(st:St)(k:KEx α)(r:α)(h:(g107h m).loop 0 st k=some r):
  LoopS Try.prog 0 (bodyAt Try.f107 0) st k r:=
 lpk (F:=fun n ls k=>g107l0K (fun a b c d=>g107l0 (g125 m) a b c n d) ls k) (g107Calls m) (lb0 (by kernel_rfl))
  (fun _ _=>rfl) (fun n ls k=>g107l0Step (g125 m) (g107l0M m) (fun a b c=>g107l0 (g125 m) a b c n) ls k) (n:=m) h
theorem g107Ok(m:Nat):RowOk Try.prog 107 (fun{α}=>g107R (g107 m (α:=α))):=
 rwk (g107Calls m) (lo1 (by kernel_rfl) (g107l0Ok m))
  (fun _=>g107Main (g125 m) (g107l0M m))
abbrev S_g122(α:Type):Type:=(List Int)→Int→((List Int)→Int→Option α)→Option α
abbrev S_g122l0(α:Type):Type:=Int→(List Int)→(Int→(List Int)→Option α)→Int→Int→(List Int)→Option α
def g122l0b{α:Type}(a:Int)(b:List Int)(c:Int→(List Int)→Option α)(d:Int→Int→(List Int)→Option α)(e h:Int)(i:List Int):Option α:=cond (decide (h≥(0:Int))) (if 0≤h∧h<(6:Nat) then if h.toNat<6 then let j:Int:=ibits .or .u64 (IntKind.wrap .u64 (e*2^32)) (IntKind.wrap .u64 (List.getD i h.toNat 0));let l:Int:=IntKind.wrap .u64 a;if l=0 then none else if 0≤h∧h<(6:Nat) then if h.toNat<6 then let n:Int:=IntKind.wrap .u64 a;if n=0 then none else d (Int.tmod j n) (IntKind.wrap .i64 (h-(1:Int))) (List.set i (h.toNat) (IntKind.wrap .u32 (IntKind.wrap .u64 (Int.tdiv j l)))) else none else none else none else none) (c e i)
def g122l0{α:Type}(a:Int)(b:List Int)(c:Int→(List Int)→Option α):Nat→Int→Int→(List Int)→Option α
 |0=>fun _ _ _=>none
 |m+1=>fun d e h=>g122l0b a b c (g122l0 a b c m) d e h
def g122l0M{α:Type}(m:Nat):S_g122l0 α:=
 fun a b c d e h=>g122l0 a b c m d e h
def g122l0D:LoopD:={n:=33,low:=[],sl:=[1,2,4,6,7],bl:=[1000000,1000001],tp:=[(.vl (.sv (.int .u32))),(.vl (.sv (.ptr 1000000 0))),(.vl (.sv (.ptr 1000001 0))),(.vl (.sv (.int .u64))),tI],bp:=[b6,b6],xs:=[(2,[2,4,6])]}
def g122l0K{α:Type}(L:S_g122l0 α)(ls:List Lf)(k:KEx α):Option α:=
 L (lf ls 0).int ((lf ls 4).lst uU)
  (fun a b=>k .normal (mkSt 33 [2,4,6] [(.vl (.sv (.ptr 1000000 0))),(.vl (.sv (.ptr 1000001 0))),(.vl (.sv (.int .u64 a)))] [1000000,1000001] [(true,[(.seq uU 6 b)]),(true,[(.seq uU 6 ((lf ls 4).lst uU))])]))
  (lf ls 1).int (lf ls 2).int ((lf ls 3).lst uU)
def g122b{α:Type}(L122l0:Al S_g122l0)(a:List Int)(b:Int)(c:(List Int)→Int→Option α):Option α:=L122l0 b [0,0,0,0,0,0] (fun d e=>c e (IntKind.wrap .u32 d)) (0:Int) (5:Int) a
def g122{α:Type}(m:Nat):S_g122 α:=
 g122b (g122l0M m)
def g122tp:List TP:=[(.vl (.agg [(.seq uU 6)])),(.vl (.sv (.int .u32)))]
def g122bp:List BP:=[]
def g122K{α:Type}(G:S_g122 α)(ls:List Lf)(k:KRe α):Option α:=
 G ((lf ls 0).lst uU) (lf ls 1).int
  (fun a b=>k (.tup [(.agg [(.seq uU 6 a)]),(.sv (.int .u32 b))]) [] [])
def g122R{α:Type}(G:S_g122 α):=rowK g122tp g122bp (g122K G)
def g122hd(L122l0:Al S_g122l0):Hd where
 call:=fun f args Bs k=>none
 loop:=fun id st k=>cond (Nat.beq id 0) (loopH g122l0D (g122l0K L122l0) st k) (none)
 ro:=fun f=>[]
def g122h(m:Nat):Hd:=g122hd (g122l0M m)
theorem g122l0Step(L122l0:Al S_g122l0){α:Type}(L:S_g122l0 α)(ls:List Lf)(k:KEx α):
  g122l0K (fun a b c d e h=>g122l0b a b c (L a b c) d e h) ls k=ev tab (g122hd L122l0) (bodyAt Try.f122 0) (atHead g122l0D ls) (loopK g122l0D 0 (loopH g122l0D (g122l0K L)) k):=by kernel_rfl
theorem g122Main(L122l0:Al S_g122l0){α:Type}(ls:List Lf)(k:KRe α):
  g122K (g122b L122l0) ls k=evFun tab (g122hd L122l0) Try.f122 (fT g122tp ls) (fB g122tp g122bp ls) k:=by kernel_rfl
theorem g122Calls(m:Nat):(g122h m).CallsOk Try.prog:=cok_nil
theorem g122l0Ok(m:Nat)(α:Type)(st:St)(k:KEx α)(r:α)(h:(g122h m).loop 0 st k=some r):
  LoopS Try.prog 0 (bodyAt Try.f122 0) st k r:=
 lpk (F:=fun n ls k=>g122l0K (fun a b c d e i=>g122l0 a b c n d e i) ls k) (g122Calls m) (lb0 (by kernel_rfl))
  (fun _ _=>rfl) (fun n ls k=>g122l0Step (g122l0M m) (fun a b c=>g122l0 a b c n) ls k) (n:=m) h
theorem g122Ok(m:Nat):RowOk Try.prog 122 (fun{α}=>g122R (g122 m (α:=α))):=
 rwk (g122Calls m) (lo1 (by kernel_rfl) (g122l0Ok m))
  (fun _=>g122Main (g122l0M m))
abbrev S_g89(α:Type):Type:=(List Int)→(List Int)→(Int→Option α)→Option α
abbrev S_g89l0(α:Type):Type:=(List Int)→(List Int)→(Int→Option α)→(Option α)→Int→Option α
def g89l0b{α:Type}(a b:List Int)(c:Int→Option α)(d:Option α)(e:Int→Option α)(h:Int):Option α:=cond (decide (h≥(0:Int))) (if 0≤h∧h<(6:Nat) then if h.toNat<6 then if 0≤h∧h<(6:Nat) then if h.toNat<6 then cond ((List.getD a h.toNat 0) !=(List.getD b h.toNat 0)) (if 0≤h∧h<(6:Nat) then if h.toNat<6 then if 0≤h∧h<(6:Nat) then if h.toNat<6 then cond (decide ((List.getD a h.toNat 0)<(List.getD b h.toNat 0))) (c (-1:Int)) (c (1:Int)) else none else none else none else none) (e (IntKind.wrap .i64 (h-(1:Int)))) else none else none else none else none) (d)
def g89l0{α:Type}(a b:List Int)(c:Int→Option α)(d:Option α):Nat→Int→Option α
 |0=>fun _=>none
 |m+1=>fun e=>g89l0b a b c d (g89l0 a b c d m) e
def g89l0M{α:Type}(m:Nat):S_g89l0 α:=
 fun a b c d e=>g89l0 a b c d m e
def g89l0D:LoopD:={n:=24,low:=[],sl:=[2,3,5],bl:=[1000000,1000001],tp:=[(.vl (.sv (.ptr 1000000 0))),(.vl (.sv (.ptr 1000001 0))),tI],bp:=[b6,b6],xs:=[(1,[4]),(2,[])]}
def g89l0K{α:Type}(L:S_g89l0 α)(ls:List Lf)(k:KEx α):Option α:=
 L ((lf ls 1).lst uU) ((lf ls 2).lst uU)
  (fun a=>k .ret (mkSt 24 [4] [(.vl (.sv (.int .i64 a)))] [] []))
  (k .normal (mkSt 24 [] [] [] []))
  (lf ls 0).int
def g89b{α:Type}(L89l0:Al S_g89l0)(a b:List Int)(c:Int→Option α):Option α:=L89l0 a b (fun d=>c d) (c (0:Int)) (5:Int)
def g89{α:Type}(m:Nat):S_g89 α:=
 g89b (g89l0M m)
def g89tp:List TP:=[(.vl (.agg [(.seq uU 6)])),(.vl (.agg [(.seq uU 6)]))]
def g89bp:List BP:=[]
def g89K{α:Type}(G:S_g89 α)(ls:List Lf)(k:KRe α):Option α:=
 G ((lf ls 0).lst uU) ((lf ls 1).lst uU)
  (fun a=>k (.vl (.sv (.int .i64 a))) [] [])
def g89R{α:Type}(G:S_g89 α):=rowK g89tp g89bp (g89K G)
def g89hd(L89l0:Al S_g89l0):Hd where
 call:=fun f args Bs k=>none
 loop:=fun id st k=>cond (Nat.beq id 0) (loopH g89l0D (g89l0K L89l0) st k) (none)
 ro:=fun f=>[]
def g89h(m:Nat):Hd:=g89hd (g89l0M m)
theorem g89l0Step(L89l0:Al S_g89l0){α:Type}(L:S_g89l0 α)(ls:List Lf)(k:KEx α):
  g89l0K (fun a b c d e=>g89l0b a b c d (L a b c d) e) ls k=ev tab (g89hd L89l0) (bodyAt Try.f89 0) (atHead g89l0D ls) (loopK g89l0D 0 (loopH g89l0D (g89l0K L)) k):=by kernel_rfl
theorem g89Main(L89l0:Al S_g89l0){α:Type}(ls:List Lf)(k:KRe α):
  g89K (g89b L89l0) ls k=evFun tab (g89hd L89l0) Try.f89 (fT g89tp ls) (fB g89tp g89bp ls) k:=by kernel_rfl
theorem g89Calls(m:Nat):(g89h m).CallsOk Try.prog:=cok_nil
theorem g89l0Ok(m:Nat)(α:Type)(st:St)(k:KEx α)(r:α)(h:(g89h m).loop 0 st k=some r):
  LoopS Try.prog 0 (bodyAt Try.f89 0) st k r:=
 lpk (F:=fun n ls k=>g89l0K (fun a b c d e=>g89l0 a b c d n e) ls k) (g89Calls m) (lb0 (by kernel_rfl))
  (fun _ _=>rfl) (fun n ls k=>g89l0Step (g89l0M m) (fun a b c d=>g89l0 a b c d n) ls k) (n:=m) h
theorem g89Ok(m:Nat):RowOk Try.prog 89 (fun{α}=>g89R (g89 m (α:=α))):=
 rwk (g89Calls m) (lo1 (by kernel_rfl) (g89l0Ok m))
  (fun _=>g89Main (g89l0M m))
abbrev S_g123(α:Type):Type:=Int→(Int→Option α)→Option α
def g123b{α:Type}(G125:Al S_g125)(a:Int)(b:Int→Option α):Option α:=G125 a (fun c=>b (IntKind.wrap .i64 ((32:Int)-c)))
def g123{α:Type}(m:Nat):S_g123 α:=
 g123b (g125 m)
def g123tp:List TP:=[(.vl (.sv (.int .u32)))]
def g123bp:List BP:=[]
def g123K{α:Type}(G:S_g123 α)(ls:List Lf)(k:KRe α):Option α:=
 G (lf ls 0).int
  (fun a=>k (.vl (.sv (.int .i64 a))) [] [])
def g123R{α:Type}(G:S_g123 α):=rowK g123tp g123bp (g123K G)
def g123hd(G125:Al S_g125):Hd where
 call:=fun f args Bs k=>cond (Nat.beq f 125) (g125R G125 args Bs k) (none)
 loop:=fun id st k=>none
 ro:=fun f=>[]
def g123h(m:Nat):Hd:=g123hd (g125 m)
theorem g123Main(G125:Al S_g125){α:Type}(ls:List Lf)(k:KRe α):
  g123K (g123b G125) ls k=evFun tab (g123hd G125) Try.f123 (fT g123tp ls) (fB g123tp g123bp ls) k:=by kernel_rfl
theorem g123Calls(m:Nat):(g123h m).CallsOk Try.prog:=(cok_cons (g125Ok m) cok_nil)
theorem g123Ok(m:Nat):RowOk Try.prog 123 (fun{α}=>g123R (g123 m (α:=α))):=
 rwk (g123Calls m) (lo0 (by kernel_rfl))
  (fun _=>g123Main (g125 m))
abbrev S_g108(α:Type):Type:=(List Int)→Int→((List Int)→Option α)→Option α
abbrev S_g108l0(α:Type):Type:=Int→Int→(List Int)→(List Int)→((List Int)→Option α)→Int→(List Int)→Option α
def g108l0b{α:Type}(a b:Int)(c d:List Int)(e:(List Int)→Option α)(h:Int→(List Int)→Option α)(i:Int)(j:List Int):Option α:=cond (decide (i≥a)) (let l:Int:=IntKind.wrap .i64 (i-a);if 0≤l∧l<(6:Nat) then if l.toNat<6 then if b<0 then none else if 0≤i∧i<(6:Nat) then if i.toNat<6 then let n:List Int:=List.set j (i.toNat) (IntKind.wrap .u32 ((List.getD c l.toNat 0)*2^(min b.toNat 32)));cond (decide (b>(0:Int))) (cond (decide (i>a)) (if 0≤i∧i<(6:Nat) then if i.toNat<6 then let o:Int:=IntKind.wrap .i64 ((IntKind.wrap .i64 (i-a))-(1:Int));if 0≤o∧o<(6:Nat) then if o.toNat<6 then let p:Int:=IntKind.wrap .i64 ((32:Int)-b);if p<0 then none else if 0≤i∧i<(6:Nat) then if i.toNat<6 then h (IntKind.wrap .i64 (i-(1:Int))) (List.set n (i.toNat) (ibits .or .u32 (List.getD n i.toNat 0) (Int.fdiv (List.getD c o.toNat 0) (2^(min p.toNat 32))))) else none else none else none else none else none else none) (h (IntKind.wrap .i64 (i-(1:Int))) n)) (h (IntKind.wrap .i64 (i-(1:Int))) n) else none else none else none else none) (e j)
def g108l0{α:Type}(a b:Int)(c d:List Int)(e:(List Int)→Option α):Nat→Int→(List Int)→Option α
 |0=>fun _ _=>none
 |m+1=>fun h i=>g108l0b a b c d e (g108l0 a b c d e m) h i
def g108l0M{α:Type}(m:Nat):S_g108l0 α:=
 fun a b c d e h i=>g108l0 a b c d e m h i
def g108l0D:LoopD:={n:=50,low:=[],sl:=[2,4,5,6,7,8],bl:=[1000000,1000001,1000002],tp:=[(.vl (.sv (.ptr 1000000 0))),(.vl (.sv (.ptr 1000001 0))),(.vl (.sv (.ptr 1000002 0))),tI,tI,tI],bp:=[b6,b6,b6],xs:=[(2,[4,5])]}
def g108l0K{α:Type}(L:S_g108l0 α)(ls:List Lf)(k:KEx α):Option α:=
 L (lf ls 0).int (lf ls 1).int ((lf ls 3).lst uU) ((lf ls 4).lst uU)
  (fun a=>k .normal (mkSt 50 [4,5] [(.vl (.sv (.ptr 1000000 0))),(.vl (.sv (.ptr 1000001 0)))] [1000000,1000001] [(true,[(.seq uU 6 ((lf ls 4).lst uU))]),(true,[(.seq uU 6 a)])]))
  (lf ls 2).int ((lf ls 5).lst uU)
def g108b{α:Type}(L108l0:Al S_g108l0)(a:List Int)(b:Int)(c:(List Int)→Option α):Option α:=L108l0 (IntKind.wrap .i64 (Int.tdiv b (32:Int))) (Int.tmod b (32:Int)) a [0,0,0,0,0,0] (fun d=>c d) (5:Int) [0,0,0,0,0,0]
def g108{α:Type}(m:Nat):S_g108 α:=
 g108b (g108l0M m)
def g108tp:List TP:=[(.vl (.agg [(.seq uU 6)])),tI]
def g108bp:List BP:=[]
def g108K{α:Type}(G:S_g108 α)(ls:List Lf)(k:KRe α):Option α:=
 G ((lf ls 0).lst uU) (lf ls 1).int
  (fun a=>k (.vl (.agg [(.seq uU 6 a)])) [] [])
def g108R{α:Type}(G:S_g108 α):=rowK g108tp g108bp (g108K G)
def g108hd(L108l0:Al S_g108l0):Hd where
 call:=fun f args Bs k=>none
 loop:=fun id st k=>cond (Nat.beq id 0) (loopH g108l0D (g108l0K L108l0) st k) (none)
 ro:=fun f=>[]
def g108h(m:Nat):Hd:=g108hd (g108l0M m)
theorem g108l0Step(L108l0:Al S_g108l0){α:Type}(L:S_g108l0 α)(ls:List Lf)(k:KEx α):
  g108l0K (fun a b c d e h i=>g108l0b a b c d e (L a b c d e) h i) ls k=ev tab (g108hd L108l0) (bodyAt Try.f108 0) (atHead g108l0D ls) (loopK g108l0D 0 (loopH g108l0D (g108l0K L)) k):=by kernel_rfl
theorem g108Main(L108l0:Al S_g108l0){α:Type}(ls:List Lf)(k:KRe α):
  g108K (g108b L108l0) ls k=evFun tab (g108hd L108l0) Try.f108 (fT g108tp ls) (fB g108tp g108bp ls) k:=by kernel_rfl
theorem g108Calls(m:Nat):(g108h m).CallsOk Try.prog:=cok_nil
theorem g108l0Ok(m:Nat)(α:Type)(st:St)(k:KEx α)(r:α)(h:(g108h m).loop 0 st k=some r):
  LoopS Try.prog 0 (bodyAt Try.f108 0) st k r:=
 lpk (F:=fun n ls k=>g108l0K (fun a b c d e i j=>g108l0 a b c d e n i j) ls k) (g108Calls m) (lb0 (by kernel_rfl))
  (fun _ _=>rfl) (fun n ls k=>g108l0Step (g108l0M m) (fun a b c d e=>g108l0 a b c d e n) ls k) (n:=m) h
theorem g108Ok(m:Nat):RowOk Try.prog 108 (fun{α}=>g108R (g108 m (α:=α))):=
 rwk (g108Calls m) (lo1 (by kernel_rfl) (g108l0Ok m))
  (fun _=>g108Main (g108l0M m))
abbrev S_g124(α:Type):Type:=Nat→Nat→Nat→Nat→Nat→Nat→(List Int)→(List Int)→(Int→(List Int)→Option α)→Option α
abbrev S_g124l0(α:Type):Type:=Nat→Nat→Nat→Nat→Nat→Nat→Int→(List Int)→(List Int)→(Int→Option α)→Int→Int→Option α
def g124l0b{α:Type}(a b:Nat)(c d:Nat)(e h:Nat)(i:Int)(j l:List Int)(n:Int→Option α)(o:Int→Int→Option α)(p q:Int):Option α:=cond ((Int.fdiv p (2^32)) !=(0:Int)) (let r:Int:=IntKind.wrap .u64 (p-(1:Int));let s:Int:=IntKind.wrap .i64 (i-(1:Int));if 0≤s∧s<(e:Nat) then if(d+s.toNat)<6 then let t:Int:=IntKind.wrap .u64 (q+(IntKind.wrap .u64 (List.getD l (d+s.toNat) 0)));cond ((Int.fdiv t (2^32)) !=(0:Int)) (n r) (o r t) else none else none) (let u:Int:=IntKind.wrap .i64 (i-(2:Int));if 0≤u∧u<(e:Nat) then if(d+u.toNat)<6 then let v:Int:=IntKind.wrap .i64 (i-(2:Int));if 0≤v∧v<(b:Nat) then if(a+v.toNat)<7 then cond (decide ((IntKind.wrap .u64 (p*(IntKind.wrap .u64 (List.getD l (d+u.toNat) 0))))>(ibits .or .u64 (IntKind.wrap .u64 (q*2^32)) (IntKind.wrap .u64 (List.getD j (a+v.toNat) 0))))) (let w:Int:=IntKind.wrap .u64 (p-(1:Int));let x:Int:=IntKind.wrap .i64 (i-(1:Int));if 0≤x∧x<(e:Nat) then if(d+x.toNat)<6 then let y:Int:=IntKind.wrap .u64 (q+(IntKind.wrap .u64 (List.getD l (d+x.toNat) 0)));cond ((Int.fdiv y (2^32)) !=(0:Int)) (n w) (o w y) else none else none) (n p) else none else none else none else none)
def g124l0{α:Type}(a b:Nat)(c d:Nat)(e h:Nat)(i:Int)(j l:List Int)(n:Int→Option α):Nat→Int→Int→Option α
 |0=>fun _ _=>none
 |m+1=>fun o p=>g124l0b a b c d e h i j l n (g124l0 a b c d e h i j l n m) o p
def g124l0M{α:Type}(m:Nat):S_g124l0 α:=
 fun a b c d e h i j l n o p=>g124l0 a b c d e h i j l n m o p
def g124l0D:LoopD:={n:=170,low:=[0,1],sl:=[0,1,5,7,8],bl:=[0,1],tp:=[(.vl (.sv (.slc 0 0 1))),(.vl (.sv (.slc 1 0 1))),tI,(.vl (.sv (.int .u64))),(.vl (.sv (.int .u64)))],bp:=[(true,[(.seq uU 7)]),(false,[(.seq uU 6)])],xs:=[(2,[0,1,5,7])]}
def g124l0K{α:Type}(L:S_g124l0 α)(ls:List Lf)(k:KEx α):Option α:=
 L (lf ls 0).nat (lf ls 1).nat (lf ls 2).nat (lf ls 3).nat (lf ls 4).nat (lf ls 5).nat (lf ls 6).int ((lf ls 9).lst uU) ((lf ls 10).lst uU)
  (fun a=>k .normal (mkSt 170 [0,1,5,7] [(.vl (.sv (.slc 0 0 1 (lf ls 0).nat (lf ls 1).nat (lf ls 2).nat))),(.vl (.sv (.slc 1 0 1 (lf ls 3).nat (lf ls 4).nat (lf ls 5).nat))),(.vl (.sv (.int .i64 (lf ls 6).int))),(.vl (.sv (.int .u64 a)))] [0,1] [(true,[(.seq uU 7 ((lf ls 9).lst uU))]),(false,[(.seq uU 6 ((lf ls 10).lst uU))])]))
  (lf ls 7).int (lf ls 8).int
abbrev S_g124l2(α:Type):Type:=Nat→Nat→Nat→Nat→Nat→Nat→Int→Int→Int→(List Int)→(Int→Int→(List Int)→Option α)→Int→Int→Int→(List Int)→Option α
def g124l2b{α:Type}(a b:Nat)(c d:Nat)(e h:Nat)(i j l:Int)(n:List Int)(o:Int→Int→(List Int)→Option α)(p:Int→Int→Int→(List Int)→Option α)(q r s:Int)(t:List Int):Option α:=cond (decide (s<l)) (if 0≤s∧s<(e:Nat) then if(d+s.toNat)<6 then let u:Int:=IntKind.wrap .u64 (r+(IntKind.wrap .u64 (j*(IntKind.wrap .u64 (List.getD n (d+s.toNat) 0)))));if 0≤s∧s<(b:Nat) then if(a+s.toNat)<7 then let v:Int:=IntKind.wrap .u64 ((IntKind.wrap .u64 ((IntKind.wrap .u64 (List.getD t (a+s.toNat) 0))-(ibits .and .u64 u (4294967295:Int))))-q);if 0≤s∧s<(b:Nat) then if(a+s.toNat)<7 then p (Int.fdiv v (2^63)) (Int.fdiv u (2^32)) (IntKind.wrap .i64 (s+(1:Int))) (List.set t (a+s.toNat) (IntKind.wrap .u32 v)) else none else none else none else none else none else none) (o q r t)
def g124l2{α:Type}(a b:Nat)(c d:Nat)(e h:Nat)(i j l:Int)(n:List Int)(o:Int→Int→(List Int)→Option α):Nat→Int→Int→Int→(List Int)→Option α
 |0=>fun _ _ _ _=>none
 |m+1=>fun p q r s=>g124l2b a b c d e h i j l n o (g124l2 a b c d e h i j l n o m) p q r s
def g124l2M{α:Type}(m:Nat):S_g124l2 α:=
 fun a b c d e h i j l n o p q r s=>g124l2 a b c d e h i j l n o m p q r s
def g124l2D:LoopD:={n:=170,low:=[0,1],sl:=[0,1,5,7,9,10,82,83],bl:=[0,1],tp:=[(.vl (.sv (.slc 0 0 1))),(.vl (.sv (.slc 1 0 1))),tI,(.vl (.sv (.int .u64))),(.vl (.sv (.int .u64))),(.vl (.sv (.int .u64))),tI,tI],bp:=[(true,[(.seq uU 7)]),(false,[(.seq uU 6)])],xs:=[(4,[0,1,5,7,9,10])]}
def g124l2K{α:Type}(L:S_g124l2 α)(ls:List Lf)(k:KEx α):Option α:=
 L (lf ls 0).nat (lf ls 1).nat (lf ls 2).nat (lf ls 3).nat (lf ls 4).nat (lf ls 5).nat (lf ls 6).int (lf ls 7).int (lf ls 10).int ((lf ls 13).lst uU)
  (fun a b c=>k .normal (mkSt 170 [0,1,5,7,9,10] [(.vl (.sv (.slc 0 0 1 (lf ls 0).nat (lf ls 1).nat (lf ls 2).nat))),(.vl (.sv (.slc 1 0 1 (lf ls 3).nat (lf ls 4).nat (lf ls 5).nat))),(.vl (.sv (.int .i64 (lf ls 6).int))),(.vl (.sv (.int .u64 (lf ls 7).int))),(.vl (.sv (.int .u64 a))),(.vl (.sv (.int .u64 b)))] [0,1] [(true,[(.seq uU 7 c)]),(false,[(.seq uU 6 ((lf ls 13).lst uU))])]))
  (lf ls 8).int (lf ls 9).int (lf ls 11).int ((lf ls 12).lst uU)
abbrev S_g124l4(α:Type):Type:=Nat→Nat→Nat→Nat→Nat→Nat→Int→Int→Int→(List Int)→(Int→(List Int)→Option α)→Int→Int→(List Int)→Option α
def g124l4b{α:Type}(a b:Nat)(c d:Nat)(e h:Nat)(i j l:Int)(n:List Int)(o:Int→(List Int)→Option α)(p:Int→Int→(List Int)→Option α)(q r:Int)(s:List Int):Option α:=cond (decide (r<l)) (if 0≤r∧r<(b:Nat) then if(a+r.toNat)<7 then if 0≤r∧r<(e:Nat) then if(d+r.toNat)<6 then let t:Int:=IntKind.wrap .u64 (q+(IntKind.wrap .u64 ((IntKind.wrap .u64 (List.getD s (a+r.toNat) 0))+(IntKind.wrap .u64 (List.getD n (d+r.toNat) 0)))));if 0≤r∧r<(b:Nat) then if(a+r.toNat)<7 then p (Int.fdiv t (2^32)) (IntKind.wrap .i64 (r+(1:Int))) (List.set s (a+r.toNat) (IntKind.wrap .u32 t)) else none else none else none else none else none else none) (o q s)
def g124l4{α:Type}(a b:Nat)(c d:Nat)(e h:Nat)(i j l:Int)(n:List Int)(o:Int→(List Int)→Option α):Nat→Int→Int→(List Int)→Option α
 |0=>fun _ _ _=>none
 |m+1=>fun p q r=>g124l4b a b c d e h i j l n o (g124l4 a b c d e h i j l n o m) p q r
def g124l4M{α:Type}(m:Nat):S_g124l4 α:=
 fun a b c d e h i j l n o p q r=>g124l4 a b c d e h i j l n o m p q r
def g124l4D:LoopD:={n:=170,low:=[0,1],sl:=[0,1,5,7,10,134,135],bl:=[0,1],tp:=[(.vl (.sv (.slc 0 0 1))),(.vl (.sv (.slc 1 0 1))),tI,(.vl (.sv (.int .u64))),(.vl (.sv (.int .u64))),tI,tI],bp:=[(true,[(.seq uU 7)]),(false,[(.seq uU 6)])],xs:=[(6,[0,5,7,10])]}
def g124l4K{α:Type}(L:S_g124l4 α)(ls:List Lf)(k:KEx α):Option α:=
 L (lf ls 0).nat (lf ls 1).nat (lf ls 2).nat (lf ls 3).nat (lf ls 4).nat (lf ls 5).nat (lf ls 6).int (lf ls 7).int (lf ls 9).int ((lf ls 12).lst uU)
  (fun a b=>k .normal (mkSt 170 [0,5,7,10] [(.vl (.sv (.slc 0 0 1 (lf ls 0).nat (lf ls 1).nat (lf ls 2).nat))),(.vl (.sv (.int .i64 (lf ls 6).int))),(.vl (.sv (.int .u64 (lf ls 7).int))),(.vl (.sv (.int .u64 a)))] [0,1] [(true,[(.seq uU 7 b)]),(false,[(.seq uU 6 ((lf ls 12).lst uU))])]))
  (lf ls 8).int (lf ls 10).int ((lf ls 11).lst uU)
def g124b{α:Type}(L124l0:Al S_g124l0)(L124l2:Al S_g124l2)(L124l4:Al S_g124l4)(a b:Nat)(c d:Nat)(e h:Nat)(i j:List Int)(l:Int→(List Int)→Option α):Option α:=if 0≤((e:Nat):Int)∧((e:Nat):Int)<(b:Nat) then if(a+((e:Nat):Int).toNat)<7 then let n:Int:=IntKind.wrap .i64 (((e:Nat):Int)-(1:Int));if 0≤n∧n<(b:Nat) then if(a+n.toNat)<7 then let o:Int:=ibits .or .u64 (IntKind.wrap .u64 ((IntKind.wrap .u64 (List.getD i (a+((e:Nat):Int).toNat) 0))*2^32)) (IntKind.wrap .u64 (List.getD i (a+n.toNat) 0));let p:Int:=IntKind.wrap .i64 (((e:Nat):Int)-(1:Int));if 0≤p∧p<(e:Nat) then if(d+p.toNat)<6 then let q:Int:=IntKind.wrap .u64 (List.getD j (d+p.toNat) 0);if q=0 then none else let r:Int:=IntKind.wrap .i64 (((e:Nat):Int)-(1:Int));if 0≤r∧r<(e:Nat) then if(d+r.toNat)<6 then let s:Int:=IntKind.wrap .u64 (List.getD j (d+r.toNat) 0);if s=0 then none else L124l0 a b c d e h ((e:Nat):Int) i j (fun t=>L124l2 a b c d e h ((e:Nat):Int) t ((e:Nat):Int) j (fun u v w=>if 0≤((e:Nat):Int)∧((e:Nat):Int)<(b:Nat) then if(a+((e:Nat):Int).toNat)<7 then let x:Int:=IntKind.wrap .u64 ((IntKind.wrap .u64 ((IntKind.wrap .u64 (List.getD w (a+((e:Nat):Int).toNat) 0))-v))-u);if 0≤((e:Nat):Int)∧((e:Nat):Int)<(b:Nat) then if(a+((e:Nat):Int).toNat)<7 then let y:List Int:=List.set w (a+((e:Nat):Int).toNat) (IntKind.wrap .u32 x);cond ((Int.fdiv x (2^63))==(0:Int)) (l (IntKind.wrap .u32 t) y) (L124l4 a b c d e h ((e:Nat):Int) t ((e:Nat):Int) j (fun z a0=>if 0≤((e:Nat):Int)∧((e:Nat):Int)<(b:Nat) then if(a+((e:Nat):Int).toNat)<7 then if 0≤((e:Nat):Int)∧((e:Nat):Int)<(b:Nat) then if(a+((e:Nat):Int).toNat)<7 then l (IntKind.wrap .u32 (IntKind.wrap .u64 (t-(1:Int)))) (List.set a0 (a+((e:Nat):Int).toNat) (IntKind.wrap .u32 ((List.getD a0 (a+((e:Nat):Int).toNat) 0)+(IntKind.wrap .u32 z)))) else none else none else none else none) (0:Int) (0:Int) y) else none else none else none else none) (0:Int) (0:Int) (0:Int) i) (IntKind.wrap .u64 (Int.tdiv o q)) (Int.tmod o s) else none else none else none else none else none else none else none else none
def g124{α:Type}(m:Nat):S_g124 α:=
 g124b (g124l0M m) (g124l2M m) (g124l4M m)
def g124tp:List TP:=[(.vl (.sv (.slc 0 0 1))),(.vl (.sv (.slc 1 0 1)))]
def g124bp:List BP:=[(true,[(.seq uU 7)]),(false,[(.seq uU 6)])]
def g124K{α:Type}(G:S_g124 α)(ls:List Lf)(k:KRe α):Option α:=
 G (lf ls 0).nat (lf ls 1).nat (lf ls 2).nat (lf ls 3).nat (lf ls 4).nat (lf ls 5).nat ((lf ls 6).lst uU) ((lf ls 7).lst uU)
  (fun a b=>k (.vl (.sv (.int .u32 a))) [[(.seq uU 7 b)],[(.seq uU 6 ((lf ls 7).lst uU))]] [])
def g124R{α:Type}(G:S_g124 α):=rowK g124tp g124bp (g124K G)
def g124hd(L124l0:Al S_g124l0)(L124l2:Al S_g124l2)(L124l4:Al S_g124l4):Hd where
 call:=fun f args Bs k=>none
 loop:=fun id st k=>cond (Nat.beq id 0) (loopH g124l0D (g124l0K L124l0) st k) (cond (Nat.beq id 2) (loopH g124l2D (g124l2K L124l2) st k) (cond (Nat.beq id 4) (loopH g124l4D (g124l4K L124l4) st k) (none)))
 ro:=fun f=>[]
def g124h(m:Nat):Hd:=g124hd (g124l0M m) (g124l2M m) (g124l4M m)
theorem g124l0Step(L124l0:Al S_g124l0)(L124l2:Al S_g124l2)(L124l4:Al S_g124l4){α:Type}(L:S_g124l0 α)(ls:List Lf)(k:KEx α):
  g124l0K (fun a b c d e h i j l n o p=>g124l0b a b c d e h i j l n (L a b c d e h i j l n) o p) ls k=ev tab (g124hd L124l0 L124l2 L124l4) (bodyAt Try.f124 0) (atHead g124l0D ls) (loopK g124l0D 0 (loopH g124l0D (g124l0K L)) k):=by kernel_rfl
theorem g124l2Step(L124l0:Al S_g124l0)(L124l2:Al S_g124l2)(L124l4:Al S_g124l4){α:Type}(L:S_g124l2 α)(ls:List Lf)(k:KEx α):
  g124l2K (fun a b c d e h i j l n o p q r s=>g124l2b a b c d e h i j l n o (L a b c d e h i j l n o) p q r s) ls k=ev tab (g124hd L124l0 L124l2 L124l4) (bodyAt Try.f124 2) (atHead g124l2D ls) (loopK g124l2D 2 (loopH g124l2D (g124l2K L)) k):=by kernel_rfl
theorem g124l4Step(L124l0:Al S_g124l0)(L124l2:Al S_g124l2)(L124l4:Al S_g124l4){α:Type}(L:S_g124l4 α)(ls:List Lf)(k:KEx α):
  g124l4K (fun a b c d e h i j l n o p q r=>g124l4b a b c d e h i j l n o (L a b c d e h i j l n o) p q r) ls k=ev tab (g124hd L124l0 L124l2 L124l4) (bodyAt Try.f124 4) (atHead g124l4D ls) (loopK g124l4D 4 (loopH g124l4D (g124l4K L)) k):=by kernel_rfl
theorem g124Main(L124l0:Al S_g124l0)(L124l2:Al S_g124l2)(L124l4:Al S_g124l4){α:Type}(ls:List Lf)(k:KRe α):
  g124K (g124b L124l0 L124l2 L124l4) ls k=evFun tab (g124hd L124l0 L124l2 L124l4) Try.f124 (fT g124tp ls) (fB g124tp g124bp ls) k:=by kernel_rfl
theorem g124Calls(m:Nat):(g124h m).CallsOk Try.prog:=cok_nil
theorem g124l0Ok(m:Nat)(α:Type)(st:St)(k:KEx α)(r:α)(h:(g124h m).loop 0 st k=some r):
  LoopS Try.prog 0 (bodyAt Try.f124 0) st k r:=
 lpk (F:=fun n ls k=>g124l0K (fun a b c d e i j l o q s t=>g124l0 a b c d e i j l o q n s t) ls k) (g124Calls m) (lb0 (by kernel_rfl))
  (fun _ _=>rfl) (fun n ls k=>g124l0Step (g124l0M m) (g124l2M m) (g124l4M m) (fun a b c d e i j l o q=>g124l0 a b c d e i j l o q n) ls k) (n:=m) h
theorem g124l2Ok(m:Nat)(α:Type)(st:St)(k:KEx α)(r:α)(h:(g124h m).loop 2 st k=some r):
  LoopS Try.prog 2 (bodyAt Try.f124 2) st k r:=
 lpk (F:=fun n ls k=>g124l2K (fun a b c d e i j l o q s t u v w=>g124l2 a b c d e i j l o q s n t u v w) ls k) (g124Calls m) (lb0 (by kernel_rfl))
  (fun _ _=>rfl) (fun n ls k=>g124l2Step (g124l0M m) (g124l2M m) (g124l4M m) (fun a b c d e i j l o q s=>g124l2 a b c d e i j l o q s n) ls k) (n:=m) h
theorem g124l4Ok(m:Nat)(α:Type)(st:St)(k:KEx α)(r:α)(h:(g124h m).loop 4 st k=some r):
  LoopS Try.prog 4 (bodyAt Try.f124 4) st k r:=
 lpk (F:=fun n ls k=>g124l4K (fun a b c d e i j l o q s t u v=>g124l4 a b c d e i j l o q s n t u v) ls k) (g124Calls m) (lb0 (by kernel_rfl))
  (fun _ _=>rfl) (fun n ls k=>g124l4Step (g124l0M m) (g124l2M m) (g124l4M m) (fun a b c d e i j l o q s=>g124l4 a b c d e i j l o q s n) ls k) (n:=m) h
theorem g124Fn(m:Nat):FnOk Try.prog 124 g124tp g124bp (fun{α}=>g124K (g124 m (α:=α))):=
 fn_ok (tab:=tab) (h:=g124h m) (fn:=Try.f124) (F:=fun{α}=>g124K (g124 m (α:=α))) tabOk (g124Calls m) mixed (by kernel_rfl) (by kernel_rfl) (fun c hc=>by
  rw[bodyOf_some hc]
  exact loopsOk_of _ (fun p hp=>by
  rw[show loopsOf (bodyOf Try.f124)=[(0,bodyAt Try.f124 0),(2,bodyAt Try.f124 2),(4,bodyAt Try.f124 4)] by kernel_rfl] at hp
  simp only[List.mem_cons,List.not_mem_nil,or_false] at hp
  rcases hp with rfl|rfl|rfl
  ·exact g124l0Ok m
  ·exact g124l2Ok m
  ·exact g124l4Ok m))
  (fun _=>g124Main (g124l0M m) (g124l2M m) (g124l4M m))
theorem g124Ok(m:Nat):RowOk Try.prog 124 (fun{α}=>g124R (g124 m (α:=α))):=row_of (g124Fn m)
abbrev S_g109(α:Type):Type:=(List Int)→Int→((List Int)→Option α)→Option α
abbrev S_g109l0(α:Type):Type:=Int→Int→(List Int)→(List Int)→((List Int)→Option α)→Int→(List Int)→Option α
def g109l0b{α:Type}(a b:Int)(c d:List Int)(e:(List Int)→Option α)(h:Int→(List Int)→Option α)(i:Int)(j:List Int):Option α:=cond (decide ((IntKind.wrap .i64 (i+a))<(6:Int))) (let l:Int:=IntKind.wrap .i64 (i+a);if 0≤l∧l<(6:Nat) then if l.toNat<6 then if b<0 then none else if 0≤i∧i<(6:Nat) then if i.toNat<6 then let n:List Int:=List.set j (i.toNat) (Int.fdiv (List.getD c l.toNat 0) (2^(min b.toNat 32)));cond (decide (b>(0:Int))) (cond (decide ((IntKind.wrap .i64 ((IntKind.wrap .i64 (i+a))+(1:Int)))<(6:Int))) (if 0≤i∧i<(6:Nat) then if i.toNat<6 then let o:Int:=IntKind.wrap .i64 ((IntKind.wrap .i64 (i+a))+(1:Int));if 0≤o∧o<(6:Nat) then if o.toNat<6 then let p:Int:=IntKind.wrap .i64 ((32:Int)-b);if p<0 then none else if 0≤i∧i<(6:Nat) then if i.toNat<6 then h (IntKind.wrap .i64 (i+(1:Int))) (List.set n (i.toNat) (ibits .or .u32 (List.getD n i.toNat 0) (IntKind.wrap .u32 ((List.getD c o.toNat 0)*2^(min p.toNat 32))))) else none else none else none else none else none else none) (h (IntKind.wrap .i64 (i+(1:Int))) n)) (h (IntKind.wrap .i64 (i+(1:Int))) n) else none else none else none else none) (e j)
def g109l0{α:Type}(a b:Int)(c d:List Int)(e:(List Int)→Option α):Nat→Int→(List Int)→Option α
 |0=>fun _ _=>none
 |m+1=>fun h i=>g109l0b a b c d e (g109l0 a b c d e m) h i
def g109l0M{α:Type}(m:Nat):S_g109l0 α:=
 fun a b c d e h i=>g109l0 a b c d e m h i
def g109l0D:LoopD:={n:=53,low:=[],sl:=[2,4,5,6,7,8],bl:=[1000000,1000001,1000002],tp:=[(.vl (.sv (.ptr 1000000 0))),(.vl (.sv (.ptr 1000001 0))),(.vl (.sv (.ptr 1000002 0))),tI,tI,tI],bp:=[b6,b6,b6],xs:=[(2,[4,5])]}
def g109l0K{α:Type}(L:S_g109l0 α)(ls:List Lf)(k:KEx α):Option α:=
 L (lf ls 0).int (lf ls 1).int ((lf ls 3).lst uU) ((lf ls 4).lst uU)
  (fun a=>k .normal (mkSt 53 [4,5] [(.vl (.sv (.ptr 1000000 0))),(.vl (.sv (.ptr 1000001 0)))] [1000000,1000001] [(true,[(.seq uU 6 ((lf ls 4).lst uU))]),(true,[(.seq uU 6 a)])]))
  (lf ls 2).int ((lf ls 5).lst uU)
def g109b{α:Type}(L109l0:Al S_g109l0)(a:List Int)(b:Int)(c:(List Int)→Option α):Option α:=L109l0 (IntKind.wrap .i64 (Int.tdiv b (32:Int))) (Int.tmod b (32:Int)) a [0,0,0,0,0,0] (fun d=>c d) (0:Int) [0,0,0,0,0,0]
def g109{α:Type}(m:Nat):S_g109 α:=
 g109b (g109l0M m)
def g109tp:List TP:=[(.vl (.agg [(.seq uU 6)])),tI]
def g109bp:List BP:=[]
def g109K{α:Type}(G:S_g109 α)(ls:List Lf)(k:KRe α):Option α:=
 G ((lf ls 0).lst uU) (lf ls 1).int
  (fun a=>k (.vl (.agg [(.seq uU 6 a)])) [] [])
def g109R{α:Type}(G:S_g109 α):=rowK g109tp g109bp (g109K G)
def g109hd(L109l0:Al S_g109l0):Hd where
 call:=fun f args Bs k=>none
 loop:=fun id st k=>cond (Nat.beq id 0) (loopH g109l0D (g109l0K L109l0) st k) (none)
 ro:=fun f=>[]
def g109h(m:Nat):Hd:=g109hd (g109l0M m)
theorem g109l0Step(L109l0:Al S_g109l0){α:Type}(L:S_g109l0 α)(ls:List Lf)(k:KEx α):
  g109l0K (fun a b c d e h i=>g109l0b a b c d e (L a b c d e) h i) ls k=ev tab (g109hd L109l0) (bodyAt Try.f109 0) (atHead g109l0D ls) (loopK g109l0D 0 (loopH g109l0D (g109l0K L)) k):=by kernel_rfl
theorem g109Main(L109l0:Al S_g109l0){α:Type}(ls:List Lf)(k:KRe α):
  g109K (g109b L109l0) ls k=evFun tab (g109hd L109l0) Try.f109 (fT g109tp ls) (fB g109tp g109bp ls) k:=by kernel_rfl
theorem g109Calls(m:Nat):(g109h m).CallsOk Try.prog:=cok_nil
theorem g109l0Ok(m:Nat)(α:Type)(st:St)(k:KEx α)(r:α)(h:(g109h m).loop 0 st k=some r):
  LoopS Try.prog 0 (bodyAt Try.f109 0) st k r:=
 lpk (F:=fun n ls k=>g109l0K (fun a b c d e i j=>g109l0 a b c d e n i j) ls k) (g109Calls m) (lb0 (by kernel_rfl))
  (fun _ _=>rfl) (fun n ls k=>g109l0Step (g109l0M m) (fun a b c d e=>g109l0 a b c d e n) ls k) (n:=m) h
theorem g109Ok(m:Nat):RowOk Try.prog 109 (fun{α}=>g109R (g109 m (α:=α))):=
 rwk (g109Calls m) (lo1 (by kernel_rfl) (g109l0Ok m))
  (fun _=>g109Main (g109l0M m))
abbrev S_g96(α:Type):Type:=(List Int)→(List Int)→((List Int)→(List Int)→Option α)→Option α
abbrev S_g96l0(α:Type):Type:=Int→Int→(List Int)→(List Int)→(List Int)→((List Int)→(List Int)→Option α)→Int→(List Int)→(List Int)→Option α
def g96l0b{α:Type}(G124:Al S_g124)(a b:Int)(c d e:List Int)(h:(List Int)→(List Int)→Option α)(i:Int→(List Int)→(List Int)→Option α)(j:Int)(l n:List Int):Option α:=cond (decide (j≥(0:Int))) (let o:Int:=IntKind.wrap .i64 ((IntKind.wrap .i64 (j+a))+(1:Int));if 0≤j∧j≤o∧o≤((7:Nat):Int) then if 0≤(0:Int)∧(0:Int)≤a∧a≤((6:Nat):Int) then G124 (cond (Nat.beq 7 (Int.toNat j)) 0 (Int.toNat j)) ((Int.toNat o)-(Int.toNat j)) (7-(Int.toNat j)) 0 ((Int.toNat a)-0) 6 l e (fun p q=>if 0≤j∧j<(6:Nat) then if j.toNat<6 then i (IntKind.wrap .i64 (j-(1:Int))) q (List.set n (j.toNat) p) else none else none) else none else none) (h l n)
def g96l0{α:Type}(G124:Al S_g124)(a b:Int)(c d e:List Int)(h:(List Int)→(List Int)→Option α):Nat→Int→(List Int)→(List Int)→Option α
 |0=>fun _ _ _=>none
 |m+1=>fun i j l=>g96l0b G124 a b c d e h (g96l0 G124 a b c d e h m) i j l
def g96l0M{α:Type}(m:Nat):S_g96l0 α:=
 fun a b c d e h i j l=>g96l0 (g124 m) a b c d e h m i j l
def g96l0D:LoopD:={n:=86,low:=[],sl:=[4,5,6,9,10,11,13,14],bl:=[1000000,1000001,1000002,1000003,1000004],tp:=[(.vl (.sv (.ptr 1000000 0))),(.vl (.sv (.ptr 1000001 0))),tI,tI,(.vl (.sv (.ptr 1000002 0))),(.vl (.sv (.ptr 1000003 0))),(.vl (.sv (.ptr 1000004 0))),tI],bp:=[b6,b6,b6,(true,[(.seq uU 7)]),b6],xs:=[(2,[4,5,9,11,13])]}
def g96l0K{α:Type}(L:S_g96l0 α)(ls:List Lf)(k:KEx α):Option α:=
 L (lf ls 0).int (lf ls 1).int ((lf ls 3).lst uU) ((lf ls 4).lst uU) ((lf ls 5).lst uU)
  (fun a b=>k .normal (mkSt 86 [4,5,9,11,13] [(.vl (.sv (.ptr 1000000 0))),(.vl (.sv (.ptr 1000001 0))),(.vl (.sv (.int .i64 (lf ls 1).int))),(.vl (.sv (.ptr 1000002 0))),(.vl (.sv (.ptr 1000003 0)))] [1000000,1000001,1000002,1000003] [(true,[(.seq uU 6 ((lf ls 3).lst uU))]),(true,[(.seq uU 6 ((lf ls 4).lst uU))]),(true,[(.seq uU 7 a)]),(true,[(.seq uU 6 b)])]))
  (lf ls 2).int ((lf ls 6).lst uU) ((lf ls 7).lst uU)
def g96b{α:Type}(G107:Al S_g107)(G122:Al S_g122)(G89:Al S_g89)(G123:Al S_g123)(G108:Al S_g108)(G124:Al S_g124)(G109:Al S_g109)(L96l0:Al S_g96l0)(a b:List Int)(c:(List Int)→(List Int)→Option α):Option α:=G107 b (fun d=>let e:Int:=IntKind.wrap .i64 (Int.tdiv (IntKind.wrap .i64 (d+(31:Int))) (32:Int));cond (e==(1:Int)) (G122 a (List.getD b 0 0) (fun h i=>c h [i,0,0,0,0,0])) (G89 a b (fun j=>cond (decide (j<(0:Int))) (c [0,0,0,0,0,0] a) (let l:Int:=IntKind.wrap .i64 (e-(1:Int));if 0≤l∧l<(6:Nat) then if l.toNat<6 then G123 (List.getD b l.toNat 0) (fun n=>G108 b n (fun o=>G108 a n (fun p=>let q:List Int:=List.take 0 [0,0,0,0,0,0,0]++(List.take 6 (List.drop 0 p)++List.drop (0+6) [0,0,0,0,0,0,0]);cond (decide (n>(0:Int))) (let r:Int:=IntKind.wrap .i64 ((32:Int)-n);if r<0 then none else L96l0 e n [0,0,0,0,0,0] [0,0,0,0,0,0] o (fun s t=>G109 (List.take 0 [0,0,0,0,0,0]++(List.take 6 (List.drop 0 s)++List.drop (0+6) [0,0,0,0,0,0])) n (fun u=>c t u)) (IntKind.wrap .i64 ((6:Int)-e)) (List.set q 6 (Int.fdiv (List.getD a 5 0) (2^(min r.toNat 32)))) [0,0,0,0,0,0]) (L96l0 e n [0,0,0,0,0,0] [0,0,0,0,0,0] o (fun v w=>G109 (List.take 0 [0,0,0,0,0,0]++(List.take 6 (List.drop 0 v)++List.drop (0+6) [0,0,0,0,0,0])) n (fun x=>c w x)) (IntKind.wrap .i64 ((6:Int)-e)) q [0,0,0,0,0,0])))) else none else none))))
def g96{α:Type}(m:Nat):S_g96 α:=
 g96b (g107 m) (g122 m) (g89 m) (g123 m) (g108 m) (g124 m) (g109 m) (g96l0M m)
def g96tp:List TP:=[(.vl (.agg [(.seq uU 6)])),(.vl (.agg [(.seq uU 6)]))]
def g96bp:List BP:=[]
def g96K{α:Type}(G:S_g96 α)(ls:List Lf)(k:KRe α):Option α:=
 G ((lf ls 0).lst uU) ((lf ls 1).lst uU)
  (fun a b=>k (.tup [(.agg [(.seq uU 6 a)]),(.agg [(.seq uU 6 b)])]) [] [])
def g96R{α:Type}(G:S_g96 α):=rowK g96tp g96bp (g96K G)
def g96hd(G107:Al S_g107)(G122:Al S_g122)(G89:Al S_g89)(G123:Al S_g123)(G108:Al S_g108)(G124:Al S_g124)(G109:Al S_g109)(L96l0:Al S_g96l0):Hd where
 call:=fun f args Bs k=>cond (Nat.beq f 107) (g107R G107 args Bs k) (cond (Nat.beq f 122) (g122R G122 args Bs k) (cond (Nat.beq f 89) (g89R G89 args Bs k) (cond (Nat.beq f 123) (g123R G123 args Bs k) (cond (Nat.beq f 108) (g108R G108 args Bs k) (cond (Nat.beq f 124) (g124R G124 args Bs k) (cond (Nat.beq f 109) (g109R G109 args Bs k) (none)))))))
 loop:=fun id st k=>cond (Nat.beq id 0) (loopH g96l0D (g96l0K L96l0) st k) (none)
 ro:=fun f=>cond (Nat.beq f 124) [1] ([])
def g96h(m:Nat):Hd:=g96hd (g107 m) (g122 m) (g89 m) (g123 m) (g108 m) (g124 m) (g109 m) (g96l0M m)
theorem g96l0Step(G107:Al S_g107)(G122:Al S_g122)(G89:Al S_g89)(G123:Al S_g123)(G108:Al S_g108)(G124:Al S_g124)(G109:Al S_g109)(L96l0:Al S_g96l0){α:Type}(L:S_g96l0 α)(ls:List Lf)(k:KEx α):
  g96l0K (fun a b c d e h i j l=>g96l0b G124 a b c d e h (L a b c d e h) i j l) ls k=ev tab (g96hd G107 G122 G89 G123 G108 G124 G109 L96l0) (bodyAt Try.f96 0) (atHead g96l0D ls) (loopK g96l0D 0 (loopH g96l0D (g96l0K L)) k):=by kernel_rfl
theorem g96Main(G107:Al S_g107)(G122:Al S_g122)(G89:Al S_g89)(G123:Al S_g123)(G108:Al S_g108)(G124:Al S_g124)(G109:Al S_g109)(L96l0:Al S_g96l0){α:Type}(ls:List Lf)(k:KRe α):
  g96K (g96b G107 G122 G89 G123 G108 G124 G109 L96l0) ls k=evFun tab (g96hd G107 G122 G89 G123 G108 G124 G109 L96l0) Try.f96 (fT g96tp ls) (fB g96tp g96bp ls) k:=by kernel_rfl
theorem g96Calls(m:Nat):(g96h m).CallsOk Try.prog:=(cok_cons (g107Ok m) (cok_cons (g122Ok m) (cok_cons (g89Ok m) (cok_cons (g123Ok m) (cok_cons (g108Ok m) (cok_cons (g124Ok m) (cok_cons (g109Ok m) cok_nil)))))))
theorem g96l0Ok(m:Nat)(α:Type)(st:St)(k:KEx α)(r:α)(h:(g96h m).loop 0 st k=some r):
  LoopS Try.prog 0 (bodyAt Try.f96 0) st k r:=
 lpk (F:=fun n ls k=>g96l0K (fun a b c d e i j l o=>g96l0 (g124 m) a b c d e i n j l o) ls k) (g96Calls m) (lb0 (by kernel_rfl))
  (fun _ _=>rfl) (fun n ls k=>g96l0Step (g107 m) (g122 m) (g89 m) (g123 m) (g108 m) (g124 m) (g109 m) (g96l0M m) (fun a b c d e i=>g96l0 (g124 m) a b c d e i n) ls k) (n:=m) h
theorem g96Ok(m:Nat):RowOk Try.prog 96 (fun{α}=>g96R (g96 m (α:=α))):=
 rwk (g96Calls m) (lo1 (by kernel_rfl) (g96l0Ok m))
  (fun _=>g96Main (g107 m) (g122 m) (g89 m) (g123 m) (g108 m) (g124 m) (g109 m) (g96l0M m))
abbrev S_g98(α:Type):Type:=((List Int)→Option α)→Option α
def g98b{α:Type}(a:(List Int)→Option α):Option α:=a [(1:Int),0,0,0,0,0]
def g98{α:Type}(m:Nat):S_g98 α:=
 g98b
def g98tp:List TP:=[]
def g98bp:List BP:=[]
def g98K{α:Type}(G:S_g98 α)(ls:List Lf)(k:KRe α):Option α:=
 G
  (fun a=>k (.vl (.agg [(.seq uU 6 a)])) [] [])
def g98R{α:Type}(G:S_g98 α):=rowK g98tp g98bp (g98K G)
def g98hd:Hd where
 call:=fun f args Bs k=>none
 loop:=fun id st k=>none
 ro:=fun f=>[]
def g98h(m:Nat):Hd:=g98hd
theorem g98Main{α:Type}(ls:List Lf)(k:KRe α):
  g98K (g98b) ls k=evFun tab (g98hd) Try.f98 (fT g98tp ls) (fB g98tp g98bp ls) k:=by kernel_rfl
theorem g98Calls(m:Nat):(g98h m).CallsOk Try.prog:=cok_nil
theorem g98Ok(m:Nat):RowOk Try.prog 98 (fun{α}=>g98R (g98 m (α:=α))):=
 rwk (g98Calls m) (lo0 (by kernel_rfl))
  (fun _=>g98Main)
abbrev S_g97(α:Type):Type:=(List Int)→(List Int)→((List Int)→Bool→Option α)→Option α
abbrev S_g97l0(α:Type):Type:=(List Int)→(List Int)→(Int→(List Int)→Option α)→Int→Int→(List Int)→Option α
def g97l0b{α:Type}(a b:List Int)(c:Int→(List Int)→Option α)(d:Int→Int→(List Int)→Option α)(e h:Int)(i:List Int):Option α:=cond (decide (h<(6:Int))) (if 0≤h∧h<(6:Nat) then if h.toNat<6 then if 0≤h∧h<(6:Nat) then if h.toNat<6 then let j:Int:=IntKind.wrap .u64 (e+(IntKind.wrap .u64 ((IntKind.wrap .u64 (List.getD i h.toNat 0))+(IntKind.wrap .u64 (List.getD a h.toNat 0)))));if 0≤h∧h<(6:Nat) then if h.toNat<6 then d (Int.fdiv j (2^32)) (IntKind.wrap .i64 (h+(1:Int))) (List.set i (h.toNat) (IntKind.wrap .u32 j)) else none else none else none else none else none else none) (c e i)
def g97l0{α:Type}(a b:List Int)(c:Int→(List Int)→Option α):Nat→Int→Int→(List Int)→Option α
 |0=>fun _ _ _=>none
 |m+1=>fun d e h=>g97l0b a b c (g97l0 a b c m) d e h
def g97l0M{α:Type}(m:Nat):S_g97l0 α:=
 fun a b c d e h=>g97l0 a b c m d e h
def g97l0D:LoopD:={n:=32,low:=[],sl:=[2,3,4,6,8],bl:=[1000000,1000001,1000002],tp:=[(.vl (.sv (.ptr 1000000 0))),(.vl (.sv (.ptr 1000001 0))),(.vl (.sv (.ptr 1000002 0))),(.vl (.sv (.int .u64))),tI],bp:=[b6,b6,b6],xs:=[(2,[2,4,6])]}
def g97l0K{α:Type}(L:S_g97l0 α)(ls:List Lf)(k:KEx α):Option α:=
 L ((lf ls 3).lst uU) ((lf ls 4).lst uU)
  (fun a b=>k .normal (mkSt 32 [2,4,6] [(.vl (.sv (.ptr 1000000 0))),(.vl (.sv (.ptr 1000001 0))),(.vl (.sv (.int .u64 a)))] [1000000,1000001] [(true,[(.seq uU 6 b)]),(true,[(.seq uU 6 ((lf ls 4).lst uU))])]))
  (lf ls 0).int (lf ls 1).int ((lf ls 2).lst uU)
def g97b{α:Type}(L97l0:Al S_g97l0)(a b:List Int)(c:(List Int)→Bool→Option α):Option α:=L97l0 b [0,0,0,0,0,0] (fun d e=>c e (d !=(0:Int))) (0:Int) (0:Int) a
def g97{α:Type}(m:Nat):S_g97 α:=
 g97b (g97l0M m)
def g97tp:List TP:=[(.vl (.agg [(.seq uU 6)])),(.vl (.agg [(.seq uU 6)]))]
def g97bp:List BP:=[]
def g97K{α:Type}(G:S_g97 α)(ls:List Lf)(k:KRe α):Option α:=
 G ((lf ls 0).lst uU) ((lf ls 1).lst uU)
  (fun a b=>k (.tup [(.agg [(.seq uU 6 a)]),(.sv (.bool b))]) [] [])
def g97R{α:Type}(G:S_g97 α):=rowK g97tp g97bp (g97K G)
def g97hd(L97l0:Al S_g97l0):Hd where
 call:=fun f args Bs k=>none
 loop:=fun id st k=>cond (Nat.beq id 0) (loopH g97l0D (g97l0K L97l0) st k) (none)
 ro:=fun f=>[]
def g97h(m:Nat):Hd:=g97hd (g97l0M m)
theorem g97l0Step(L97l0:Al S_g97l0){α:Type}(L:S_g97l0 α)(ls:List Lf)(k:KEx α):
  g97l0K (fun a b c d e h=>g97l0b a b c (L a b c) d e h) ls k=ev tab (g97hd L97l0) (bodyAt Try.f97 0) (atHead g97l0D ls) (loopK g97l0D 0 (loopH g97l0D (g97l0K L)) k):=by kernel_rfl
theorem g97Main(L97l0:Al S_g97l0){α:Type}(ls:List Lf)(k:KRe α):
  g97K (g97b L97l0) ls k=evFun tab (g97hd L97l0) Try.f97 (fT g97tp ls) (fB g97tp g97bp ls) k:=by kernel_rfl
theorem g97Calls(m:Nat):(g97h m).CallsOk Try.prog:=cok_nil
theorem g97l0Ok(m:Nat)(α:Type)(st:St)(k:KEx α)(r:α)(h:(g97h m).loop 0 st k=some r):
  LoopS Try.prog 0 (bodyAt Try.f97 0) st k r:=
 lpk (F:=fun n ls k=>g97l0K (fun a b c d e i=>g97l0 a b c n d e i) ls k) (g97Calls m) (lb0 (by kernel_rfl))
  (fun _ _=>rfl) (fun n ls k=>g97l0Step (g97l0M m) (fun a b c=>g97l0 a b c n) ls k) (n:=m) h
theorem g97Ok(m:Nat):RowOk Try.prog 97 (fun{α}=>g97R (g97 m (α:=α))):=
 rwk (g97Calls m) (lo1 (by kernel_rfl) (g97l0Ok m))
  (fun _=>g97Main (g97l0M m))
abbrev S_g99(α:Type):Type:=(List Int)→(List Int)→((List Int)→Option α)→Option α
abbrev S_g99l0(α:Type):Type:=(List Int)→(List Int)→((List Int)→Option α)→Int→Int→(List Int)→Option α
def g99l0b{α:Type}(a b:List Int)(c:(List Int)→Option α)(d:Int→Int→(List Int)→Option α)(e h:Int)(i:List Int):Option α:=cond (decide (h<(6:Int))) (if 0≤h∧h<(6:Nat) then if h.toNat<6 then if 0≤h∧h<(6:Nat) then if h.toNat<6 then let j:Int:=IntKind.wrap .u64 ((IntKind.wrap .u64 ((IntKind.wrap .u64 (List.getD i h.toNat 0))-(IntKind.wrap .u64 (List.getD a h.toNat 0))))-e);if 0≤h∧h<(6:Nat) then if h.toNat<6 then d (Int.fdiv j (2^63)) (IntKind.wrap .i64 (h+(1:Int))) (List.set i (h.toNat) (IntKind.wrap .u32 j)) else none else none else none else none else none else none) (c i)
def g99l0{α:Type}(a b:List Int)(c:(List Int)→Option α):Nat→Int→Int→(List Int)→Option α
 |0=>fun _ _ _=>none
 |m+1=>fun d e h=>g99l0b a b c (g99l0 a b c m) d e h
def g99l0M{α:Type}(m:Nat):S_g99l0 α:=
 fun a b c d e h=>g99l0 a b c m d e h
def g99l0D:LoopD:={n:=30,low:=[],sl:=[2,3,4,5,8],bl:=[1000000,1000001,1000002],tp:=[(.vl (.sv (.ptr 1000000 0))),(.vl (.sv (.ptr 1000001 0))),(.vl (.sv (.ptr 1000002 0))),(.vl (.sv (.int .u64))),tI],bp:=[b6,b6,b6],xs:=[(2,[2,4])]}
def g99l0K{α:Type}(L:S_g99l0 α)(ls:List Lf)(k:KEx α):Option α:=
 L ((lf ls 3).lst uU) ((lf ls 4).lst uU)
  (fun a=>k .normal (mkSt 30 [2,4] [(.vl (.sv (.ptr 1000000 0))),(.vl (.sv (.ptr 1000001 0)))] [1000000,1000001] [(true,[(.seq uU 6 a)]),(true,[(.seq uU 6 ((lf ls 4).lst uU))])]))
  (lf ls 0).int (lf ls 1).int ((lf ls 2).lst uU)
def g99b{α:Type}(L99l0:Al S_g99l0)(a b:List Int)(c:(List Int)→Option α):Option α:=L99l0 b [0,0,0,0,0,0] (fun d=>c d) (0:Int) (0:Int) a
def g99{α:Type}(m:Nat):S_g99 α:=
 g99b (g99l0M m)
def g99tp:List TP:=[(.vl (.agg [(.seq uU 6)])),(.vl (.agg [(.seq uU 6)]))]
def g99bp:List BP:=[]
def g99K{α:Type}(G:S_g99 α)(ls:List Lf)(k:KRe α):Option α:=
 G ((lf ls 0).lst uU) ((lf ls 1).lst uU)
  (fun a=>k (.vl (.agg [(.seq uU 6 a)])) [] [])
def g99R{α:Type}(G:S_g99 α):=rowK g99tp g99bp (g99K G)
def g99hd(L99l0:Al S_g99l0):Hd where
 call:=fun f args Bs k=>none
 loop:=fun id st k=>cond (Nat.beq id 0) (loopH g99l0D (g99l0K L99l0) st k) (none)
 ro:=fun f=>[]
def g99h(m:Nat):Hd:=g99hd (g99l0M m)
theorem g99l0Step(L99l0:Al S_g99l0){α:Type}(L:S_g99l0 α)(ls:List Lf)(k:KEx α):
  g99l0K (fun a b c d e h=>g99l0b a b c (L a b c) d e h) ls k=ev tab (g99hd L99l0) (bodyAt Try.f99 0) (atHead g99l0D ls) (loopK g99l0D 0 (loopH g99l0D (g99l0K L)) k):=by kernel_rfl
theorem g99Main(L99l0:Al S_g99l0){α:Type}(ls:List Lf)(k:KRe α):
  g99K (g99b L99l0) ls k=evFun tab (g99hd L99l0) Try.f99 (fT g99tp ls) (fB g99tp g99bp ls) k:=by kernel_rfl
theorem g99Calls(m:Nat):(g99h m).CallsOk Try.prog:=cok_nil
theorem g99l0Ok(m:Nat)(α:Type)(st:St)(k:KEx α)(r:α)(h:(g99h m).loop 0 st k=some r):
  LoopS Try.prog 0 (bodyAt Try.f99 0) st k r:=
 lpk (F:=fun n ls k=>g99l0K (fun a b c d e i=>g99l0 a b c n d e i) ls k) (g99Calls m) (lb0 (by kernel_rfl))
  (fun _ _=>rfl) (fun n ls k=>g99l0Step (g99l0M m) (fun a b c=>g99l0 a b c n) ls k) (n:=m) h
theorem g99Ok(m:Nat):RowOk Try.prog 99 (fun{α}=>g99R (g99 m (α:=α))):=
 rwk (g99Calls m) (lo1 (by kernel_rfl) (g99l0Ok m))
  (fun _=>g99Main (g99l0M m))
abbrev S_g64(α:Type):Type:=Bool→(List Int)→(Bool→Option α)→Option α
def g64b{α:Type}(a:Bool)(b:List Int)(c:Bool→Option α):Option α:=cond a (c (!(eqLI b [0,0,0,0,0,0]))) (c false)
def g64{α:Type}(m:Nat):S_g64 α:=
 g64b
def g64tp:List TP:=[(.vl (.sv .bool)),(.vl (.agg [(.seq uU 6)]))]
def g64bp:List BP:=[]
def g64K{α:Type}(G:S_g64 α)(ls:List Lf)(k:KRe α):Option α:=
 G (lf ls 0).bool ((lf ls 1).lst uU)
  (fun a=>k (.vl (.agg [(.one (.bool a)),(.seq uU 6 ((lf ls 1).lst uU))])) [] [])
def g64R{α:Type}(G:S_g64 α):=rowK g64tp g64bp (g64K G)
def g64hd:Hd where
 call:=fun f args Bs k=>none
 loop:=fun id st k=>none
 ro:=fun f=>[]
def g64h(m:Nat):Hd:=g64hd
theorem g64Main{α:Type}(ls:List Lf)(k:KRe α):
  g64K (g64b) ls k=evFun tab (g64hd) Try.f64 (fT g64tp ls) (fB g64tp g64bp ls) k:=by kernel_rfl
theorem g64Calls(m:Nat):(g64h m).CallsOk Try.prog:=cok_nil
theorem g64Ok(m:Nat):RowOk Try.prog 64 (fun{α}=>g64R (g64 m (α:=α))):=
 rwk (g64Calls m) (lo0 (by kernel_rfl))
  (fun _=>g64Main)
abbrev S_g55(α:Type):Type:=Bool→(List Int)→Bool→(List Int)→(Bool→(List Int)→Bool→(List Int)→Option α)→Option α
def g55b{α:Type}(G96:Al S_g96)(G98:Al S_g98)(G97:Al S_g97)(G99:Al S_g99)(G64:Al S_g64)(a:Bool)(b:List Int)(c:Bool)(d:List Int)(e:Bool→(List Int)→Bool→(List Int)→Option α):Option α:=G96 b d (fun h i=>cond (!(a==c)) (cond (!(eqLI i [0,0,0,0,0,0])) (G98 (fun j=>G97 h j (fun l n=>G99 d i (fun o=>G64 (!(a==c)) l (fun p=>G64 c o (fun q=>e p l q o)))))) (G64 (!(a==c)) h (fun r=>G64 c i (fun s=>e r h s i)))) (G64 (!(a==c)) h (fun t=>G64 c i (fun u=>e t h u i))))
def g55{α:Type}(m:Nat):S_g55 α:=
 g55b (g96 m) (g98 m) (g97 m) (g99 m) (g64 m)
def g55tp:List TP:=[vW,vW]
def g55bp:List BP:=[]
def g55K{α:Type}(G:S_g55 α)(ls:List Lf)(k:KRe α):Option α:=
 G (lf ls 0).bool ((lf ls 1).lst uU) (lf ls 2).bool ((lf ls 3).lst uU)
  (fun a b c d=>k (.tup [(.agg [(.one (.bool a)),(.seq uU 6 b)]),(.agg [(.one (.bool c)),(.seq uU 6 d)])]) [] [])
def g55R{α:Type}(G:S_g55 α):=rowK g55tp g55bp (g55K G)
def g55hd(G96:Al S_g96)(G98:Al S_g98)(G97:Al S_g97)(G99:Al S_g99)(G64:Al S_g64):Hd where
 call:=fun f args Bs k=>cond (Nat.beq f 96) (g96R G96 args Bs k) (cond (Nat.beq f 98) (g98R G98 args Bs k) (cond (Nat.beq f 97) (g97R G97 args Bs k) (cond (Nat.beq f 99) (g99R G99 args Bs k) (cond (Nat.beq f 64) (g64R G64 args Bs k) (none)))))
 loop:=fun id st k=>none
 ro:=fun f=>[]
def g55h(m:Nat):Hd:=g55hd (g96 m) (g98 m) (g97 m) (g99 m) (g64 m)
theorem g55Main(G96:Al S_g96)(G98:Al S_g98)(G97:Al S_g97)(G99:Al S_g99)(G64:Al S_g64){α:Type}(ls:List Lf)(k:KRe α):
  g55K (g55b G96 G98 G97 G99 G64) ls k=evFun tab (g55hd G96 G98 G97 G99 G64) Try.f55 (fT g55tp ls) (fB g55tp g55bp ls) k:=by kernel_rfl
theorem g55Calls(m:Nat):(g55h m).CallsOk Try.prog:=(cok_cons (g96Ok m) (cok_cons (g98Ok m) (cok_cons (g97Ok m) (cok_cons (g99Ok m) (cok_cons (g64Ok m) cok_nil)))))
theorem g55Ok(m:Nat):RowOk Try.prog 55 (fun{α}=>g55R (g55 m (α:=α))):=
 rwk (g55Calls m) (lo0 (by kernel_rfl))
  (fun _=>g55Main (g96 m) (g98 m) (g97 m) (g99 m) (g64 m))
abbrev S_g19(α:Type):Type:=Int→(Bool→(List Int)→Option α)→Option α
def g19b{α:Type}(G64:Al S_g64)(a:Int)(b:Bool→(List Int)→Option α):Option α:=let c:Int:=IntKind.wrap .u64 a;cond (decide (a<(0:Int))) (let d:Int:=IntKind.wrap .u64 (0-c);let e:Int:=IntKind.wrap .u32 d;let h:Int:=IntKind.wrap .u32 (Int.fdiv d (2^32));G64 (decide (a<(0:Int))) [e,h,0,0,0,0] (fun i=>b i [e,h,0,0,0,0])) (let j:Int:=IntKind.wrap .u32 c;let l:Int:=IntKind.wrap .u32 (Int.fdiv c (2^32));G64 (decide (a<(0:Int))) [j,l,0,0,0,0] (fun n=>b n [j,l,0,0,0,0]))
def g19{α:Type}(m:Nat):S_g19 α:=
 g19b (g64 m)
def g19tp:List TP:=[tI]
def g19bp:List BP:=[]
def g19K{α:Type}(G:S_g19 α)(ls:List Lf)(k:KRe α):Option α:=
 G (lf ls 0).int
  (fun a b=>k (.vl (.agg [(.one (.bool a)),(.seq uU 6 b)])) [] [])
def g19R{α:Type}(G:S_g19 α):=rowK g19tp g19bp (g19K G)
def g19hd(G64:Al S_g64):Hd where
 call:=fun f args Bs k=>cond (Nat.beq f 64) (g64R G64 args Bs k) (none)
 loop:=fun id st k=>none
 ro:=fun f=>[]
def g19h(m:Nat):Hd:=g19hd (g64 m)
theorem g19Main(G64:Al S_g64){α:Type}(ls:List Lf)(k:KRe α):
  g19K (g19b G64) ls k=evFun tab (g19hd G64) Try.f19 (fT g19tp ls) (fB g19tp g19bp ls) k:=by kernel_rfl
theorem g19Calls(m:Nat):(g19h m).CallsOk Try.prog:=(cok_cons (g64Ok m) cok_nil)
theorem g19Ok(m:Nat):RowOk Try.prog 19 (fun{α}=>g19R (g19 m (α:=α))):=
 rwk (g19Calls m) (lo0 (by kernel_rfl))
  (fun _=>g19Main (g64 m))
abbrev S_g62(α:Type):Type:=Bool→(List Int)→Bool→(List Int)→Bool→(Bool→(List Int)→Bool→Option α)→Option α
def g62b{α:Type}(G97:Al S_g97)(G64:Al S_g64)(G89:Al S_g89)(G99:Al S_g99)(a:Bool)(b:List Int)(c:Bool)(d:List Int)(e:Bool)(h:Bool→(List Int)→Bool→Option α):Option α:=cond (a==c) (G97 b d (fun i j=>cond e (G64 a i (fun l=>h l i true)) (G64 a i (fun n=>h n i j)))) (G89 b d (fun o=>cond (decide (o<(0:Int))) (G99 d b (fun p=>G64 c p (fun q=>h q p e))) (G99 b d (fun r=>G64 a r (fun s=>h s r e)))))
def g62{α:Type}(m:Nat):S_g62 α:=
 g62b (g97 m) (g64 m) (g89 m) (g99 m)
abbrev S_g57(α:Type):Type:=Bool→(List Int)→Bool→(List Int)→Bool→(Bool→(List Int)→Bool→Option α)→Option α
def g57b{α:Type}(G55:Al S_g55)(G99:Al S_g99)(G89:Al S_g89)(G19:Al S_g19)(G62:Al S_g62)(a:Bool)(b:List Int)(c:Bool)(d:List Int)(e:Bool)(h:Bool→(List Int)→Bool→Option α):Option α:=G55 a b c d (fun i j l n=>G99 d n (fun o=>G89 n o (fun p=>cond (decide (p<(0:Int))) (h i j e) (G19 (1:Int) (fun q r=>G62 i j q r e (fun s t u=>h s t u))))))
def g57{α:Type}(m:Nat):S_g57 α:=
 g57b (g55 m) (g99 m) (g89 m) (g19 m) (g62 m)
abbrev S_g103(α:Type):Type:=(List Int)→(List Int)→((List Int)→Bool→Option α)→Option α
abbrev S_g103l2(α:Type):Type:=Int→Int→(List Int)→Int→(List Int)→(List Int)→(List Int)→(Int→(List Int)→Option α)→Int→Int→(List Int)→Option α
def g103l2b{α:Type}(a b:Int)(c:List Int)(d:Int)(e h i:List Int)(j:Int→(List Int)→Option α)(l:Int→Int→(List Int)→Option α)(n o:Int)(p:List Int):Option α:=cond (decide (o<(6:Int))) (if 0≤o∧o<(6:Nat) then let q:Int:=IntKind.wrap .i64 (a+o);if 0≤q∧q<(12:Nat) then if q.toNat<12 then let r:Int:=IntKind.wrap .u64 (n+(IntKind.wrap .u64 ((IntKind.wrap .u64 ((IntKind.wrap .u64 b)*(IntKind.wrap .u64 (List.getD e o.toNat 0))))+(IntKind.wrap .u64 (List.getD p q.toNat 0)))));let s:Int:=IntKind.wrap .i64 (a+o);if 0≤s∧s<(12:Nat) then if s.toNat<12 then l (Int.fdiv r (2^32)) (IntKind.wrap .i64 (o+(1:Int))) (List.set p (s.toNat) (IntKind.wrap .u32 r)) else none else none else none else none else none) (j n p)
def g103l2{α:Type}(a b:Int)(c:List Int)(d:Int)(e h i:List Int)(j:Int→(List Int)→Option α):Nat→Int→Int→(List Int)→Option α
 |0=>fun _ _ _=>none
 |m+1=>fun l n o=>g103l2b a b c d e h i j (g103l2 a b c d e h i j m) l n o
def g103l2M{α:Type}(m:Nat):S_g103l2 α:=
 fun a b c d e h i j l n o=>g103l2 a b c d e h i j m l n o
def g103l2D:LoopD:={n:=66,low:=[],sl:=[3,4,6,7,8,9,14,15,19,20],bl:=[1000000,1000001,1000002],tp:=[(.vl (.sv (.ptr 1000000 0))),(.vl (.sv (.ptr 1000001 0))),(.vl (.sv (.ptr 1000002 0))),tI,(.vl (.sv (.int .u32))),(.vl (.sv (.int .u64))),(.vl (.agg [(.seq uU 6)])),tI,(.vl (.agg [(.seq uU 6)])),tI],bp:=[b6,b6,(true,[(.seq uU 12)])],xs:=[(4,[3,4,6,7,9,14,15])]}
def g103l2K{α:Type}(L:S_g103l2 α)(ls:List Lf)(k:KEx α):Option α:=
 L (lf ls 0).int (lf ls 1).int ((lf ls 3).lst uU) (lf ls 4).int ((lf ls 5).lst uU) ((lf ls 7).lst uU) ((lf ls 8).lst uU)
  (fun a b=>k .normal (mkSt 66 [3,4,6,7,9,14,15] [(.vl (.sv (.ptr 1000000 0))),(.vl (.sv (.ptr 1000001 0))),(.vl (.sv (.ptr 1000002 0))),(.vl (.sv (.int .i64 (lf ls 0).int))),(.vl (.sv (.int .u64 a))),(.vl (.agg [(.seq uU 6 ((lf ls 3).lst uU))])),(.vl (.sv (.int .i64 (lf ls 4).int)))] [1000000,1000001,1000002] [(true,[(.seq uU 6 ((lf ls 7).lst uU))]),(true,[(.seq uU 6 ((lf ls 8).lst uU))]),(true,[(.seq uU 12 b)])]))
  (lf ls 2).int (lf ls 6).int ((lf ls 9).lst uU)
abbrev S_g103l0(α:Type):Type:=(List Int)→(List Int)→(List Int)→((List Int)→Option α)→Int→(List Int)→Option α
def g103l0b{α:Type}(L103l2:Al S_g103l2)(a b c:List Int)(d:(List Int)→Option α)(e:Int→(List Int)→Option α)(h:Int)(i:List Int):Option α:=cond (decide (h<(6:Int))) (if 0≤h∧h<(6:Nat) then L103l2 h (List.getD a h.toNat 0) a h b b c (fun j l=>let n:Int:=IntKind.wrap .i64 (h+(6:Int));if 0≤n∧n<(12:Nat) then if n.toNat<12 then e (IntKind.wrap .i64 (h+(1:Int))) (List.set l (n.toNat) (IntKind.wrap .u32 j)) else none else none) (0:Int) (0:Int) i else none) (d i)
def g103l0{α:Type}(L103l2:Al S_g103l2)(a b c:List Int)(d:(List Int)→Option α):Nat→Int→(List Int)→Option α
 |0=>fun _ _=>none
 |m+1=>fun e h=>g103l0b L103l2 a b c d (g103l0 L103l2 a b c d m) e h
def g103l0M{α:Type}(m:Nat):S_g103l0 α:=
 fun a b c d e h=>g103l0 (g103l2M m) a b c d m e h
def g103l0D:LoopD:={n:=66,low:=[],sl:=[3,4,6,14,15],bl:=[1000000,1000001,1000002],tp:=[(.vl (.sv (.ptr 1000000 0))),(.vl (.sv (.ptr 1000001 0))),(.vl (.sv (.ptr 1000002 0))),(.vl (.agg [(.seq uU 6)])),tI],bp:=[b6,b6,(true,[(.seq uU 12)])],xs:=[(2,[4,6])]}
def g103l0K{α:Type}(L:S_g103l0 α)(ls:List Lf)(k:KEx α):Option α:=
 L ((lf ls 0).lst uU) ((lf ls 2).lst uU) ((lf ls 3).lst uU)
  (fun a=>k .normal (mkSt 66 [4,6] [(.vl (.sv (.ptr 1000000 0))),(.vl (.sv (.ptr 1000001 0)))] [1000000,1000001] [(true,[(.seq uU 6 ((lf ls 3).lst uU))]),(true,[(.seq uU 12 a)])]))
  (lf ls 1).int ((lf ls 4).lst uU)
abbrev S_g103l4(α:Type):Type:=Nat→Nat→Nat→Int→(List Int)→(List Int)→((List Int)→Option α)→(Option α)→Int→Option α
def g103l4b{α:Type}(a b c:Nat)(d:Int)(e h:List Int)(i:(List Int)→Option α)(j:Option α)(l:Int→Option α)(n:Int):Option α:=cond (decide (n<d)) (if 0≤n∧n<(b:Nat) then if(a+n.toNat)<12 then cond ((List.getD h (a+n.toNat) 0) !=(0:Int)) (i [0,0,0,0,0,0]) (l (IntKind.wrap .i64 (n+(1:Int)))) else none else none) (j)
def g103l4{α:Type}(a b c:Nat)(d:Int)(e h:List Int)(i:(List Int)→Option α)(j:Option α):Nat→Int→Option α
 |0=>fun _=>none
 |m+1=>fun l=>g103l4b a b c d e h i j (g103l4 a b c d e h i j m) l
def g103l4M{α:Type}(m:Nat):S_g103l4 α:=
 fun a b c d e h i j l=>g103l4 a b c d e h i j m l
def g103l4D:LoopD:={n:=66,low:=[],sl:=[4,6,53,54,55],bl:=[1000000,1000001],tp:=[(.vl (.sv (.ptr 1000000 0))),(.vl (.sv (.ptr 1000001 0))),(.vl (.sv (.slc 1000001 0 1))),tI,tI],bp:=[b6,(true,[(.seq uU 12)])],xs:=[(1,[4,5]),(6,[4,6])]}
def g103l4K{α:Type}(L:S_g103l4 α)(ls:List Lf)(k:KEx α):Option α:=
 L (lf ls 0).nat (lf ls 1).nat (lf ls 2).nat (lf ls 3).int ((lf ls 5).lst uU) ((lf ls 6).lst uU)
  (fun a=>k .ret (mkSt 66 [4,5] [(.vl (.sv (.ptr 1000000 0))),(.vl (.sv (.bool true)))] [1000000] [(true,[(.seq uU 6 a)])]))
  (k .normal (mkSt 66 [4,6] [(.vl (.sv (.ptr 1000000 0))),(.vl (.sv (.ptr 1000001 0)))] [1000000,1000001] [(true,[(.seq uU 6 ((lf ls 5).lst uU))]),(true,[(.seq uU 12 ((lf ls 6).lst uU))])]))
  (lf ls 4).int
def g103b{α:Type}(L103l2:Al S_g103l2)(L103l0:Al S_g103l0)(L103l4:Al S_g103l4)(a b:List Int)(c:(List Int)→Bool→Option α):Option α:=L103l0 a b [0,0,0,0,0,0] (fun d=>L103l4 6 6 6 (6:Int) [0,0,0,0,0,0] d (fun e=>c e true) (c (List.take 6 (List.drop 0 d)) false) (0:Int)) (0:Int) [0,0,0,0,0,0,0,0,0,0,0,0]
def g103{α:Type}(m:Nat):S_g103 α:=
 g103b (g103l2M m) (g103l0M m) (g103l4M m)
def g103tp:List TP:=[(.vl (.agg [(.seq uU 6)])),(.vl (.agg [(.seq uU 6)]))]
def g103bp:List BP:=[]
def g103K{α:Type}(G:S_g103 α)(ls:List Lf)(k:KRe α):Option α:=
 G ((lf ls 0).lst uU) ((lf ls 1).lst uU)
  (fun a b=>k (.tup [(.agg [(.seq uU 6 a)]),(.sv (.bool b))]) [] [])
def g103R{α:Type}(G:S_g103 α):=rowK g103tp g103bp (g103K G)
def g103hd(L103l2:Al S_g103l2)(L103l0:Al S_g103l0)(L103l4:Al S_g103l4):Hd where
 call:=fun f args Bs k=>none
 loop:=fun id st k=>cond (Nat.beq id 2) (loopH g103l2D (g103l2K L103l2) st k) (cond (Nat.beq id 0) (loopH g103l0D (g103l0K L103l0) st k) (cond (Nat.beq id 4) (loopH g103l4D (g103l4K L103l4) st k) (none)))
 ro:=fun f=>[]
def g103h(m:Nat):Hd:=g103hd (g103l2M m) (g103l0M m) (g103l4M m)
theorem g103l2Step(L103l2:Al S_g103l2)(L103l0:Al S_g103l0)(L103l4:Al S_g103l4){α:Type}(L:S_g103l2 α)(ls:List Lf)(k:KEx α):
  g103l2K (fun a b c d e h i j l n o=>g103l2b a b c d e h i j (L a b c d e h i j) l n o) ls k=ev tab (g103hd L103l2 L103l0 L103l4) (bodyAt Try.f103 2) (atHead g103l2D ls) (loopK g103l2D 2 (loopH g103l2D (g103l2K L)) k):=by kernel_rfl
theorem g103l0Step(L103l2:Al S_g103l2)(L103l0:Al S_g103l0)(L103l4:Al S_g103l4){α:Type}(L:S_g103l0 α)(ls:List Lf)(k:KEx α):
  g103l0K (fun a b c d e h=>g103l0b L103l2 a b c d (L a b c d) e h) ls k=ev tab (g103hd L103l2 L103l0 L103l4) (bodyAt Try.f103 0) (atHead g103l0D ls) (loopK g103l0D 0 (loopH g103l0D (g103l0K L)) k):=by kernel_rfl
theorem g103l4Step(L103l2:Al S_g103l2)(L103l0:Al S_g103l0)(L103l4:Al S_g103l4){α:Type}(L:S_g103l4 α)(ls:List Lf)(k:KEx α):
  g103l4K (fun a b c d e h i j l=>g103l4b a b c d e h i j (L a b c d e h i j) l) ls k=ev tab (g103hd L103l2 L103l0 L103l4) (bodyAt Try.f103 4) (atHead g103l4D ls) (loopK g103l4D 4 (loopH g103l4D (g103l4K L)) k):=by kernel_rfl
theorem g103Main(L103l2:Al S_g103l2)(L103l0:Al S_g103l0)(L103l4:Al S_g103l4){α:Type}(ls:List Lf)(k:KRe α):
  g103K (g103b L103l2 L103l0 L103l4) ls k=evFun tab (g103hd L103l2 L103l0 L103l4) Try.f103 (fT g103tp ls) (fB g103tp g103bp ls) k:=by kernel_rfl
theorem g103Calls(m:Nat):(g103h m).CallsOk Try.prog:=cok_nil
theorem g103l2Ok(m:Nat)(α:Type)(st:St)(k:KEx α)(r:α)(h:(g103h m).loop 2 st k=some r):
  LoopS Try.prog 2 (bodyAt Try.f103 2) st k r:=
 lpk (F:=fun n ls k=>g103l2K (fun a b c d e i j l o q s=>g103l2 a b c d e i j l n o q s) ls k) (g103Calls m) (lb0 (by kernel_rfl))
  (fun _ _=>rfl) (fun n ls k=>g103l2Step (g103l2M m) (g103l0M m) (g103l4M m) (fun a b c d e i j l=>g103l2 a b c d e i j l n) ls k) (n:=m) h
theorem g103l0Ok(m:Nat)(α:Type)(st:St)(k:KEx α)(r:α)(h:(g103h m).loop 0 st k=some r):
  LoopS Try.prog 0 (bodyAt Try.f103 0) st k r:=
 lpk (F:=fun n ls k=>g103l0K (fun a b c d e i=>g103l0 (g103l2M m) a b c d n e i) ls k) (g103Calls m) (loopsOk_of _ (fun p hp=>by
  rw[show loopsOf (bodyAt Try.f103 0)=[(2,bodyAt Try.f103 2)] by kernel_rfl] at hp
  simp only[List.mem_cons,List.not_mem_nil,or_false] at hp
  rcases hp with rfl
  exact g103l2Ok m))
  (fun _ _=>rfl) (fun n ls k=>g103l0Step (g103l2M m) (g103l0M m) (g103l4M m) (fun a b c d=>g103l0 (g103l2M m) a b c d n) ls k) (n:=m) h
theorem g103l4Ok(m:Nat)(α:Type)(st:St)(k:KEx α)(r:α)(h:(g103h m).loop 4 st k=some r):
  LoopS Try.prog 4 (bodyAt Try.f103 4) st k r:=
 lpk (F:=fun n ls k=>g103l4K (fun a b c d e i j l o=>g103l4 a b c d e i j l n o) ls k) (g103Calls m) (lb0 (by kernel_rfl))
  (fun _ _=>rfl) (fun n ls k=>g103l4Step (g103l2M m) (g103l0M m) (g103l4M m) (fun a b c d e i j l=>g103l4 a b c d e i j l n) ls k) (n:=m) h
theorem g103Fn(m:Nat):FnOk Try.prog 103 g103tp g103bp (fun{α}=>g103K (g103 m (α:=α))):=
 fn_ok (tab:=tab) (h:=g103h m) (fn:=Try.f103) (F:=fun{α}=>g103K (g103 m (α:=α))) tabOk (g103Calls m) mixed (by kernel_rfl) (by kernel_rfl) (fun c hc=>by
  rw[bodyOf_some hc]
  exact loopsOk_of _ (fun p hp=>by
  rw[show loopsOf (bodyOf Try.f103)=[(0,bodyAt Try.f103 0),(4,bodyAt Try.f103 4)] by kernel_rfl] at hp
  simp only[List.mem_cons,List.not_mem_nil,or_false] at hp
  rcases hp with rfl|rfl
  ·exact g103l0Ok m
  ·exact g103l4Ok m))
  (fun _=>g103Main (g103l2M m) (g103l0M m) (g103l4M m))
theorem g103Ok(m:Nat):RowOk Try.prog 103 (fun{α}=>g103R (g103 m (α:=α))):=row_of (g103Fn m)
abbrev S_g61(α:Type):Type:=Bool→(List Int)→Bool→(List Int)→Bool→(Bool→(List Int)→Bool→Option α)→Option α
def g61b{α:Type}(G103:Al S_g103)(G64:Al S_g64)(a:Bool)(b:List Int)(c:Bool)(d:List Int)(e:Bool)(h:Bool→(List Int)→Bool→Option α):Option α:=G103 b d (fun i j=>cond e (G64 (!(a==c)) i (fun l=>h l i true)) (G64 (!(a==c)) i (fun n=>h n i j)))
def g61{α:Type}(m:Nat):S_g61 α:=
 g61b (g103 m) (g64 m)
abbrev S_g104(α:Type):Type:=Bool→(List Int)→(Bool→Option α)→Option α
def g104b{α:Type}(G64:Al S_g64)(a:Bool)(b:List Int)(c:Bool→Option α):Option α:=G64 (!a) b (fun d=>c d)
def g104{α:Type}(m:Nat):S_g104 α:=
 g104b (g64 m)
def g104tp:List TP:=[vW]
def g104bp:List BP:=[]
def g104K{α:Type}(G:S_g104 α)(ls:List Lf)(k:KRe α):Option α:=
 G (lf ls 0).bool ((lf ls 1).lst uU)
  (fun a=>k (.vl (.agg [(.one (.bool a)),(.seq uU 6 ((lf ls 1).lst uU))])) [] [])
def g104R{α:Type}(G:S_g104 α):=rowK g104tp g104bp (g104K G)
def g104hd(G64:Al S_g64):Hd where
 call:=fun f args Bs k=>cond (Nat.beq f 64) (g64R G64 args Bs k) (none)
 loop:=fun id st k=>none
 ro:=fun f=>[]
def g104h(m:Nat):Hd:=g104hd (g64 m)
theorem g104Main(G64:Al S_g64){α:Type}(ls:List Lf)(k:KRe α):
  g104K (g104b G64) ls k=evFun tab (g104hd G64) Try.f104 (fT g104tp ls) (fB g104tp g104bp ls) k:=by kernel_rfl
theorem g104Calls(m:Nat):(g104h m).CallsOk Try.prog:=(cok_cons (g64Ok m) cok_nil)
theorem g104Ok(m:Nat):RowOk Try.prog 104 (fun{α}=>g104R (g104 m (α:=α))):=
 rwk (g104Calls m) (lo0 (by kernel_rfl))
  (fun _=>g104Main (g64 m))
abbrev S_g63(α:Type):Type:=Bool→(List Int)→Bool→(List Int)→Bool→(Bool→(List Int)→Bool→Option α)→Option α
def g63b{α:Type}(G104:Al S_g104)(G62:Al S_g62)(a:Bool)(b:List Int)(c:Bool)(d:List Int)(e:Bool)(h:Bool→(List Int)→Bool→Option α):Option α:=G104 c d (fun i=>G62 a b i d e (fun j l n=>h j l n))
def g63{α:Type}(m:Nat):S_g63 α:=
 g63b (g104 m) (g62 m)
abbrev S_g69(α:Type):Type:=Bool→(List Int)→Int→Bool→(Bool→(List Int)→Bool→Option α)→Option α
def g69b{α:Type}(G107:Al S_g107)(G108:Al S_g108)(G64:Al S_g64)(a:Bool)(b:List Int)(c:Int)(d:Bool)(e:Bool→(List Int)→Bool→Option α):Option α:=cond (decide (c>(191:Int))) (e false [0,0,0,0,0,0] true) (G107 b (fun h=>cond (decide ((IntKind.wrap .i64 (h+c))>(192:Int))) (e false [0,0,0,0,0,0] true) (G108 b c (fun i=>G64 a i (fun j=>e j i d)))))
def g69{α:Type}(m:Nat):S_g69 α:=
 g69b (g107 m) (g108 m) (g64 m)
abbrev S_g70(α:Type):Type:=Bool→(List Int)→Int→Bool→(Bool→(List Int)→Bool→Option α)→Option α
def g70b{α:Type}(G109:Al S_g109)(G98:Al S_g98)(G108:Al S_g108)(G99:Al S_g99)(G89:Al S_g89)(G97:Al S_g97)(G64:Al S_g64)(a:Bool)(b:List Int)(c:Int)(d:Bool)(e:Bool→(List Int)→Bool→Option α):Option α:=cond (decide (c>(191:Int))) (e false [0,0,0,0,0,0] true) (G109 b c (fun h=>cond (c==(0:Int)) (e a b d) (G98 (fun i=>G108 i (IntKind.wrap .i64 (c-(1:Int))) (fun j=>G108 h c (fun l=>G99 b l (fun n=>G89 n j (fun o=>cond (decide (o>(0:Int))) (G98 (fun p=>G97 h p (fun q r=>G64 a q (fun s=>e s q d)))) (cond (o==(0:Int)) (cond (!a) (G98 (fun t=>G97 h t (fun u v=>G64 a u (fun w=>e w u d)))) (G64 a h (fun x=>e x h d))) (G64 a h (fun y=>e y h d)))))))))))
def g70{α:Type}(m:Nat):S_g70 α:=
 g70b (g109 m) (g98 m) (g108 m) (g99 m) (g89 m) (g97 m) (g64 m)
abbrev S_g30(α:Type):Type:=Nat→Nat→Nat→Int→Nat→Ty0→(Int→Option α)→Option α
def g30b{α:Type}(a b c:Nat)(d:Int)(e:Nat)(h:Ty0)(i:Int→Option α):Option α:=let j:Int:=IntKind.wrap .i64 (d-((b:Nat):Int));cond (decide (j<(0:Int))) (i (-1:Int)) (i j)
def g30{α:Type}(m:Nat):S_g30 α:=
 g30b
def g30tp:List TP:=[(.vl (.sv (.sla 0 0 5))),tI]
def g30bp:List BP:=[(false,[(.seqv rN)])]
def g30K{α:Type}(G:S_g30 α)(ls:List Lf)(k:KRe α):Option α:=
 G (lf ls 0).nat (lf ls 1).nat (lf ls 2).nat (lf ls 3).int (lf ls 4).nat ((lf ls 5).lst rN)
  (fun a=>k (.vl (.sv (.int .i64 a))) [[(.seq rN (lf ls 4).nat ((lf ls 5).lst rN))]] [])
def g30R{α:Type}(G:S_g30 α):=rowK g30tp g30bp (g30K G)
def g30hd:Hd where
 call:=fun f args Bs k=>none
 loop:=fun id st k=>none
 ro:=fun f=>[]
def g30h(m:Nat):Hd:=g30hd
theorem g30Main{α:Type}(ls:List Lf)(k:KRe α):
  g30K (g30b) ls k=evFun tab (g30hd) Try.f30 (fT g30tp ls) (fB g30tp g30bp ls) k:=by kernel_rfl
theorem g30Calls(m:Nat):(g30h m).CallsOk Try.prog:=cok_nil
theorem g30Ok(m:Nat):RowOk Try.prog 30 (fun{α}=>g30R (g30 m (α:=α))):=
 rwk (g30Calls m) (lo0 (by kernel_rfl))
  (fun _=>g30Main)
abbrev S_g78(α:Type):Type:=Int→Int→Int→Int→Int→(Option α)→Option α
def g78b{α:Type}(a b:Int)(c d e:Int)(h:Option α):Option α:=h
def g78{α:Type}(m:Nat):S_g78 α:=
 g78b
def g78tp:List TP:=[(.vl (.agg [(.one (.int .i8)),(.one (.int .i16)),(.one (.int .i16)),(.one (.int .i64)),(.one (.int .i64))]))]
def g78bp:List BP:=[]
def g78K{α:Type}(G:S_g78 α)(ls:List Lf)(k:KRe α):Option α:=
 G (lf ls 0).int (lf ls 1).int (lf ls 2).int (lf ls 3).int (lf ls 4).int
  (k (.vl (.agg [(.one (.int .i8 (lf ls 0).int)),(.one (.int .i16 (lf ls 1).int)),(.one (.int .i16 (lf ls 2).int)),(.one (.int .i64 (lf ls 3).int)),(.one (.int .i64 (lf ls 4).int))])) [] [])
def g78R{α:Type}(G:S_g78 α):=rowK g78tp g78bp (g78K G)
def g78hd:Hd where
 call:=fun f args Bs k=>none
 loop:=fun id st k=>none
 ro:=fun f=>[]
def g78h(m:Nat):Hd:=g78hd
theorem g78Main{α:Type}(ls:List Lf)(k:KRe α):
  g78K (g78b) ls k=evFun tab (g78hd) Try.f78 (fT g78tp ls) (fB g78tp g78bp ls) k:=by kernel_rfl
theorem g78Calls(m:Nat):(g78h m).CallsOk Try.prog:=cok_nil
theorem g78Ok(m:Nat):RowOk Try.prog 78 (fun{α}=>g78R (g78 m (α:=α))):=
 rwk (g78Calls m) (lo0 (by kernel_rfl))
  (fun _=>g78Main)
abbrev S_g32(α:Type):Type:=Nat→Nat→Nat→Nat→Ty0→(Ty0→Option α)→Option α
abbrev S_g32l0(α:Type):Type:=Nat→Nat→Nat→Nat→Nat→Nat→Nat→Ty0→Nat→(Ty0→Option α)→Int→Ty0→Option α
def g32l0b{α:Type}(G78:Al S_g78)(a b:Nat)(c d:Nat)(e h i:Nat)(j:Ty0)(l:Nat)(n:Ty0→Option α)(o:Int→Ty0→Option α)(p:Int)(q:Ty0):Option α:=cond (decide (p<((b:Nat):Int))) (if 0≤p∧p<(b:Nat) then if(a+p.toNat)<i then let r:Int:=(List.getD j (a+p.toNat) []).headD 0;let s:Int:=(List.getD j (a+p.toNat) []).tail.headD 0;let t:Int:=(List.getD j (a+p.toNat) []).tail.tail.headD 0;let u:Int:=(List.getD j (a+p.toNat) []).tail.tail.tail.headD 0;let v:Int:=(List.getD j (a+p.toNat) []).tail.tail.tail.tail.headD 0;G78 r s t u v (if 0≤p∧p<(e:Nat) then if(d+p.toNat)<l then o (IntKind.wrap .i64 (p+(1:Int))) (List.set q (d+p.toNat) [r,s,t,u,v]) else none else none) else none else none) (n q)
def g32l0{α:Type}(G78:Al S_g78)(a b:Nat)(c d:Nat)(e h i:Nat)(j:Ty0)(l:Nat)(n:Ty0→Option α):Nat→Int→Ty0→Option α
 |0=>fun _ _=>none
 |m+1=>fun o p=>g32l0b G78 a b c d e h i j l n (g32l0 G78 a b c d e h i j l n m) o p
def g32l0M{α:Type}(m:Nat):S_g32l0 α:=
 fun a b c d e h i j l n o p=>g32l0 (g78 m) a b c d e h i j l n m o p
def g32l0D:LoopD:={n:=23,low:=[0],sl:=[0,3,4],bl:=[0,1000001],tp:=[(.vl (.sv (.sla 0 0 5))),(.vl (.sv (.slc 1000001 0 5))),tI],bp:=[(false,[(.seqv rN)]),(true,[(.seqv rN)])],xs:=[(2,[3])]}
def g32l0K{α:Type}(L:S_g32l0 α)(ls:List Lf)(k:KEx α):Option α:=
 L (lf ls 0).nat (lf ls 1).nat (lf ls 2).nat (lf ls 3).nat (lf ls 4).nat (lf ls 5).nat (lf ls 7).nat ((lf ls 8).lst rN) (lf ls 9).nat
  (fun a=>k .normal (mkSt 23 [3] [(.vl (.sv (.slc 1000001 0 5 (lf ls 3).nat (lf ls 4).nat (lf ls 5).nat)))] [0,1000001] [(false,[(.seq rN (lf ls 7).nat ((lf ls 8).lst rN))]),(true,[(.seq rN (lf ls 9).nat a)])]))
  (lf ls 6).int ((lf ls 10).lst rN)
def g32b{α:Type}(G78:Al S_g78)(L32l0:Al S_g32l0)(a b:Nat)(c d:Nat)(e:Ty0)(h:Ty0→Option α):Option α:=if((b:Nat):Int)=((b:Nat):Int)∧0≤((b:Nat):Int)∧((b:Nat):Int)≤1048576 then L32l0 a b c 0 b b d e b (fun i=>h i) (0:Int) (List.replicate b ([]:List Int)) else none
def g32{α:Type}(m:Nat):S_g32 α:=
 g32b (g78 m) (g32l0M m)
def g32tp:List TP:=[(.vl (.sv (.sla 0 0 5)))]
def g32bp:List BP:=[(false,[(.seqv rN)])]
def g32K{α:Type}(G:S_g32 α)(ls:List Lf)(k:KRe α):Option α:=
 G (lf ls 0).nat (lf ls 1).nat (lf ls 2).nat (lf ls 3).nat ((lf ls 4).lst rN)
  (fun a=>k (.vl (.sv (.slc 1 0 5 0 (lf ls 1).nat (lf ls 1).nat))) [[(.seq rN (lf ls 3).nat ((lf ls 4).lst rN))]] [[(.seq rN (lf ls 1).nat a)]])
def g32R{α:Type}(G:S_g32 α):=rowK g32tp g32bp (g32K G)
def g32hd(G78:Al S_g78)(L32l0:Al S_g32l0):Hd where
 call:=fun f args Bs k=>cond (Nat.beq f 78) (g78R G78 args Bs k) (none)
 loop:=fun id st k=>cond (Nat.beq id 0) (loopH g32l0D (g32l0K L32l0) st k) (none)
 ro:=fun f=>[]
def g32h(m:Nat):Hd:=g32hd (g78 m) (g32l0M m)
theorem g32l0Step(G78:Al S_g78)(L32l0:Al S_g32l0){α:Type}(L:S_g32l0 α)(ls:List Lf)(k:KEx α):
  g32l0K (fun a b c d e h i j l n o p=>g32l0b G78 a b c d e h i j l n (L a b c d e h i j l n) o p) ls k=ev tab (g32hd G78 L32l0) (bodyAt Try.f32 0) (atHead g32l0D ls) (loopK g32l0D 0 (loopH g32l0D (g32l0K L)) k):=by kernel_rfl
theorem g32Main(G78:Al S_g78)(L32l0:Al S_g32l0){α:Type}(ls:List Lf)(k:KRe α):
  g32K (g32b G78 L32l0) ls k=evFun tab (g32hd G78 L32l0) Try.f32 (fT g32tp ls) (fB g32tp g32bp ls) k:=by kernel_rfl
theorem g32Calls(m:Nat):(g32h m).CallsOk Try.prog:=(cok_cons (g78Ok m) cok_nil)
theorem g32l0Ok(m:Nat)(α:Type)(st:St)(k:KEx α)(r:α)(h:(g32h m).loop 0 st k=some r):
  LoopS Try.prog 0 (bodyAt Try.f32 0) st k r:=
 lpk (F:=fun n ls k=>g32l0K (fun a b c d e i j l o q s t=>g32l0 (g78 m) a b c d e i j l o q n s t) ls k) (g32Calls m) (lb0 (by kernel_rfl))
  (fun _ _=>rfl) (fun n ls k=>g32l0Step (g78 m) (g32l0M m) (fun a b c d e i j l o q=>g32l0 (g78 m) a b c d e i j l o q n) ls k) (n:=m) h
theorem g32Ok(m:Nat):RowOk Try.prog 32 (fun{α}=>g32R (g32 m (α:=α))):=
 rwk (g32Calls m) (lo1 (by kernel_rfl) (g32l0Ok m))
  (fun _=>g32Main (g78 m) (g32l0M m))
abbrev S_g120(α:Type):Type:=Int→Int→Int→(Bool→Option α)→Option α
def g120b{α:Type}(a b c:Int)(d:Bool→Option α):Option α:=cond (decide (a≥b)) (d (decide (a≤c))) (d false)
def g120{α:Type}(m:Nat):S_g120 α:=
 g120b
def g120tp:List TP:=[tI,tI,tI]
def g120bp:List BP:=[]
def g120K{α:Type}(G:S_g120 α)(ls:List Lf)(k:KRe α):Option α:=
 G (lf ls 0).int (lf ls 1).int (lf ls 2).int
  (fun a=>k (.vl (.sv (.bool a))) [] [])
def g120R{α:Type}(G:S_g120 α):=rowK g120tp g120bp (g120K G)
def g120hd:Hd where
 call:=fun f args Bs k=>none
 loop:=fun id st k=>none
 ro:=fun f=>[]
def g120h(m:Nat):Hd:=g120hd
theorem g120Main{α:Type}(ls:List Lf)(k:KRe α):
  g120K (g120b) ls k=evFun tab (g120hd) Try.f120 (fT g120tp ls) (fB g120tp g120bp ls) k:=by kernel_rfl
theorem g120Calls(m:Nat):(g120h m).CallsOk Try.prog:=cok_nil
theorem g120Ok(m:Nat):RowOk Try.prog 120 (fun{α}=>g120R (g120 m (α:=α))):=
 rwk (g120Calls m) (lo0 (by kernel_rfl))
  (fun _=>g120Main)
abbrev S_g143(α:Type):Type:=Int→(Bool→Option α)→Option α
def g143b{α:Type}(a:Int)(b:Bool→Option α):Option α:=cond (a==(6:Int)) (b true) (cond (a==(7:Int)) (b true) (b (a==(10:Int))))
def g143{α:Type}(m:Nat):S_g143 α:=
 g143b
def g143tp:List TP:=[(.vl (.sv (.int .i8)))]
def g143bp:List BP:=[]
def g143K{α:Type}(G:S_g143 α)(ls:List Lf)(k:KRe α):Option α:=
 G (lf ls 0).int
  (fun a=>k (.vl (.sv (.bool a))) [] [])
def g143R{α:Type}(G:S_g143 α):=rowK g143tp g143bp (g143K G)
def g143hd:Hd where
 call:=fun f args Bs k=>none
 loop:=fun id st k=>none
 ro:=fun f=>[]
def g143h(m:Nat):Hd:=g143hd
theorem g143Main{α:Type}(ls:List Lf)(k:KRe α):
  g143K (g143b) ls k=evFun tab (g143hd) Try.f143 (fT g143tp ls) (fB g143tp g143bp ls) k:=by kernel_rfl
theorem g143Calls(m:Nat):(g143h m).CallsOk Try.prog:=cok_nil
theorem g143Ok(m:Nat):RowOk Try.prog 143 (fun{α}=>g143R (g143 m (α:=α))):=
 rwk (g143Calls m) (lo0 (by kernel_rfl))
  (fun _=>g143Main)
abbrev S_g144(α:Type):Type:=Int→(Bool→Option α)→Option α
def g144b{α:Type}(a:Int)(b:Bool→Option α):Option α:=cond (decide (a≥(2:Int))) (cond (decide (a≤(5:Int))) (b true) (cond (a==(8:Int)) (b true) (b (a==(9:Int))))) (cond (a==(8:Int)) (b true) (b (a==(9:Int))))
def g144{α:Type}(m:Nat):S_g144 α:=
 g144b
def g144tp:List TP:=[(.vl (.sv (.int .i8)))]
def g144bp:List BP:=[]
def g144K{α:Type}(G:S_g144 α)(ls:List Lf)(k:KRe α):Option α:=
 G (lf ls 0).int
  (fun a=>k (.vl (.sv (.bool a))) [] [])
def g144R{α:Type}(G:S_g144 α):=rowK g144tp g144bp (g144K G)
def g144hd:Hd where
 call:=fun f args Bs k=>none
 loop:=fun id st k=>none
 ro:=fun f=>[]
def g144h(m:Nat):Hd:=g144hd
theorem g144Main{α:Type}(ls:List Lf)(k:KRe α):
  g144K (g144b) ls k=evFun tab (g144hd) Try.f144 (fT g144tp ls) (fB g144tp g144bp ls) k:=by kernel_rfl
theorem g144Calls(m:Nat):(g144h m).CallsOk Try.prog:=cok_nil
theorem g144Ok(m:Nat):RowOk Try.prog 144 (fun{α}=>g144R (g144 m (α:=α))):=
 rwk (g144Calls m) (lo0 (by kernel_rfl))
  (fun _=>g144Main)
abbrev S_g126(α:Type):Type:=Nat→Int→Nat→Ty0→(Bool→Option α)→Option α
def g126b{α:Type}(G143:Al S_g143)(G120:Al S_g120)(G144:Al S_g144)(a:Nat)(b:Int)(c:Nat)(d:Ty0)(e:Bool→Option α):Option α:=if a<c then cond (decide (((List.getD d a []).headD 0)<(1:Int))) (e false) (if a<c then cond (decide (((List.getD d a []).headD 0)>(12:Int))) (e false) (if a<c then G143 ((List.getD d a []).headD 0) (fun h=>cond h (if a<c then G120 (IntKind.wrap .i64 (((List.getD d a []).tail).headD 0)) (0:Int) (IntKind.wrap .i64 (b-(1:Int))) (fun i=>cond (!i) (e false) (if a<c then cond ((((List.getD d a []).tail.tail.tail).headD 0) !=(0:Int)) (e false) (if a<c then cond ((((List.getD d a []).tail.tail.tail.tail).headD 0) !=(0:Int)) (e false) (if a<c then G144 ((List.getD d a []).headD 0) (fun j=>cond j (if a<c then G120 (IntKind.wrap .i64 (((List.getD d a []).tail.tail).headD 0)) (0:Int) (IntKind.wrap .i64 (b-(1:Int))) (fun l=>e l) else none) (if a<c then e ((((List.getD d a []).tail.tail).headD 0)==(0:Int)) else none)) else none) else none) else none)) else none) (if a<c then G144 ((List.getD d a []).headD 0) (fun n=>cond n (if a<c then G120 (IntKind.wrap .i64 (((List.getD d a []).tail).headD 0)) (0:Int) (IntKind.wrap .i64 (b-(1:Int))) (fun o=>cond (!o) (e false) (if a<c then cond ((((List.getD d a []).tail.tail.tail).headD 0) !=(0:Int)) (e false) (if a<c then cond ((((List.getD d a []).tail.tail.tail.tail).headD 0) !=(0:Int)) (e false) (if a<c then G144 ((List.getD d a []).headD 0) (fun p=>cond p (if a<c then G120 (IntKind.wrap .i64 (((List.getD d a []).tail.tail).headD 0)) (0:Int) (IntKind.wrap .i64 (b-(1:Int))) (fun q=>e q) else none) (if a<c then e ((((List.getD d a []).tail.tail).headD 0)==(0:Int)) else none)) else none) else none) else none)) else none) (if a<c then cond ((((List.getD d a []).tail).headD 0) !=(0:Int)) (e false) (if a<c then cond ((((List.getD d a []).tail.tail).headD 0) !=(0:Int)) (e false) (if a<c then cond (((List.getD d a []).headD 0)==(1:Int)) (if a<c then G120 (((List.getD d a []).tail.tail.tail).headD 0) (-1000000000:Int) (1000000000:Int) (fun r=>cond r (if a<c then G120 (((List.getD d a []).tail.tail.tail.tail).headD 0) (1:Int) (1000000000:Int) (fun s=>e s) else none) (e false)) else none) (if a<c then cond ((((List.getD d a []).tail.tail.tail).headD 0)==(0:Int)) (if a<c then e ((((List.getD d a []).tail.tail.tail.tail).headD 0)==(0:Int)) else none) (e false) else none) else none) else none) else none)) else none)) else none) else none) else none
def g126{α:Type}(m:Nat):S_g126 α:=
 g126b (g143 m) (g120 m) (g144 m)
def g126tp:List TP:=[(.vl (.sv (.el 0 0 5 0))),tI]
def g126bp:List BP:=[(false,[(.seqv rN)])]
def g126K{α:Type}(G:S_g126 α)(ls:List Lf)(k:KRe α):Option α:=
 G (lf ls 0).nat (lf ls 1).int (lf ls 2).nat ((lf ls 3).lst rN)
  (fun a=>k (.vl (.sv (.bool a))) [[(.seq rN (lf ls 2).nat ((lf ls 3).lst rN))]] [])
def g126R{α:Type}(G:S_g126 α):=rowK g126tp g126bp (g126K G)
def g126hd(G143:Al S_g143)(G120:Al S_g120)(G144:Al S_g144):Hd where
 call:=fun f args Bs k=>cond (Nat.beq f 143) (g143R G143 args Bs k) (cond (Nat.beq f 120) (g120R G120 args Bs k) (cond (Nat.beq f 144) (g144R G144 args Bs k) (none)))
 loop:=fun id st k=>none
 ro:=fun f=>[]
def g126h(m:Nat):Hd:=g126hd (g143 m) (g120 m) (g144 m)
theorem g126Main(G143:Al S_g143)(G120:Al S_g120)(G144:Al S_g144){α:Type}(ls:List Lf)(k:KRe α):
  g126K (g126b G143 G120 G144) ls k=evFun tab (g126hd G143 G120 G144) Try.f126 (fT g126tp ls) (fB g126tp g126bp ls) k:=by kernel_rfl
theorem g126Calls(m:Nat):(g126h m).CallsOk Try.prog:=(cok_cons (g143Ok m) (cok_cons (g120Ok m) (cok_cons (g144Ok m) cok_nil)))
theorem g126Ok(m:Nat):RowOk Try.prog 126 (fun{α}=>g126R (g126 m (α:=α))):=
 rwk (g126Calls m) (lo0 (by kernel_rfl))
  (fun _=>g126Main (g143 m) (g120 m) (g144 m))
abbrev S_g111(α:Type):Type:=Nat→Nat→Nat→Nat→Ty0→(Bool→Option α)→Option α
abbrev S_g111l0(α:Type):Type:=Nat→Nat→Nat→Nat→Ty0→(Option α)→(Option α)→Int→Option α
def g111l0b{α:Type}(G126:Al S_g126)(a b:Nat)(c d:Nat)(e:Ty0)(h i:Option α)(j:Int→Option α)(l:Int):Option α:=cond (decide (l<((b:Nat):Int))) (if 0≤l∧l<(b:Nat) then G126 (a+l.toNat) l d e (fun n=>cond (!n) (h) (j (IntKind.wrap .i64 (l+(1:Int))))) else none) (i)
def g111l0{α:Type}(G126:Al S_g126)(a b:Nat)(c d:Nat)(e:Ty0)(h i:Option α):Nat→Int→Option α
 |0=>fun _=>none
 |m+1=>fun j=>g111l0b G126 a b c d e h i (g111l0 G126 a b c d e h i m) j
def g111l0M{α:Type}(m:Nat):S_g111l0 α:=
 fun a b c d e h i j=>g111l0 (g126 m) a b c d e h i m j
def g111l0D:LoopD:={n:=20,low:=[0],sl:=[0,3],bl:=[0],tp:=[(.vl (.sv (.slc 0 0 5))),tI],bp:=[(false,[(.seqv rN)])],xs:=[(1,[2]),(2,[])]}
def g111l0K{α:Type}(L:S_g111l0 α)(ls:List Lf)(k:KEx α):Option α:=
 L (lf ls 0).nat (lf ls 1).nat (lf ls 2).nat (lf ls 4).nat ((lf ls 5).lst rN)
  (k .ret (mkSt 20 [2] [(.vl (.sv (.bool false)))] [0] [(false,[(.seq rN (lf ls 4).nat ((lf ls 5).lst rN))])]))
  (k .normal (mkSt 20 [] [] [0] [(false,[(.seq rN (lf ls 4).nat ((lf ls 5).lst rN))])]))
  (lf ls 3).int
def g111b{α:Type}(G120:Al S_g120)(G126:Al S_g126)(L111l0:Al S_g111l0)(a b:Nat)(c d:Nat)(e:Ty0)(h:Bool→Option α):Option α:=G120 ((b:Nat):Int) (1:Int) (40:Int) (fun i=>cond (!i) (h false) (L111l0 a b c d e (h false) (h true) (0:Int)))
def g111{α:Type}(m:Nat):S_g111 α:=
 g111b (g120 m) (g126 m) (g111l0M m)
def g111tp:List TP:=[(.vl (.sv (.slc 0 0 5)))]
def g111bp:List BP:=[(false,[(.seqv rN)])]
def g111K{α:Type}(G:S_g111 α)(ls:List Lf)(k:KRe α):Option α:=
 G (lf ls 0).nat (lf ls 1).nat (lf ls 2).nat (lf ls 3).nat ((lf ls 4).lst rN)
  (fun a=>k (.vl (.sv (.bool a))) [[(.seq rN (lf ls 3).nat ((lf ls 4).lst rN))]] [])
def g111R{α:Type}(G:S_g111 α):=rowK g111tp g111bp (g111K G)
def g111hd(G120:Al S_g120)(G126:Al S_g126)(L111l0:Al S_g111l0):Hd where
 call:=fun f args Bs k=>cond (Nat.beq f 120) (g120R G120 args Bs k) (cond (Nat.beq f 126) (g126R G126 args Bs k) (none))
 loop:=fun id st k=>cond (Nat.beq id 0) (loopH g111l0D (g111l0K L111l0) st k) (none)
 ro:=fun f=>cond (Nat.beq f 126) [0] ([])
def g111h(m:Nat):Hd:=g111hd (g120 m) (g126 m) (g111l0M m)
theorem g111l0Step(G120:Al S_g120)(G126:Al S_g126)(L111l0:Al S_g111l0){α:Type}(L:S_g111l0 α)(ls:List Lf)(k:KEx α):
  g111l0K (fun a b c d e h i j=>g111l0b G126 a b c d e h i (L a b c d e h i) j) ls k=ev tab (g111hd G120 G126 L111l0) (bodyAt Try.f111 0) (atHead g111l0D ls) (loopK g111l0D 0 (loopH g111l0D (g111l0K L)) k):=by kernel_rfl
theorem g111Main(G120:Al S_g120)(G126:Al S_g126)(L111l0:Al S_g111l0){α:Type}(ls:List Lf)(k:KRe α):
  g111K (g111b G120 G126 L111l0) ls k=evFun tab (g111hd G120 G126 L111l0) Try.f111 (fT g111tp ls) (fB g111tp g111bp ls) k:=by kernel_rfl
theorem g111Calls(m:Nat):(g111h m).CallsOk Try.prog:=(cok_cons (g120Ok m) (cok_cons (g126Ok m) cok_nil))
theorem g111l0Ok(m:Nat)(α:Type)(st:St)(k:KEx α)(r:α)(h:(g111h m).loop 0 st k=some r):
  LoopS Try.prog 0 (bodyAt Try.f111 0) st k r:=
 lpk (F:=fun n ls k=>g111l0K (fun a b c d e i j l=>g111l0 (g126 m) a b c d e i j n l) ls k) (g111Calls m) (lb0 (by kernel_rfl))
  (fun _ _=>rfl) (fun n ls k=>g111l0Step (g120 m) (g126 m) (g111l0M m) (fun a b c d e i j=>g111l0 (g126 m) a b c d e i j n) ls k) (n:=m) h
theorem g111Ok(m:Nat):RowOk Try.prog 111 (fun{α}=>g111R (g111 m (α:=α))):=
 rwk (g111Calls m) (lo1 (by kernel_rfl) (g111l0Ok m))
  (fun _=>g111Main (g120 m) (g126 m) (g111l0M m))
abbrev S_g90(α:Type):Type:=Nat→Nat→Nat→Int→Nat→Ty0→(Bool→Option α)→Option α
def g90b{α:Type}(G120:Al S_g120)(a b c:Nat)(d:Int)(e:Nat)(h:Ty0)(i:Bool→Option α):Option α:=G120 d (0:Int) (IntKind.wrap .i64 (((b:Nat):Int)-(1:Int))) (fun j=>i j)
def g90{α:Type}(m:Nat):S_g90 α:=
 g90b (g120 m)
def g90tp:List TP:=[(.vl (.sv (.slc 0 0 5))),tI]
def g90bp:List BP:=[(false,[(.seqv rN)])]
def g90K{α:Type}(G:S_g90 α)(ls:List Lf)(k:KRe α):Option α:=
 G (lf ls 0).nat (lf ls 1).nat (lf ls 2).nat (lf ls 3).int (lf ls 4).nat ((lf ls 5).lst rN)
  (fun a=>k (.vl (.sv (.bool a))) [[(.seq rN (lf ls 4).nat ((lf ls 5).lst rN))]] [])
def g90R{α:Type}(G:S_g90 α):=rowK g90tp g90bp (g90K G)
def g90hd(G120:Al S_g120):Hd where
 call:=fun f args Bs k=>cond (Nat.beq f 120) (g120R G120 args Bs k) (none)
 loop:=fun id st k=>none
 ro:=fun f=>[]
def g90h(m:Nat):Hd:=g90hd (g120 m)
theorem g90Main(G120:Al S_g120){α:Type}(ls:List Lf)(k:KRe α):
  g90K (g90b G120) ls k=evFun tab (g90hd G120) Try.f90 (fT g90tp ls) (fB g90tp g90bp ls) k:=by kernel_rfl
theorem g90Calls(m:Nat):(g90h m).CallsOk Try.prog:=(cok_cons (g120Ok m) cok_nil)
theorem g90Ok(m:Nat):RowOk Try.prog 90 (fun{α}=>g90R (g90 m (α:=α))):=
 rwk (g90Calls m) (lo0 (by kernel_rfl))
  (fun _=>g90Main (g120 m))
abbrev S_g112(α:Type):Type:=Int→(Bool→Option α)→Option α
def g112b{α:Type}(G120:Al S_g120)(a:Int)(b:Bool→Option α):Option α:=G120 a (0:Int) (64:Int) (fun c=>b c)
def g112{α:Type}(m:Nat):S_g112 α:=
 g112b (g120 m)
def g112tp:List TP:=[tI]
def g112bp:List BP:=[]
def g112K{α:Type}(G:S_g112 α)(ls:List Lf)(k:KRe α):Option α:=
 G (lf ls 0).int
  (fun a=>k (.vl (.sv (.bool a))) [] [])
def g112R{α:Type}(G:S_g112 α):=rowK g112tp g112bp (g112K G)
def g112hd(G120:Al S_g120):Hd where
 call:=fun f args Bs k=>cond (Nat.beq f 120) (g120R G120 args Bs k) (none)
 loop:=fun id st k=>none
 ro:=fun f=>[]
def g112h(m:Nat):Hd:=g112hd (g120 m)
theorem g112Main(G120:Al S_g120){α:Type}(ls:List Lf)(k:KRe α):
  g112K (g112b G120) ls k=evFun tab (g112hd G120) Try.f112 (fT g112tp ls) (fB g112tp g112bp ls) k:=by kernel_rfl
theorem g112Calls(m:Nat):(g112h m).CallsOk Try.prog:=(cok_cons (g120Ok m) cok_nil)
theorem g112Ok(m:Nat):RowOk Try.prog 112 (fun{α}=>g112R (g112 m (α:=α))):=
 rwk (g112Calls m) (lo0 (by kernel_rfl))
  (fun _=>g112Main (g120 m))
abbrev S_g75(α:Type):Type:=Nat→Nat→Nat→Int→Int→Nat→Ty0→(Int→Option α)→Option α
def g75b{α:Type}(G111:Al S_g111)(G90:Al S_g90)(G112:Al S_g112)(a b c:Nat)(d e:Int)(h:Nat)(i:Ty0)(j:Int→Option α):Option α:=G111 a b c h i (fun l=>cond (!l) (j (1:Int)) (G90 a b c d h i (fun n=>cond (!n) (j (2:Int)) (G112 e (fun o=>cond (!o) (j (2:Int)) (j (0:Int)))))))
def g75{α:Type}(m:Nat):S_g75 α:=
 g75b (g111 m) (g90 m) (g112 m)
def g75tp:List TP:=[(.vl (.sv (.slc 0 0 5))),tI,tI]
def g75bp:List BP:=[(false,[(.seqv rN)])]
def g75K{α:Type}(G:S_g75 α)(ls:List Lf)(k:KRe α):Option α:=
 G (lf ls 0).nat (lf ls 1).nat (lf ls 2).nat (lf ls 3).int (lf ls 4).int (lf ls 5).nat ((lf ls 6).lst rN)
  (fun a=>k (.vl (.sv (.int .i64 a))) [[(.seq rN (lf ls 5).nat ((lf ls 6).lst rN))]] [])
def g75R{α:Type}(G:S_g75 α):=rowK g75tp g75bp (g75K G)
def g75hd(G111:Al S_g111)(G90:Al S_g90)(G112:Al S_g112):Hd where
 call:=fun f args Bs k=>cond (Nat.beq f 111) (g111R G111 args Bs k) (cond (Nat.beq f 90) (g90R G90 args Bs k) (cond (Nat.beq f 112) (g112R G112 args Bs k) (none)))
 loop:=fun id st k=>none
 ro:=fun f=>cond (Nat.beq f 90) [0] (cond (Nat.beq f 111) [0] ([]))
def g75h(m:Nat):Hd:=g75hd (g111 m) (g90 m) (g112 m)
theorem g75Main(G111:Al S_g111)(G90:Al S_g90)(G112:Al S_g112){α:Type}(ls:List Lf)(k:KRe α):
  g75K (g75b G111 G90 G112) ls k=evFun tab (g75hd G111 G90 G112) Try.f75 (fT g75tp ls) (fB g75tp g75bp ls) k:=by kernel_rfl
theorem g75Calls(m:Nat):(g75h m).CallsOk Try.prog:=(cok_cons (g111Ok m) (cok_cons (g90Ok m) (cok_cons (g112Ok m) cok_nil)))
theorem g75Ok(m:Nat):RowOk Try.prog 75 (fun{α}=>g75R (g75 m (α:=α))):=
 rwk (g75Calls m) (lo0 (by kernel_rfl))
  (fun _=>g75Main (g111 m) (g90 m) (g112 m))
abbrev S_g76(α:Type):Type:=Nat→Nat→Nat→Nat→Ty0→(Ty1→Ty0→Option α)→Option α
def g76b{α:Type}(a b:Nat)(c d:Nat)(e:Ty0)(h:Ty1→Ty0→Option α):Option α:=if((b:Nat):Int)=((b:Nat):Int)∧0≤((b:Nat):Int)∧((b:Nat):Int)≤1048576 then h (List.replicate b []) [] else none
def g76{α:Type}(m:Nat):S_g76 α:=
 g76b
def g76tp:List TP:=[(.vl (.sv (.slc 0 0 5)))]
def g76bp:List BP:=[(false,[(.seqv rN)])]
def g76K{α:Type}(G:S_g76 α)(ls:List Lf)(k:KRe α):Option α:=
 G (lf ls 0).nat (lf ls 1).nat (lf ls 2).nat (lf ls 3).nat ((lf ls 4).lst rN)
  (fun c d=>k (.vl (.sv (.ptr 1 0))) [[(.seq rN (lf ls 3).nat ((lf ls 4).lst rN))]] [[(.one (.slc 0 0 5 (lf ls 0).nat (lf ls 1).nat (lf ls 2).nat)),(.one (.slc 2 0 1 0 (lf ls 1).nat (lf ls 1).nat)),(.one (.gsl 3 2))],[(.rws mK c none)],[(.gro rP d)]])
def g76R{α:Type}(G:S_g76 α):=rowK g76tp g76bp (g76K G)
def g76hd:Hd where
 call:=fun f args Bs k=>none
 loop:=fun id st k=>none
 ro:=fun f=>[]
def g76h(m:Nat):Hd:=g76hd
theorem g76Main{α:Type}(ls:List Lf)(k:KRe α):
  g76K (g76b) ls k=evFun tab (g76hd) Try.f76 (fT g76tp ls) (fB g76tp g76bp ls) k:=by kernel_rfl
theorem g76Calls(m:Nat):(g76h m).CallsOk Try.prog:=cok_nil
theorem g76Ok(m:Nat):RowOk Try.prog 76 (fun{α}=>g76R (g76 m (α:=α))):=
 rwk (g76Calls m) (lo0 (by kernel_rfl))
  (fun _=>g76Main)
abbrev S_g95(α:Type):Type:=(List Int)→(Bool→Option α)→Option α
def g95b{α:Type}(a:List Int)(b:Bool→Option α):Option α:=b (eqLI a [0,0,0,0,0,0])
def g95{α:Type}(m:Nat):S_g95 α:=
 g95b
def g95tp:List TP:=[(.vl (.sv (.ptr 0 0)))]
def g95bp:List BP:=[(false,[(.seq uU 6)])]
def g95K{α:Type}(G:S_g95 α)(ls:List Lf)(k:KRe α):Option α:=
 G ((lf ls 0).lst uU)
  (fun a=>k (.vl (.sv (.bool a))) [[(.seq uU 6 ((lf ls 0).lst uU))]] [])
def g95R{α:Type}(G:S_g95 α):=rowK g95tp g95bp (g95K G)
def g95hd:Hd where
 call:=fun f args Bs k=>none
 loop:=fun id st k=>none
 ro:=fun f=>[]
def g95h(m:Nat):Hd:=g95hd
theorem g95Main{α:Type}(ls:List Lf)(k:KRe α):
  g95K (g95b) ls k=evFun tab (g95hd) Try.f95 (fT g95tp ls) (fB g95tp g95bp ls) k:=by kernel_rfl
theorem g95Calls(m:Nat):(g95h m).CallsOk Try.prog:=cok_nil
theorem g95Ok(m:Nat):RowOk Try.prog 95 (fun{α}=>g95R (g95 m (α:=α))):=
 rwk (g95Calls m) (lo0 (by kernel_rfl))
  (fun _=>g95Main)
abbrev S_g52(α:Type):Type:=Bool→(List Int)→(Bool→Option α)→Option α
def g52b{α:Type}(G95:Al S_g95)(a:Bool)(b:List Int)(c:Bool→Option α):Option α:=cond a (G95 b (fun d=>c (!d))) (c false)
def g52{α:Type}(m:Nat):S_g52 α:=
 g52b (g95 m)
def g52tp:List TP:=[(.vl (.sv .bool)),(.vl (.agg [(.seq uU 6)]))]
def g52bp:List BP:=[]
def g52K{α:Type}(G:S_g52 α)(ls:List Lf)(k:KRe α):Option α:=
 G (lf ls 0).bool ((lf ls 1).lst uU)
  (fun a=>k (.vl (.agg [(.one (.bool a)),(.seq uU 6 ((lf ls 1).lst uU))])) [] [])
def g52R{α:Type}(G:S_g52 α):=rowK g52tp g52bp (g52K G)
def g52hd(G95:Al S_g95):Hd where
 call:=fun f args Bs k=>cond (Nat.beq f 95) (g95R G95 args Bs k) (none)
 loop:=fun id st k=>none
 ro:=fun f=>cond (Nat.beq f 95) [0] ([])
def g52h(m:Nat):Hd:=g52hd (g95 m)
theorem g52Main(G95:Al S_g95){α:Type}(ls:List Lf)(k:KRe α):
  g52K (g52b G95) ls k=evFun tab (g52hd G95) Try.f52 (fT g52tp ls) (fB g52tp g52bp ls) k:=by kernel_rfl
theorem g52Calls(m:Nat):(g52h m).CallsOk Try.prog:=(cok_cons (g95Ok m) cok_nil)
theorem g52Ok(m:Nat):RowOk Try.prog 52 (fun{α}=>g52R (g52 m (α:=α))):=
 rwk (g52Calls m) (lo0 (by kernel_rfl))
  (fun _=>g52Main (g95 m))
abbrev S_g110(α:Type):Type:=Int→(Bool→(List Int)→Option α)→Option α
def g110b{α:Type}(G52:Al S_g52)(a:Int)(b:Bool→(List Int)→Option α):Option α:=let c:Int:=IntKind.wrap .u64 a;cond (decide (a<(0:Int))) (let d:Int:=IntKind.wrap .u64 (0-c);let e:List Int:=List.set (List.set [0,0,0,0,0,0] 0 (IntKind.wrap .u32 d)) 1 (IntKind.wrap .u32 (Int.fdiv d (2^32)));G52 (decide (a<(0:Int))) e (fun h=>b h e)) (let i:List Int:=List.set (List.set [0,0,0,0,0,0] 0 (IntKind.wrap .u32 c)) 1 (IntKind.wrap .u32 (Int.fdiv c (2^32)));G52 (decide (a<(0:Int))) i (fun j=>b j i))
def g110{α:Type}(m:Nat):S_g110 α:=
 g110b (g52 m)
def g110tp:List TP:=[tI]
def g110bp:List BP:=[]
def g110K{α:Type}(G:S_g110 α)(ls:List Lf)(k:KRe α):Option α:=
 G (lf ls 0).int
  (fun a b=>k (.vl (.agg [(.one (.bool a)),(.seq uU 6 b)])) [] [])
def g110R{α:Type}(G:S_g110 α):=rowK g110tp g110bp (g110K G)
def g110hd(G52:Al S_g52):Hd where
 call:=fun f args Bs k=>cond (Nat.beq f 52) (g52R G52 args Bs k) (none)
 loop:=fun id st k=>none
 ro:=fun f=>[]
def g110h(m:Nat):Hd:=g110hd (g52 m)
theorem g110Main(G52:Al S_g52){α:Type}(ls:List Lf)(k:KRe α):
  g110K (g110b G52) ls k=evFun tab (g110hd G52) Try.f110 (fT g110tp ls) (fB g110tp g110bp ls) k:=by kernel_rfl
theorem g110Calls(m:Nat):(g110h m).CallsOk Try.prog:=(cok_cons (g52Ok m) cok_nil)
theorem g110Ok(m:Nat):RowOk Try.prog 110 (fun{α}=>g110R (g110 m (α:=α))):=
 rwk (g110Calls m) (lo0 (by kernel_rfl))
  (fun _=>g110Main (g52 m))
abbrev S_g116(α:Type):Type:=(List Int)→(Int→Option α)→Option α
abbrev S_g116l2(α:Type):Type:=Int→(List Int)→(Int→Option α)→Int→Int→Option α
def g116l2b{α:Type}(a:Int)(b:List Int)(c:Int→Option α)(d:Int→Int→Option α)(e h:Int):Option α:=cond (decide (h>(0:Int))) (d (IntKind.wrap .i64 (e+(1:Int))) (Int.fdiv h (2^1))) (c e)
def g116l2{α:Type}(a:Int)(b:List Int)(c:Int→Option α):Nat→Int→Int→Option α
 |0=>fun _ _=>none
 |m+1=>fun d e=>g116l2b a b c (g116l2 a b c m) d e
def g116l2M{α:Type}(m:Nat):S_g116l2 α:=
 fun a b c d e=>g116l2 a b c m d e
def g116l2D:LoopD:={n:=31,low:=[0],sl:=[3,4,5],bl:=[0],tp:=[tI,tI,(.vl (.sv (.int .u32)))],bp:=[(false,[(.seq uU 6)])],xs:=[(4,[3,4])]}
def g116l2K{α:Type}(L:S_g116l2 α)(ls:List Lf)(k:KEx α):Option α:=
 L (lf ls 0).int ((lf ls 3).lst uU)
  (fun a=>k .normal (mkSt 31 [3,4] [(.vl (.sv (.int .i64 (lf ls 0).int))),(.vl (.sv (.int .i64 a)))] [0] [(false,[(.seq uU 6 ((lf ls 3).lst uU))])]))
  (lf ls 1).int (lf ls 2).int
abbrev S_g116l0(α:Type):Type:=(List Int)→(Int→Option α)→(Option α)→Int→Option α
def g116l0b{α:Type}(L116l2:Al S_g116l2)(a:List Int)(b:Int→Option α)(c:Option α)(d:Int→Option α)(e:Int):Option α:=cond (decide (e≥(0:Int))) (if 0≤e∧e<(6:Nat) then if e.toNat<6 then cond ((List.getD a e.toNat 0)==(0:Int)) (d (IntKind.wrap .i64 (e-(1:Int)))) (if 0≤e∧e<(6:Nat) then if e.toNat<6 then L116l2 e a (fun h=>b (IntKind.wrap .i64 ((IntKind.wrap .i64 ((32:Int)*e))+h))) (0:Int) (List.getD a e.toNat 0) else none else none) else none else none) (c)
def g116l0{α:Type}(L116l2:Al S_g116l2)(a:List Int)(b:Int→Option α)(c:Option α):Nat→Int→Option α
 |0=>fun _=>none
 |m+1=>fun d=>g116l0b L116l2 a b c (g116l0 L116l2 a b c m) d
def g116l0M{α:Type}(m:Nat):S_g116l0 α:=
 fun a b c d=>g116l0 (g116l2M m) a b c m d
def g116l0D:LoopD:={n:=31,low:=[0],sl:=[0,3],bl:=[0],tp:=[(.vl (.sv (.ptr 0 0))),tI],bp:=[(false,[(.seq uU 6)])],xs:=[(1,[2]),(2,[])]}
def g116l0K{α:Type}(L:S_g116l0 α)(ls:List Lf)(k:KEx α):Option α:=
 L ((lf ls 1).lst uU)
  (fun a=>k .ret (mkSt 31 [2] [(.vl (.sv (.int .i64 a)))] [0] [(false,[(.seq uU 6 ((lf ls 1).lst uU))])]))
  (k .normal (mkSt 31 [] [] [0] [(false,[(.seq uU 6 ((lf ls 1).lst uU))])]))
  (lf ls 0).int
def g116b{α:Type}(L116l2:Al S_g116l2)(L116l0:Al S_g116l0)(a:List Int)(b:Int→Option α):Option α:=L116l0 a (fun c=>b c) (b (0:Int)) (5:Int)
def g116{α:Type}(m:Nat):S_g116 α:=
 g116b (g116l2M m) (g116l0M m)
def g116tp:List TP:=[(.vl (.sv (.ptr 0 0)))]
def g116bp:List BP:=[(false,[(.seq uU 6)])]
def g116K{α:Type}(G:S_g116 α)(ls:List Lf)(k:KRe α):Option α:=
 G ((lf ls 0).lst uU)
  (fun a=>k (.vl (.sv (.int .i64 a))) [[(.seq uU 6 ((lf ls 0).lst uU))]] [])
def g116R{α:Type}(G:S_g116 α):=rowK g116tp g116bp (g116K G)
def g116hd(L116l2:Al S_g116l2)(L116l0:Al S_g116l0):Hd where
 call:=fun f args Bs k=>none
 loop:=fun id st k=>cond (Nat.beq id 2) (loopH g116l2D (g116l2K L116l2) st k) (cond (Nat.beq id 0) (loopH g116l0D (g116l0K L116l0) st k) (none))
 ro:=fun f=>[]
def g116h(m:Nat):Hd:=g116hd (g116l2M m) (g116l0M m)
theorem g116l2Step(L116l2:Al S_g116l2)(L116l0:Al S_g116l0){α:Type}(L:S_g116l2 α)(ls:List Lf)(k:KEx α):
  g116l2K (fun a b c d e=>g116l2b a b c (L a b c) d e) ls k=ev tab (g116hd L116l2 L116l0) (bodyAt Try.f116 2) (atHead g116l2D ls) (loopK g116l2D 2 (loopH g116l2D (g116l2K L)) k):=by kernel_rfl
theorem g116l0Step(L116l2:Al S_g116l2)(L116l0:Al S_g116l0){α:Type}(L:S_g116l0 α)(ls:List Lf)(k:KEx α):
  g116l0K (fun a b c d=>g116l0b L116l2 a b c (L a b c) d) ls k=ev tab (g116hd L116l2 L116l0) (bodyAt Try.f116 0) (atHead g116l0D ls) (loopK g116l0D 0 (loopH g116l0D (g116l0K L)) k):=by kernel_rfl
theorem g116Main(L116l2:Al S_g116l2)(L116l0:Al S_g116l0){α:Type}(ls:List Lf)(k:KRe α):
  g116K (g116b L116l2 L116l0) ls k=evFun tab (g116hd L116l2 L116l0) Try.f116 (fT g116tp ls) (fB g116tp g116bp ls) k:=by kernel_rfl
theorem g116Calls(m:Nat):(g116h m).CallsOk Try.prog:=cok_nil
theorem g116l2Ok(m:Nat)(α:Type)(st:St)(k:KEx α)(r:α)(h:(g116h m).loop 2 st k=some r):
  LoopS Try.prog 2 (bodyAt Try.f116 2) st k r:=
 lpk (F:=fun n ls k=>g116l2K (fun a b c d e=>g116l2 a b c n d e) ls k) (g116Calls m) (lb0 (by kernel_rfl))
  (fun _ _=>rfl) (fun n ls k=>g116l2Step (g116l2M m) (g116l0M m) (fun a b c=>g116l2 a b c n) ls k) (n:=m) h
theorem g116l0Ok(m:Nat)(α:Type)(st:St)(k:KEx α)(r:α)(h:(g116h m).loop 0 st k=some r):
  LoopS Try.prog 0 (bodyAt Try.f116 0) st k r:=
 lpk (F:=fun n ls k=>g116l0K (fun a b c d=>g116l0 (g116l2M m) a b c n d) ls k) (g116Calls m) (loopsOk_of _ (fun p hp=>by
  rw[show loopsOf (bodyAt Try.f116 0)=[(2,bodyAt Try.f116 2)] by kernel_rfl] at hp
  simp only[List.mem_cons,List.not_mem_nil,or_false] at hp
  rcases hp with rfl
  exact g116l2Ok m))
  (fun _ _=>rfl) (fun n ls k=>g116l0Step (g116l2M m) (g116l0M m) (fun a b c=>g116l0 (g116l2M m) a b c n) ls k) (n:=m) h
theorem g116Ok(m:Nat):RowOk Try.prog 116 (fun{α}=>g116R (g116 m (α:=α))):=
 rwk (g116Calls m) (lo1 (by kernel_rfl) (g116l0Ok m))
  (fun _=>g116Main (g116l2M m) (g116l0M m))
abbrev S_g130(α:Type):Type:=Int→(List Int)→((List Int)→Bool→Option α)→Option α
abbrev S_g130l0(α:Type):Type:=Int→(List Int)→(List Int)→((List Int)→Option α)→Int→(List Int)→Option α
def g130l0b{α:Type}(a:Int)(b c:List Int)(d:(List Int)→Option α)(e:Int→(List Int)→Option α)(h:Int)(i:List Int):Option α:=cond (decide (h<(6:Int))) (let j:Int:=IntKind.wrap .i64 (h+(IntKind.wrap .i64 (Int.tdiv a (32:Int))));cond (decide (j≥(6:Int))) (d i) (if 0≤h∧h<(6:Nat) then if h.toNat<6 then let l:Int:=IntKind.wrap .u64 (Int.tmod a (32:Int));if l<0 then none else let n:Int:=IntKind.wrap .u64 ((IntKind.wrap .u64 (List.getD b h.toNat 0))*2^(min l.toNat 64));if 0≤j∧j<(6:Nat) then if j.toNat<6 then if 0≤j∧j<(6:Nat) then if j.toNat<6 then let o:List Int:=List.set i (j.toNat) (ibits .or .u32 (List.getD i j.toNat 0) (IntKind.wrap .u32 n));cond (decide ((IntKind.wrap .i64 (j+(1:Int)))<(6:Int))) (let p:Int:=IntKind.wrap .i64 (j+(1:Int));if 0≤p∧p<(6:Nat) then if p.toNat<6 then if 0≤p∧p<(6:Nat) then if p.toNat<6 then e (IntKind.wrap .i64 (h+(1:Int))) (List.set o (p.toNat) (ibits .or .u32 (List.getD o p.toNat 0) (IntKind.wrap .u32 (Int.fdiv n (2^32))))) else none else none else none else none) (e (IntKind.wrap .i64 (h+(1:Int))) o) else none else none else none else none else none else none)) (d i)
def g130l0{α:Type}(a:Int)(b c:List Int)(d:(List Int)→Option α):Nat→Int→(List Int)→Option α
 |0=>fun _ _=>none
 |m+1=>fun e h=>g130l0b a b c d (g130l0 a b c d m) e h
def g130l0M{α:Type}(m:Nat):S_g130l0 α:=
 fun a b c d e h=>g130l0 a b c d m e h
def g130l0D:LoopD:={n:=62,low:=[0],sl:=[0,1,4,6,7],bl:=[0,1000001,1000002],tp:=[(.vl (.sv (.ptr 0 0))),tI,(.vl (.sv (.ptr 1000001 0))),(.vl (.sv (.ptr 1000002 0))),tI],bp:=[(false,[(.seq uU 6)]),b6,b6],xs:=[(2,[4,6])]}
def g130l0K{α:Type}(L:S_g130l0 α)(ls:List Lf)(k:KEx α):Option α:=
 L (lf ls 0).int ((lf ls 2).lst uU) ((lf ls 3).lst uU)
  (fun a=>k .normal (mkSt 62 [4,6] [(.vl (.sv (.ptr 1000001 0))),(.vl (.sv (.ptr 1000002 0)))] [0,1000001,1000002] [(false,[(.seq uU 6 ((lf ls 2).lst uU))]),(true,[(.seq uU 6 ((lf ls 3).lst uU))]),(true,[(.seq uU 6 a)])]))
  (lf ls 1).int ((lf ls 4).lst uU)
def g130b{α:Type}(G116:Al S_g116)(G95:Al S_g95)(L130l0:Al S_g130l0)(a:Int)(b:List Int)(c:(List Int)→Bool→Option α):Option α:=G116 b (fun d=>cond (decide ((IntKind.wrap .i64 (d+a))>(192:Int))) (G95 b (fun e=>cond (!e) (c [0,0,0,0,0,0] false) (L130l0 a b [0,0,0,0,0,0] (fun h=>c h true) (0:Int) [0,0,0,0,0,0]))) (L130l0 a b [0,0,0,0,0,0] (fun i=>c i true) (0:Int) [0,0,0,0,0,0]))
def g130{α:Type}(m:Nat):S_g130 α:=
 g130b (g116 m) (g95 m) (g130l0M m)
def g130tp:List TP:=[(.vl (.sv (.ptr 0 0))),tI]
def g130bp:List BP:=[(false,[(.seq uU 6)])]
def g130K{α:Type}(G:S_g130 α)(ls:List Lf)(k:KRe α):Option α:=
 G (lf ls 0).int ((lf ls 1).lst uU)
  (fun a b=>k (.tup [(.agg [(.seq uU 6 a)]),(.sv (.bool b))]) [[(.seq uU 6 ((lf ls 1).lst uU))]] [])
def g130R{α:Type}(G:S_g130 α):=rowK g130tp g130bp (g130K G)
def g130hd(G116:Al S_g116)(G95:Al S_g95)(L130l0:Al S_g130l0):Hd where
 call:=fun f args Bs k=>cond (Nat.beq f 116) (g116R G116 args Bs k) (cond (Nat.beq f 95) (g95R G95 args Bs k) (none))
 loop:=fun id st k=>cond (Nat.beq id 0) (loopH g130l0D (g130l0K L130l0) st k) (none)
 ro:=fun f=>cond (Nat.beq f 95) [0] (cond (Nat.beq f 116) [0] ([]))
def g130h(m:Nat):Hd:=g130hd (g116 m) (g95 m) (g130l0M m)
theorem g130l0Step(G116:Al S_g116)(G95:Al S_g95)(L130l0:Al S_g130l0){α:Type}(L:S_g130l0 α)(ls:List Lf)(k:KEx α):
  g130l0K (fun a b c d e h=>g130l0b a b c d (L a b c d) e h) ls k=ev tab (g130hd G116 G95 L130l0) (bodyAt Try.f130 0) (atHead g130l0D ls) (loopK g130l0D 0 (loopH g130l0D (g130l0K L)) k):=by kernel_rfl
theorem g130Main(G116:Al S_g116)(G95:Al S_g95)(L130l0:Al S_g130l0){α:Type}(ls:List Lf)(k:KRe α):
  g130K (g130b G116 G95 L130l0) ls k=evFun tab (g130hd G116 G95 L130l0) Try.f130 (fT g130tp ls) (fB g130tp g130bp ls) k:=by kernel_rfl
theorem g130Calls(m:Nat):(g130h m).CallsOk Try.prog:=(cok_cons (g116Ok m) (cok_cons (g95Ok m) cok_nil))
theorem g130l0Ok(m:Nat)(α:Type)(st:St)(k:KEx α)(r:α)(h:(g130h m).loop 0 st k=some r):
  LoopS Try.prog 0 (bodyAt Try.f130 0) st k r:=
 lpk (F:=fun n ls k=>g130l0K (fun a b c d e i=>g130l0 a b c d n e i) ls k) (g130Calls m) (lb0 (by kernel_rfl))
  (fun _ _=>rfl) (fun n ls k=>g130l0Step (g116 m) (g95 m) (g130l0M m) (fun a b c d=>g130l0 a b c d n) ls k) (n:=m) h
theorem g130Ok(m:Nat):RowOk Try.prog 130 (fun{α}=>g130R (g130 m (α:=α))):=
 rwk (g130Calls m) (lo1 (by kernel_rfl) (g130l0Ok m))
  (fun _=>g130Main (g116 m) (g95 m) (g130l0M m))
abbrev S_g117(α:Type):Type:=Bool→(List Int)→Int→(Bool→(List Int)→Int→Option α)→Option α
def g117b{α:Type}(G130:Al S_g130)(G52:Al S_g52)(a:Bool)(b:List Int)(c:Int)(d:Bool→(List Int)→Int→Option α):Option α:=G130 c b (fun e h=>cond (!h) (d false [0,0,0,0,0,0] (3:Int)) (G52 a e (fun i=>d i e (0:Int))))
def g117{α:Type}(m:Nat):S_g117 α:=
 g117b (g130 m) (g52 m)
def g117tp:List TP:=[vW,tI]
def g117bp:List BP:=[]
def g117K{α:Type}(G:S_g117 α)(ls:List Lf)(k:KRe α):Option α:=
 G (lf ls 0).bool ((lf ls 1).lst uU) (lf ls 2).int
  (fun a b c=>k (.tup [(.agg [(.one (.bool a)),(.seq uU 6 b)]),(.sv (.int .i64 c))]) [] [])
def g117R{α:Type}(G:S_g117 α):=rowK g117tp g117bp (g117K G)
def g117hd(G130:Al S_g130)(G52:Al S_g52):Hd where
 call:=fun f args Bs k=>cond (Nat.beq f 130) (g130R G130 args Bs k) (cond (Nat.beq f 52) (g52R G52 args Bs k) (none))
 loop:=fun id st k=>none
 ro:=fun f=>cond (Nat.beq f 130) [0] ([])
def g117h(m:Nat):Hd:=g117hd (g130 m) (g52 m)
theorem g117Main(G130:Al S_g130)(G52:Al S_g52){α:Type}(ls:List Lf)(k:KRe α):
  g117K (g117b G130 G52) ls k=evFun tab (g117hd G130 G52) Try.f117 (fT g117tp ls) (fB g117tp g117bp ls) k:=by kernel_rfl
theorem g117Calls(m:Nat):(g117h m).CallsOk Try.prog:=(cok_cons (g130Ok m) (cok_cons (g52Ok m) cok_nil))
theorem g117Ok(m:Nat):RowOk Try.prog 117 (fun{α}=>g117R (g117 m (α:=α))):=
 rwk (g117Calls m) (lo0 (by kernel_rfl))
  (fun _=>g117Main (g130 m) (g52 m))
abbrev S_g131(α:Type):Type:=Bool→(List Int)→Int→(Bool→(List Int)→Int→Option α)→Option α
def g131b{α:Type}(G117:Al S_g117)(a:Bool)(b:List Int)(c:Int)(d:Bool→(List Int)→Int→Option α):Option α:=cond (decide (c>(191:Int))) (d false [0,0,0,0,0,0] (3:Int)) (G117 a b c (fun e h i=>d e h i))
def g131{α:Type}(m:Nat):S_g131 α:=
 g131b (g117 m)
def g131tp:List TP:=[vW,tI]
def g131bp:List BP:=[]
def g131K{α:Type}(G:S_g131 α)(ls:List Lf)(k:KRe α):Option α:=
 G (lf ls 0).bool ((lf ls 1).lst uU) (lf ls 2).int
  (fun a b c=>k (.tup [(.agg [(.one (.bool a)),(.seq uU 6 b)]),(.sv (.int .i64 c))]) [] [])
def g131R{α:Type}(G:S_g131 α):=rowK g131tp g131bp (g131K G)
def g131hd(G117:Al S_g117):Hd where
 call:=fun f args Bs k=>cond (Nat.beq f 117) (g117R G117 args Bs k) (none)
 loop:=fun id st k=>none
 ro:=fun f=>[]
def g131h(m:Nat):Hd:=g131hd (g117 m)
theorem g131Main(G117:Al S_g117){α:Type}(ls:List Lf)(k:KRe α):
  g131K (g131b G117) ls k=evFun tab (g131hd G117) Try.f131 (fT g131tp ls) (fB g131tp g131bp ls) k:=by kernel_rfl
theorem g131Calls(m:Nat):(g131h m).CallsOk Try.prog:=(cok_cons (g117Ok m) cok_nil)
theorem g131Ok(m:Nat):RowOk Try.prog 131 (fun{α}=>g131R (g131 m (α:=α))):=
 rwk (g131Calls m) (lo0 (by kernel_rfl))
  (fun _=>g131Main (g117 m))
end Go.Proofs.Ytlmmgjngihlpeaa.Sx
