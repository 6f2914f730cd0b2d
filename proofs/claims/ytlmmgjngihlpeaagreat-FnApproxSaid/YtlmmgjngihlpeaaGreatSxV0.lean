/- Functions. Printed by our own sx.py. -/
import Derived.Test.YtlmmgjngihlpeaaGreatSxT
namespace Go.Proofs.YtlmmgjngihlpeaaGreat.Sx
open Go
set_option linter.unusedVariables false
set_option maxRecDepth 100000
abbrev S_g73(α:Type):Type:=Bool→(List Int)→(Bool→Option α)→Option α
def g73b{α:Type}(a:Bool)(b:List Int)(c:Bool→Option α):Option α:=cond a (c (!(eqLI b [0,0,0,0,0,0]))) (c false)
def g73{α:Type}(m:Nat):S_g73 α:=
 g73b
def g73tp:List TP:=[(.vl (.sv .bool)),(.vl (.agg [(.seq uU 6)]))]
def g73bp:List BP:=[]
def g73K{α:Type}(G:S_g73 α)(ls:List Lf)(k:KRe α):Option α:=
 G (lf ls 0).bool ((lf ls 1).lst uU)
  (fun a=>k (.vl (.agg [(.one (.bool a)),(.seq uU 6 ((lf ls 1).lst uU))])) [] [])
def g73R{α:Type}(G:S_g73 α):=rowK g73tp g73bp (g73K G)
def g73hd:Hd where
 call:=fun f args Bs k=>none
 loop:=fun id st k=>none
 ro:=fun f=>[]
def g73h(m:Nat):Hd:=g73hd
theorem g73Main{α:Type}(ls:List Lf)(k:KRe α):
  g73K (g73b) ls k=evFun tab (g73hd) Tryz.f73 (fT g73tp ls) (fB g73tp g73bp ls) k:=by kernel_rfl
theorem g73Calls(m:Nat):(g73h m).CallsOk Tryz.prog:=cok_nil
theorem g73Ok(m:Nat):RowOk Tryz.prog 73 (fun{α}=>g73R (g73 m (α:=α))):=
 rwk (g73Calls m) (lo0 (by kernel_rfl))
  (fun _=>g73Main)
abbrev S_g71(α:Type):Type:=Bool→(List Int)→(Bool→Option α)→Option α
def g71b{α:Type}(G73:Al S_g73)(a:Bool)(b:List Int)(c:Bool→Option α):Option α:=G73 (!a) b (fun d=>c d)
def g71{α:Type}(m:Nat):S_g71 α:=
 g71b (g73 m)
def g71tp:List TP:=[vW]
def g71bp:List BP:=[]
def g71K{α:Type}(G:S_g71 α)(ls:List Lf)(k:KRe α):Option α:=
 G (lf ls 0).bool ((lf ls 1).lst uU)
  (fun a=>k (.vl (.agg [(.one (.bool a)),(.seq uU 6 ((lf ls 1).lst uU))])) [] [])
def g71R{α:Type}(G:S_g71 α):=rowK g71tp g71bp (g71K G)
def g71hd(G73:Al S_g73):Hd where
 call:=fun f args Bs k=>cond (Nat.beq f 73) (g73R G73 args Bs k) (none)
 loop:=fun id st k=>none
 ro:=fun f=>[]
def g71h(m:Nat):Hd:=g71hd (g73 m)
theorem g71Main(G73:Al S_g73){α:Type}(ls:List Lf)(k:KRe α):
  g71K (g71b G73) ls k=evFun tab (g71hd G73) Tryz.f71 (fT g71tp ls) (fB g71tp g71bp ls) k:=by kernel_rfl
theorem g71Calls(m:Nat):(g71h m).CallsOk Tryz.prog:=(cok_cons (g73Ok m) cok_nil)
theorem g71Ok(m:Nat):RowOk Tryz.prog 71 (fun{α}=>g71R (g71 m (α:=α))):=
 rwk (g71Calls m) (lo0 (by kernel_rfl))
  (fun _=>g71Main (g73 m))
abbrev S_g45(α:Type):Type:=(List Int)→(List Int)→((List Int)→Bool→Option α)→Option α
abbrev S_g45l0(α:Type):Type:=(List Int)→(List Int)→(Int→(List Int)→Option α)→Int→Int→(List Int)→Option α
def g45l0b{α:Type}(a b:List Int)(c:Int→(List Int)→Option α)(d:Int→Int→(List Int)→Option α)(e h:Int)(i:List Int):Option α:=cond (decide (h<(6:Int))) (if 0≤h∧h<(6:Nat) then if h.toNat<6 then if 0≤h∧h<(6:Nat) then if h.toNat<6 then let j:Int:=IntKind.wrap .u64 (e+(IntKind.wrap .u64 ((IntKind.wrap .u64 (List.getD i h.toNat 0))+(IntKind.wrap .u64 (List.getD a h.toNat 0)))));if 0≤h∧h<(6:Nat) then if h.toNat<6 then d (Int.fdiv j (2^32)) (IntKind.wrap .i64 (h+(1:Int))) (List.set i (h.toNat) (IntKind.wrap .u32 j)) else none else none else none else none else none else none) (c e i)
def g45l0{α:Type}(a b:List Int)(c:Int→(List Int)→Option α):Nat→Int→Int→(List Int)→Option α
 |0=>fun _ _ _=>none
 |m+1=>fun d e h=>g45l0b a b c (g45l0 a b c m) d e h
def g45l0M{α:Type}(m:Nat):S_g45l0 α:=
 fun a b c d e h=>g45l0 a b c m d e h
def g45l0D:LoopD:={n:=32,low:=[],sl:=[2,3,4,6,8],bl:=[1000000,1000001,1000002],tp:=[(.vl (.sv (.ptr 1000000 0))),(.vl (.sv (.ptr 1000001 0))),(.vl (.sv (.ptr 1000002 0))),(.vl (.sv (.int .u64))),tI],bp:=[b6,b6,b6],xs:=[(2,[2,4,6])]}
def g45l0K{α:Type}(L:S_g45l0 α)(ls:List Lf)(k:KEx α):Option α:=
 L ((lf ls 3).lst uU) ((lf ls 4).lst uU)
  (fun a b=>k .normal (mkSt 32 [2,4,6] [(.vl (.sv (.ptr 1000000 0))),(.vl (.sv (.ptr 1000001 0))),(.vl (.sv (.int .u64 a)))] [1000000,1000001] [(true,[(.seq uU 6 b)]),(true,[(.seq uU 6 ((lf ls 4).lst uU))])]))
  (lf ls 0).int (lf ls 1).int ((lf ls 2).lst uU)
def g45b{α:Type}(L45l0:Al S_g45l0)(a b:List Int)(c:(List Int)→Bool→Option α):Option α:=L45l0 b [0,0,0,0,0,0] (fun d e=>c e (d !=(0:Int))) (0:Int) (0:Int) a
def g45{α:Type}(m:Nat):S_g45 α:=
 g45b (g45l0M m)
def g45tp:List TP:=[(.vl (.agg [(.seq uU 6)])),(.vl (.agg [(.seq uU 6)]))]
def g45bp:List BP:=[]
def g45K{α:Type}(G:S_g45 α)(ls:List Lf)(k:KRe α):Option α:=
 G ((lf ls 0).lst uU) ((lf ls 1).lst uU)
  (fun a b=>k (.tup [(.agg [(.seq uU 6 a)]),(.sv (.bool b))]) [] [])
def g45R{α:Type}(G:S_g45 α):=rowK g45tp g45bp (g45K G)
def g45hd(L45l0:Al S_g45l0):Hd where
 call:=fun f args Bs k=>none
 loop:=fun id st k=>cond (Nat.beq id 0) (loopH g45l0D (g45l0K L45l0) st k) (none)
 ro:=fun f=>[]
def g45h(m:Nat):Hd:=g45hd (g45l0M m)
theorem g45l0Step(L45l0:Al S_g45l0){α:Type}(L:S_g45l0 α)(ls:List Lf)(k:KEx α):
  g45l0K (fun a b c d e h=>g45l0b a b c (L a b c) d e h) ls k=ev tab (g45hd L45l0) (bodyAt Tryz.f45 0) (atHead g45l0D ls) (loopK g45l0D 0 (loopH g45l0D (g45l0K L)) k):=by kernel_rfl
theorem g45Main(L45l0:Al S_g45l0){α:Type}(ls:List Lf)(k:KRe α):
  g45K (g45b L45l0) ls k=evFun tab (g45hd L45l0) Tryz.f45 (fT g45tp ls) (fB g45tp g45bp ls) k:=by kernel_rfl
theorem g45Calls(m:Nat):(g45h m).CallsOk Tryz.prog:=cok_nil
theorem g45l0Ok(m:Nat)(α:Type)(st:St)(k:KEx α)(r:α)(h:(g45h m).loop 0 st k=some r):
  LoopS Tryz.prog 0 (bodyAt Tryz.f45 0) st k r:=
 lpk (F:=fun n ls k=>g45l0K (fun a b c d e i=>g45l0 a b c n d e i) ls k) (g45Calls m) (lb0 (by kernel_rfl))
  (fun _ _=>rfl) (fun n ls k=>g45l0Step (g45l0M m) (fun a b c=>g45l0 a b c n) ls k) (n:=m) h
theorem g45Ok(m:Nat):RowOk Tryz.prog 45 (fun{α}=>g45R (g45 m (α:=α))):=
 rwk (g45Calls m) (lo1 (by kernel_rfl) (g45l0Ok m))
  (fun _=>g45Main (g45l0M m))
abbrev S_g46(α:Type):Type:=(List Int)→(List Int)→(Int→Option α)→Option α
abbrev S_g46l0(α:Type):Type:=(List Int)→(List Int)→(Int→Option α)→(Option α)→Int→Option α
def g46l0b{α:Type}(a b:List Int)(c:Int→Option α)(d:Option α)(e:Int→Option α)(h:Int):Option α:=cond (decide (h≥(0:Int))) (if 0≤h∧h<(6:Nat) then if h.toNat<6 then if 0≤h∧h<(6:Nat) then if h.toNat<6 then cond ((List.getD a h.toNat 0) !=(List.getD b h.toNat 0)) (if 0≤h∧h<(6:Nat) then if h.toNat<6 then if 0≤h∧h<(6:Nat) then if h.toNat<6 then cond (decide ((List.getD a h.toNat 0)<(List.getD b h.toNat 0))) (c (-1:Int)) (c (1:Int)) else none else none else none else none) (e (IntKind.wrap .i64 (h-(1:Int)))) else none else none else none else none) (d)
def g46l0{α:Type}(a b:List Int)(c:Int→Option α)(d:Option α):Nat→Int→Option α
 |0=>fun _=>none
 |m+1=>fun e=>g46l0b a b c d (g46l0 a b c d m) e
def g46l0M{α:Type}(m:Nat):S_g46l0 α:=
 fun a b c d e=>g46l0 a b c d m e
def g46l0D:LoopD:={n:=24,low:=[],sl:=[2,3,5],bl:=[1000000,1000001],tp:=[(.vl (.sv (.ptr 1000000 0))),(.vl (.sv (.ptr 1000001 0))),tI],bp:=[b6,b6],xs:=[(1,[4]),(2,[])]}
def g46l0K{α:Type}(L:S_g46l0 α)(ls:List Lf)(k:KEx α):Option α:=
 L ((lf ls 1).lst uU) ((lf ls 2).lst uU)
  (fun a=>k .ret (mkSt 24 [4] [(.vl (.sv (.int .i64 a)))] [] []))
  (k .normal (mkSt 24 [] [] [] []))
  (lf ls 0).int
def g46b{α:Type}(L46l0:Al S_g46l0)(a b:List Int)(c:Int→Option α):Option α:=L46l0 a b (fun d=>c d) (c (0:Int)) (5:Int)
def g46{α:Type}(m:Nat):S_g46 α:=
 g46b (g46l0M m)
def g46tp:List TP:=[(.vl (.agg [(.seq uU 6)])),(.vl (.agg [(.seq uU 6)]))]
def g46bp:List BP:=[]
def g46K{α:Type}(G:S_g46 α)(ls:List Lf)(k:KRe α):Option α:=
 G ((lf ls 0).lst uU) ((lf ls 1).lst uU)
  (fun a=>k (.vl (.sv (.int .i64 a))) [] [])
def g46R{α:Type}(G:S_g46 α):=rowK g46tp g46bp (g46K G)
def g46hd(L46l0:Al S_g46l0):Hd where
 call:=fun f args Bs k=>none
 loop:=fun id st k=>cond (Nat.beq id 0) (loopH g46l0D (g46l0K L46l0) st k) (none)
 ro:=fun f=>[]
def g46h(m:Nat):Hd:=g46hd (g46l0M m)
theorem g46l0Step(L46l0:Al S_g46l0){α:Type}(L:S_g46l0 α)(ls:List Lf)(k:KEx α):
  g46l0K (fun a b c d e=>g46l0b a b c d (L a b c d) e) ls k=ev tab (g46hd L46l0) (bodyAt Tryz.f46 0) (atHead g46l0D ls) (loopK g46l0D 0 (loopH g46l0D (g46l0K L)) k):=by kernel_rfl
theorem g46Main(L46l0:Al S_g46l0){α:Type}(ls:List Lf)(k:KRe α):
  g46K (g46b L46l0) ls k=evFun tab (g46hd L46l0) Tryz.f46 (fT g46tp ls) (fB g46tp g46bp ls) k:=by kernel_rfl
theorem g46Calls(m:Nat):(g46h m).CallsOk Tryz.prog:=cok_nil
theorem g46l0Ok(m:Nat)(α:Type)(st:St)(k:KEx α)(r:α)(h:(g46h m).loop 0 st k=some r):
  LoopS Tryz.prog 0 (bodyAt Tryz.f46 0) st k r:=
 lpk (F:=fun n ls k=>g46l0K (fun a b c d e=>g46l0 a b c d n e) ls k) (g46Calls m) (lb0 (by kernel_rfl))
  (fun _ _=>rfl) (fun n ls k=>g46l0Step (g46l0M m) (fun a b c d=>g46l0 a b c d n) ls k) (n:=m) h
theorem g46Ok(m:Nat):RowOk Tryz.prog 46 (fun{α}=>g46R (g46 m (α:=α))):=
 rwk (g46Calls m) (lo1 (by kernel_rfl) (g46l0Ok m))
  (fun _=>g46Main (g46l0M m))
abbrev S_g84(α:Type):Type:=(List Int)→(List Int)→((List Int)→Option α)→Option α
abbrev S_g84l0(α:Type):Type:=(List Int)→(List Int)→((List Int)→Option α)→Int→Int→(List Int)→Option α
def g84l0b{α:Type}(a b:List Int)(c:(List Int)→Option α)(d:Int→Int→(List Int)→Option α)(e h:Int)(i:List Int):Option α:=cond (decide (h<(6:Int))) (if 0≤h∧h<(6:Nat) then if h.toNat<6 then if 0≤h∧h<(6:Nat) then if h.toNat<6 then let j:Int:=IntKind.wrap .u64 ((IntKind.wrap .u64 ((IntKind.wrap .u64 (List.getD i h.toNat 0))-(IntKind.wrap .u64 (List.getD a h.toNat 0))))-e);if 0≤h∧h<(6:Nat) then if h.toNat<6 then d (Int.fdiv j (2^63)) (IntKind.wrap .i64 (h+(1:Int))) (List.set i (h.toNat) (IntKind.wrap .u32 j)) else none else none else none else none else none else none) (c i)
def g84l0{α:Type}(a b:List Int)(c:(List Int)→Option α):Nat→Int→Int→(List Int)→Option α
 |0=>fun _ _ _=>none
 |m+1=>fun d e h=>g84l0b a b c (g84l0 a b c m) d e h
def g84l0M{α:Type}(m:Nat):S_g84l0 α:=
 fun a b c d e h=>g84l0 a b c m d e h
def g84l0D:LoopD:={n:=30,low:=[],sl:=[2,3,4,5,8],bl:=[1000000,1000001,1000002],tp:=[(.vl (.sv (.ptr 1000000 0))),(.vl (.sv (.ptr 1000001 0))),(.vl (.sv (.ptr 1000002 0))),(.vl (.sv (.int .u64))),tI],bp:=[b6,b6,b6],xs:=[(2,[2,4])]}
def g84l0K{α:Type}(L:S_g84l0 α)(ls:List Lf)(k:KEx α):Option α:=
 L ((lf ls 3).lst uU) ((lf ls 4).lst uU)
  (fun a=>k .normal (mkSt 30 [2,4] [(.vl (.sv (.ptr 1000000 0))),(.vl (.sv (.ptr 1000001 0)))] [1000000,1000001] [(true,[(.seq uU 6 a)]),(true,[(.seq uU 6 ((lf ls 4).lst uU))])]))
  (lf ls 0).int (lf ls 1).int ((lf ls 2).lst uU)
def g84b{α:Type}(L84l0:Al S_g84l0)(a b:List Int)(c:(List Int)→Option α):Option α:=L84l0 b [0,0,0,0,0,0] (fun d=>c d) (0:Int) (0:Int) a
def g84{α:Type}(m:Nat):S_g84 α:=
 g84b (g84l0M m)
def g84tp:List TP:=[(.vl (.agg [(.seq uU 6)])),(.vl (.agg [(.seq uU 6)]))]
def g84bp:List BP:=[]
def g84K{α:Type}(G:S_g84 α)(ls:List Lf)(k:KRe α):Option α:=
 G ((lf ls 0).lst uU) ((lf ls 1).lst uU)
  (fun a=>k (.vl (.agg [(.seq uU 6 a)])) [] [])
def g84R{α:Type}(G:S_g84 α):=rowK g84tp g84bp (g84K G)
def g84hd(L84l0:Al S_g84l0):Hd where
 call:=fun f args Bs k=>none
 loop:=fun id st k=>cond (Nat.beq id 0) (loopH g84l0D (g84l0K L84l0) st k) (none)
 ro:=fun f=>[]
def g84h(m:Nat):Hd:=g84hd (g84l0M m)
theorem g84l0Step(L84l0:Al S_g84l0){α:Type}(L:S_g84l0 α)(ls:List Lf)(k:KEx α):
  g84l0K (fun a b c d e h=>g84l0b a b c (L a b c) d e h) ls k=ev tab (g84hd L84l0) (bodyAt Tryz.f84 0) (atHead g84l0D ls) (loopK g84l0D 0 (loopH g84l0D (g84l0K L)) k):=by kernel_rfl
theorem g84Main(L84l0:Al S_g84l0){α:Type}(ls:List Lf)(k:KRe α):
  g84K (g84b L84l0) ls k=evFun tab (g84hd L84l0) Tryz.f84 (fT g84tp ls) (fB g84tp g84bp ls) k:=by kernel_rfl
theorem g84Calls(m:Nat):(g84h m).CallsOk Tryz.prog:=cok_nil
theorem g84l0Ok(m:Nat)(α:Type)(st:St)(k:KEx α)(r:α)(h:(g84h m).loop 0 st k=some r):
  LoopS Tryz.prog 0 (bodyAt Tryz.f84 0) st k r:=
 lpk (F:=fun n ls k=>g84l0K (fun a b c d e i=>g84l0 a b c n d e i) ls k) (g84Calls m) (lb0 (by kernel_rfl))
  (fun _ _=>rfl) (fun n ls k=>g84l0Step (g84l0M m) (fun a b c=>g84l0 a b c n) ls k) (n:=m) h
theorem g84Ok(m:Nat):RowOk Tryz.prog 84 (fun{α}=>g84R (g84 m (α:=α))):=
 rwk (g84Calls m) (lo1 (by kernel_rfl) (g84l0Ok m))
  (fun _=>g84Main (g84l0M m))
abbrev S_g53(α:Type):Type:=Bool→(List Int)→Bool→(List Int)→Bool→(Bool→(List Int)→Bool→Option α)→Option α
def g53b{α:Type}(G45:Al S_g45)(G73:Al S_g73)(G46:Al S_g46)(G84:Al S_g84)(a:Bool)(b:List Int)(c:Bool)(d:List Int)(e:Bool)(h:Bool→(List Int)→Bool→Option α):Option α:=cond (a==c) (G45 b d (fun i j=>cond e (G73 a i (fun l=>h l i true)) (G73 a i (fun n=>h n i j)))) (G46 b d (fun o=>cond (decide (o<(0:Int))) (G84 d b (fun p=>G73 c p (fun q=>h q p e))) (G84 b d (fun r=>G73 a r (fun s=>h s r e)))))
def g53{α:Type}(m:Nat):S_g53 α:=
 g53b (g45 m) (g73 m) (g46 m) (g84 m)
def g53tp:List TP:=[(.vl (.sv (.ptr 0 0))),vW,vW]
def g53bp:List BP:=[(true,[(.one .bool)])]
def g53K{α:Type}(G:S_g53 α)(ls:List Lf)(k:KRe α):Option α:=
 G (lf ls 0).bool ((lf ls 1).lst uU) (lf ls 2).bool ((lf ls 3).lst uU) (lf ls 4).bool
  (fun a b c=>k (.vl (.agg [(.one (.bool a)),(.seq uU 6 b)])) [[(.one (.bool c))]] [])
def g53R{α:Type}(G:S_g53 α):=rowK g53tp g53bp (g53K G)
def g53hd(G45:Al S_g45)(G73:Al S_g73)(G46:Al S_g46)(G84:Al S_g84):Hd where
 call:=fun f args Bs k=>cond (Nat.beq f 45) (g45R G45 args Bs k) (cond (Nat.beq f 73) (g73R G73 args Bs k) (cond (Nat.beq f 46) (g46R G46 args Bs k) (cond (Nat.beq f 84) (g84R G84 args Bs k) (none))))
 loop:=fun id st k=>none
 ro:=fun f=>[]
def g53h(m:Nat):Hd:=g53hd (g45 m) (g73 m) (g46 m) (g84 m)
theorem g53Main(G45:Al S_g45)(G73:Al S_g73)(G46:Al S_g46)(G84:Al S_g84){α:Type}(ls:List Lf)(k:KRe α):
  g53K (g53b G45 G73 G46 G84) ls k=evFun tab (g53hd G45 G73 G46 G84) Tryz.f53 (fT g53tp ls) (fB g53tp g53bp ls) k:=by kernel_rfl
theorem g53Calls(m:Nat):(g53h m).CallsOk Tryz.prog:=(cok_cons (g45Ok m) (cok_cons (g73Ok m) (cok_cons (g46Ok m) (cok_cons (g84Ok m) cok_nil))))
theorem g53Ok(m:Nat):RowOk Tryz.prog 53 (fun{α}=>g53R (g53 m (α:=α))):=
 rwk (g53Calls m) (lo0 (by kernel_rfl))
  (fun _=>g53Main (g45 m) (g73 m) (g46 m) (g84 m))
abbrev S_g41(α:Type):Type:=Bool→(List Int)→Bool→(List Int)→Bool→(Bool→(List Int)→Bool→Option α)→Option α
def g41b{α:Type}(G71:Al S_g71)(G53:Al S_g53)(a:Bool)(b:List Int)(c:Bool)(d:List Int)(e:Bool)(h:Bool→(List Int)→Bool→Option α):Option α:=G71 c d (fun i=>G53 a b i d e (fun j l n=>h j l n))
def g41{α:Type}(m:Nat):S_g41 α:=
 g41b (g71 m) (g53 m)
def g41tp:List TP:=[(.vl (.sv (.ptr 0 0))),vW,vW]
def g41bp:List BP:=[(true,[(.one .bool)])]
def g41K{α:Type}(G:S_g41 α)(ls:List Lf)(k:KRe α):Option α:=
 G (lf ls 0).bool ((lf ls 1).lst uU) (lf ls 2).bool ((lf ls 3).lst uU) (lf ls 4).bool
  (fun a b c=>k (.vl (.agg [(.one (.bool a)),(.seq uU 6 b)])) [[(.one (.bool c))]] [])
def g41R{α:Type}(G:S_g41 α):=rowK g41tp g41bp (g41K G)
def g41hd(G71:Al S_g71)(G53:Al S_g53):Hd where
 call:=fun f args Bs k=>cond (Nat.beq f 71) (g71R G71 args Bs k) (cond (Nat.beq f 53) (g53R G53 args Bs k) (none))
 loop:=fun id st k=>none
 ro:=fun f=>[]
def g41h(m:Nat):Hd:=g41hd (g71 m) (g53 m)
theorem g41Main(G71:Al S_g71)(G53:Al S_g53){α:Type}(ls:List Lf)(k:KRe α):
  g41K (g41b G71 G53) ls k=evFun tab (g41hd G71 G53) Tryz.f41 (fT g41tp ls) (fB g41tp g41bp ls) k:=by kernel_rfl
theorem g41Calls(m:Nat):(g41h m).CallsOk Tryz.prog:=(cok_cons (g71Ok m) (cok_cons (g53Ok m) cok_nil))
theorem g41Ok(m:Nat):RowOk Tryz.prog 41 (fun{α}=>g41R (g41 m (α:=α))):=
 rwk (g41Calls m) (lo0 (by kernel_rfl))
  (fun _=>g41Main (g71 m) (g53 m))
abbrev S_g104(α:Type):Type:=Int→(Int→Option α)→Option α
def g104b{α:Type}(a:Int)(b:Int→Option α):Option α:=cond (decide (a≥(65536:Int))) (let c:Int:=Int.fdiv a (2^16);cond (decide (c≥(256:Int))) (let d:Int:=IntKind.wrap .u8 (Int.fdiv c (2^8));if 0≤d∧d<strC0.size then b (IntKind.wrap .i64 ((24:Int)+(IntKind.wrap .i64 (byteAt strC0 d.toNat)))) else none) (let e:Int:=IntKind.wrap .u8 c;if 0≤e∧e<strC0.size then b (IntKind.wrap .i64 ((16:Int)+(IntKind.wrap .i64 (byteAt strC0 e.toNat)))) else none)) (cond (decide (a≥(256:Int))) (let h:Int:=IntKind.wrap .u8 (Int.fdiv a (2^8));if 0≤h∧h<strC0.size then b (IntKind.wrap .i64 ((8:Int)+(IntKind.wrap .i64 (byteAt strC0 h.toNat)))) else none) (let i:Int:=IntKind.wrap .u8 a;if 0≤i∧i<strC0.size then b (IntKind.wrap .i64 ((0:Int)+(IntKind.wrap .i64 (byteAt strC0 i.toNat)))) else none))
def g104{α:Type}(m:Nat):S_g104 α:=
 g104b
def g104tp:List TP:=[(.vl (.sv (.int .u32)))]
def g104bp:List BP:=[]
def g104K{α:Type}(G:S_g104 α)(ls:List Lf)(k:KRe α):Option α:=
 G (lf ls 0).int
  (fun a=>k (.vl (.sv (.int .i64 a))) [] [])
def g104R{α:Type}(G:S_g104 α):=rowK g104tp g104bp (g104K G)
def g104hd:Hd where
 call:=fun f args Bs k=>none
 loop:=fun id st k=>none
 ro:=fun f=>[]
def g104h(m:Nat):Hd:=g104hd
theorem g104Main{α:Type}(ls:List Lf)(k:KRe α):
  g104K (g104b) ls k=evFun tab (g104hd) Tryz.f104 (fT g104tp ls) (fB g104tp g104bp ls) k:=by kernel_rfl
theorem g104Calls(m:Nat):(g104h m).CallsOk Tryz.prog:=cok_nil
theorem g104Ok(m:Nat):RowOk Tryz.prog 104 (fun{α}=>g104R (g104 m (α:=α))):=
 rwk (g104Calls m) (lo0 (by kernel_rfl))
  (fun _=>g104Main)
abbrev S_g72(α:Type):Type:=(List Int)→(Int→Option α)→Option α
abbrev S_g72l0(α:Type):Type:=(List Int)→(Int→Option α)→(Option α)→Int→Option α
def g72l0b{α:Type}(G104:Al S_g104)(a:List Int)(b:Int→Option α)(c:Option α)(d:Int→Option α)(e:Int):Option α:=cond (decide (e≥(0:Int))) (if 0≤e∧e<(6:Nat) then if e.toNat<6 then cond ((List.getD a e.toNat 0) !=(0:Int)) (if 0≤e∧e<(6:Nat) then if e.toNat<6 then G104 (List.getD a e.toNat 0) (fun h=>b (IntKind.wrap .i64 ((IntKind.wrap .i64 ((32:Int)*e))+h))) else none else none) (d (IntKind.wrap .i64 (e-(1:Int)))) else none else none) (c)
def g72l0{α:Type}(G104:Al S_g104)(a:List Int)(b:Int→Option α)(c:Option α):Nat→Int→Option α
 |0=>fun _=>none
 |m+1=>fun d=>g72l0b G104 a b c (g72l0 G104 a b c m) d
def g72l0M{α:Type}(m:Nat):S_g72l0 α:=
 fun a b c d=>g72l0 (g104 m) a b c m d
def g72l0D:LoopD:={n:=19,low:=[],sl:=[1,3],bl:=[1000000],tp:=[(.vl (.sv (.ptr 1000000 0))),tI],bp:=[b6],xs:=[(1,[2]),(2,[])]}
def g72l0K{α:Type}(L:S_g72l0 α)(ls:List Lf)(k:KEx α):Option α:=
 L ((lf ls 1).lst uU)
  (fun a=>k .ret (mkSt 19 [2] [(.vl (.sv (.int .i64 a)))] [] []))
  (k .normal (mkSt 19 [] [] [] []))
  (lf ls 0).int
def g72b{α:Type}(G104:Al S_g104)(L72l0:Al S_g72l0)(a:List Int)(b:Int→Option α):Option α:=L72l0 a (fun c=>b c) (b (0:Int)) (5:Int)
def g72{α:Type}(m:Nat):S_g72 α:=
 g72b (g104 m) (g72l0M m)
def g72tp:List TP:=[(.vl (.agg [(.seq uU 6)]))]
def g72bp:List BP:=[]
def g72K{α:Type}(G:S_g72 α)(ls:List Lf)(k:KRe α):Option α:=
 G ((lf ls 0).lst uU)
  (fun a=>k (.vl (.sv (.int .i64 a))) [] [])
def g72R{α:Type}(G:S_g72 α):=rowK g72tp g72bp (g72K G)
def g72hd(G104:Al S_g104)(L72l0:Al S_g72l0):Hd where
 call:=fun f args Bs k=>cond (Nat.beq f 104) (g104R G104 args Bs k) (none)
 loop:=fun id st k=>cond (Nat.beq id 0) (loopH g72l0D (g72l0K L72l0) st k) (none)
 ro:=fun f=>[]
def g72h(m:Nat):Hd:=g72hd (g104 m) (g72l0M m)
theorem g72l0Step(G104:Al S_g104)(L72l0:Al S_g72l0){α:Type}(L:S_g72l0 α)(ls:List Lf)(k:KEx α):
  g72l0K (fun a b c d=>g72l0b G104 a b c (L a b c) d) ls k=ev tab (g72hd G104 L72l0) (bodyAt Tryz.f72 0) (atHead g72l0D ls) (loopK g72l0D 0 (loopH g72l0D (g72l0K L)) k):=by kernel_rfl
theorem g72Main(G104:Al S_g104)(L72l0:Al S_g72l0){α:Type}(ls:List Lf)(k:KRe α):
  g72K (g72b G104 L72l0) ls k=evFun tab (g72hd G104 L72l0) Tryz.f72 (fT g72tp ls) (fB g72tp g72bp ls) k:=by kernel_rfl
theorem g72Calls(m:Nat):(g72h m).CallsOk Tryz.prog:=(cok_cons (g104Ok m) cok_nil)
theorem g72l0Ok(m:Nat)(α:Type)(st:St)(k:KEx α)(r:α)(h:(g72h m).loop 0 st k=some r):
  LoopS Tryz.prog 0 (bodyAt Tryz.f72 0) st k r:=
 lpk (F:=fun n ls k=>g72l0K (fun a b c d=>g72l0 (g104 m) a b c n d) ls k) (g72Calls m) (lb0 (by kernel_rfl))
  (fun _ _=>rfl) (fun n ls k=>g72l0Step (g104 m) (g72l0M m) (fun a b c=>g72l0 (g104 m) a b c n) ls k) (n:=m) h
theorem g72Ok(m:Nat):RowOk Tryz.prog 72 (fun{α}=>g72R (g72 m (α:=α))):=
 rwk (g72Calls m) (lo1 (by kernel_rfl) (g72l0Ok m))
  (fun _=>g72Main (g104 m) (g72l0M m))
abbrev S_g44(α:Type):Type:=(List Int)→Int→((List Int)→Option α)→Option α
abbrev S_g44l0(α:Type):Type:=Int→Int→(List Int)→(List Int)→((List Int)→Option α)→Int→(List Int)→Option α
def g44l0b{α:Type}(a b:Int)(c d:List Int)(e:(List Int)→Option α)(h:Int→(List Int)→Option α)(i:Int)(j:List Int):Option α:=cond (decide (i≥a)) (let l:Int:=IntKind.wrap .i64 (i-a);if 0≤l∧l<(6:Nat) then if l.toNat<6 then if b<0 then none else if 0≤i∧i<(6:Nat) then if i.toNat<6 then let n:List Int:=List.set j (i.toNat) (IntKind.wrap .u32 ((List.getD c l.toNat 0)*2^(min b.toNat 32)));cond (decide (b>(0:Int))) (cond (decide (i>a)) (if 0≤i∧i<(6:Nat) then if i.toNat<6 then let o:Int:=IntKind.wrap .i64 ((IntKind.wrap .i64 (i-a))-(1:Int));if 0≤o∧o<(6:Nat) then if o.toNat<6 then let p:Int:=IntKind.wrap .i64 ((32:Int)-b);if p<0 then none else if 0≤i∧i<(6:Nat) then if i.toNat<6 then h (IntKind.wrap .i64 (i-(1:Int))) (List.set n (i.toNat) (ibits .or .u32 (List.getD n i.toNat 0) (Int.fdiv (List.getD c o.toNat 0) (2^(min p.toNat 32))))) else none else none else none else none else none else none) (h (IntKind.wrap .i64 (i-(1:Int))) n)) (h (IntKind.wrap .i64 (i-(1:Int))) n) else none else none else none else none) (e j)
def g44l0{α:Type}(a b:Int)(c d:List Int)(e:(List Int)→Option α):Nat→Int→(List Int)→Option α
 |0=>fun _ _=>none
 |m+1=>fun h i=>g44l0b a b c d e (g44l0 a b c d e m) h i
def g44l0M{α:Type}(m:Nat):S_g44l0 α:=
 fun a b c d e h i=>g44l0 a b c d e m h i
def g44l0D:LoopD:={n:=50,low:=[],sl:=[2,4,5,6,7,8],bl:=[1000000,1000001,1000002],tp:=[(.vl (.sv (.ptr 1000000 0))),(.vl (.sv (.ptr 1000001 0))),(.vl (.sv (.ptr 1000002 0))),tI,tI,tI],bp:=[b6,b6,b6],xs:=[(2,[4,5])]}
def g44l0K{α:Type}(L:S_g44l0 α)(ls:List Lf)(k:KEx α):Option α:=
 L (lf ls 0).int (lf ls 1).int ((lf ls 3).lst uU) ((lf ls 4).lst uU)
  (fun a=>k .normal (mkSt 50 [4,5] [(.vl (.sv (.ptr 1000000 0))),(.vl (.sv (.ptr 1000001 0)))] [1000000,1000001] [(true,[(.seq uU 6 ((lf ls 4).lst uU))]),(true,[(.seq uU 6 a)])]))
  (lf ls 2).int ((lf ls 5).lst uU)
def g44b{α:Type}(L44l0:Al S_g44l0)(a:List Int)(b:Int)(c:(List Int)→Option α):Option α:=L44l0 (IntKind.wrap .i64 (Int.tdiv b (32:Int))) (Int.tmod b (32:Int)) a [0,0,0,0,0,0] (fun d=>c d) (5:Int) [0,0,0,0,0,0]
def g44{α:Type}(m:Nat):S_g44 α:=
 g44b (g44l0M m)
def g44tp:List TP:=[(.vl (.agg [(.seq uU 6)])),tI]
def g44bp:List BP:=[]
def g44K{α:Type}(G:S_g44 α)(ls:List Lf)(k:KRe α):Option α:=
 G ((lf ls 0).lst uU) (lf ls 1).int
  (fun a=>k (.vl (.agg [(.seq uU 6 a)])) [] [])
def g44R{α:Type}(G:S_g44 α):=rowK g44tp g44bp (g44K G)
def g44hd(L44l0:Al S_g44l0):Hd where
 call:=fun f args Bs k=>none
 loop:=fun id st k=>cond (Nat.beq id 0) (loopH g44l0D (g44l0K L44l0) st k) (none)
 ro:=fun f=>[]
def g44h(m:Nat):Hd:=g44hd (g44l0M m)
theorem g44l0Step(L44l0:Al S_g44l0){α:Type}(L:S_g44l0 α)(ls:List Lf)(k:KEx α):
  g44l0K (fun a b c d e h i=>g44l0b a b c d e (L a b c d e) h i) ls k=ev tab (g44hd L44l0) (bodyAt Tryz.f44 0) (atHead g44l0D ls) (loopK g44l0D 0 (loopH g44l0D (g44l0K L)) k):=by kernel_rfl
theorem g44Main(L44l0:Al S_g44l0){α:Type}(ls:List Lf)(k:KRe α):
  g44K (g44b L44l0) ls k=evFun tab (g44hd L44l0) Tryz.f44 (fT g44tp ls) (fB g44tp g44bp ls) k:=by kernel_rfl
theorem g44Calls(m:Nat):(g44h m).CallsOk Tryz.prog:=cok_nil
theorem g44l0Ok(m:Nat)(α:Type)(st:St)(k:KEx α)(r:α)(h:(g44h m).loop 0 st k=some r):
  LoopS Tryz.prog 0 (bodyAt Tryz.f44 0) st k r:=
 lpk (F:=fun n ls k=>g44l0K (fun a b c d e i j=>g44l0 a b c d e n i j) ls k) (g44Calls m) (lb0 (by kernel_rfl))
  (fun _ _=>rfl) (fun n ls k=>g44l0Step (g44l0M m) (fun a b c d e=>g44l0 a b c d e n) ls k) (n:=m) h
theorem g44Ok(m:Nat):RowOk Tryz.prog 44 (fun{α}=>g44R (g44 m (α:=α))):=
 rwk (g44Calls m) (lo1 (by kernel_rfl) (g44l0Ok m))
  (fun _=>g44Main (g44l0M m))
abbrev S_g42(α:Type):Type:=Bool→(List Int)→Int→Bool→(Bool→(List Int)→Bool→Option α)→Option α
def g42b{α:Type}(G72:Al S_g72)(G44:Al S_g44)(G73:Al S_g73)(a:Bool)(b:List Int)(c:Int)(d:Bool)(e:Bool→(List Int)→Bool→Option α):Option α:=cond (decide (c>(191:Int))) (e false [0,0,0,0,0,0] true) (G72 b (fun h=>cond (decide ((IntKind.wrap .i64 (h+c))>(192:Int))) (e false [0,0,0,0,0,0] true) (G44 b c (fun i=>G73 a i (fun j=>e j i d)))))
def g42{α:Type}(m:Nat):S_g42 α:=
 g42b (g72 m) (g44 m) (g73 m)
def g42tp:List TP:=[(.vl (.sv (.ptr 0 0))),vW,tI]
def g42bp:List BP:=[(true,[(.one .bool)])]
def g42K{α:Type}(G:S_g42 α)(ls:List Lf)(k:KRe α):Option α:=
 G (lf ls 0).bool ((lf ls 1).lst uU) (lf ls 2).int (lf ls 3).bool
  (fun a b c=>k (.vl (.agg [(.one (.bool a)),(.seq uU 6 b)])) [[(.one (.bool c))]] [])
def g42R{α:Type}(G:S_g42 α):=rowK g42tp g42bp (g42K G)
def g42hd(G72:Al S_g72)(G44:Al S_g44)(G73:Al S_g73):Hd where
 call:=fun f args Bs k=>cond (Nat.beq f 72) (g72R G72 args Bs k) (cond (Nat.beq f 44) (g44R G44 args Bs k) (cond (Nat.beq f 73) (g73R G73 args Bs k) (none)))
 loop:=fun id st k=>none
 ro:=fun f=>[]
def g42h(m:Nat):Hd:=g42hd (g72 m) (g44 m) (g73 m)
theorem g42Main(G72:Al S_g72)(G44:Al S_g44)(G73:Al S_g73){α:Type}(ls:List Lf)(k:KRe α):
  g42K (g42b G72 G44 G73) ls k=evFun tab (g42hd G72 G44 G73) Tryz.f42 (fT g42tp ls) (fB g42tp g42bp ls) k:=by kernel_rfl
theorem g42Calls(m:Nat):(g42h m).CallsOk Tryz.prog:=(cok_cons (g72Ok m) (cok_cons (g44Ok m) (cok_cons (g73Ok m) cok_nil)))
theorem g42Ok(m:Nat):RowOk Tryz.prog 42 (fun{α}=>g42R (g42 m (α:=α))):=
 rwk (g42Calls m) (lo0 (by kernel_rfl))
  (fun _=>g42Main (g72 m) (g44 m) (g73 m))
abbrev S_g85(α:Type):Type:=(List Int)→(List Int)→((List Int)→Bool→Option α)→Option α
abbrev S_g85l2(α:Type):Type:=Int→Int→(List Int)→Int→(List Int)→(List Int)→(List Int)→(Int→(List Int)→Option α)→Int→Int→(List Int)→Option α
def g85l2b{α:Type}(a b:Int)(c:List Int)(d:Int)(e h i:List Int)(j:Int→(List Int)→Option α)(l:Int→Int→(List Int)→Option α)(n o:Int)(p:List Int):Option α:=cond (decide (o<(6:Int))) (if 0≤o∧o<(6:Nat) then let q:Int:=IntKind.wrap .i64 (a+o);if 0≤q∧q<(12:Nat) then if q.toNat<12 then let r:Int:=IntKind.wrap .u64 (n+(IntKind.wrap .u64 ((IntKind.wrap .u64 ((IntKind.wrap .u64 b)*(IntKind.wrap .u64 (List.getD e o.toNat 0))))+(IntKind.wrap .u64 (List.getD p q.toNat 0)))));let s:Int:=IntKind.wrap .i64 (a+o);if 0≤s∧s<(12:Nat) then if s.toNat<12 then l (Int.fdiv r (2^32)) (IntKind.wrap .i64 (o+(1:Int))) (List.set p (s.toNat) (IntKind.wrap .u32 r)) else none else none else none else none else none) (j n p)
def g85l2{α:Type}(a b:Int)(c:List Int)(d:Int)(e h i:List Int)(j:Int→(List Int)→Option α):Nat→Int→Int→(List Int)→Option α
 |0=>fun _ _ _=>none
 |m+1=>fun l n o=>g85l2b a b c d e h i j (g85l2 a b c d e h i j m) l n o
def g85l2M{α:Type}(m:Nat):S_g85l2 α:=
 fun a b c d e h i j l n o=>g85l2 a b c d e h i j m l n o
def g85l2D:LoopD:={n:=66,low:=[],sl:=[3,4,6,7,8,9,14,15,19,20],bl:=[1000000,1000001,1000002],tp:=[(.vl (.sv (.ptr 1000000 0))),(.vl (.sv (.ptr 1000001 0))),(.vl (.sv (.ptr 1000002 0))),tI,(.vl (.sv (.int .u32))),(.vl (.sv (.int .u64))),(.vl (.agg [(.seq uU 6)])),tI,(.vl (.agg [(.seq uU 6)])),tI],bp:=[b6,b6,(true,[(.seq uU 12)])],xs:=[(4,[3,4,6,7,9,14,15])]}
def g85l2K{α:Type}(L:S_g85l2 α)(ls:List Lf)(k:KEx α):Option α:=
 L (lf ls 0).int (lf ls 1).int ((lf ls 3).lst uU) (lf ls 4).int ((lf ls 5).lst uU) ((lf ls 7).lst uU) ((lf ls 8).lst uU)
  (fun a b=>k .normal (mkSt 66 [3,4,6,7,9,14,15] [(.vl (.sv (.ptr 1000000 0))),(.vl (.sv (.ptr 1000001 0))),(.vl (.sv (.ptr 1000002 0))),(.vl (.sv (.int .i64 (lf ls 0).int))),(.vl (.sv (.int .u64 a))),(.vl (.agg [(.seq uU 6 ((lf ls 3).lst uU))])),(.vl (.sv (.int .i64 (lf ls 4).int)))] [1000000,1000001,1000002] [(true,[(.seq uU 6 ((lf ls 7).lst uU))]),(true,[(.seq uU 6 ((lf ls 8).lst uU))]),(true,[(.seq uU 12 b)])]))
  (lf ls 2).int (lf ls 6).int ((lf ls 9).lst uU)
abbrev S_g85l0(α:Type):Type:=(List Int)→(List Int)→(List Int)→((List Int)→Option α)→Int→(List Int)→Option α
def g85l0b{α:Type}(L85l2:Al S_g85l2)(a b c:List Int)(d:(List Int)→Option α)(e:Int→(List Int)→Option α)(h:Int)(i:List Int):Option α:=cond (decide (h<(6:Int))) (if 0≤h∧h<(6:Nat) then L85l2 h (List.getD a h.toNat 0) a h b b c (fun j l=>let n:Int:=IntKind.wrap .i64 (h+(6:Int));if 0≤n∧n<(12:Nat) then if n.toNat<12 then e (IntKind.wrap .i64 (h+(1:Int))) (List.set l (n.toNat) (IntKind.wrap .u32 j)) else none else none) (0:Int) (0:Int) i else none) (d i)
def g85l0{α:Type}(L85l2:Al S_g85l2)(a b c:List Int)(d:(List Int)→Option α):Nat→Int→(List Int)→Option α
 |0=>fun _ _=>none
 |m+1=>fun e h=>g85l0b L85l2 a b c d (g85l0 L85l2 a b c d m) e h
def g85l0M{α:Type}(m:Nat):S_g85l0 α:=
 fun a b c d e h=>g85l0 (g85l2M m) a b c d m e h
def g85l0D:LoopD:={n:=66,low:=[],sl:=[3,4,6,14,15],bl:=[1000000,1000001,1000002],tp:=[(.vl (.sv (.ptr 1000000 0))),(.vl (.sv (.ptr 1000001 0))),(.vl (.sv (.ptr 1000002 0))),(.vl (.agg [(.seq uU 6)])),tI],bp:=[b6,b6,(true,[(.seq uU 12)])],xs:=[(2,[4,6])]}
def g85l0K{α:Type}(L:S_g85l0 α)(ls:List Lf)(k:KEx α):Option α:=
 L ((lf ls 0).lst uU) ((lf ls 2).lst uU) ((lf ls 3).lst uU)
  (fun a=>k .normal (mkSt 66 [4,6] [(.vl (.sv (.ptr 1000000 0))),(.vl (.sv (.ptr 1000001 0)))] [1000000,1000001] [(true,[(.seq uU 6 ((lf ls 3).lst uU))]),(true,[(.seq uU 12 a)])]))
  (lf ls 1).int ((lf ls 4).lst uU)
abbrev S_g85l4(α:Type):Type:=Nat→Nat→Nat→Int→(List Int)→(List Int)→((List Int)→Option α)→(Option α)→Int→Option α
def g85l4b{α:Type}(a b c:Nat)(d:Int)(e h:List Int)(i:(List Int)→Option α)(j:Option α)(l:Int→Option α)(n:Int):Option α:=cond (decide (n<d)) (if 0≤n∧n<(b:Nat) then if(a+n.toNat)<12 then cond ((List.getD h (a+n.toNat) 0) !=(0:Int)) (i [0,0,0,0,0,0]) (l (IntKind.wrap .i64 (n+(1:Int)))) else none else none) (j)
def g85l4{α:Type}(a b c:Nat)(d:Int)(e h:List Int)(i:(List Int)→Option α)(j:Option α):Nat→Int→Option α
 |0=>fun _=>none
 |m+1=>fun l=>g85l4b a b c d e h i j (g85l4 a b c d e h i j m) l
def g85l4M{α:Type}(m:Nat):S_g85l4 α:=
 fun a b c d e h i j l=>g85l4 a b c d e h i j m l
def g85l4D:LoopD:={n:=66,low:=[],sl:=[4,6,53,54,55],bl:=[1000000,1000001],tp:=[(.vl (.sv (.ptr 1000000 0))),(.vl (.sv (.ptr 1000001 0))),(.vl (.sv (.slc 1000001 0 1))),tI,tI],bp:=[b6,(true,[(.seq uU 12)])],xs:=[(1,[4,5]),(6,[4,6])]}
def g85l4K{α:Type}(L:S_g85l4 α)(ls:List Lf)(k:KEx α):Option α:=
 L (lf ls 0).nat (lf ls 1).nat (lf ls 2).nat (lf ls 3).int ((lf ls 5).lst uU) ((lf ls 6).lst uU)
  (fun a=>k .ret (mkSt 66 [4,5] [(.vl (.sv (.ptr 1000000 0))),(.vl (.sv (.bool true)))] [1000000] [(true,[(.seq uU 6 a)])]))
  (k .normal (mkSt 66 [4,6] [(.vl (.sv (.ptr 1000000 0))),(.vl (.sv (.ptr 1000001 0)))] [1000000,1000001] [(true,[(.seq uU 6 ((lf ls 5).lst uU))]),(true,[(.seq uU 12 ((lf ls 6).lst uU))])]))
  (lf ls 4).int
def g85b{α:Type}(L85l2:Al S_g85l2)(L85l0:Al S_g85l0)(L85l4:Al S_g85l4)(a b:List Int)(c:(List Int)→Bool→Option α):Option α:=L85l0 a b [0,0,0,0,0,0] (fun d=>L85l4 6 6 6 (6:Int) [0,0,0,0,0,0] d (fun e=>c e true) (c (List.take 6 (List.drop 0 d)) false) (0:Int)) (0:Int) [0,0,0,0,0,0,0,0,0,0,0,0]
def g85{α:Type}(m:Nat):S_g85 α:=
 g85b (g85l2M m) (g85l0M m) (g85l4M m)
def g85tp:List TP:=[(.vl (.agg [(.seq uU 6)])),(.vl (.agg [(.seq uU 6)]))]
def g85bp:List BP:=[]
def g85K{α:Type}(G:S_g85 α)(ls:List Lf)(k:KRe α):Option α:=
 G ((lf ls 0).lst uU) ((lf ls 1).lst uU)
  (fun a b=>k (.tup [(.agg [(.seq uU 6 a)]),(.sv (.bool b))]) [] [])
def g85R{α:Type}(G:S_g85 α):=rowK g85tp g85bp (g85K G)
def g85hd(L85l2:Al S_g85l2)(L85l0:Al S_g85l0)(L85l4:Al S_g85l4):Hd where
 call:=fun f args Bs k=>none
 loop:=fun id st k=>cond (Nat.beq id 2) (loopH g85l2D (g85l2K L85l2) st k) (cond (Nat.beq id 0) (loopH g85l0D (g85l0K L85l0) st k) (cond (Nat.beq id 4) (loopH g85l4D (g85l4K L85l4) st k) (none)))
 ro:=fun f=>[]
def g85h(m:Nat):Hd:=g85hd (g85l2M m) (g85l0M m) (g85l4M m)
theorem g85l2Step(L85l2:Al S_g85l2)(L85l0:Al S_g85l0)(L85l4:Al S_g85l4){α:Type}(L:S_g85l2 α)(ls:List Lf)(k:KEx α):
  g85l2K (fun a b c d e h i j l n o=>g85l2b a b c d e h i j (L a b c d e h i j) l n o) ls k=ev tab (g85hd L85l2 L85l0 L85l4) (bodyAt Tryz.f85 2) (atHead g85l2D ls) (loopK g85l2D 2 (loopH g85l2D (g85l2K L)) k):=by kernel_rfl
theorem g85l0Step(L85l2:Al S_g85l2)(L85l0:Al S_g85l0)(L85l4:Al S_g85l4){α:Type}(L:S_g85l0 α)(ls:List Lf)(k:KEx α):
  g85l0K (fun a b c d e h=>g85l0b L85l2 a b c d (L a b c d) e h) ls k=ev tab (g85hd L85l2 L85l0 L85l4) (bodyAt Tryz.f85 0) (atHead g85l0D ls) (loopK g85l0D 0 (loopH g85l0D (g85l0K L)) k):=by kernel_rfl
theorem g85l4Step(L85l2:Al S_g85l2)(L85l0:Al S_g85l0)(L85l4:Al S_g85l4){α:Type}(L:S_g85l4 α)(ls:List Lf)(k:KEx α):
  g85l4K (fun a b c d e h i j l=>g85l4b a b c d e h i j (L a b c d e h i j) l) ls k=ev tab (g85hd L85l2 L85l0 L85l4) (bodyAt Tryz.f85 4) (atHead g85l4D ls) (loopK g85l4D 4 (loopH g85l4D (g85l4K L)) k):=by kernel_rfl
theorem g85Main(L85l2:Al S_g85l2)(L85l0:Al S_g85l0)(L85l4:Al S_g85l4){α:Type}(ls:List Lf)(k:KRe α):
  g85K (g85b L85l2 L85l0 L85l4) ls k=evFun tab (g85hd L85l2 L85l0 L85l4) Tryz.f85 (fT g85tp ls) (fB g85tp g85bp ls) k:=by kernel_rfl
theorem g85Calls(m:Nat):(g85h m).CallsOk Tryz.prog:=cok_nil
theorem g85l2Ok(m:Nat)(α:Type)(st:St)(k:KEx α)(r:α)(h:(g85h m).loop 2 st k=some r):
  LoopS Tryz.prog 2 (bodyAt Tryz.f85 2) st k r:=
 lpk (F:=fun n ls k=>g85l2K (fun a b c d e i j l o q s=>g85l2 a b c d e i j l n o q s) ls k) (g85Calls m) (lb0 (by kernel_rfl))
  (fun _ _=>rfl) (fun n ls k=>g85l2Step (g85l2M m) (g85l0M m) (g85l4M m) (fun a b c d e i j l=>g85l2 a b c d e i j l n) ls k) (n:=m) h
theorem g85l0Ok(m:Nat)(α:Type)(st:St)(k:KEx α)(r:α)(h:(g85h m).loop 0 st k=some r):
  LoopS Tryz.prog 0 (bodyAt Tryz.f85 0) st k r:=
 lpk (F:=fun n ls k=>g85l0K (fun a b c d e i=>g85l0 (g85l2M m) a b c d n e i) ls k) (g85Calls m) (loopsOk_of _ (fun p hp=>by
  rw[show loopsOf (bodyAt Tryz.f85 0)=[(2,bodyAt Tryz.f85 2)] by kernel_rfl] at hp
  simp only[List.mem_cons,List.not_mem_nil,or_false] at hp
  rcases hp with rfl
  exact g85l2Ok m))
  (fun _ _=>rfl) (fun n ls k=>g85l0Step (g85l2M m) (g85l0M m) (g85l4M m) (fun a b c d=>g85l0 (g85l2M m) a b c d n) ls k) (n:=m) h
theorem g85l4Ok(m:Nat)(α:Type)(st:St)(k:KEx α)(r:α)(h:(g85h m).loop 4 st k=some r):
  LoopS Tryz.prog 4 (bodyAt Tryz.f85 4) st k r:=
 lpk (F:=fun n ls k=>g85l4K (fun a b c d e i j l o=>g85l4 a b c d e i j l n o) ls k) (g85Calls m) (lb0 (by kernel_rfl))
  (fun _ _=>rfl) (fun n ls k=>g85l4Step (g85l2M m) (g85l0M m) (g85l4M m) (fun a b c d e i j l=>g85l4 a b c d e i j l n) ls k) (n:=m) h
theorem g85Fn(m:Nat):FnOk Tryz.prog 85 g85tp g85bp (fun{α}=>g85K (g85 m (α:=α))):=
 fn_ok (tab:=tab) (h:=g85h m) (fn:=Tryz.f85) (F:=fun{α}=>g85K (g85 m (α:=α))) tabOk (g85Calls m) mixed (by kernel_rfl) (by kernel_rfl) (fun c hc=>by
  rw[bodyOf_some hc]
  exact loopsOk_of _ (fun p hp=>by
  rw[show loopsOf (bodyOf Tryz.f85)=[(0,bodyAt Tryz.f85 0),(4,bodyAt Tryz.f85 4)] by kernel_rfl] at hp
  simp only[List.mem_cons,List.not_mem_nil,or_false] at hp
  rcases hp with rfl|rfl
  ·exact g85l0Ok m
  ·exact g85l4Ok m))
  (fun _=>g85Main (g85l2M m) (g85l0M m) (g85l4M m))
theorem g85Ok(m:Nat):RowOk Tryz.prog 85 (fun{α}=>g85R (g85 m (α:=α))):=row_of (g85Fn m)
abbrev S_g54(α:Type):Type:=Bool→(List Int)→Bool→(List Int)→Bool→(Bool→(List Int)→Bool→Option α)→Option α
def g54b{α:Type}(G85:Al S_g85)(G73:Al S_g73)(a:Bool)(b:List Int)(c:Bool)(d:List Int)(e:Bool)(h:Bool→(List Int)→Bool→Option α):Option α:=G85 b d (fun i j=>cond e (G73 (!(a==c)) i (fun l=>h l i true)) (G73 (!(a==c)) i (fun n=>h n i j)))
def g54{α:Type}(m:Nat):S_g54 α:=
 g54b (g85 m) (g73 m)
def g54tp:List TP:=[(.vl (.sv (.ptr 0 0))),vW,vW]
def g54bp:List BP:=[(true,[(.one .bool)])]
def g54K{α:Type}(G:S_g54 α)(ls:List Lf)(k:KRe α):Option α:=
 G (lf ls 0).bool ((lf ls 1).lst uU) (lf ls 2).bool ((lf ls 3).lst uU) (lf ls 4).bool
  (fun a b c=>k (.vl (.agg [(.one (.bool a)),(.seq uU 6 b)])) [[(.one (.bool c))]] [])
def g54R{α:Type}(G:S_g54 α):=rowK g54tp g54bp (g54K G)
def g54hd(G85:Al S_g85)(G73:Al S_g73):Hd where
 call:=fun f args Bs k=>cond (Nat.beq f 85) (g85R G85 args Bs k) (cond (Nat.beq f 73) (g73R G73 args Bs k) (none))
 loop:=fun id st k=>none
 ro:=fun f=>[]
def g54h(m:Nat):Hd:=g54hd (g85 m) (g73 m)
theorem g54Main(G85:Al S_g85)(G73:Al S_g73){α:Type}(ls:List Lf)(k:KRe α):
  g54K (g54b G85 G73) ls k=evFun tab (g54hd G85 G73) Tryz.f54 (fT g54tp ls) (fB g54tp g54bp ls) k:=by kernel_rfl
theorem g54Calls(m:Nat):(g54h m).CallsOk Tryz.prog:=(cok_cons (g85Ok m) (cok_cons (g73Ok m) cok_nil))
theorem g54Ok(m:Nat):RowOk Tryz.prog 54 (fun{α}=>g54R (g54 m (α:=α))):=
 rwk (g54Calls m) (lo0 (by kernel_rfl))
  (fun _=>g54Main (g85 m) (g73 m))
abbrev S_g105(α:Type):Type:=(List Int)→Int→((List Int)→Option α)→Option α
abbrev S_g105l0(α:Type):Type:=Int→Int→(List Int)→(List Int)→((List Int)→Option α)→Int→(List Int)→Option α
def g105l0b{α:Type}(a b:Int)(c d:List Int)(e:(List Int)→Option α)(h:Int→(List Int)→Option α)(i:Int)(j:List Int):Option α:=cond (decide ((IntKind.wrap .i64 (i+a))<(6:Int))) (let l:Int:=IntKind.wrap .i64 (i+a);if 0≤l∧l<(6:Nat) then if l.toNat<6 then if b<0 then none else if 0≤i∧i<(6:Nat) then if i.toNat<6 then let n:List Int:=List.set j (i.toNat) (Int.fdiv (List.getD c l.toNat 0) (2^(min b.toNat 32)));cond (decide (b>(0:Int))) (cond (decide ((IntKind.wrap .i64 ((IntKind.wrap .i64 (i+a))+(1:Int)))<(6:Int))) (if 0≤i∧i<(6:Nat) then if i.toNat<6 then let o:Int:=IntKind.wrap .i64 ((IntKind.wrap .i64 (i+a))+(1:Int));if 0≤o∧o<(6:Nat) then if o.toNat<6 then let p:Int:=IntKind.wrap .i64 ((32:Int)-b);if p<0 then none else if 0≤i∧i<(6:Nat) then if i.toNat<6 then h (IntKind.wrap .i64 (i+(1:Int))) (List.set n (i.toNat) (ibits .or .u32 (List.getD n i.toNat 0) (IntKind.wrap .u32 ((List.getD c o.toNat 0)*2^(min p.toNat 32))))) else none else none else none else none else none else none) (h (IntKind.wrap .i64 (i+(1:Int))) n)) (h (IntKind.wrap .i64 (i+(1:Int))) n) else none else none else none else none) (e j)
def g105l0{α:Type}(a b:Int)(c d:List Int)(e:(List Int)→Option α):Nat→Int→(List Int)→Option α
 |0=>fun _ _=>none
 |m+1=>fun h i=>g105l0b a b c d e (g105l0 a b c d e m) h i
def g105l0M{α:Type}(m:Nat):S_g105l0 α:=
 fun a b c d e h i=>g105l0 a b c d e m h i
def g105l0D:LoopD:={n:=53,low:=[],sl:=[2,4,5,6,7,8],bl:=[1000000,1000001,1000002],tp:=[(.vl (.sv (.ptr 1000000 0))),(.vl (.sv (.ptr 1000001 0))),(.vl (.sv (.ptr 1000002 0))),tI,tI,tI],bp:=[b6,b6,b6],xs:=[(2,[4,5])]}
def g105l0K{α:Type}(L:S_g105l0 α)(ls:List Lf)(k:KEx α):Option α:=
 L (lf ls 0).int (lf ls 1).int ((lf ls 3).lst uU) ((lf ls 4).lst uU)
  (fun a=>k .normal (mkSt 53 [4,5] [(.vl (.sv (.ptr 1000000 0))),(.vl (.sv (.ptr 1000001 0)))] [1000000,1000001] [(true,[(.seq uU 6 ((lf ls 4).lst uU))]),(true,[(.seq uU 6 a)])]))
  (lf ls 2).int ((lf ls 5).lst uU)
def g105b{α:Type}(L105l0:Al S_g105l0)(a:List Int)(b:Int)(c:(List Int)→Option α):Option α:=L105l0 (IntKind.wrap .i64 (Int.tdiv b (32:Int))) (Int.tmod b (32:Int)) a [0,0,0,0,0,0] (fun d=>c d) (0:Int) [0,0,0,0,0,0]
def g105{α:Type}(m:Nat):S_g105 α:=
 g105b (g105l0M m)
def g105tp:List TP:=[(.vl (.agg [(.seq uU 6)])),tI]
def g105bp:List BP:=[]
def g105K{α:Type}(G:S_g105 α)(ls:List Lf)(k:KRe α):Option α:=
 G ((lf ls 0).lst uU) (lf ls 1).int
  (fun a=>k (.vl (.agg [(.seq uU 6 a)])) [] [])
def g105R{α:Type}(G:S_g105 α):=rowK g105tp g105bp (g105K G)
def g105hd(L105l0:Al S_g105l0):Hd where
 call:=fun f args Bs k=>none
 loop:=fun id st k=>cond (Nat.beq id 0) (loopH g105l0D (g105l0K L105l0) st k) (none)
 ro:=fun f=>[]
def g105h(m:Nat):Hd:=g105hd (g105l0M m)
theorem g105l0Step(L105l0:Al S_g105l0){α:Type}(L:S_g105l0 α)(ls:List Lf)(k:KEx α):
  g105l0K (fun a b c d e h i=>g105l0b a b c d e (L a b c d e) h i) ls k=ev tab (g105hd L105l0) (bodyAt Tryz.f105 0) (atHead g105l0D ls) (loopK g105l0D 0 (loopH g105l0D (g105l0K L)) k):=by kernel_rfl
theorem g105Main(L105l0:Al S_g105l0){α:Type}(ls:List Lf)(k:KRe α):
  g105K (g105b L105l0) ls k=evFun tab (g105hd L105l0) Tryz.f105 (fT g105tp ls) (fB g105tp g105bp ls) k:=by kernel_rfl
theorem g105Calls(m:Nat):(g105h m).CallsOk Tryz.prog:=cok_nil
theorem g105l0Ok(m:Nat)(α:Type)(st:St)(k:KEx α)(r:α)(h:(g105h m).loop 0 st k=some r):
  LoopS Tryz.prog 0 (bodyAt Tryz.f105 0) st k r:=
 lpk (F:=fun n ls k=>g105l0K (fun a b c d e i j=>g105l0 a b c d e n i j) ls k) (g105Calls m) (lb0 (by kernel_rfl))
  (fun _ _=>rfl) (fun n ls k=>g105l0Step (g105l0M m) (fun a b c d e=>g105l0 a b c d e n) ls k) (n:=m) h
theorem g105Ok(m:Nat):RowOk Tryz.prog 105 (fun{α}=>g105R (g105 m (α:=α))):=
 rwk (g105Calls m) (lo1 (by kernel_rfl) (g105l0Ok m))
  (fun _=>g105Main (g105l0M m))
abbrev S_g43(α:Type):Type:=((List Int)→Option α)→Option α
def g43b{α:Type}(a:(List Int)→Option α):Option α:=a [(1:Int),0,0,0,0,0]
def g43{α:Type}(m:Nat):S_g43 α:=
 g43b
def g43tp:List TP:=[]
def g43bp:List BP:=[]
def g43K{α:Type}(G:S_g43 α)(ls:List Lf)(k:KRe α):Option α:=
 G
  (fun a=>k (.vl (.agg [(.seq uU 6 a)])) [] [])
def g43R{α:Type}(G:S_g43 α):=rowK g43tp g43bp (g43K G)
def g43hd:Hd where
 call:=fun f args Bs k=>none
 loop:=fun id st k=>none
 ro:=fun f=>[]
def g43h(m:Nat):Hd:=g43hd
theorem g43Main{α:Type}(ls:List Lf)(k:KRe α):
  g43K (g43b) ls k=evFun tab (g43hd) Tryz.f43 (fT g43tp ls) (fB g43tp g43bp ls) k:=by kernel_rfl
theorem g43Calls(m:Nat):(g43h m).CallsOk Tryz.prog:=cok_nil
theorem g43Ok(m:Nat):RowOk Tryz.prog 43 (fun{α}=>g43R (g43 m (α:=α))):=
 rwk (g43Calls m) (lo0 (by kernel_rfl))
  (fun _=>g43Main)
abbrev S_g74(α:Type):Type:=Bool→(List Int)→Int→Bool→(Bool→(List Int)→Bool→Option α)→Option α
def g74b{α:Type}(G105:Al S_g105)(G43:Al S_g43)(G44:Al S_g44)(G84:Al S_g84)(G46:Al S_g46)(G45:Al S_g45)(G73:Al S_g73)(a:Bool)(b:List Int)(c:Int)(d:Bool)(e:Bool→(List Int)→Bool→Option α):Option α:=cond (decide (c>(191:Int))) (e false [0,0,0,0,0,0] true) (G105 b c (fun h=>cond (c==(0:Int)) (e a b d) (G43 (fun i=>G44 i (IntKind.wrap .i64 (c-(1:Int))) (fun j=>G44 h c (fun l=>G84 b l (fun n=>G46 n j (fun o=>cond (decide (o>(0:Int))) (G43 (fun p=>G45 h p (fun q r=>G73 a q (fun s=>e s q d)))) (cond (o==(0:Int)) (cond (!a) (G43 (fun t=>G45 h t (fun u v=>G73 a u (fun w=>e w u d)))) (G73 a h (fun x=>e x h d))) (G73 a h (fun y=>e y h d)))))))))))
def g74{α:Type}(m:Nat):S_g74 α:=
 g74b (g105 m) (g43 m) (g44 m) (g84 m) (g46 m) (g45 m) (g73 m)
abbrev S_g116(α:Type):Type:=(List Int)→Int→((List Int)→Int→Option α)→Option α
abbrev S_g116l0(α:Type):Type:=Int→(List Int)→(Int→(List Int)→Option α)→Int→Int→(List Int)→Option α
def g116l0b{α:Type}(a:Int)(b:List Int)(c:Int→(List Int)→Option α)(d:Int→Int→(List Int)→Option α)(e h:Int)(i:List Int):Option α:=cond (decide (h≥(0:Int))) (if 0≤h∧h<(6:Nat) then if h.toNat<6 then let j:Int:=ibits .or .u64 (IntKind.wrap .u64 (e*2^32)) (IntKind.wrap .u64 (List.getD i h.toNat 0));let l:Int:=IntKind.wrap .u64 a;if l=0 then none else if 0≤h∧h<(6:Nat) then if h.toNat<6 then let n:Int:=IntKind.wrap .u64 a;if n=0 then none else d (Int.tmod j n) (IntKind.wrap .i64 (h-(1:Int))) (List.set i (h.toNat) (IntKind.wrap .u32 (IntKind.wrap .u64 (Int.tdiv j l)))) else none else none else none else none) (c e i)
def g116l0{α:Type}(a:Int)(b:List Int)(c:Int→(List Int)→Option α):Nat→Int→Int→(List Int)→Option α
 |0=>fun _ _ _=>none
 |m+1=>fun d e h=>g116l0b a b c (g116l0 a b c m) d e h
def g116l0M{α:Type}(m:Nat):S_g116l0 α:=
 fun a b c d e h=>g116l0 a b c m d e h
def g116l0D:LoopD:={n:=33,low:=[],sl:=[1,2,4,6,7],bl:=[1000000,1000001],tp:=[(.vl (.sv (.int .u32))),(.vl (.sv (.ptr 1000000 0))),(.vl (.sv (.ptr 1000001 0))),(.vl (.sv (.int .u64))),tI],bp:=[b6,b6],xs:=[(2,[2,4,6])]}
def g116l0K{α:Type}(L:S_g116l0 α)(ls:List Lf)(k:KEx α):Option α:=
 L (lf ls 0).int ((lf ls 4).lst uU)
  (fun a b=>k .normal (mkSt 33 [2,4,6] [(.vl (.sv (.ptr 1000000 0))),(.vl (.sv (.ptr 1000001 0))),(.vl (.sv (.int .u64 a)))] [1000000,1000001] [(true,[(.seq uU 6 b)]),(true,[(.seq uU 6 ((lf ls 4).lst uU))])]))
  (lf ls 1).int (lf ls 2).int ((lf ls 3).lst uU)
def g116b{α:Type}(L116l0:Al S_g116l0)(a:List Int)(b:Int)(c:(List Int)→Int→Option α):Option α:=L116l0 b [0,0,0,0,0,0] (fun d e=>c e (IntKind.wrap .u32 d)) (0:Int) (5:Int) a
def g116{α:Type}(m:Nat):S_g116 α:=
 g116b (g116l0M m)
def g116tp:List TP:=[(.vl (.agg [(.seq uU 6)])),(.vl (.sv (.int .u32)))]
def g116bp:List BP:=[]
def g116K{α:Type}(G:S_g116 α)(ls:List Lf)(k:KRe α):Option α:=
 G ((lf ls 0).lst uU) (lf ls 1).int
  (fun a b=>k (.tup [(.agg [(.seq uU 6 a)]),(.sv (.int .u32 b))]) [] [])
def g116R{α:Type}(G:S_g116 α):=rowK g116tp g116bp (g116K G)
def g116hd(L116l0:Al S_g116l0):Hd where
 call:=fun f args Bs k=>none
 loop:=fun id st k=>cond (Nat.beq id 0) (loopH g116l0D (g116l0K L116l0) st k) (none)
 ro:=fun f=>[]
def g116h(m:Nat):Hd:=g116hd (g116l0M m)
theorem g116l0Step(L116l0:Al S_g116l0){α:Type}(L:S_g116l0 α)(ls:List Lf)(k:KEx α):
  g116l0K (fun a b c d e h=>g116l0b a b c (L a b c) d e h) ls k=ev tab (g116hd L116l0) (bodyAt Tryz.f116 0) (atHead g116l0D ls) (loopK g116l0D 0 (loopH g116l0D (g116l0K L)) k):=by kernel_rfl
theorem g116Main(L116l0:Al S_g116l0){α:Type}(ls:List Lf)(k:KRe α):
  g116K (g116b L116l0) ls k=evFun tab (g116hd L116l0) Tryz.f116 (fT g116tp ls) (fB g116tp g116bp ls) k:=by kernel_rfl
theorem g116Calls(m:Nat):(g116h m).CallsOk Tryz.prog:=cok_nil
theorem g116l0Ok(m:Nat)(α:Type)(st:St)(k:KEx α)(r:α)(h:(g116h m).loop 0 st k=some r):
  LoopS Tryz.prog 0 (bodyAt Tryz.f116 0) st k r:=
 lpk (F:=fun n ls k=>g116l0K (fun a b c d e i=>g116l0 a b c n d e i) ls k) (g116Calls m) (lb0 (by kernel_rfl))
  (fun _ _=>rfl) (fun n ls k=>g116l0Step (g116l0M m) (fun a b c=>g116l0 a b c n) ls k) (n:=m) h
theorem g116Ok(m:Nat):RowOk Tryz.prog 116 (fun{α}=>g116R (g116 m (α:=α))):=
 rwk (g116Calls m) (lo1 (by kernel_rfl) (g116l0Ok m))
  (fun _=>g116Main (g116l0M m))
abbrev S_g129(α:Type):Type:=Int→(Int→Option α)→Option α
def g129b{α:Type}(G104:Al S_g104)(a:Int)(b:Int→Option α):Option α:=G104 a (fun c=>b (IntKind.wrap .i64 ((32:Int)-c)))
def g129{α:Type}(m:Nat):S_g129 α:=
 g129b (g104 m)
def g129tp:List TP:=[(.vl (.sv (.int .u32)))]
def g129bp:List BP:=[]
def g129K{α:Type}(G:S_g129 α)(ls:List Lf)(k:KRe α):Option α:=
 G (lf ls 0).int
  (fun a=>k (.vl (.sv (.int .i64 a))) [] [])
def g129R{α:Type}(G:S_g129 α):=rowK g129tp g129bp (g129K G)
def g129hd(G104:Al S_g104):Hd where
 call:=fun f args Bs k=>cond (Nat.beq f 104) (g104R G104 args Bs k) (none)
 loop:=fun id st k=>none
 ro:=fun f=>[]
def g129h(m:Nat):Hd:=g129hd (g104 m)
theorem g129Main(G104:Al S_g104){α:Type}(ls:List Lf)(k:KRe α):
  g129K (g129b G104) ls k=evFun tab (g129hd G104) Tryz.f129 (fT g129tp ls) (fB g129tp g129bp ls) k:=by kernel_rfl
theorem g129Calls(m:Nat):(g129h m).CallsOk Tryz.prog:=(cok_cons (g104Ok m) cok_nil)
theorem g129Ok(m:Nat):RowOk Tryz.prog 129 (fun{α}=>g129R (g129 m (α:=α))):=
 rwk (g129Calls m) (lo0 (by kernel_rfl))
  (fun _=>g129Main (g104 m))
abbrev S_g130(α:Type):Type:=Nat→Nat→Nat→Nat→Nat→Nat→(List Int)→(List Int)→(Int→(List Int)→Option α)→Option α
abbrev S_g130l0(α:Type):Type:=Nat→Nat→Nat→Nat→Nat→Nat→Int→(List Int)→(List Int)→(Int→Option α)→Int→Int→Option α
def g130l0b{α:Type}(a b:Nat)(c d:Nat)(e h:Nat)(i:Int)(j l:List Int)(n:Int→Option α)(o:Int→Int→Option α)(p q:Int):Option α:=cond ((Int.fdiv p (2^32)) !=(0:Int)) (let r:Int:=IntKind.wrap .u64 (p-(1:Int));let s:Int:=IntKind.wrap .i64 (i-(1:Int));if 0≤s∧s<(e:Nat) then if(d+s.toNat)<6 then let t:Int:=IntKind.wrap .u64 (q+(IntKind.wrap .u64 (List.getD l (d+s.toNat) 0)));cond ((Int.fdiv t (2^32)) !=(0:Int)) (n r) (o r t) else none else none) (let u:Int:=IntKind.wrap .i64 (i-(2:Int));if 0≤u∧u<(e:Nat) then if(d+u.toNat)<6 then let v:Int:=IntKind.wrap .i64 (i-(2:Int));if 0≤v∧v<(b:Nat) then if(a+v.toNat)<7 then cond (decide ((IntKind.wrap .u64 (p*(IntKind.wrap .u64 (List.getD l (d+u.toNat) 0))))>(ibits .or .u64 (IntKind.wrap .u64 (q*2^32)) (IntKind.wrap .u64 (List.getD j (a+v.toNat) 0))))) (let w:Int:=IntKind.wrap .u64 (p-(1:Int));let x:Int:=IntKind.wrap .i64 (i-(1:Int));if 0≤x∧x<(e:Nat) then if(d+x.toNat)<6 then let y:Int:=IntKind.wrap .u64 (q+(IntKind.wrap .u64 (List.getD l (d+x.toNat) 0)));cond ((Int.fdiv y (2^32)) !=(0:Int)) (n w) (o w y) else none else none) (n p) else none else none else none else none)
def g130l0{α:Type}(a b:Nat)(c d:Nat)(e h:Nat)(i:Int)(j l:List Int)(n:Int→Option α):Nat→Int→Int→Option α
 |0=>fun _ _=>none
 |m+1=>fun o p=>g130l0b a b c d e h i j l n (g130l0 a b c d e h i j l n m) o p
def g130l0M{α:Type}(m:Nat):S_g130l0 α:=
 fun a b c d e h i j l n o p=>g130l0 a b c d e h i j l n m o p
def g130l0D:LoopD:={n:=170,low:=[0,1],sl:=[0,1,5,7,8],bl:=[0,1],tp:=[(.vl (.sv (.slc 0 0 1))),(.vl (.sv (.slc 1 0 1))),tI,(.vl (.sv (.int .u64))),(.vl (.sv (.int .u64)))],bp:=[(true,[(.seq uU 7)]),(false,[(.seq uU 6)])],xs:=[(2,[0,1,5,7])]}
def g130l0K{α:Type}(L:S_g130l0 α)(ls:List Lf)(k:KEx α):Option α:=
 L (lf ls 0).nat (lf ls 1).nat (lf ls 2).nat (lf ls 3).nat (lf ls 4).nat (lf ls 5).nat (lf ls 6).int ((lf ls 9).lst uU) ((lf ls 10).lst uU)
  (fun a=>k .normal (mkSt 170 [0,1,5,7] [(.vl (.sv (.slc 0 0 1 (lf ls 0).nat (lf ls 1).nat (lf ls 2).nat))),(.vl (.sv (.slc 1 0 1 (lf ls 3).nat (lf ls 4).nat (lf ls 5).nat))),(.vl (.sv (.int .i64 (lf ls 6).int))),(.vl (.sv (.int .u64 a)))] [0,1] [(true,[(.seq uU 7 ((lf ls 9).lst uU))]),(false,[(.seq uU 6 ((lf ls 10).lst uU))])]))
  (lf ls 7).int (lf ls 8).int
abbrev S_g130l2(α:Type):Type:=Nat→Nat→Nat→Nat→Nat→Nat→Int→Int→Int→(List Int)→(Int→Int→(List Int)→Option α)→Int→Int→Int→(List Int)→Option α
def g130l2b{α:Type}(a b:Nat)(c d:Nat)(e h:Nat)(i j l:Int)(n:List Int)(o:Int→Int→(List Int)→Option α)(p:Int→Int→Int→(List Int)→Option α)(q r s:Int)(t:List Int):Option α:=cond (decide (s<l)) (if 0≤s∧s<(e:Nat) then if(d+s.toNat)<6 then let u:Int:=IntKind.wrap .u64 (r+(IntKind.wrap .u64 (j*(IntKind.wrap .u64 (List.getD n (d+s.toNat) 0)))));if 0≤s∧s<(b:Nat) then if(a+s.toNat)<7 then let v:Int:=IntKind.wrap .u64 ((IntKind.wrap .u64 ((IntKind.wrap .u64 (List.getD t (a+s.toNat) 0))-(ibits .and .u64 u (4294967295:Int))))-q);if 0≤s∧s<(b:Nat) then if(a+s.toNat)<7 then p (Int.fdiv v (2^63)) (Int.fdiv u (2^32)) (IntKind.wrap .i64 (s+(1:Int))) (List.set t (a+s.toNat) (IntKind.wrap .u32 v)) else none else none else none else none else none else none) (o q r t)
def g130l2{α:Type}(a b:Nat)(c d:Nat)(e h:Nat)(i j l:Int)(n:List Int)(o:Int→Int→(List Int)→Option α):Nat→Int→Int→Int→(List Int)→Option α
 |0=>fun _ _ _ _=>none
 |m+1=>fun p q r s=>g130l2b a b c d e h i j l n o (g130l2 a b c d e h i j l n o m) p q r s
def g130l2M{α:Type}(m:Nat):S_g130l2 α:=
 fun a b c d e h i j l n o p q r s=>g130l2 a b c d e h i j l n o m p q r s
def g130l2D:LoopD:={n:=170,low:=[0,1],sl:=[0,1,5,7,9,10,82,83],bl:=[0,1],tp:=[(.vl (.sv (.slc 0 0 1))),(.vl (.sv (.slc 1 0 1))),tI,(.vl (.sv (.int .u64))),(.vl (.sv (.int .u64))),(.vl (.sv (.int .u64))),tI,tI],bp:=[(true,[(.seq uU 7)]),(false,[(.seq uU 6)])],xs:=[(4,[0,1,5,7,9,10])]}
def g130l2K{α:Type}(L:S_g130l2 α)(ls:List Lf)(k:KEx α):Option α:=
 L (lf ls 0).nat (lf ls 1).nat (lf ls 2).nat (lf ls 3).nat (lf ls 4).nat (lf ls 5).nat (lf ls 6).int (lf ls 7).int (lf ls 10).int ((lf ls 13).lst uU)
  (fun a b c=>k .normal (mkSt 170 [0,1,5,7,9,10] [(.vl (.sv (.slc 0 0 1 (lf ls 0).nat (lf ls 1).nat (lf ls 2).nat))),(.vl (.sv (.slc 1 0 1 (lf ls 3).nat (lf ls 4).nat (lf ls 5).nat))),(.vl (.sv (.int .i64 (lf ls 6).int))),(.vl (.sv (.int .u64 (lf ls 7).int))),(.vl (.sv (.int .u64 a))),(.vl (.sv (.int .u64 b)))] [0,1] [(true,[(.seq uU 7 c)]),(false,[(.seq uU 6 ((lf ls 13).lst uU))])]))
  (lf ls 8).int (lf ls 9).int (lf ls 11).int ((lf ls 12).lst uU)
abbrev S_g130l4(α:Type):Type:=Nat→Nat→Nat→Nat→Nat→Nat→Int→Int→Int→(List Int)→(Int→(List Int)→Option α)→Int→Int→(List Int)→Option α
def g130l4b{α:Type}(a b:Nat)(c d:Nat)(e h:Nat)(i j l:Int)(n:List Int)(o:Int→(List Int)→Option α)(p:Int→Int→(List Int)→Option α)(q r:Int)(s:List Int):Option α:=cond (decide (r<l)) (if 0≤r∧r<(b:Nat) then if(a+r.toNat)<7 then if 0≤r∧r<(e:Nat) then if(d+r.toNat)<6 then let t:Int:=IntKind.wrap .u64 (q+(IntKind.wrap .u64 ((IntKind.wrap .u64 (List.getD s (a+r.toNat) 0))+(IntKind.wrap .u64 (List.getD n (d+r.toNat) 0)))));if 0≤r∧r<(b:Nat) then if(a+r.toNat)<7 then p (Int.fdiv t (2^32)) (IntKind.wrap .i64 (r+(1:Int))) (List.set s (a+r.toNat) (IntKind.wrap .u32 t)) else none else none else none else none else none else none) (o q s)
def g130l4{α:Type}(a b:Nat)(c d:Nat)(e h:Nat)(i j l:Int)(n:List Int)(o:Int→(List Int)→Option α):Nat→Int→Int→(List Int)→Option α
 |0=>fun _ _ _=>none
 |m+1=>fun p q r=>g130l4b a b c d e h i j l n o (g130l4 a b c d e h i j l n o m) p q r
def g130l4M{α:Type}(m:Nat):S_g130l4 α:=
 fun a b c d e h i j l n o p q r=>g130l4 a b c d e h i j l n o m p q r
def g130l4D:LoopD:={n:=170,low:=[0,1],sl:=[0,1,5,7,10,134,135],bl:=[0,1],tp:=[(.vl (.sv (.slc 0 0 1))),(.vl (.sv (.slc 1 0 1))),tI,(.vl (.sv (.int .u64))),(.vl (.sv (.int .u64))),tI,tI],bp:=[(true,[(.seq uU 7)]),(false,[(.seq uU 6)])],xs:=[(6,[0,5,7,10])]}
def g130l4K{α:Type}(L:S_g130l4 α)(ls:List Lf)(k:KEx α):Option α:=
 L (lf ls 0).nat (lf ls 1).nat (lf ls 2).nat (lf ls 3).nat (lf ls 4).nat (lf ls 5).nat (lf ls 6).int (lf ls 7).int (lf ls 9).int ((lf ls 12).lst uU)
  (fun a b=>k .normal (mkSt 170 [0,5,7,10] [(.vl (.sv (.slc 0 0 1 (lf ls 0).nat (lf ls 1).nat (lf ls 2).nat))),(.vl (.sv (.int .i64 (lf ls 6).int))),(.vl (.sv (.int .u64 (lf ls 7).int))),(.vl (.sv (.int .u64 a)))] [0,1] [(true,[(.seq uU 7 b)]),(false,[(.seq uU 6 ((lf ls 12).lst uU))])]))
  (lf ls 8).int (lf ls 10).int ((lf ls 11).lst uU)
def g130b{α:Type}(L130l0:Al S_g130l0)(L130l2:Al S_g130l2)(L130l4:Al S_g130l4)(a b:Nat)(c d:Nat)(e h:Nat)(i j:List Int)(l:Int→(List Int)→Option α):Option α:=if 0≤((e:Nat):Int)∧((e:Nat):Int)<(b:Nat) then if(a+((e:Nat):Int).toNat)<7 then let n:Int:=IntKind.wrap .i64 (((e:Nat):Int)-(1:Int));if 0≤n∧n<(b:Nat) then if(a+n.toNat)<7 then let o:Int:=ibits .or .u64 (IntKind.wrap .u64 ((IntKind.wrap .u64 (List.getD i (a+((e:Nat):Int).toNat) 0))*2^32)) (IntKind.wrap .u64 (List.getD i (a+n.toNat) 0));let p:Int:=IntKind.wrap .i64 (((e:Nat):Int)-(1:Int));if 0≤p∧p<(e:Nat) then if(d+p.toNat)<6 then let q:Int:=IntKind.wrap .u64 (List.getD j (d+p.toNat) 0);if q=0 then none else let r:Int:=IntKind.wrap .i64 (((e:Nat):Int)-(1:Int));if 0≤r∧r<(e:Nat) then if(d+r.toNat)<6 then let s:Int:=IntKind.wrap .u64 (List.getD j (d+r.toNat) 0);if s=0 then none else L130l0 a b c d e h ((e:Nat):Int) i j (fun t=>L130l2 a b c d e h ((e:Nat):Int) t ((e:Nat):Int) j (fun u v w=>if 0≤((e:Nat):Int)∧((e:Nat):Int)<(b:Nat) then if(a+((e:Nat):Int).toNat)<7 then let x:Int:=IntKind.wrap .u64 ((IntKind.wrap .u64 ((IntKind.wrap .u64 (List.getD w (a+((e:Nat):Int).toNat) 0))-v))-u);if 0≤((e:Nat):Int)∧((e:Nat):Int)<(b:Nat) then if(a+((e:Nat):Int).toNat)<7 then let y:List Int:=List.set w (a+((e:Nat):Int).toNat) (IntKind.wrap .u32 x);cond ((Int.fdiv x (2^63))==(0:Int)) (l (IntKind.wrap .u32 t) y) (L130l4 a b c d e h ((e:Nat):Int) t ((e:Nat):Int) j (fun z a0=>if 0≤((e:Nat):Int)∧((e:Nat):Int)<(b:Nat) then if(a+((e:Nat):Int).toNat)<7 then if 0≤((e:Nat):Int)∧((e:Nat):Int)<(b:Nat) then if(a+((e:Nat):Int).toNat)<7 then l (IntKind.wrap .u32 (IntKind.wrap .u64 (t-(1:Int)))) (List.set a0 (a+((e:Nat):Int).toNat) (IntKind.wrap .u32 ((List.getD a0 (a+((e:Nat):Int).toNat) 0)+(IntKind.wrap .u32 z)))) else none else none else none else none) (0:Int) (0:Int) y) else none else none else none else none) (0:Int) (0:Int) (0:Int) i) (IntKind.wrap .u64 (Int.tdiv o q)) (Int.tmod o s) else none else none else none else none else none else none else none else none
def g130{α:Type}(m:Nat):S_g130 α:=
 g130b (g130l0M m) (g130l2M m) (g130l4M m)
def g130tp:List TP:=[(.vl (.sv (.slc 0 0 1))),(.vl (.sv (.slc 1 0 1)))]
def g130bp:List BP:=[(true,[(.seq uU 7)]),(false,[(.seq uU 6)])]
def g130K{α:Type}(G:S_g130 α)(ls:List Lf)(k:KRe α):Option α:=
 G (lf ls 0).nat (lf ls 1).nat (lf ls 2).nat (lf ls 3).nat (lf ls 4).nat (lf ls 5).nat ((lf ls 6).lst uU) ((lf ls 7).lst uU)
  (fun a b=>k (.vl (.sv (.int .u32 a))) [[(.seq uU 7 b)],[(.seq uU 6 ((lf ls 7).lst uU))]] [])
def g130R{α:Type}(G:S_g130 α):=rowK g130tp g130bp (g130K G)
def g130hd(L130l0:Al S_g130l0)(L130l2:Al S_g130l2)(L130l4:Al S_g130l4):Hd where
 call:=fun f args Bs k=>none
 loop:=fun id st k=>cond (Nat.beq id 0) (loopH g130l0D (g130l0K L130l0) st k) (cond (Nat.beq id 2) (loopH g130l2D (g130l2K L130l2) st k) (cond (Nat.beq id 4) (loopH g130l4D (g130l4K L130l4) st k) (none)))
 ro:=fun f=>[]
def g130h(m:Nat):Hd:=g130hd (g130l0M m) (g130l2M m) (g130l4M m)
theorem g130l0Step(L130l0:Al S_g130l0)(L130l2:Al S_g130l2)(L130l4:Al S_g130l4){α:Type}(L:S_g130l0 α)(ls:List Lf)(k:KEx α):
  g130l0K (fun a b c d e h i j l n o p=>g130l0b a b c d e h i j l n (L a b c d e h i j l n) o p) ls k=ev tab (g130hd L130l0 L130l2 L130l4) (bodyAt Tryz.f130 0) (atHead g130l0D ls) (loopK g130l0D 0 (loopH g130l0D (g130l0K L)) k):=by kernel_rfl
theorem g130l2Step(L130l0:Al S_g130l0)(L130l2:Al S_g130l2)(L130l4:Al S_g130l4){α:Type}(L:S_g130l2 α)(ls:List Lf)(k:KEx α):
  g130l2K (fun a b c d e h i j l n o p q r s=>g130l2b a b c d e h i j l n o (L a b c d e h i j l n o) p q r s) ls k=ev tab (g130hd L130l0 L130l2 L130l4) (bodyAt Tryz.f130 2) (atHead g130l2D ls) (loopK g130l2D 2 (loopH g130l2D (g130l2K L)) k):=by kernel_rfl
theorem g130l4Step(L130l0:Al S_g130l0)(L130l2:Al S_g130l2)(L130l4:Al S_g130l4){α:Type}(L:S_g130l4 α)(ls:List Lf)(k:KEx α):
  g130l4K (fun a b c d e h i j l n o p q r=>g130l4b a b c d e h i j l n o (L a b c d e h i j l n o) p q r) ls k=ev tab (g130hd L130l0 L130l2 L130l4) (bodyAt Tryz.f130 4) (atHead g130l4D ls) (loopK g130l4D 4 (loopH g130l4D (g130l4K L)) k):=by kernel_rfl
theorem g130Main(L130l0:Al S_g130l0)(L130l2:Al S_g130l2)(L130l4:Al S_g130l4){α:Type}(ls:List Lf)(k:KRe α):
  g130K (g130b L130l0 L130l2 L130l4) ls k=evFun tab (g130hd L130l0 L130l2 L130l4) Tryz.f130 (fT g130tp ls) (fB g130tp g130bp ls) k:=by kernel_rfl
theorem g130Calls(m:Nat):(g130h m).CallsOk Tryz.prog:=cok_nil
theorem g130l0Ok(m:Nat)(α:Type)(st:St)(k:KEx α)(r:α)(h:(g130h m).loop 0 st k=some r):
  LoopS Tryz.prog 0 (bodyAt Tryz.f130 0) st k r:=
 lpk (F:=fun n ls k=>g130l0K (fun a b c d e i j l o q s t=>g130l0 a b c d e i j l o q n s t) ls k) (g130Calls m) (lb0 (by kernel_rfl))
  (fun _ _=>rfl) (fun n ls k=>g130l0Step (g130l0M m) (g130l2M m) (g130l4M m) (fun a b c d e i j l o q=>g130l0 a b c d e i j l o q n) ls k) (n:=m) h
theorem g130l2Ok(m:Nat)(α:Type)(st:St)(k:KEx α)(r:α)(h:(g130h m).loop 2 st k=some r):
  LoopS Tryz.prog 2 (bodyAt Tryz.f130 2) st k r:=
 lpk (F:=fun n ls k=>g130l2K (fun a b c d e i j l o q s t u v w=>g130l2 a b c d e i j l o q s n t u v w) ls k) (g130Calls m) (lb0 (by kernel_rfl))
  (fun _ _=>rfl) (fun n ls k=>g130l2Step (g130l0M m) (g130l2M m) (g130l4M m) (fun a b c d e i j l o q s=>g130l2 a b c d e i j l o q s n) ls k) (n:=m) h
theorem g130l4Ok(m:Nat)(α:Type)(st:St)(k:KEx α)(r:α)(h:(g130h m).loop 4 st k=some r):
  LoopS Tryz.prog 4 (bodyAt Tryz.f130 4) st k r:=
 lpk (F:=fun n ls k=>g130l4K (fun a b c d e i j l o q s t u v=>g130l4 a b c d e i j l o q s n t u v) ls k) (g130Calls m) (lb0 (by kernel_rfl))
  (fun _ _=>rfl) (fun n ls k=>g130l4Step (g130l0M m) (g130l2M m) (g130l4M m) (fun a b c d e i j l o q s=>g130l4 a b c d e i j l o q s n) ls k) (n:=m) h
theorem g130Fn(m:Nat):FnOk Tryz.prog 130 g130tp g130bp (fun{α}=>g130K (g130 m (α:=α))):=
 fn_ok (tab:=tab) (h:=g130h m) (fn:=Tryz.f130) (F:=fun{α}=>g130K (g130 m (α:=α))) tabOk (g130Calls m) mixed (by kernel_rfl) (by kernel_rfl) (fun c hc=>by
  rw[bodyOf_some hc]
  exact loopsOk_of _ (fun p hp=>by
  rw[show loopsOf (bodyOf Tryz.f130)=[(0,bodyAt Tryz.f130 0),(2,bodyAt Tryz.f130 2),(4,bodyAt Tryz.f130 4)] by kernel_rfl] at hp
  simp only[List.mem_cons,List.not_mem_nil,or_false] at hp
  rcases hp with rfl|rfl|rfl
  ·exact g130l0Ok m
  ·exact g130l2Ok m
  ·exact g130l4Ok m))
  (fun _=>g130Main (g130l0M m) (g130l2M m) (g130l4M m))
theorem g130Ok(m:Nat):RowOk Tryz.prog 130 (fun{α}=>g130R (g130 m (α:=α))):=row_of (g130Fn m)
abbrev S_g127(α:Type):Type:=(List Int)→(List Int)→((List Int)→(List Int)→Option α)→Option α
abbrev S_g127l0(α:Type):Type:=Int→Int→(List Int)→(List Int)→(List Int)→((List Int)→(List Int)→Option α)→Int→(List Int)→(List Int)→Option α
def g127l0b{α:Type}(G130:Al S_g130)(a b:Int)(c d e:List Int)(h:(List Int)→(List Int)→Option α)(i:Int→(List Int)→(List Int)→Option α)(j:Int)(l n:List Int):Option α:=cond (decide (j≥(0:Int))) (let o:Int:=IntKind.wrap .i64 ((IntKind.wrap .i64 (j+a))+(1:Int));if 0≤j∧j≤o∧o≤((7:Nat):Int) then if 0≤(0:Int)∧(0:Int)≤a∧a≤((6:Nat):Int) then G130 (cond (Nat.beq 7 (Int.toNat j)) 0 (Int.toNat j)) ((Int.toNat o)-(Int.toNat j)) (7-(Int.toNat j)) 0 ((Int.toNat a)-0) 6 l e (fun p q=>if 0≤j∧j<(6:Nat) then if j.toNat<6 then i (IntKind.wrap .i64 (j-(1:Int))) q (List.set n (j.toNat) p) else none else none) else none else none) (h l n)
def g127l0{α:Type}(G130:Al S_g130)(a b:Int)(c d e:List Int)(h:(List Int)→(List Int)→Option α):Nat→Int→(List Int)→(List Int)→Option α
 |0=>fun _ _ _=>none
 |m+1=>fun i j l=>g127l0b G130 a b c d e h (g127l0 G130 a b c d e h m) i j l
def g127l0M{α:Type}(m:Nat):S_g127l0 α:=
 fun a b c d e h i j l=>g127l0 (g130 m) a b c d e h m i j l
def g127l0D:LoopD:={n:=86,low:=[],sl:=[4,5,6,9,10,11,13,14],bl:=[1000000,1000001,1000002,1000003,1000004],tp:=[(.vl (.sv (.ptr 1000000 0))),(.vl (.sv (.ptr 1000001 0))),tI,tI,(.vl (.sv (.ptr 1000002 0))),(.vl (.sv (.ptr 1000003 0))),(.vl (.sv (.ptr 1000004 0))),tI],bp:=[b6,b6,b6,(true,[(.seq uU 7)]),b6],xs:=[(2,[4,5,9,11,13])]}
def g127l0K{α:Type}(L:S_g127l0 α)(ls:List Lf)(k:KEx α):Option α:=
 L (lf ls 0).int (lf ls 1).int ((lf ls 3).lst uU) ((lf ls 4).lst uU) ((lf ls 5).lst uU)
  (fun a b=>k .normal (mkSt 86 [4,5,9,11,13] [(.vl (.sv (.ptr 1000000 0))),(.vl (.sv (.ptr 1000001 0))),(.vl (.sv (.int .i64 (lf ls 1).int))),(.vl (.sv (.ptr 1000002 0))),(.vl (.sv (.ptr 1000003 0)))] [1000000,1000001,1000002,1000003] [(true,[(.seq uU 6 ((lf ls 3).lst uU))]),(true,[(.seq uU 6 ((lf ls 4).lst uU))]),(true,[(.seq uU 7 a)]),(true,[(.seq uU 6 b)])]))
  (lf ls 2).int ((lf ls 6).lst uU) ((lf ls 7).lst uU)
def g127b{α:Type}(G72:Al S_g72)(G116:Al S_g116)(G46:Al S_g46)(G129:Al S_g129)(G44:Al S_g44)(G130:Al S_g130)(G105:Al S_g105)(L127l0:Al S_g127l0)(a b:List Int)(c:(List Int)→(List Int)→Option α):Option α:=G72 b (fun d=>let e:Int:=IntKind.wrap .i64 (Int.tdiv (IntKind.wrap .i64 (d+(31:Int))) (32:Int));cond (e==(1:Int)) (G116 a (List.getD b 0 0) (fun h i=>c h [i,0,0,0,0,0])) (G46 a b (fun j=>cond (decide (j<(0:Int))) (c [0,0,0,0,0,0] a) (let l:Int:=IntKind.wrap .i64 (e-(1:Int));if 0≤l∧l<(6:Nat) then if l.toNat<6 then G129 (List.getD b l.toNat 0) (fun n=>G44 b n (fun o=>G44 a n (fun p=>let q:List Int:=List.take 0 [0,0,0,0,0,0,0]++(List.take 6 (List.drop 0 p)++List.drop (0+6) [0,0,0,0,0,0,0]);cond (decide (n>(0:Int))) (let r:Int:=IntKind.wrap .i64 ((32:Int)-n);if r<0 then none else L127l0 e n [0,0,0,0,0,0] [0,0,0,0,0,0] o (fun s t=>G105 (List.take 0 [0,0,0,0,0,0]++(List.take 6 (List.drop 0 s)++List.drop (0+6) [0,0,0,0,0,0])) n (fun u=>c t u)) (IntKind.wrap .i64 ((6:Int)-e)) (List.set q 6 (Int.fdiv (List.getD a 5 0) (2^(min r.toNat 32)))) [0,0,0,0,0,0]) (L127l0 e n [0,0,0,0,0,0] [0,0,0,0,0,0] o (fun v w=>G105 (List.take 0 [0,0,0,0,0,0]++(List.take 6 (List.drop 0 v)++List.drop (0+6) [0,0,0,0,0,0])) n (fun x=>c w x)) (IntKind.wrap .i64 ((6:Int)-e)) q [0,0,0,0,0,0])))) else none else none))))
def g127{α:Type}(m:Nat):S_g127 α:=
 g127b (g72 m) (g116 m) (g46 m) (g129 m) (g44 m) (g130 m) (g105 m) (g127l0M m)
def g127tp:List TP:=[(.vl (.agg [(.seq uU 6)])),(.vl (.agg [(.seq uU 6)]))]
def g127bp:List BP:=[]
def g127K{α:Type}(G:S_g127 α)(ls:List Lf)(k:KRe α):Option α:=
 G ((lf ls 0).lst uU) ((lf ls 1).lst uU)
  (fun a b=>k (.tup [(.agg [(.seq uU 6 a)]),(.agg [(.seq uU 6 b)])]) [] [])
def g127R{α:Type}(G:S_g127 α):=rowK g127tp g127bp (g127K G)
def g127hd(G72:Al S_g72)(G116:Al S_g116)(G46:Al S_g46)(G129:Al S_g129)(G44:Al S_g44)(G130:Al S_g130)(G105:Al S_g105)(L127l0:Al S_g127l0):Hd where
 call:=fun f args Bs k=>cond (Nat.beq f 72) (g72R G72 args Bs k) (cond (Nat.beq f 116) (g116R G116 args Bs k) (cond (Nat.beq f 46) (g46R G46 args Bs k) (cond (Nat.beq f 129) (g129R G129 args Bs k) (cond (Nat.beq f 44) (g44R G44 args Bs k) (cond (Nat.beq f 130) (g130R G130 args Bs k) (cond (Nat.beq f 105) (g105R G105 args Bs k) (none)))))))
 loop:=fun id st k=>cond (Nat.beq id 0) (loopH g127l0D (g127l0K L127l0) st k) (none)
 ro:=fun f=>cond (Nat.beq f 130) [1] ([])
def g127h(m:Nat):Hd:=g127hd (g72 m) (g116 m) (g46 m) (g129 m) (g44 m) (g130 m) (g105 m) (g127l0M m)
theorem g127l0Step(G72:Al S_g72)(G116:Al S_g116)(G46:Al S_g46)(G129:Al S_g129)(G44:Al S_g44)(G130:Al S_g130)(G105:Al S_g105)(L127l0:Al S_g127l0){α:Type}(L:S_g127l0 α)(ls:List Lf)(k:KEx α):
  g127l0K (fun a b c d e h i j l=>g127l0b G130 a b c d e h (L a b c d e h) i j l) ls k=ev tab (g127hd G72 G116 G46 G129 G44 G130 G105 L127l0) (bodyAt Tryz.f127 0) (atHead g127l0D ls) (loopK g127l0D 0 (loopH g127l0D (g127l0K L)) k):=by kernel_rfl
theorem g127Main(G72:Al S_g72)(G116:Al S_g116)(G46:Al S_g46)(G129:Al S_g129)(G44:Al S_g44)(G130:Al S_g130)(G105:Al S_g105)(L127l0:Al S_g127l0){α:Type}(ls:List Lf)(k:KRe α):
  g127K (g127b G72 G116 G46 G129 G44 G130 G105 L127l0) ls k=evFun tab (g127hd G72 G116 G46 G129 G44 G130 G105 L127l0) Tryz.f127 (fT g127tp ls) (fB g127tp g127bp ls) k:=by kernel_rfl
theorem g127Calls(m:Nat):(g127h m).CallsOk Tryz.prog:=(cok_cons (g72Ok m) (cok_cons (g116Ok m) (cok_cons (g46Ok m) (cok_cons (g129Ok m) (cok_cons (g44Ok m) (cok_cons (g130Ok m) (cok_cons (g105Ok m) cok_nil)))))))
theorem g127l0Ok(m:Nat)(α:Type)(st:St)(k:KEx α)(r:α)(h:(g127h m).loop 0 st k=some r):
  LoopS Tryz.prog 0 (bodyAt Tryz.f127 0) st k r:=
 lpk (F:=fun n ls k=>g127l0K (fun a b c d e i j l o=>g127l0 (g130 m) a b c d e i n j l o) ls k) (g127Calls m) (lb0 (by kernel_rfl))
  (fun _ _=>rfl) (fun n ls k=>g127l0Step (g72 m) (g116 m) (g46 m) (g129 m) (g44 m) (g130 m) (g105 m) (g127l0M m) (fun a b c d e i=>g127l0 (g130 m) a b c d e i n) ls k) (n:=m) h
theorem g127Ok(m:Nat):RowOk Tryz.prog 127 (fun{α}=>g127R (g127 m (α:=α))):=
 rwk (g127Calls m) (lo1 (by kernel_rfl) (g127l0Ok m))
  (fun _=>g127Main (g72 m) (g116 m) (g46 m) (g129 m) (g44 m) (g130 m) (g105 m) (g127l0M m))
abbrev S_g112(α:Type):Type:=Bool→(List Int)→Bool→(List Int)→(Bool→(List Int)→Bool→(List Int)→Option α)→Option α
def g112b{α:Type}(G127:Al S_g127)(G43:Al S_g43)(G45:Al S_g45)(G84:Al S_g84)(G73:Al S_g73)(a:Bool)(b:List Int)(c:Bool)(d:List Int)(e:Bool→(List Int)→Bool→(List Int)→Option α):Option α:=G127 b d (fun h i=>cond (!(a==c)) (cond (!(eqLI i [0,0,0,0,0,0])) (G43 (fun j=>G45 h j (fun l n=>G84 d i (fun o=>G73 (!(a==c)) l (fun p=>G73 c o (fun q=>e p l q o)))))) (G73 (!(a==c)) h (fun r=>G73 c i (fun s=>e r h s i)))) (G73 (!(a==c)) h (fun t=>G73 c i (fun u=>e t h u i))))
def g112{α:Type}(m:Nat):S_g112 α:=
 g112b (g127 m) (g43 m) (g45 m) (g84 m) (g73 m)
def g112tp:List TP:=[vW,vW]
def g112bp:List BP:=[]
def g112K{α:Type}(G:S_g112 α)(ls:List Lf)(k:KRe α):Option α:=
 G (lf ls 0).bool ((lf ls 1).lst uU) (lf ls 2).bool ((lf ls 3).lst uU)
  (fun a b c d=>k (.tup [(.agg [(.one (.bool a)),(.seq uU 6 b)]),(.agg [(.one (.bool c)),(.seq uU 6 d)])]) [] [])
def g112R{α:Type}(G:S_g112 α):=rowK g112tp g112bp (g112K G)
def g112hd(G127:Al S_g127)(G43:Al S_g43)(G45:Al S_g45)(G84:Al S_g84)(G73:Al S_g73):Hd where
 call:=fun f args Bs k=>cond (Nat.beq f 127) (g127R G127 args Bs k) (cond (Nat.beq f 43) (g43R G43 args Bs k) (cond (Nat.beq f 45) (g45R G45 args Bs k) (cond (Nat.beq f 84) (g84R G84 args Bs k) (cond (Nat.beq f 73) (g73R G73 args Bs k) (none)))))
 loop:=fun id st k=>none
 ro:=fun f=>[]
def g112h(m:Nat):Hd:=g112hd (g127 m) (g43 m) (g45 m) (g84 m) (g73 m)
theorem g112Main(G127:Al S_g127)(G43:Al S_g43)(G45:Al S_g45)(G84:Al S_g84)(G73:Al S_g73){α:Type}(ls:List Lf)(k:KRe α):
  g112K (g112b G127 G43 G45 G84 G73) ls k=evFun tab (g112hd G127 G43 G45 G84 G73) Tryz.f112 (fT g112tp ls) (fB g112tp g112bp ls) k:=by kernel_rfl
theorem g112Calls(m:Nat):(g112h m).CallsOk Tryz.prog:=(cok_cons (g127Ok m) (cok_cons (g43Ok m) (cok_cons (g45Ok m) (cok_cons (g84Ok m) (cok_cons (g73Ok m) cok_nil)))))
theorem g112Ok(m:Nat):RowOk Tryz.prog 112 (fun{α}=>g112R (g112 m (α:=α))):=
 rwk (g112Calls m) (lo0 (by kernel_rfl))
  (fun _=>g112Main (g127 m) (g43 m) (g45 m) (g84 m) (g73 m))
abbrev S_g55(α:Type):Type:=Int→(Bool→(List Int)→Option α)→Option α
def g55b{α:Type}(G73:Al S_g73)(a:Int)(b:Bool→(List Int)→Option α):Option α:=let c:Int:=IntKind.wrap .u64 a;cond (decide (a<(0:Int))) (let d:Int:=IntKind.wrap .u64 (0-c);let e:Int:=IntKind.wrap .u32 d;let h:Int:=IntKind.wrap .u32 (Int.fdiv d (2^32));G73 (decide (a<(0:Int))) [e,h,0,0,0,0] (fun i=>b i [e,h,0,0,0,0])) (let j:Int:=IntKind.wrap .u32 c;let l:Int:=IntKind.wrap .u32 (Int.fdiv c (2^32));G73 (decide (a<(0:Int))) [j,l,0,0,0,0] (fun n=>b n [j,l,0,0,0,0]))
def g55{α:Type}(m:Nat):S_g55 α:=
 g55b (g73 m)
def g55tp:List TP:=[tI]
def g55bp:List BP:=[]
def g55K{α:Type}(G:S_g55 α)(ls:List Lf)(k:KRe α):Option α:=
 G (lf ls 0).int
  (fun a b=>k (.vl (.agg [(.one (.bool a)),(.seq uU 6 b)])) [] [])
def g55R{α:Type}(G:S_g55 α):=rowK g55tp g55bp (g55K G)
def g55hd(G73:Al S_g73):Hd where
 call:=fun f args Bs k=>cond (Nat.beq f 73) (g73R G73 args Bs k) (none)
 loop:=fun id st k=>none
 ro:=fun f=>[]
def g55h(m:Nat):Hd:=g55hd (g73 m)
theorem g55Main(G73:Al S_g73){α:Type}(ls:List Lf)(k:KRe α):
  g55K (g55b G73) ls k=evFun tab (g55hd G73) Tryz.f55 (fT g55tp ls) (fB g55tp g55bp ls) k:=by kernel_rfl
theorem g55Calls(m:Nat):(g55h m).CallsOk Tryz.prog:=(cok_cons (g73Ok m) cok_nil)
theorem g55Ok(m:Nat):RowOk Tryz.prog 55 (fun{α}=>g55R (g55 m (α:=α))):=
 rwk (g55Calls m) (lo0 (by kernel_rfl))
  (fun _=>g55Main (g73 m))
abbrev S_g87(α:Type):Type:=Bool→(List Int)→Bool→(List Int)→Bool→(Bool→(List Int)→Bool→Option α)→Option α
def g87b{α:Type}(G112:Al S_g112)(G84:Al S_g84)(G46:Al S_g46)(G55:Al S_g55)(G53:Al S_g53)(a:Bool)(b:List Int)(c:Bool)(d:List Int)(e:Bool)(h:Bool→(List Int)→Bool→Option α):Option α:=G112 a b c d (fun i j l n=>G84 d n (fun o=>G46 n o (fun p=>cond (decide (p<(0:Int))) (h i j e) (G55 (1:Int) (fun q r=>G53 i j q r e (fun s t u=>h s t u))))))
def g87{α:Type}(m:Nat):S_g87 α:=
 g87b (g112 m) (g84 m) (g46 m) (g55 m) (g53 m)
abbrev S_g5(α:Type):Type:=Nat→Nat→Nat→Nat→(List Int)→(Bool→Option α)→Option α
def g5b{α:Type}(a b:Nat)(c d:Nat)(e:List Int)(h:Bool→Option α):Option α:=h (decide (((b:Nat):Int)>(4096:Int)))
def g5{α:Type}(m:Nat):S_g5 α:=
 g5b
def g5tp:List TP:=[(.vl (.sv (.sla 0 0 1)))]
def g5bp:List BP:=[(false,[(.seqv (.int .u8))])]
def g5K{α:Type}(G:S_g5 α)(ls:List Lf)(k:KRe α):Option α:=
 G (lf ls 0).nat (lf ls 1).nat (lf ls 2).nat (lf ls 3).nat ((lf ls 4).lst (.int .u8))
  (fun a=>k (.vl (.sv (.bool a))) [[(.seq (.int .u8) (lf ls 3).nat ((lf ls 4).lst (.int .u8)))]] [])
def g5R{α:Type}(G:S_g5 α):=rowK g5tp g5bp (g5K G)
def g5hd:Hd where
 call:=fun f args Bs k=>none
 loop:=fun id st k=>none
 ro:=fun f=>[]
def g5h(m:Nat):Hd:=g5hd
theorem g5Main{α:Type}(ls:List Lf)(k:KRe α):
  g5K (g5b) ls k=evFun tab (g5hd) Tryz.f5 (fT g5tp ls) (fB g5tp g5bp ls) k:=by kernel_rfl
theorem g5Calls(m:Nat):(g5h m).CallsOk Tryz.prog:=cok_nil
theorem g5Ok(m:Nat):RowOk Tryz.prog 5 (fun{α}=>g5R (g5 m (α:=α))):=
 rwk (g5Calls m) (lo0 (by kernel_rfl))
  (fun _=>g5Main)
abbrev S_g29(α:Type):Type:=Nat→Nat→Nat→Nat→(List Int)→(Option α)→Option α
def g29b{α:Type}(a b:Nat)(c d:Nat)(e:List Int)(h:Option α):Option α:=h
def g29{α:Type}(m:Nat):S_g29 α:=
 g29b
def g29tp:List TP:=[(.vl (.sv (.sla 0 0 1)))]
def g29bp:List BP:=[(false,[(.seqv (.int .u8))])]
def g29K{α:Type}(G:S_g29 α)(ls:List Lf)(k:KRe α):Option α:=
 G (lf ls 0).nat (lf ls 1).nat (lf ls 2).nat (lf ls 3).nat ((lf ls 4).lst (.int .u8))
  (k (.vl (.sv (.ptr 1 0))) [[(.seq (.int .u8) (lf ls 3).nat ((lf ls 4).lst (.int .u8)))]] [[(.one (.sla 0 0 1 (lf ls 0).nat (lf ls 1).nat (lf ls 2).nat)),(.one (.int .i64 (0:Int))),(.one (.int .u64 (0:Int)))]])
def g29R{α:Type}(G:S_g29 α):=rowK g29tp g29bp (g29K G)
def g29hd:Hd where
 call:=fun f args Bs k=>none
 loop:=fun id st k=>none
 ro:=fun f=>[]
def g29h(m:Nat):Hd:=g29hd
theorem g29Main{α:Type}(ls:List Lf)(k:KRe α):
  g29K (g29b) ls k=evFun tab (g29hd) Tryz.f29 (fT g29tp ls) (fB g29tp g29bp ls) k:=by kernel_rfl
theorem g29Calls(m:Nat):(g29h m).CallsOk Tryz.prog:=cok_nil
theorem g29Ok(m:Nat):RowOk Tryz.prog 29 (fun{α}=>g29R (g29 m (α:=α))):=
 rwk (g29Calls m) (lo0 (by kernel_rfl))
  (fun _=>g29Main)
abbrev S_g63(α:Type):Type:=Nat→Nat→Nat→Int→Int→Nat→(List Int)→(Int→Int→Int→Option α)→Option α
def g63b{α:Type}(a b c:Nat)(d e:Int)(h:Nat)(i:List Int)(j:Int→Int→Int→Option α):Option α:=cond (decide (d<((b:Nat):Int))) (if 0≤d∧d<(b:Nat) then if(a+d.toNat)<h then let l:Int:=IntKind.wrap .i64 (List.getD i (a+d.toNat) 0);let n:Int:=IntKind.wrap .i64 (d+(1:Int));let o:Int:=IntKind.wrap .u64 ((IntKind.wrap .u64 ((IntKind.wrap .u64 (e*(6364136223846793005:Int)))+(IntKind.wrap .u64 l)))+(1442695040888963407:Int));cond (decide (n≤((b:Nat):Int))) (j l n o) (j (IntKind.wrap .i64 (ibits .and .u64 (Int.fdiv o (2^40)) (255:Int))) n o) else none else none) (let p:Int:=IntKind.wrap .i64 (d+(1:Int));let q:Int:=IntKind.wrap .u64 ((IntKind.wrap .u64 ((IntKind.wrap .u64 (e*(6364136223846793005:Int)))+(0:Int)))+(1442695040888963407:Int));cond (decide (p≤((b:Nat):Int))) (j (0:Int) p q) (j (IntKind.wrap .i64 (ibits .and .u64 (Int.fdiv q (2^40)) (255:Int))) p q))
def g63{α:Type}(m:Nat):S_g63 α:=
 g63b
def g63tp:List TP:=[(.vl (.sv (.ptr 0 0)))]
def g63bp:List BP:=[(true,[(.one (.sla 1 0 1)),(.one (.int .i64)),(.one (.int .u64))]),(false,[(.seqv (.int .u8))])]
def g63K{α:Type}(G:S_g63 α)(ls:List Lf)(k:KRe α):Option α:=
 G (lf ls 0).nat (lf ls 1).nat (lf ls 2).nat (lf ls 3).int (lf ls 4).int (lf ls 5).nat ((lf ls 6).lst (.int .u8))
  (fun a b c=>k (.vl (.sv (.int .i64 a))) [[(.one (.sla 1 0 1 (lf ls 0).nat (lf ls 1).nat (lf ls 2).nat)),(.one (.int .i64 b)),(.one (.int .u64 c))],[(.seq (.int .u8) (lf ls 5).nat ((lf ls 6).lst (.int .u8)))]] [])
def g63R{α:Type}(G:S_g63 α):=rowK g63tp g63bp (g63K G)
def g63hd:Hd where
 call:=fun f args Bs k=>none
 loop:=fun id st k=>none
 ro:=fun f=>[]
def g63h(m:Nat):Hd:=g63hd
theorem g63Main{α:Type}(ls:List Lf)(k:KRe α):
  g63K (g63b) ls k=evFun tab (g63hd) Tryz.f63 (fT g63tp ls) (fB g63tp g63bp ls) k:=by kernel_rfl
theorem g63Calls(m:Nat):(g63h m).CallsOk Tryz.prog:=cok_nil
theorem g63Ok(m:Nat):RowOk Tryz.prog 63 (fun{α}=>g63R (g63 m (α:=α))):=
 rwk (g63Calls m) (lo0 (by kernel_rfl))
  (fun _=>g63Main)
abbrev S_g30(α:Type):Type:=Int→Nat→Nat→Nat→Int→Int→Nat→(List Int)→(Int→Int→Int→Option α)→Option α
def g30b{α:Type}(G63:Al S_g63)(a:Int)(b c d:Nat)(e h:Int)(i:Nat)(j:List Int)(l:Int→Int→Int→Option α):Option α:=cond (decide (a≤(1:Int))) (l (0:Int) e h) (G63 b c d e h i j (fun n o p=>cond (decide (a>(200:Int))) (G63 b c d o p i j (fun q r s=>if a=0 then none else l (Int.tmod (IntKind.wrap .i64 ((IntKind.wrap .i64 (n*(256:Int)))+q)) a) r s)) (if a=0 then none else l (Int.tmod n a) o p)))
def g30{α:Type}(m:Nat):S_g30 α:=
 g30b (g63 m)
def g30tp:List TP:=[(.vl (.sv (.ptr 0 0))),tI]
def g30bp:List BP:=[(true,[(.one (.sla 1 0 1)),(.one (.int .i64)),(.one (.int .u64))]),(false,[(.seqv (.int .u8))])]
def g30K{α:Type}(G:S_g30 α)(ls:List Lf)(k:KRe α):Option α:=
 G (lf ls 0).int (lf ls 1).nat (lf ls 2).nat (lf ls 3).nat (lf ls 4).int (lf ls 5).int (lf ls 6).nat ((lf ls 7).lst (.int .u8))
  (fun a b c=>k (.vl (.sv (.int .i64 a))) [[(.one (.sla 1 0 1 (lf ls 1).nat (lf ls 2).nat (lf ls 3).nat)),(.one (.int .i64 b)),(.one (.int .u64 c))],[(.seq (.int .u8) (lf ls 6).nat ((lf ls 7).lst (.int .u8)))]] [])
def g30R{α:Type}(G:S_g30 α):=rowK g30tp g30bp (g30K G)
def g30hd(G63:Al S_g63):Hd where
 call:=fun f args Bs k=>cond (Nat.beq f 63) (g63R G63 args Bs k) (none)
 loop:=fun id st k=>none
 ro:=fun f=>cond (Nat.beq f 63) [1] ([])
def g30h(m:Nat):Hd:=g30hd (g63 m)
theorem g30Main(G63:Al S_g63){α:Type}(ls:List Lf)(k:KRe α):
  g30K (g30b G63) ls k=evFun tab (g30hd G63) Tryz.f30 (fT g30tp ls) (fB g30tp g30bp ls) k:=by kernel_rfl
theorem g30Calls(m:Nat):(g30h m).CallsOk Tryz.prog:=(cok_cons (g63Ok m) cok_nil)
theorem g30Ok(m:Nat):RowOk Tryz.prog 30 (fun{α}=>g30R (g30 m (α:=α))):=
 rwk (g30Calls m) (lo0 (by kernel_rfl))
  (fun _=>g30Main (g63 m))
abbrev S_g86(α:Type):Type:=Nat→Nat→Nat→Nat→Nat→Nat→Int→Int→(List Int)→Nat→(List Int)→(Int→Int→Int→Option α)→Option α
def g86b{α:Type}(G30:Al S_g30)(a b:Nat)(c d:Nat)(e h:Nat)(i j:Int)(l:List Int)(n:Nat)(o:List Int)(p:Int→Int→Int→Option α):Option α:=G30 ((b:Nat):Int) d e h i j n o (fun q r s=>if 0≤q∧q<(b:Nat) then if(a+q.toNat)<4 then p (List.getD l (a+q.toNat) 0) r s else none else none)
def g86{α:Type}(m:Nat):S_g86 α:=
 g86b (g30 m)
def g86tp:List TP:=[(.vl (.sv (.ptr 0 0))),(.vl (.sv (.slc 1 0 1)))]
def g86bp:List BP:=[(true,[(.one (.sla 2 0 1)),(.one (.int .i64)),(.one (.int .u64))]),(false,[(.seq (.int .i64) 4)]),(false,[(.seqv (.int .u8))])]
def g86K{α:Type}(G:S_g86 α)(ls:List Lf)(k:KRe α):Option α:=
 G (lf ls 0).nat (lf ls 1).nat (lf ls 2).nat (lf ls 3).nat (lf ls 4).nat (lf ls 5).nat (lf ls 6).int (lf ls 7).int ((lf ls 8).lst (.int .i64)) (lf ls 9).nat ((lf ls 10).lst (.int .u8))
  (fun a b c=>k (.vl (.sv (.int .i64 a))) [[(.one (.sla 2 0 1 (lf ls 3).nat (lf ls 4).nat (lf ls 5).nat)),(.one (.int .i64 b)),(.one (.int .u64 c))],[(.seq (.int .i64) 4 ((lf ls 8).lst (.int .i64)))],[(.seq (.int .u8) (lf ls 9).nat ((lf ls 10).lst (.int .u8)))]] [])
def g86R{α:Type}(G:S_g86 α):=rowK g86tp g86bp (g86K G)
def g86hd(G30:Al S_g30):Hd where
 call:=fun f args Bs k=>cond (Nat.beq f 30) (g30R G30 args Bs k) (none)
 loop:=fun id st k=>none
 ro:=fun f=>cond (Nat.beq f 30) [1] ([])
def g86h(m:Nat):Hd:=g86hd (g30 m)
theorem g86Main(G30:Al S_g30){α:Type}(ls:List Lf)(k:KRe α):
  g86K (g86b G30) ls k=evFun tab (g86hd G30) Tryz.f86 (fT g86tp ls) (fB g86tp g86bp ls) k:=by kernel_rfl
theorem g86Calls(m:Nat):(g86h m).CallsOk Tryz.prog:=(cok_cons (g30Ok m) cok_nil)
theorem g86Ok(m:Nat):RowOk Tryz.prog 86 (fun{α}=>g86R (g86 m (α:=α))):=
 rwk (g86Calls m) (lo0 (by kernel_rfl))
  (fun _=>g86Main (g30 m))
abbrev S_g86v1(α:Type):Type:=Nat→Nat→Nat→Nat→Nat→Nat→Int→Int→(List Int)→Nat→(List Int)→(Int→Int→Int→Option α)→Option α
def g86v1b{α:Type}(G30:Al S_g30)(a b:Nat)(c d:Nat)(e h:Nat)(i j:Int)(l:List Int)(n:Nat)(o:List Int)(p:Int→Int→Int→Option α):Option α:=G30 ((b:Nat):Int) d e h i j n o (fun q r s=>if 0≤q∧q<(b:Nat) then if(a+q.toNat)<3 then p (List.getD l (a+q.toNat) 0) r s else none else none)
def g86v1{α:Type}(m:Nat):S_g86v1 α:=
 g86v1b (g30 m)
def g86v1tp:List TP:=[(.vl (.sv (.ptr 0 0))),(.vl (.sv (.slc 1 0 1)))]
def g86v1bp:List BP:=[(true,[(.one (.sla 2 0 1)),(.one (.int .i64)),(.one (.int .u64))]),(false,[(.seq (.int .i64) 3)]),(false,[(.seqv (.int .u8))])]
def g86v1K{α:Type}(G:S_g86v1 α)(ls:List Lf)(k:KRe α):Option α:=
 G (lf ls 0).nat (lf ls 1).nat (lf ls 2).nat (lf ls 3).nat (lf ls 4).nat (lf ls 5).nat (lf ls 6).int (lf ls 7).int ((lf ls 8).lst (.int .i64)) (lf ls 9).nat ((lf ls 10).lst (.int .u8))
  (fun a b c=>k (.vl (.sv (.int .i64 a))) [[(.one (.sla 2 0 1 (lf ls 3).nat (lf ls 4).nat (lf ls 5).nat)),(.one (.int .i64 b)),(.one (.int .u64 c))],[(.seq (.int .i64) 3 ((lf ls 8).lst (.int .i64)))],[(.seq (.int .u8) (lf ls 9).nat ((lf ls 10).lst (.int .u8)))]] [])
def g86v1R{α:Type}(G:S_g86v1 α):=rowK g86v1tp g86v1bp (g86v1K G)
def g86v1hd(G30:Al S_g30):Hd where
 call:=fun f args Bs k=>cond (Nat.beq f 30) (g30R G30 args Bs k) (none)
 loop:=fun id st k=>none
 ro:=fun f=>cond (Nat.beq f 30) [1] ([])
def g86v1h(m:Nat):Hd:=g86v1hd (g30 m)
theorem g86v1Main(G30:Al S_g30){α:Type}(ls:List Lf)(k:KRe α):
  g86v1K (g86v1b G30) ls k=evFun tab (g86v1hd G30) Tryz.f86 (fT g86v1tp ls) (fB g86v1tp g86v1bp ls) k:=by kernel_rfl
theorem g86v1Calls(m:Nat):(g86v1h m).CallsOk Tryz.prog:=(cok_cons (g30Ok m) cok_nil)
theorem g86v1Ok(m:Nat):RowOk Tryz.prog 86 (fun{α}=>g86v1R (g86v1 m (α:=α))):=
 rwk (g86v1Calls m) (lo0 (by kernel_rfl))
  (fun _=>g86v1Main (g30 m))
abbrev S_g61(α:Type):Type:=Nat→Nat→Nat→Int→Int→Nat→(List Int)→(Int→Int→Int→Int→Int→Option α)→Option α
def g61b{α:Type}(G30:Al S_g30)(G86:Al S_g86)(G86v1:Al S_g86v1)(a b c:Nat)(d e:Int)(h:Nat)(i:List Int)(j:Int→Int→Int→Int→Int→Option α):Option α:=G30 (8:Int) a b c d e h i (fun l n o=>cond (l==(0:Int)) (j (11:Int) (0:Int) (0:Int) n o) (cond (l==(1:Int)) (j (12:Int) (0:Int) (0:Int) n o) (cond (l==(2:Int)) (G86 0 4 4 a b c n o [(1000000000:Int),(-1000000000:Int),(1:Int),(0:Int)] h i (fun p q r=>G86v1 0 3 3 a b c q r [(1:Int),(1000000000:Int),(999999937:Int)] h i (fun s t u=>j (1:Int) p s t u))) (G30 (41:Int) a b c n o h i (fun v w x=>G30 (20:Int) a b c w x h i (fun y z a0=>j (1:Int) (IntKind.wrap .i64 (v-(20:Int))) (IntKind.wrap .i64 ((1:Int)+y)) z a0))))))
def g61{α:Type}(m:Nat):S_g61 α:=
 g61b (g30 m) (g86 m) (g86v1 m)
def g61tp:List TP:=[(.vl (.sv (.ptr 0 0)))]
def g61bp:List BP:=[(true,[(.one (.sla 1 0 1)),(.one (.int .i64)),(.one (.int .u64))]),(false,[(.seqv (.int .u8))])]
def g61K{α:Type}(G:S_g61 α)(ls:List Lf)(k:KRe α):Option α:=
 G (lf ls 0).nat (lf ls 1).nat (lf ls 2).nat (lf ls 3).int (lf ls 4).int (lf ls 5).nat ((lf ls 6).lst (.int .u8))
  (fun a b c d e=>k (.vl (.agg [(.one (.int .i8 a)),(.one (.int .i16 (0:Int))),(.one (.int .i16 (0:Int))),(.one (.int .i64 b)),(.one (.int .i64 c))])) [[(.one (.sla 1 0 1 (lf ls 0).nat (lf ls 1).nat (lf ls 2).nat)),(.one (.int .i64 d)),(.one (.int .u64 e))],[(.seq (.int .u8) (lf ls 5).nat ((lf ls 6).lst (.int .u8)))]] [])
def g61R{α:Type}(G:S_g61 α):=rowK g61tp g61bp (g61K G)
def g61hd(G30:Al S_g30)(G86:Al S_g86)(G86v1:Al S_g86v1):Hd where
 call:=fun f args Bs k=>cond (Nat.beq f 30) (g30R G30 args Bs k) (cond (Nat.beq f 86) (rowE g86tp g86bp (g86K G86) (g86v1R G86v1) args Bs k) (none))
 loop:=fun id st k=>none
 ro:=fun f=>cond (Nat.beq f 30) [1] (cond (Nat.beq f 86) [1,2] ([]))
def g61h(m:Nat):Hd:=g61hd (g30 m) (g86 m) (g86v1 m)
theorem g61Main(G30:Al S_g30)(G86:Al S_g86)(G86v1:Al S_g86v1){α:Type}(ls:List Lf)(k:KRe α):
  g61K (g61b G30 G86 G86v1) ls k=evFun tab (g61hd G30 G86 G86v1) Tryz.f61 (fT g61tp ls) (fB g61tp g61bp ls) k:=by kernel_rfl
theorem g61Calls(m:Nat):(g61h m).CallsOk Tryz.prog:=(cok_cons (g30Ok m) (cok_cons (row_else (g86Ok m) (g86v1Ok m)) cok_nil))
theorem g61Ok(m:Nat):RowOk Tryz.prog 61 (fun{α}=>g61R (g61 m (α:=α))):=
 rwk (g61Calls m) (lo0 (by kernel_rfl))
  (fun _=>g61Main (g30 m) (g86 m) (g86v1 m))
abbrev S_g60(α:Type):Type:=Int→Nat→Nat→Nat→Int→Int→Nat→(List Int)→(Bool→Int→Int→Option α)→Option α
def g60b{α:Type}(G30:Al S_g30)(a:Int)(b c d:Nat)(e h:Int)(i:Nat)(j:List Int)(l:Bool→Int→Int→Option α):Option α:=G30 a b c d e h i j (fun n o p=>l (n==(0:Int)) o p)
def g60{α:Type}(m:Nat):S_g60 α:=
 g60b (g30 m)
def g60tp:List TP:=[(.vl (.sv (.ptr 0 0))),tI]
def g60bp:List BP:=[(true,[(.one (.sla 1 0 1)),(.one (.int .i64)),(.one (.int .u64))]),(false,[(.seqv (.int .u8))])]
def g60K{α:Type}(G:S_g60 α)(ls:List Lf)(k:KRe α):Option α:=
 G (lf ls 0).int (lf ls 1).nat (lf ls 2).nat (lf ls 3).nat (lf ls 4).int (lf ls 5).int (lf ls 6).nat ((lf ls 7).lst (.int .u8))
  (fun a b c=>k (.vl (.sv (.bool a))) [[(.one (.sla 1 0 1 (lf ls 1).nat (lf ls 2).nat (lf ls 3).nat)),(.one (.int .i64 b)),(.one (.int .u64 c))],[(.seq (.int .u8) (lf ls 6).nat ((lf ls 7).lst (.int .u8)))]] [])
def g60R{α:Type}(G:S_g60 α):=rowK g60tp g60bp (g60K G)
def g60hd(G30:Al S_g30):Hd where
 call:=fun f args Bs k=>cond (Nat.beq f 30) (g30R G30 args Bs k) (none)
 loop:=fun id st k=>none
 ro:=fun f=>cond (Nat.beq f 30) [1] ([])
def g60h(m:Nat):Hd:=g60hd (g30 m)
theorem g60Main(G30:Al S_g30){α:Type}(ls:List Lf)(k:KRe α):
  g60K (g60b G30) ls k=evFun tab (g60hd G30) Tryz.f60 (fT g60tp ls) (fB g60tp g60bp ls) k:=by kernel_rfl
theorem g60Calls(m:Nat):(g60h m).CallsOk Tryz.prog:=(cok_cons (g30Ok m) cok_nil)
theorem g60Ok(m:Nat):RowOk Tryz.prog 60 (fun{α}=>g60R (g60 m (α:=α))):=
 rwk (g60Calls m) (lo0 (by kernel_rfl))
  (fun _=>g60Main (g30 m))
abbrev S_g62(α:Type):Type:=Int→(Bool→Option α)→Option α
def g62b{α:Type}(a:Int)(b:Bool→Option α):Option α:=cond (decide (a≥(2:Int))) (cond (decide (a≤(5:Int))) (b true) (cond (a==(8:Int)) (b true) (b (a==(9:Int))))) (cond (a==(8:Int)) (b true) (b (a==(9:Int))))
def g62{α:Type}(m:Nat):S_g62 α:=
 g62b
def g62tp:List TP:=[(.vl (.sv (.int .i8)))]
def g62bp:List BP:=[]
def g62K{α:Type}(G:S_g62 α)(ls:List Lf)(k:KRe α):Option α:=
 G (lf ls 0).int
  (fun a=>k (.vl (.sv (.bool a))) [] [])
def g62R{α:Type}(G:S_g62 α):=rowK g62tp g62bp (g62K G)
def g62hd:Hd where
 call:=fun f args Bs k=>none
 loop:=fun id st k=>none
 ro:=fun f=>[]
def g62h(m:Nat):Hd:=g62hd
theorem g62Main{α:Type}(ls:List Lf)(k:KRe α):
  g62K (g62b) ls k=evFun tab (g62hd) Tryz.f62 (fT g62tp ls) (fB g62tp g62bp ls) k:=by kernel_rfl
theorem g62Calls(m:Nat):(g62h m).CallsOk Tryz.prog:=cok_nil
theorem g62Ok(m:Nat):RowOk Tryz.prog 62 (fun{α}=>g62R (g62 m (α:=α))):=
 rwk (g62Calls m) (lo0 (by kernel_rfl))
  (fun _=>g62Main)
abbrev S_g28(α:Type):Type:=Int→Nat→Nat→Nat→Int→Int→Nat→(List Int)→(Int→Int→Ty0→Option α)→Option α
abbrev S_g28l0(α:Type):Type:=Nat→Nat→Nat→Nat→(List Int)→(Int→Int→Ty0→Option α)→Int→Int→Int→Ty0→Option α
def g28l0b{α:Type}(G61:Al S_g61)(G60:Al S_g60)(G30:Al S_g30)(G62:Al S_g62)(a b:Nat)(c d:Nat)(e:List Int)(h:Int→Int→Ty0→Option α)(i:Int→Int→Int→Ty0→Option α)(j l n:Int)(o:Ty0):Option α:=cond (decide (j>(0:Int))) (cond (((o.length:Nat):Int)==(0:Int)) (G61 a b c l n d e (fun p q r s t=>if o.length+1≤67108864 then i (IntKind.wrap .i64 (j-(1:Int))) s t (o++[[p,(0:Int),(0:Int),q,r]]) else none)) (G60 (3:Int) a b c l n d e (fun u v w=>cond u (G61 a b c v w d e (fun x y z a0 b0=>if o.length+1≤67108864 then i (IntKind.wrap .i64 (j-(1:Int))) a0 b0 (o++[[x,(0:Int),(0:Int),y,z]]) else none)) (G30 (9:Int) a b c v w d e (fun c0 d0 e0=>let h0:Int:=IntKind.wrap .i8 (IntKind.wrap .i64 ((2:Int)+c0));G30 ((o.length:Nat):Int) a b c d0 e0 d e (fun i0 j0 l0=>let n0:Int:=IntKind.wrap .i16 i0;G62 h0 (fun o0=>cond o0 (G30 ((o.length:Nat):Int) a b c j0 l0 d e (fun p0 q0 r0=>if o.length+1≤67108864 then i (IntKind.wrap .i64 (j-(1:Int))) q0 r0 (o++[[h0,n0,(IntKind.wrap .i16 p0),(0:Int),(0:Int)]]) else none)) (if o.length+1≤67108864 then i (IntKind.wrap .i64 (j-(1:Int))) j0 l0 (o++[[h0,n0,(0:Int),(0:Int),(0:Int)]]) else none)))))))) (h l n o)
def g28l0{α:Type}(G61:Al S_g61)(G60:Al S_g60)(G30:Al S_g30)(G62:Al S_g62)(a b:Nat)(c d:Nat)(e:List Int)(h:Int→Int→Ty0→Option α):Nat→Int→Int→Int→Ty0→Option α
 |0=>fun _ _ _ _=>none
 |m+1=>fun i j l n=>g28l0b G61 G60 G30 G62 a b c d e h (g28l0 G61 G60 G30 G62 a b c d e h m) i j l n
def g28l0M{α:Type}(m:Nat):S_g28l0 α:=
 fun a b c d e h i j l n=>g28l0 (g61 m) (g60 m) (g30 m) (g62 m) a b c d e h m i j l n
def g28l0D:LoopD:={n:=53,low:=[0,1],sl:=[0,5,6],bl:=[0,1,1000002],tp:=[(.vl (.sv (.ptr 0 0))),(.vl (.sv (.gsl 1000002 5))),tI],bp:=[(true,[(.one (.sla 1 0 1)),(.one (.int .i64)),(.one (.int .u64))]),(false,[(.seqv (.int .u8))]),(true,[(.gro rN)])],xs:=[(2,[5])]}
def g28l0K{α:Type}(L:S_g28l0 α)(ls:List Lf)(k:KEx α):Option α:=
 L (lf ls 1).nat (lf ls 2).nat (lf ls 3).nat (lf ls 6).nat ((lf ls 7).lst (.int .u8))
  (fun a b c=>k .normal (mkSt 53 [5] [(.vl (.sv (.gsl 1000002 5)))] [0,1,1000002] [(true,[(.one (.sla 1 0 1 (lf ls 1).nat (lf ls 2).nat (lf ls 3).nat)),(.one (.int .i64 a)),(.one (.int .u64 b))]),(false,[(.seq (.int .u8) (lf ls 6).nat ((lf ls 7).lst (.int .u8)))]),(true,[(.gro rN c)])]))
  (lf ls 0).int (lf ls 4).int (lf ls 5).int ((lf ls 8).lst rN)
def g28b{α:Type}(G30:Al S_g30)(G61:Al S_g61)(G60:Al S_g60)(G62:Al S_g62)(L28l0:Al S_g28l0)(a:Int)(b c d:Nat)(e h:Int)(i:Nat)(j:List Int)(l:Int→Int→Ty0→Option α):Option α:=G30 a b c d e h i j (fun n o p=>L28l0 b c d i j (fun q r s=>l q r s) (IntKind.wrap .i64 ((1:Int)+n)) o p [])
def g28{α:Type}(m:Nat):S_g28 α:=
 g28b (g30 m) (g61 m) (g60 m) (g62 m) (g28l0M m)
def g28tp:List TP:=[(.vl (.sv (.ptr 0 0))),tI]
def g28bp:List BP:=[(true,[(.one (.sla 1 0 1)),(.one (.int .i64)),(.one (.int .u64))]),(false,[(.seqv (.int .u8))])]
def g28K{α:Type}(G:S_g28 α)(ls:List Lf)(k:KRe α):Option α:=
 G (lf ls 0).int (lf ls 1).nat (lf ls 2).nat (lf ls 3).nat (lf ls 4).int (lf ls 5).int (lf ls 6).nat ((lf ls 7).lst (.int .u8))
  (fun a b c=>k (.vl (.sv (.gsl 2 5))) [[(.one (.sla 1 0 1 (lf ls 1).nat (lf ls 2).nat (lf ls 3).nat)),(.one (.int .i64 a)),(.one (.int .u64 b))],[(.seq (.int .u8) (lf ls 6).nat ((lf ls 7).lst (.int .u8)))]] [[(.gro rN c)]])
def g28R{α:Type}(G:S_g28 α):=rowK g28tp g28bp (g28K G)
def g28hd(G30:Al S_g30)(G61:Al S_g61)(G60:Al S_g60)(G62:Al S_g62)(L28l0:Al S_g28l0):Hd where
 call:=fun f args Bs k=>cond (Nat.beq f 30) (g30R G30 args Bs k) (cond (Nat.beq f 61) (g61R G61 args Bs k) (cond (Nat.beq f 60) (g60R G60 args Bs k) (cond (Nat.beq f 62) (g62R G62 args Bs k) (none))))
 loop:=fun id st k=>cond (Nat.beq id 0) (loopH g28l0D (g28l0K L28l0) st k) (none)
 ro:=fun f=>cond (Nat.beq f 30) [1] (cond (Nat.beq f 60) [1] (cond (Nat.beq f 61) [1] ([])))
def g28h(m:Nat):Hd:=g28hd (g30 m) (g61 m) (g60 m) (g62 m) (g28l0M m)
theorem g28l0Step(G30:Al S_g30)(G61:Al S_g61)(G60:Al S_g60)(G62:Al S_g62)(L28l0:Al S_g28l0){α:Type}(L:S_g28l0 α)(ls:List Lf)(k:KEx α):
  g28l0K (fun a b c d e h i j l n=>g28l0b G61 G60 G30 G62 a b c d e h (L a b c d e h) i j l n) ls k=ev tab (g28hd G30 G61 G60 G62 L28l0) (bodyAt Tryz.f28 0) (atHead g28l0D ls) (loopK g28l0D 0 (loopH g28l0D (g28l0K L)) k):=by kernel_rfl
theorem g28Main(G30:Al S_g30)(G61:Al S_g61)(G60:Al S_g60)(G62:Al S_g62)(L28l0:Al S_g28l0){α:Type}(ls:List Lf)(k:KRe α):
  g28K (g28b G30 G61 G60 G62 L28l0) ls k=evFun tab (g28hd G30 G61 G60 G62 L28l0) Tryz.f28 (fT g28tp ls) (fB g28tp g28bp ls) k:=by kernel_rfl
theorem g28Calls(m:Nat):(g28h m).CallsOk Tryz.prog:=(cok_cons (g30Ok m) (cok_cons (g61Ok m) (cok_cons (g60Ok m) (cok_cons (g62Ok m) cok_nil))))
theorem g28l0Ok(m:Nat)(α:Type)(st:St)(k:KEx α)(r:α)(h:(g28h m).loop 0 st k=some r):
  LoopS Tryz.prog 0 (bodyAt Tryz.f28 0) st k r:=
 lpk (F:=fun n ls k=>g28l0K (fun a b c d e i j l o q=>g28l0 (g61 m) (g60 m) (g30 m) (g62 m) a b c d e i n j l o q) ls k) (g28Calls m) (lb0 (by kernel_rfl))
  (fun _ _=>rfl) (fun n ls k=>g28l0Step (g30 m) (g61 m) (g60 m) (g62 m) (g28l0M m) (fun a b c d e i=>g28l0 (g61 m) (g60 m) (g30 m) (g62 m) a b c d e i n) ls k) (n:=m) h
theorem g28Ok(m:Nat):RowOk Tryz.prog 28 (fun{α}=>g28R (g28 m (α:=α))):=
 rwk (g28Calls m) (lo1 (by kernel_rfl) (g28l0Ok m))
  (fun _=>g28Main (g30 m) (g61 m) (g60 m) (g62 m) (g28l0M m))
abbrev S_g6(α:Type):Type:=Nat→Nat→Nat→Nat→(List Int)→(Ty0→Option α)→Option α
def g6b{α:Type}(G29:Al S_g29)(G28:Al S_g28)(a b:Nat)(c d:Nat)(e:List Int)(h:Ty0→Option α):Option α:=G29 a b c d e (G28 (7:Int) a b c (0:Int) (0:Int) d e (fun i j l=>h l))
def g6{α:Type}(m:Nat):S_g6 α:=
 g6b (g29 m) (g28 m)
def g6tp:List TP:=[(.vl (.sv (.sla 0 0 1)))]
def g6bp:List BP:=[(false,[(.seqv (.int .u8))])]
def g6K{α:Type}(G:S_g6 α)(ls:List Lf)(k:KRe α):Option α:=
 G (lf ls 0).nat (lf ls 1).nat (lf ls 2).nat (lf ls 3).nat ((lf ls 4).lst (.int .u8))
  (fun a=>k (.vl (.sv (.gsl 1 5))) [[(.seq (.int .u8) (lf ls 3).nat ((lf ls 4).lst (.int .u8)))]] [[(.gro rN a)]])
def g6R{α:Type}(G:S_g6 α):=rowK g6tp g6bp (g6K G)
def g6hd(G29:Al S_g29)(G28:Al S_g28):Hd where
 call:=fun f args Bs k=>cond (Nat.beq f 29) (g29R G29 args Bs k) (cond (Nat.beq f 28) (g28R G28 args Bs k) (none))
 loop:=fun id st k=>none
 ro:=fun f=>cond (Nat.beq f 28) [1] (cond (Nat.beq f 29) [0] ([]))
def g6h(m:Nat):Hd:=g6hd (g29 m) (g28 m)
theorem g6Main(G29:Al S_g29)(G28:Al S_g28){α:Type}(ls:List Lf)(k:KRe α):
  g6K (g6b G29 G28) ls k=evFun tab (g6hd G29 G28) Tryz.f6 (fT g6tp ls) (fB g6tp g6bp ls) k:=by kernel_rfl
theorem g6Calls(m:Nat):(g6h m).CallsOk Tryz.prog:=(cok_cons (g29Ok m) (cok_cons (g28Ok m) cok_nil))
theorem g6Ok(m:Nat):RowOk Tryz.prog 6 (fun{α}=>g6R (g6 m (α:=α))):=
 rwk (g6Calls m) (lo0 (by kernel_rfl))
  (fun _=>g6Main (g29 m) (g28 m))
abbrev S_g7(α:Type):Type:=Nat→Nat→Nat→Int→Nat→(List Int)→(Int→Option α)→Option α
def g7b{α:Type}(G29:Al S_g29)(G30:Al S_g30)(a b c:Nat)(d:Int)(e:Nat)(h:List Int)(i:Int→Option α):Option α:=G29 a b c e h (G30 d a b c (0:Int) (0:Int) e h (fun j l n=>i j))
def g7{α:Type}(m:Nat):S_g7 α:=
 g7b (g29 m) (g30 m)
def g7tp:List TP:=[(.vl (.sv (.sla 0 0 1))),tI]
def g7bp:List BP:=[(false,[(.seqv (.int .u8))])]
def g7K{α:Type}(G:S_g7 α)(ls:List Lf)(k:KRe α):Option α:=
 G (lf ls 0).nat (lf ls 1).nat (lf ls 2).nat (lf ls 3).int (lf ls 4).nat ((lf ls 5).lst (.int .u8))
  (fun a=>k (.vl (.sv (.int .i64 a))) [[(.seq (.int .u8) (lf ls 4).nat ((lf ls 5).lst (.int .u8)))]] [])
def g7R{α:Type}(G:S_g7 α):=rowK g7tp g7bp (g7K G)
def g7hd(G29:Al S_g29)(G30:Al S_g30):Hd where
 call:=fun f args Bs k=>cond (Nat.beq f 29) (g29R G29 args Bs k) (cond (Nat.beq f 30) (g30R G30 args Bs k) (none))
 loop:=fun id st k=>none
 ro:=fun f=>cond (Nat.beq f 29) [0] (cond (Nat.beq f 30) [1] ([]))
def g7h(m:Nat):Hd:=g7hd (g29 m) (g30 m)
theorem g7Main(G29:Al S_g29)(G30:Al S_g30){α:Type}(ls:List Lf)(k:KRe α):
  g7K (g7b G29 G30) ls k=evFun tab (g7hd G29 G30) Tryz.f7 (fT g7tp ls) (fB g7tp g7bp ls) k:=by kernel_rfl
theorem g7Calls(m:Nat):(g7h m).CallsOk Tryz.prog:=(cok_cons (g29Ok m) (cok_cons (g30Ok m) cok_nil))
theorem g7Ok(m:Nat):RowOk Tryz.prog 7 (fun{α}=>g7R (g7 m (α:=α))):=
 rwk (g7Calls m) (lo0 (by kernel_rfl))
  (fun _=>g7Main (g29 m) (g30 m))
abbrev S_g29v1(α:Type):Type:=(List Int)→(Option α)→Option α
def g29v1b{α:Type}(a:List Int)(b:Option α):Option α:=b
def g29v1{α:Type}(m:Nat):S_g29v1 α:=
 g29v1b
def g29v1tp:List TP:=[(.vl (.sv (.gsl 0 1)))]
def g29v1bp:List BP:=[(false,[(.gro (.int .u8))])]
def g29v1K{α:Type}(G:S_g29v1 α)(ls:List Lf)(k:KRe α):Option α:=
 G ((lf ls 0).lst (.int .u8))
  (k (.vl (.sv (.ptr 1 0))) [[(.gro (.int .u8) ((lf ls 0).lst (.int .u8)))]] [[(.one (.gsl 0 1)),(.one (.int .i64 (0:Int))),(.one (.int .u64 (0:Int)))]])
def g29v1R{α:Type}(G:S_g29v1 α):=rowK g29v1tp g29v1bp (g29v1K G)
def g29v1hd:Hd where
 call:=fun f args Bs k=>none
 loop:=fun id st k=>none
 ro:=fun f=>[]
def g29v1h(m:Nat):Hd:=g29v1hd
theorem g29v1Main{α:Type}(ls:List Lf)(k:KRe α):
  g29v1K (g29v1b) ls k=evFun tab (g29v1hd) Tryz.f29 (fT g29v1tp ls) (fB g29v1tp g29v1bp ls) k:=by kernel_rfl
theorem g29v1Calls(m:Nat):(g29v1h m).CallsOk Tryz.prog:=cok_nil
theorem g29v1Ok(m:Nat):RowOk Tryz.prog 29 (fun{α}=>g29v1R (g29v1 m (α:=α))):=
 rwk (g29v1Calls m) (lo0 (by kernel_rfl))
  (fun _=>g29v1Main)
abbrev S_g63v1(α:Type):Type:=Int→Int→(List Int)→(Int→Int→Int→Option α)→Option α
def g63v1b{α:Type}(a b:Int)(c:List Int)(d:Int→Int→Int→Option α):Option α:=cond (decide (a<((c.length:Nat):Int))) (if 0≤a∧a<(c.length:Nat) then if a.toNat<c.length then let e:Int:=IntKind.wrap .i64 (List.getD c a.toNat 0);let h:Int:=IntKind.wrap .i64 (a+(1:Int));let i:Int:=IntKind.wrap .u64 ((IntKind.wrap .u64 ((IntKind.wrap .u64 (b*(6364136223846793005:Int)))+(IntKind.wrap .u64 e)))+(1442695040888963407:Int));cond (decide (h≤((c.length:Nat):Int))) (d e h i) (d (IntKind.wrap .i64 (ibits .and .u64 (Int.fdiv i (2^40)) (255:Int))) h i) else none else none) (let j:Int:=IntKind.wrap .i64 (a+(1:Int));let l:Int:=IntKind.wrap .u64 ((IntKind.wrap .u64 ((IntKind.wrap .u64 (b*(6364136223846793005:Int)))+(0:Int)))+(1442695040888963407:Int));cond (decide (j≤((c.length:Nat):Int))) (d (0:Int) j l) (d (IntKind.wrap .i64 (ibits .and .u64 (Int.fdiv l (2^40)) (255:Int))) j l))
def g63v1{α:Type}(m:Nat):S_g63v1 α:=
 g63v1b
def g63v1tp:List TP:=[(.vl (.sv (.ptr 0 0)))]
def g63v1bp:List BP:=[(true,[(.one (.gsl 1 1)),(.one (.int .i64)),(.one (.int .u64))]),(false,[(.gro (.int .u8))])]
def g63v1K{α:Type}(G:S_g63v1 α)(ls:List Lf)(k:KRe α):Option α:=
 G (lf ls 0).int (lf ls 1).int ((lf ls 2).lst (.int .u8))
  (fun a b c=>k (.vl (.sv (.int .i64 a))) [[(.one (.gsl 1 1)),(.one (.int .i64 b)),(.one (.int .u64 c))],[(.gro (.int .u8) ((lf ls 2).lst (.int .u8)))]] [])
def g63v1R{α:Type}(G:S_g63v1 α):=rowK g63v1tp g63v1bp (g63v1K G)
def g63v1hd:Hd where
 call:=fun f args Bs k=>none
 loop:=fun id st k=>none
 ro:=fun f=>[]
def g63v1h(m:Nat):Hd:=g63v1hd
theorem g63v1Main{α:Type}(ls:List Lf)(k:KRe α):
  g63v1K (g63v1b) ls k=evFun tab (g63v1hd) Tryz.f63 (fT g63v1tp ls) (fB g63v1tp g63v1bp ls) k:=by kernel_rfl
theorem g63v1Calls(m:Nat):(g63v1h m).CallsOk Tryz.prog:=cok_nil
theorem g63v1Ok(m:Nat):RowOk Tryz.prog 63 (fun{α}=>g63v1R (g63v1 m (α:=α))):=
 rwk (g63v1Calls m) (lo0 (by kernel_rfl))
  (fun _=>g63v1Main)
abbrev S_g30v1(α:Type):Type:=Int→Int→Int→(List Int)→(Int→Int→Int→Option α)→Option α
def g30v1b{α:Type}(G63v1:Al S_g63v1)(a b c:Int)(d:List Int)(e:Int→Int→Int→Option α):Option α:=cond (decide (a≤(1:Int))) (e (0:Int) b c) (G63v1 b c d (fun h i j=>cond (decide (a>(200:Int))) (G63v1 i j d (fun l n o=>if a=0 then none else e (Int.tmod (IntKind.wrap .i64 ((IntKind.wrap .i64 (h*(256:Int)))+l)) a) n o)) (if a=0 then none else e (Int.tmod h a) i j)))
def g30v1{α:Type}(m:Nat):S_g30v1 α:=
 g30v1b (g63v1 m)
def g30v1tp:List TP:=[(.vl (.sv (.ptr 0 0))),tI]
def g30v1bp:List BP:=[(true,[(.one (.gsl 1 1)),(.one (.int .i64)),(.one (.int .u64))]),(false,[(.gro (.int .u8))])]
def g30v1K{α:Type}(G:S_g30v1 α)(ls:List Lf)(k:KRe α):Option α:=
 G (lf ls 0).int (lf ls 1).int (lf ls 2).int ((lf ls 3).lst (.int .u8))
  (fun a b c=>k (.vl (.sv (.int .i64 a))) [[(.one (.gsl 1 1)),(.one (.int .i64 b)),(.one (.int .u64 c))],[(.gro (.int .u8) ((lf ls 3).lst (.int .u8)))]] [])
def g30v1R{α:Type}(G:S_g30v1 α):=rowK g30v1tp g30v1bp (g30v1K G)
def g30v1hd(G63v1:Al S_g63v1):Hd where
 call:=fun f args Bs k=>cond (Nat.beq f 63) (g63v1R G63v1 args Bs k) (none)
 loop:=fun id st k=>none
 ro:=fun f=>cond (Nat.beq f 63) [1] ([])
def g30v1h(m:Nat):Hd:=g30v1hd (g63v1 m)
theorem g30v1Main(G63v1:Al S_g63v1){α:Type}(ls:List Lf)(k:KRe α):
  g30v1K (g30v1b G63v1) ls k=evFun tab (g30v1hd G63v1) Tryz.f30 (fT g30v1tp ls) (fB g30v1tp g30v1bp ls) k:=by kernel_rfl
theorem g30v1Calls(m:Nat):(g30v1h m).CallsOk Tryz.prog:=(cok_cons (g63v1Ok m) cok_nil)
theorem g30v1Ok(m:Nat):RowOk Tryz.prog 30 (fun{α}=>g30v1R (g30v1 m (α:=α))):=
 rwk (g30v1Calls m) (lo0 (by kernel_rfl))
  (fun _=>g30v1Main (g63v1 m))
abbrev S_g7v1(α:Type):Type:=Int→(List Int)→(Int→Option α)→Option α
def g7v1b{α:Type}(G29v1:Al S_g29v1)(G30v1:Al S_g30v1)(a:Int)(b:List Int)(c:Int→Option α):Option α:=G29v1 b (G30v1 a (0:Int) (0:Int) b (fun d e h=>c d))
def g7v1{α:Type}(m:Nat):S_g7v1 α:=
 g7v1b (g29v1 m) (g30v1 m)
def g7v1tp:List TP:=[(.vl (.sv (.gsl 0 1))),tI]
def g7v1bp:List BP:=[(false,[(.gro (.int .u8))])]
def g7v1K{α:Type}(G:S_g7v1 α)(ls:List Lf)(k:KRe α):Option α:=
 G (lf ls 0).int ((lf ls 1).lst (.int .u8))
  (fun a=>k (.vl (.sv (.int .i64 a))) [[(.gro (.int .u8) ((lf ls 1).lst (.int .u8)))]] [])
def g7v1R{α:Type}(G:S_g7v1 α):=rowK g7v1tp g7v1bp (g7v1K G)
def g7v1hd(G29v1:Al S_g29v1)(G30v1:Al S_g30v1):Hd where
 call:=fun f args Bs k=>cond (Nat.beq f 29) (g29v1R G29v1 args Bs k) (cond (Nat.beq f 30) (g30v1R G30v1 args Bs k) (none))
 loop:=fun id st k=>none
 ro:=fun f=>cond (Nat.beq f 29) [0] (cond (Nat.beq f 30) [1] ([]))
def g7v1h(m:Nat):Hd:=g7v1hd (g29v1 m) (g30v1 m)
theorem g7v1Main(G29v1:Al S_g29v1)(G30v1:Al S_g30v1){α:Type}(ls:List Lf)(k:KRe α):
  g7v1K (g7v1b G29v1 G30v1) ls k=evFun tab (g7v1hd G29v1 G30v1) Tryz.f7 (fT g7v1tp ls) (fB g7v1tp g7v1bp ls) k:=by kernel_rfl
theorem g7v1Calls(m:Nat):(g7v1h m).CallsOk Tryz.prog:=(cok_cons (g29v1Ok m) (cok_cons (g30v1Ok m) cok_nil))
theorem g7v1Ok(m:Nat):RowOk Tryz.prog 7 (fun{α}=>g7v1R (g7v1 m (α:=α))):=
 rwk (g7v1Calls m) (lo0 (by kernel_rfl))
  (fun _=>g7v1Main (g29v1 m) (g30v1 m))
abbrev S_g37(α:Type):Type:=Int→(Bool→Bool→Bool→Option α)→Option α
def g37b{α:Type}(a:Int)(b:Bool→Bool→Bool→Option α):Option α:=cond (a==(1:Int)) (b false false true) (cond (a==(2:Int)) (b true true false) (cond (a==(3:Int)) (b true true false) (cond (a==(4:Int)) (b true true false) (cond (a==(5:Int)) (b true true false) (cond (a==(8:Int)) (b true true false) (cond (a==(9:Int)) (b true true false) (cond (a==(6:Int)) (b true false false) (cond (a==(7:Int)) (b true false false) (cond (a==(10:Int)) (b true false false) (b false false false))))))))))
def g37{α:Type}(m:Nat):S_g37 α:=
 g37b
def g37tp:List TP:=[(.vl (.sv (.int .i8)))]
def g37bp:List BP:=[]
def g37K{α:Type}(G:S_g37 α)(ls:List Lf)(k:KRe α):Option α:=
 G (lf ls 0).int
  (fun a b c=>k (.tup [(.sv (.bool a)),(.sv (.bool b)),(.sv (.bool c))]) [] [])
def g37R{α:Type}(G:S_g37 α):=rowK g37tp g37bp (g37K G)
def g37hd:Hd where
 call:=fun f args Bs k=>none
 loop:=fun id st k=>none
 ro:=fun f=>[]
def g37h(m:Nat):Hd:=g37hd
theorem g37Main{α:Type}(ls:List Lf)(k:KRe α):
  g37K (g37b) ls k=evFun tab (g37hd) Tryz.f37 (fT g37tp ls) (fB g37tp g37bp ls) k:=by kernel_rfl
theorem g37Calls(m:Nat):(g37h m).CallsOk Tryz.prog:=cok_nil
theorem g37Ok(m:Nat):RowOk Tryz.prog 37 (fun{α}=>g37R (g37 m (α:=α))):=
 rwk (g37Calls m) (lo0 (by kernel_rfl))
  (fun _=>g37Main)
abbrev S_g40(α:Type):Type:=Int→Int→Int→(Bool→Option α)→Option α
def g40b{α:Type}(a b c:Int)(d:Bool→Option α):Option α:=cond (decide (a≥b)) (d (decide (a≤c))) (d false)
def g40{α:Type}(m:Nat):S_g40 α:=
 g40b
def g40tp:List TP:=[tI,tI,tI]
def g40bp:List BP:=[]
def g40K{α:Type}(G:S_g40 α)(ls:List Lf)(k:KRe α):Option α:=
 G (lf ls 0).int (lf ls 1).int (lf ls 2).int
  (fun a=>k (.vl (.sv (.bool a))) [] [])
def g40R{α:Type}(G:S_g40 α):=rowK g40tp g40bp (g40K G)
def g40hd:Hd where
 call:=fun f args Bs k=>none
 loop:=fun id st k=>none
 ro:=fun f=>[]
def g40h(m:Nat):Hd:=g40hd
theorem g40Main{α:Type}(ls:List Lf)(k:KRe α):
  g40K (g40b) ls k=evFun tab (g40hd) Tryz.f40 (fT g40tp ls) (fB g40tp g40bp ls) k:=by kernel_rfl
theorem g40Calls(m:Nat):(g40h m).CallsOk Tryz.prog:=cok_nil
theorem g40Ok(m:Nat):RowOk Tryz.prog 40 (fun{α}=>g40R (g40 m (α:=α))):=
 rwk (g40Calls m) (lo0 (by kernel_rfl))
  (fun _=>g40Main)
abbrev S_g38(α:Type):Type:=Int→Int→Int→(Bool→Option α)→Option α
def g38b{α:Type}(G40:Al S_g40)(a b c:Int)(d:Bool→Option α):Option α:=cond (a==(1:Int)) (G40 b (-1000000000:Int) (1000000000:Int) (fun e=>cond e (G40 c (1:Int) (1000000000:Int) (fun h=>d h)) (d false))) (cond (b==(0:Int)) (d (c==(0:Int))) (d false))
def g38{α:Type}(m:Nat):S_g38 α:=
 g38b (g40 m)
def g38tp:List TP:=[(.vl (.sv (.int .i8))),tI,tI]
def g38bp:List BP:=[]
def g38K{α:Type}(G:S_g38 α)(ls:List Lf)(k:KRe α):Option α:=
 G (lf ls 0).int (lf ls 1).int (lf ls 2).int
  (fun a=>k (.vl (.sv (.bool a))) [] [])
def g38R{α:Type}(G:S_g38 α):=rowK g38tp g38bp (g38K G)
def g38hd(G40:Al S_g40):Hd where
 call:=fun f args Bs k=>cond (Nat.beq f 40) (g40R G40 args Bs k) (none)
 loop:=fun id st k=>none
 ro:=fun f=>[]
def g38h(m:Nat):Hd:=g38hd (g40 m)
theorem g38Main(G40:Al S_g40){α:Type}(ls:List Lf)(k:KRe α):
  g38K (g38b G40) ls k=evFun tab (g38hd G40) Tryz.f38 (fT g38tp ls) (fB g38tp g38bp ls) k:=by kernel_rfl
theorem g38Calls(m:Nat):(g38h m).CallsOk Tryz.prog:=(cok_cons (g40Ok m) cok_nil)
theorem g38Ok(m:Nat):RowOk Tryz.prog 38 (fun{α}=>g38R (g38 m (α:=α))):=
 rwk (g38Calls m) (lo0 (by kernel_rfl))
  (fun _=>g38Main (g40 m))
abbrev S_g39(α:Type):Type:=Int→Int→Bool→(Bool→Option α)→Option α
def g39b{α:Type}(a b:Int)(c:Bool)(d:Bool→Option α):Option α:=cond (!c) (d (a==(0:Int))) (cond (decide (a≥(0:Int))) (d (decide ((IntKind.wrap .i64 a)<b))) (d false))
def g39{α:Type}(m:Nat):S_g39 α:=
 g39b
def g39tp:List TP:=[(.vl (.sv (.int .i16))),tI,(.vl (.sv .bool))]
def g39bp:List BP:=[]
def g39K{α:Type}(G:S_g39 α)(ls:List Lf)(k:KRe α):Option α:=
 G (lf ls 0).int (lf ls 1).int (lf ls 2).bool
  (fun a=>k (.vl (.sv (.bool a))) [] [])
def g39R{α:Type}(G:S_g39 α):=rowK g39tp g39bp (g39K G)
def g39hd:Hd where
 call:=fun f args Bs k=>none
 loop:=fun id st k=>none
 ro:=fun f=>[]
def g39h(m:Nat):Hd:=g39hd
theorem g39Main{α:Type}(ls:List Lf)(k:KRe α):
  g39K (g39b) ls k=evFun tab (g39hd) Tryz.f39 (fT g39tp ls) (fB g39tp g39bp ls) k:=by kernel_rfl
theorem g39Calls(m:Nat):(g39h m).CallsOk Tryz.prog:=cok_nil
theorem g39Ok(m:Nat):RowOk Tryz.prog 39 (fun{α}=>g39R (g39 m (α:=α))):=
 rwk (g39Calls m) (lo0 (by kernel_rfl))
  (fun _=>g39Main)
abbrev S_g10(α:Type):Type:=Ty0→(Bool→Option α)→Option α
abbrev S_g10l0(α:Type):Type:=Int→Ty0→(Option α)→(Option α)→Int→Option α
def g10l0b{α:Type}(G37:Al S_g37)(G38:Al S_g38)(G39:Al S_g39)(a:Int)(b:Ty0)(c d:Option α)(e:Int→Option α)(h:Int):Option α:=cond (decide (h<a)) (if 0≤h∧h<(b.length:Nat) then if h.toNat<b.length then let i:Int:=(List.getD b h.toNat []).headD 0;G37 i (fun j l n=>cond (decide (i<(1:Int))) (c) (cond (decide (i>(12:Int))) (c) (G38 i ((List.getD b h.toNat []).tail.tail.tail.headD 0) ((List.getD b h.toNat []).tail.tail.tail.tail.headD 0) (fun o=>cond (!o) (c) (G39 ((List.getD b h.toNat []).tail.headD 0) h j (fun p=>cond (!p) (c) (G39 ((List.getD b h.toNat []).tail.tail.headD 0) h l (fun q=>cond (!q) (c) (e (IntKind.wrap .i64 (h+(1:Int)))))))))))) else none else none) (d)
def g10l0{α:Type}(G37:Al S_g37)(G38:Al S_g38)(G39:Al S_g39)(a:Int)(b:Ty0)(c d:Option α):Nat→Int→Option α
 |0=>fun _=>none
 |m+1=>fun e=>g10l0b G37 G38 G39 a b c d (g10l0 G37 G38 G39 a b c d m) e
def g10l0M{α:Type}(m:Nat):S_g10l0 α:=
 fun a b c d e=>g10l0 (g37 m) (g38 m) (g39 m) a b c d m e
def g10l0D:LoopD:={n:=65,low:=[0],sl:=[16,17,18],bl:=[0],tp:=[(.vl (.sv (.gsl 0 5))),tI,tI],bp:=[(false,[(.gro rN)])],xs:=[(1,[2]),(2,[])]}
def g10l0K{α:Type}(L:S_g10l0 α)(ls:List Lf)(k:KEx α):Option α:=
 L (lf ls 0).int ((lf ls 2).lst rN)
  (k .ret (mkSt 65 [2] [(.vl (.sv (.bool false)))] [0] [(false,[(.gro rN ((lf ls 2).lst rN))])]))
  (k .normal (mkSt 65 [] [] [0] [(false,[(.gro rN ((lf ls 2).lst rN))])]))
  (lf ls 1).int
def g10b{α:Type}(G37:Al S_g37)(G38:Al S_g38)(G39:Al S_g39)(L10l0:Al S_g10l0)(a:Ty0)(b:Bool→Option α):Option α:=cond (decide (((a.length:Nat):Int)<(1:Int))) (b false) (cond (decide (((a.length:Nat):Int)>(40:Int))) (b false) (L10l0 ((a.length:Nat):Int) a (b false) (b true) (0:Int)))
def g10{α:Type}(m:Nat):S_g10 α:=
 g10b (g37 m) (g38 m) (g39 m) (g10l0M m)
def g10tp:List TP:=[(.vl (.sv (.gsl 0 5)))]
def g10bp:List BP:=[(false,[(.gro rN)])]
def g10K{α:Type}(G:S_g10 α)(ls:List Lf)(k:KRe α):Option α:=
 G ((lf ls 0).lst rN)
  (fun a=>k (.vl (.sv (.bool a))) [[(.gro rN ((lf ls 0).lst rN))]] [])
def g10R{α:Type}(G:S_g10 α):=rowK g10tp g10bp (g10K G)
def g10hd(G37:Al S_g37)(G38:Al S_g38)(G39:Al S_g39)(L10l0:Al S_g10l0):Hd where
 call:=fun f args Bs k=>cond (Nat.beq f 37) (g37R G37 args Bs k) (cond (Nat.beq f 38) (g38R G38 args Bs k) (cond (Nat.beq f 39) (g39R G39 args Bs k) (none)))
 loop:=fun id st k=>cond (Nat.beq id 0) (loopH g10l0D (g10l0K L10l0) st k) (none)
 ro:=fun f=>[]
def g10h(m:Nat):Hd:=g10hd (g37 m) (g38 m) (g39 m) (g10l0M m)
theorem g10l0Step(G37:Al S_g37)(G38:Al S_g38)(G39:Al S_g39)(L10l0:Al S_g10l0){α:Type}(L:S_g10l0 α)(ls:List Lf)(k:KEx α):
  g10l0K (fun a b c d e=>g10l0b G37 G38 G39 a b c d (L a b c d) e) ls k=ev tab (g10hd G37 G38 G39 L10l0) (bodyAt Tryz.f10 0) (atHead g10l0D ls) (loopK g10l0D 0 (loopH g10l0D (g10l0K L)) k):=by kernel_rfl
theorem g10Main(G37:Al S_g37)(G38:Al S_g38)(G39:Al S_g39)(L10l0:Al S_g10l0){α:Type}(ls:List Lf)(k:KRe α):
  g10K (g10b G37 G38 G39 L10l0) ls k=evFun tab (g10hd G37 G38 G39 L10l0) Tryz.f10 (fT g10tp ls) (fB g10tp g10bp ls) k:=by kernel_rfl
theorem g10Calls(m:Nat):(g10h m).CallsOk Tryz.prog:=(cok_cons (g37Ok m) (cok_cons (g38Ok m) (cok_cons (g39Ok m) cok_nil)))
theorem g10l0Ok(m:Nat)(α:Type)(st:St)(k:KEx α)(r:α)(h:(g10h m).loop 0 st k=some r):
  LoopS Tryz.prog 0 (bodyAt Tryz.f10 0) st k r:=
 lpk (F:=fun n ls k=>g10l0K (fun a b c d e=>g10l0 (g37 m) (g38 m) (g39 m) a b c d n e) ls k) (g10Calls m) (lb0 (by kernel_rfl))
  (fun _ _=>rfl) (fun n ls k=>g10l0Step (g37 m) (g38 m) (g39 m) (g10l0M m) (fun a b c d=>g10l0 (g37 m) (g38 m) (g39 m) a b c d n) ls k) (n:=m) h
theorem g10Ok(m:Nat):RowOk Tryz.prog 10 (fun{α}=>g10R (g10 m (α:=α))):=
 rwk (g10Calls m) (lo1 (by kernel_rfl) (g10l0Ok m))
  (fun _=>g10Main (g37 m) (g38 m) (g39 m) (g10l0M m))
abbrev S_g64(α:Type):Type:=Nat→Nat→Nat→Ty0→(List Int)→(Bool→Option α)→Option α
abbrev S_g64l0(α:Type):Type:=Nat→Nat→Nat→Int→Ty0→(List Int)→(Option α)→(Option α)→Int→Option α
def g64l0b{α:Type}(G40:Al S_g40)(a b c:Nat)(d:Int)(e:Ty0)(h:List Int)(i j:Option α)(l:Int→Option α)(n:Int):Option α:=cond (decide (n<d)) (if 0≤n∧n<(b:Nat) then if(a+n.toNat)<1 then G40 (List.getD h (a+n.toNat) 0) (0:Int) (IntKind.wrap .i64 (((e.length:Nat):Int)-(1:Int))) (fun o=>cond (!o) (i) (l (IntKind.wrap .i64 (n+(1:Int))))) else none else none) (j)
def g64l0{α:Type}(G40:Al S_g40)(a b c:Nat)(d:Int)(e:Ty0)(h:List Int)(i j:Option α):Nat→Int→Option α
 |0=>fun _=>none
 |m+1=>fun l=>g64l0b G40 a b c d e h i j (g64l0 G40 a b c d e h i j m) l
def g64l0M{α:Type}(m:Nat):S_g64l0 α:=
 fun a b c d e h i j l=>g64l0 (g40 m) a b c d e h i j m l
def g64l0D:LoopD:={n:=20,low:=[0,1],sl:=[0,7,8,9],bl:=[0,1],tp:=[(.vl (.sv (.gsl 0 5))),(.vl (.sv (.slc 1 0 1))),tI,tI],bp:=[(false,[(.gro rN)]),(false,[(.seq (.int .i64) 1)])],xs:=[(1,[4]),(2,[])]}
def g64l0K{α:Type}(L:S_g64l0 α)(ls:List Lf)(k:KEx α):Option α:=
 L (lf ls 0).nat (lf ls 1).nat (lf ls 2).nat (lf ls 3).int ((lf ls 5).lst rN) ((lf ls 6).lst (.int .i64))
  (k .ret (mkSt 20 [4] [(.vl (.sv (.bool false)))] [0,1] [(false,[(.gro rN ((lf ls 5).lst rN))]),(false,[(.seq (.int .i64) 1 ((lf ls 6).lst (.int .i64)))])]))
  (k .normal (mkSt 20 [] [] [0,1] [(false,[(.gro rN ((lf ls 5).lst rN))]),(false,[(.seq (.int .i64) 1 ((lf ls 6).lst (.int .i64)))])]))
  (lf ls 4).int
def g64b{α:Type}(G40:Al S_g40)(L64l0:Al S_g64l0)(a b c:Nat)(d:Ty0)(e:List Int)(h:Bool→Option α):Option α:=L64l0 a b c ((b:Nat):Int) d e (h false) (h true) (0:Int)
def g64{α:Type}(m:Nat):S_g64 α:=
 g64b (g40 m) (g64l0M m)
def g64tp:List TP:=[(.vl (.sv (.gsl 0 5))),(.vl (.sv (.slc 1 0 1)))]
def g64bp:List BP:=[(false,[(.gro rN)]),(false,[(.seq (.int .i64) 1)])]
def g64K{α:Type}(G:S_g64 α)(ls:List Lf)(k:KRe α):Option α:=
 G (lf ls 0).nat (lf ls 1).nat (lf ls 2).nat ((lf ls 3).lst rN) ((lf ls 4).lst (.int .i64))
  (fun a=>k (.vl (.sv (.bool a))) [[(.gro rN ((lf ls 3).lst rN))],[(.seq (.int .i64) 1 ((lf ls 4).lst (.int .i64)))]] [])
def g64R{α:Type}(G:S_g64 α):=rowK g64tp g64bp (g64K G)
def g64hd(G40:Al S_g40)(L64l0:Al S_g64l0):Hd where
 call:=fun f args Bs k=>cond (Nat.beq f 40) (g40R G40 args Bs k) (none)
 loop:=fun id st k=>cond (Nat.beq id 0) (loopH g64l0D (g64l0K L64l0) st k) (none)
 ro:=fun f=>[]
def g64h(m:Nat):Hd:=g64hd (g40 m) (g64l0M m)
theorem g64l0Step(G40:Al S_g40)(L64l0:Al S_g64l0){α:Type}(L:S_g64l0 α)(ls:List Lf)(k:KEx α):
  g64l0K (fun a b c d e h i j l=>g64l0b G40 a b c d e h i j (L a b c d e h i j) l) ls k=ev tab (g64hd G40 L64l0) (bodyAt Tryz.f64 0) (atHead g64l0D ls) (loopK g64l0D 0 (loopH g64l0D (g64l0K L)) k):=by kernel_rfl
theorem g64Main(G40:Al S_g40)(L64l0:Al S_g64l0){α:Type}(ls:List Lf)(k:KRe α):
  g64K (g64b G40 L64l0) ls k=evFun tab (g64hd G40 L64l0) Tryz.f64 (fT g64tp ls) (fB g64tp g64bp ls) k:=by kernel_rfl
theorem g64Calls(m:Nat):(g64h m).CallsOk Tryz.prog:=(cok_cons (g40Ok m) cok_nil)
theorem g64l0Ok(m:Nat)(α:Type)(st:St)(k:KEx α)(r:α)(h:(g64h m).loop 0 st k=some r):
  LoopS Tryz.prog 0 (bodyAt Tryz.f64 0) st k r:=
 lpk (F:=fun n ls k=>g64l0K (fun a b c d e i j l o=>g64l0 (g40 m) a b c d e i j l n o) ls k) (g64Calls m) (lb0 (by kernel_rfl))
  (fun _ _=>rfl) (fun n ls k=>g64l0Step (g40 m) (g64l0M m) (fun a b c d e i j l=>g64l0 (g40 m) a b c d e i j l n) ls k) (n:=m) h
theorem g64Ok(m:Nat):RowOk Tryz.prog 64 (fun{α}=>g64R (g64 m (α:=α))):=
 rwk (g64Calls m) (lo1 (by kernel_rfl) (g64l0Ok m))
  (fun _=>g64Main (g40 m) (g64l0M m))
abbrev S_g65(α:Type):Type:=Ty0→(Ty1→Ty0→Option α)→Option α
def g65b{α:Type}(a:Ty0)(b:Ty1→Ty0→Option α):Option α:=b [] []
def g65{α:Type}(m:Nat):S_g65 α:=
 g65b
def g65tp:List TP:=[(.vl (.sv (.gsl 0 5)))]
def g65bp:List BP:=[(false,[(.gro rN)])]
def g65K{α:Type}(G:S_g65 α)(ls:List Lf)(k:KRe α):Option α:=
 G ((lf ls 0).lst rN)
  (fun c d=>k (.vl (.sv (.ptr 1 0))) [[(.gro rN ((lf ls 0).lst rN))]] [[(.one (.bool false)),(.one (.gsl 0 5)),(.one (.mpp 2)),(.one (.gsl 3 2)),(.one (.int .i64 (0:Int)))],[(.mp rP mW c)],[(.gro rP d)]])
def g65R{α:Type}(G:S_g65 α):=rowK g65tp g65bp (g65K G)
def g65hd:Hd where
 call:=fun f args Bs k=>none
 loop:=fun id st k=>none
 ro:=fun f=>[]
def g65h(m:Nat):Hd:=g65hd
theorem g65Main{α:Type}(ls:List Lf)(k:KRe α):
  g65K (g65b) ls k=evFun tab (g65hd) Tryz.f65 (fT g65tp ls) (fB g65tp g65bp ls) k:=by kernel_rfl
theorem g65Calls(m:Nat):(g65h m).CallsOk Tryz.prog:=cok_nil
theorem g65Ok(m:Nat):RowOk Tryz.prog 65 (fun{α}=>g65R (g65 m (α:=α))):=
 rwk (g65Calls m) (lo0 (by kernel_rfl))
  (fun _=>g65Main)
abbrev S_g31(α:Type):Type:=Int→Int→Nat→Nat→Nat→Ty0→(List Int)→(Int→Option α)→(Ty1→Ty0→Option α)→Option α
def g31b{α:Type}(G10:Al S_g10)(G64:Al S_g64)(G40:Al S_g40)(G65:Al S_g65)(a b:Int)(c d e:Nat)(h:Ty0)(i:List Int)(j:Int→Option α)(l:Ty1→Ty0→Option α):Option α:=G10 h (fun n=>cond (!n) (j (1:Int)) (G64 c d e h i (fun o=>cond (!o) (j (2:Int)) (G40 a (0:Int) b (fun p=>cond (!p) (j (2:Int)) (G65 h (fun q r=>l q r)))))))
def g31{α:Type}(m:Nat):S_g31 α:=
 g31b (g10 m) (g64 m) (g40 m) (g65 m)
def g31tp:List TP:=[(.vl (.sv (.gsl 0 5))),tI,tI,(.vl (.sv (.slc 1 0 1)))]
def g31bp:List BP:=[(false,[(.gro rN)]),(false,[(.seq (.int .i64) 1)])]
def g31K{α:Type}(G:S_g31 α)(ls:List Lf)(k:KRe α):Option α:=
 G (lf ls 0).int (lf ls 1).int (lf ls 2).nat (lf ls 3).nat (lf ls 4).nat ((lf ls 5).lst rN) ((lf ls 6).lst (.int .i64))
  (fun c=>k (.tup [(.sv .nilp),(.sv (.int .i64 c))]) [[(.gro rN ((lf ls 5).lst rN))],[(.seq (.int .i64) 1 ((lf ls 6).lst (.int .i64)))]] [])
  (fun d e=>k (.tup [(.sv (.ptr 2 0)),(.sv (.int .i64 (0:Int)))]) [[(.gro rN ((lf ls 5).lst rN))],[(.seq (.int .i64) 1 ((lf ls 6).lst (.int .i64)))]] [[(.one (.bool false)),(.one (.gsl 0 5)),(.one (.mpp 3)),(.one (.gsl 4 2)),(.one (.int .i64 (0:Int)))],[(.mp rP mW d)],[(.gro rP e)]])
def g31R{α:Type}(G:S_g31 α):=rowK g31tp g31bp (g31K G)
def g31hd(G10:Al S_g10)(G64:Al S_g64)(G40:Al S_g40)(G65:Al S_g65):Hd where
 call:=fun f args Bs k=>cond (Nat.beq f 10) (g10R G10 args Bs k) (cond (Nat.beq f 64) (g64R G64 args Bs k) (cond (Nat.beq f 40) (g40R G40 args Bs k) (cond (Nat.beq f 65) (g65R G65 args Bs k) (none))))
 loop:=fun id st k=>none
 ro:=fun f=>cond (Nat.beq f 10) [0] (cond (Nat.beq f 64) [0,1] (cond (Nat.beq f 65) [0] ([])))
def g31h(m:Nat):Hd:=g31hd (g10 m) (g64 m) (g40 m) (g65 m)
theorem g31Main(G10:Al S_g10)(G64:Al S_g64)(G40:Al S_g40)(G65:Al S_g65){α:Type}(ls:List Lf)(k:KRe α):
  g31K (g31b G10 G64 G40 G65) ls k=evFun tab (g31hd G10 G64 G40 G65) Tryz.f31 (fT g31tp ls) (fB g31tp g31bp ls) k:=by kernel_rfl
theorem g31Calls(m:Nat):(g31h m).CallsOk Tryz.prog:=(cok_cons (g10Ok m) (cok_cons (g64Ok m) (cok_cons (g40Ok m) (cok_cons (g65Ok m) cok_nil))))
theorem g31Ok(m:Nat):RowOk Tryz.prog 31 (fun{α}=>g31R (g31 m (α:=α))):=
 rwk (g31Calls m) (lo0 (by kernel_rfl))
  (fun _=>g31Main (g10 m) (g64 m) (g40 m) (g65 m))
end Go.Proofs.YtlmmgjngihlpeaaGreat.Sx
