/- Functions. Printed by our own sx.py. -/
import Derived.Test.YtlmmgjngihlpeaaGreatSxT
namespace Go.Proofs.YtlmmgjngihlpeaaGreat.Sx
open Go
set_option linter.unusedVariables false
set_option maxRecDepth 100000
abbrev S_g73(α:Type):Type:=Bool→(List Int)→(Bool→Option α)→Option α
def g73b{α:Type}(a:Bool)(b:List Int)(c:Bool→Option α):Option α:=cond a (c (!(eqLI b [0,0,0,0,0,0]))) (c false)
def g73{α:Type}(m:Nat):S_g73 α:=
 g73b
def g73tp:List TP:=[(.vl (.sv .bool)),(.vl (.agg [(.seq uU 6)]))]
def g73bp:List BP:=[]
def g73K{α:Type}(G:S_g73 α)(ls:List Lf)(k:KRe α):Option α:=
 G (lf ls 0).bool ((lf ls 1).lst uU)
  (fun a=>k (.vl (.agg [(.one (.bool a)),(.seq uU 6 ((lf ls 1).lst uU))])) [] [])
def g73R{α:Type}(G:S_g73 α):=rowK g73tp g73bp (g73K G)
def g73hd:Hd where
 call:=fun f args Bs k=>none
 loop:=fun id st k=>none
 ro:=fun f=>[]
def g73h(m:Nat):Hd:=g73hd
theorem g73Main{α:Type}(ls:List Lf)(k:KRe α):
  g73K (g73b) ls k=evFun tab (g73hd) Tryz.f73 (fT g73tp ls) (fB g73tp g73bp ls) k:=by kernel_rfl
theorem g73Calls(m:Nat):(g73h m).CallsOk Tryz.prog:=cok_nil
theorem g73Ok(m:Nat):RowOk Tryz.prog 73 (fun{α}=>g73R (g73 m (α:=α))):=
 rwk (g73Calls m) (lo0 (by kernel_rfl))
  (fun _=>g73Main)
abbrev S_g71(α:Type):Type:=Bool→(List Int)→(Bool→Option α)→Option α
def g71b{α:Type}(G73:Al S_g73)(a:Bool)(b:List Int)(c:Bool→Option α):Option α:=G73 (!a) b (fun d=>c d)
def g71{α:Type}(m:Nat):S_g71 α:=
 g71b (g73 m)
def g71tp:List TP:=[vW]
def g71bp:List BP:=[]
def g71K{α:Type}(G:S_g71 α)(ls:List Lf)(k:KRe α):Option α:=
 G (lf ls 0).bool ((lf ls 1).lst uU)
  (fun a=>k (.vl (.agg [(.one (.bool a)),(.seq uU 6 ((lf ls 1).lst uU))])) [] [])
def g71R{α:Type}(G:S_g71 α):=rowK g71tp g71bp (g71K G)
def g71hd(G73:Al S_g73):Hd where
 call:=fun f args Bs k=>cond (Nat.beq f 73) (g73R G73 args Bs k) (none)
 loop:=fun id st k=>none
 ro:=fun f=>[]
def g71h(m:Nat):Hd:=g71hd (g73 m)
theorem g71Main(G73:Al S_g73){α:Type}(ls:List Lf)(k:KRe α):
  g71K (g71b G73) ls k=evFun tab (g71hd G73) Tryz.f71 (fT g71tp ls) (fB g71tp g71bp ls) k:=by kernel_rfl
theorem g71Calls(m:Nat):(g71h m).CallsOk Tryz.prog:=(cok_cons (g73Ok m) cok_nil)
theorem g71Ok(m:Nat):RowOk Tryz.prog 71 (fun{α}=>g71R (g71 m (α:=α))):=
 rwk (g71Calls m) (lo0 (by kernel_rfl))
  (fun _=>g71Main (g73 m))
abbrev S_g45(α:Type):Type:=(List Int)→(List Int)→((List Int)→Bool→Option α)→Option α
abbrev S_g45l0(α:Type):Type:=(List Int)→(List Int)→(Int→(List Int)→Option α)→Int→Int→(List Int)→Option α
def g45l0b{α:Type}(a b:List Int)(c:Int→(List Int)→Option α)(d:Int→Int→(List Int)→Option α)(e h:Int)(i:List Int):Option α:=cond (decide (h<(6:Int))) (if 0≤h∧h<(6:Nat) then if h.toNat<6 then if 0≤h∧h<(6:Nat) then if h.toNat<6 then let j:Int:=IntKind.wrap .u64 (e+(IntKind.wrap .u64 ((IntKind.wrap .u64 (List.getD i h.toNat 0))+(IntKind.wrap .u64 (List.getD a h.toNat 0)))));if 0≤h∧h<(6:Nat) then if h.toNat<6 then d (Int.fdiv j (2^32)) (IntKind.wrap .i64 (h+(1:Int))) (List.set i (h.toNat) (IntKind.wrap .u32 j)) else none else none else none else none else none else none) (c e i)
def g45l0{α:Type}(a b:List Int)(c:Int→(List Int)→Option α):Nat→Int→Int→(List Int)→Option α
 |0=>fun _ _ _=>none
 |m+1=>fun d e h=>g45l0b a b c (g45l0 a b c m) d e h
def g45l0M{α:Type}(m:Nat):S_g45l0 α:=
 fun a b c d e h=>g45l0 a b c m d e h
def g45l0D:LoopD:={n:=32,low:=[],sl:=[2,3,4,6,8],bl:=[1000000,1000001,1000002],tp:=[(.vl (.sv (.ptr 1000000 0))),(.vl (.sv (.ptr 1000001 0))),(.vl (.sv (.ptr 1000002 0))),(.vl (.sv (.int .u64))),tI],bp:=[b6,b6,b6],xs:=[(2,[2,4,6])]}
def g45l0K{α:Type}(L:S_g45l0 α)(ls:List Lf)(k:KEx α):Option α:=
 L ((lf ls 3).lst uU) ((lf ls 4).lst uU)
  (fun a b=>k .normal (mkSt 32 [2,4,6] [(.vl (.sv (.ptr 1000000 0))),(.vl (.sv (.ptr 1000001 0))),(.vl (.sv (.int .u64 a)))] [1000000,1000001] [(true,[(.seq uU 6 b)]),(true,[(.seq uU 6 ((lf ls 4).lst uU))])]))
  (lf ls 0).int (lf ls 1).int ((lf ls 2).lst uU)
def g45b{α:Type}(L45l0:Al S_g45l0)(a b:List Int)(c:(List Int)→Bool→Option α):Option α:=L45l0 b [0,0,0,0,0,0] (fun d e=>c e (d !=(0:Int))) (0:Int) (0:Int) a
def g45{α:Type}(m:Nat):S_g45 α:=
 g45b (g45l0M m)
def g45tp:List TP:=[(.vl (.agg [(.seq uU 6)])),(.vl (.agg [(.seq uU 6)]))]
def g45bp:List BP:=[]
def g45K{α:Type}(G:S_g45 α)(ls:List Lf)(k:KRe α):Option α:=
 G ((lf ls 0).lst uU) ((lf ls 1).lst uU)
  (fun a b=>k (.tup [(.agg [(.seq uU 6 a)]),(.sv (.bool b))]) [] [])
def g45R{α:Type}(G:S_g45 α):=rowK g45tp g45bp (g45K G)
def g45hd(L45l0:Al S_g45l0):Hd where
 call:=fun f args Bs k=>none
 loop:=fun id st k=>cond (Nat.beq id 0) (loopH g45l0D (g45l0K L45l0) st k) (none)
 ro:=fun f=>[]
def g45h(m:Nat):Hd:=g45hd (g45l0M m)
theorem g45l0Step(L45l0:Al S_g45l0){α:Type}(L:S_g45l0 α)(ls:List Lf)(k:KEx α):
  g45l0K (fun a b c d e h=>g45l0b a b c (L a b c) d e h) ls k=ev tab (g45hd L45l0) (bodyAt Tryz.f45 0) (atHead g45l0D ls) (loopK g45l0D 0 (loopH g45l0D (g45l0K L)) k):=by kernel_rfl
theorem g45Main(L45l0:Al S_g45l0){α:Type}(ls:List Lf)(k:KRe α):
  g45K (g45b L45l0) ls k=evFun tab (g45hd L45l0) Tryz.f45 (fT g45tp ls) (fB g45tp g45bp ls) k:=by kernel_rfl
theorem g45Calls(m:Nat):(g45h m).CallsOk Tryz.prog:=cok_nil
theorem g45l0Ok(m:Nat)(α:Type)(st:St)(k:KEx α)(r:α)(h:(g45h m).loop 0 st k=some r):
  LoopS Tryz.prog 0 (bodyAt Tryz.f45 0) st k r:=
 lpk (F:=fun n ls k=>g45l0K (fun a b c d e i=>g45l0 a b c n d e i) ls k) (g45Calls m) (lb0 (by kernel_rfl))
  (fun _ _=>rfl) (fun n ls k=>g45l0Step (g45l0M m) (fun a b c=>g45l0 a b c n) ls k) (n:=m) h
theorem g45Ok(m:Nat):RowOk Tryz.prog 45 (fun{α}=>g45R (g45 m (α:=α))):=
 rwk (g45Calls m) (lo1 (by kernel_rfl) (g45l0Ok m))
  (fun _=>g45Main (g45l0M m))
abbrev S_g46(α:Type):Type:=(List Int)→(List Int)→(Int→Option α)→Option α
abbrev S_g46l0(α:Type):Type:=(List Int)→(List Int)→(Int→Option α)→(Option α)→Int→Option α
def g46l0b{α:Type}(a b:List Int)(c:Int→Option α)(d:Option α)(e:Int→Option α)(h:Int):Option α:=cond (decide (h≥(0:Int))) (if 0≤h∧h<(6:Nat) then if h.toNat<6 then if 0≤h∧h<(6:Nat) then if h.toNat<6 then cond ((List.getD a h.toNat 0) !=(List.getD b h.toNat 0)) (if 0≤h∧h<(6:Nat) then if h.toNat<6 then if 0≤h∧h<(6:Nat) then if h.toNat<6 then cond (decide ((List.getD a h.toNat 0)<(List.getD b h.toNat 0))) (c (-1:Int)) (c (1:Int)) else none else none else none else none) (e (IntKind.wrap .i64 (h-(1:Int)))) else none else none else none else none) (d)
def g46l0{α:Type}(a b:List Int)(c:Int→Option α)(d:Option α):Nat→Int→Option α
 |0=>fun _=>none
 |m+1=>fun e=>g46l0b a b c d (g46l0 a b c d m) e
def g46l0M{α:Type}(m:Nat):S_g46l0 α:=
 fun a b c d e=>g46l0 a b c d m e
def g46l0D:LoopD:={n:=24,low:=[],sl:=[2,3,5],bl:=[1000000,1000001],tp:=[(.vl (.sv (.ptr 1000000 0))),(.vl (.sv (.ptr 1000001 0))),tI],bp:=[b6,b6],xs:=[(1,[4]),(2,[])]}
def g46l0K{α:Type}(L:S_g46l0 α)(ls:List Lf)(k:KEx α):Option α:=
 L ((lf ls 1).lst uU) ((lf ls 2).lst uU)
  (fun a=>k .ret (mkSt 24 [4] [(.vl (.sv (.int .i64 a)))] [] []))
  (k .normal (mkSt 24 [] [] [] []))
  (lf ls 0).int
def g46b{α:Type}(L46l0:Al S_g46l0)(a b:List Int)(c:Int→Option α):Option α:=L46l0 a b (fun d=>c d) (c (0:Int)) (5:Int)
def g46{α:Type}(m:Nat):S_g46 α:=
 g46b (g46l0M m)
def g46tp:List TP:=[(.vl (.agg [(.seq uU 6)])),(.vl (.agg [(.seq uU 6)]))]
def g46bp:List BP:=[]
def g46K{α:Type}(G:S_g46 α)(ls:List Lf)(k:KRe α):Option α:=
 G ((lf ls 0).lst uU) ((lf ls 1).lst uU)
  (fun a=>k (.vl (.sv (.int .i64 a))) [] [])
def g46R{α:Type}(G:S_g46 α):=rowK g46tp g46bp (g46K G)
def g46hd(L46l0:Al S_g46l0):Hd where
 call:=fun f args Bs k=>none
 loop:=fun id st k=>cond (Nat.beq id 0) (loopH g46l0D (g46l0K L46l0) st k) (none)
 ro:=fun f=>[]
def g46h(m:Nat):Hd:=g46hd (g46l0M m)
theorem g46l0Step(L46l0:Al S_g46l0){α:Type}(L:S_g46l0 α)(ls:List Lf)(k:KEx α):
  g46l0K (fun a b c d e=>g46l0b a b c d (L a b c d) e) ls k=ev tab (g46hd L46l0) (bodyAt Tryz.f46 0) (atHead g46l0D ls) (loopK g46l0D 0 (loopH g46l0D (g46l0K L)) k):=by kernel_rfl
theorem g46Main(L46l0:Al S_g46l0){α:Type}(ls:List Lf)(k:KRe α):
  g46K (g46b L46l0) ls k=evFun tab (g46hd L46l0) Tryz.f46 (fT g46tp ls) (fB g46tp g46bp ls) k:=by kernel_rfl
theorem g46Calls(m:Nat):(g46h m).CallsOk Tryz.prog:=cok_nil
theorem g46l0Ok(m:Nat)(α:Type)(st:St)(k:KEx α)(r:α)(h:(g46h m).loop 0 st k=some r):
  LoopS Tryz.prog 0 (bodyAt Tryz.f46 0) st k r:=
 lpk (F:=fun n ls k=>g46l0K (fun a b c d e=>g46l0 a b c d n e) ls k) (g46Calls m) (lb0 (by kernel_rfl))
  (fun _ _=>rfl) (fun n ls k=>g46l0Step (g46l0M m) (fun a b c d=>g46l0 a b c d n) ls k) (n:=m) h
theorem g46Ok(m:Nat):RowOk Tryz.prog 46 (fun{α}=>g46R (g46 m (α:=α))):=
 rwk (g46Calls m) (lo1 (by kernel_rfl) (g46l0Ok m))
  (fun _=>g46Main (g46l0M m))
abbrev S_g84(α:Type):Type:=(List Int)→(List Int)→((List Int)→Option α)→Option α
abbrev S_g84l0(α:Type):Type:=(List Int)→(List Int)→((List Int)→Option α)→Int→Int→(List Int)→Option α
def g84l0b{α:Type}(a b:List Int)(c:(List Int)→Option α)(d:Int→Int→(List Int)→Option α)(e h:Int)(i:List Int):Option α:=cond (decide (h<(6:Int))) (if 0≤h∧h<(6:Nat) then if h.toNat<6 then if 0≤h∧h<(6:Nat) then if h.toNat<6 then let j:Int:=IntKind.wrap .u64 ((IntKind.wrap .u64 ((IntKind.wrap .u64 (List.getD i h.toNat 0))-(IntKind.wrap .u64 (List.getD a h.toNat 0))))-e);if 0≤h∧h<(6:Nat) then if h.toNat<6 then d (Int.fdiv j (2^63)) (IntKind.wrap .i64 (h+(1:Int))) (List.set i (h.toNat) (IntKind.wrap .u32 j)) else none else none else none else none else none else none) (c i)
def g84l0{α:Type}(a b:List Int)(c:(List Int)→Option α):Nat→Int→Int→(List Int)→Option α
 |0=>fun _ _ _=>none
 |m+1=>fun d e h=>g84l0b a b c (g84l0 a b c m) d e h
def g84l0M{α:Type}(m:Nat):S_g84l0 α:=
 fun a b c d e h=>g84l0 a b c m d e h
def g84l0D:LoopD:={n:=30,low:=[],sl:=[2,3,4,5,8],bl:=[1000000,1000001,1000002],tp:=[(.vl (.sv (.ptr 1000000 0))),(.vl (.sv (.ptr 1000001 0))),(.vl (.sv (.ptr 1000002 0))),(.vl (.sv (.int .u64))),tI],bp:=[b6,b6,b6],xs:=[(2,[2,4])]}
def g84l0K{α:Type}(L:S_g84l0 α)(ls:List Lf)(k:KEx α):Option α:=
 L ((lf ls 3).lst uU) ((lf ls 4).lst uU)
  (fun a=>k .normal (mkSt 30 [2,4] [(.vl (.sv (.ptr 1000000 0))),(.vl (.sv (.ptr 1000001 0)))] [1000000,1000001] [(true,[(.seq uU 6 a)]),(true,[(.seq uU 6 ((lf ls 4).lst uU))])]))
  (lf ls 0).int (lf ls 1).int ((lf ls 2).lst uU)
def g84b{α:Type}(L84l0:Al S_g84l0)(a b:List Int)(c:(List Int)→Option α):Option α:=L84l0 b [0,0,0,0,0,0] (fun d=>c d) (0:Int) (0:Int) a
def g84{α:Type}(m:Nat):S_g84 α:=
 g84b (g84l0M m)
def g84tp:List TP:=[(.vl (.agg [(.seq uU 6)])),(.vl (.agg [(.seq uU 6)]))]
def g84bp:List BP:=[]
def g84K{α:Type}(G:S_g84 α)(ls:List Lf)(k:KRe α):Option α:=
 G ((lf ls 0).lst uU) ((lf ls 1).lst uU)
  (fun a=>k (.vl (.agg [(.seq uU 6 a)])) [] [])
def g84R{α:Type}(G:S_g84 α):=rowK g84tp g84bp (g84K G)
def g84hd(L84l0:Al S_g84l0):Hd where
 call:=fun f args Bs k=>none
 loop:=fun id st k=>cond (Nat.beq id 0) (loopH g84l0D (g84l0K L84l0) st k) (none)
 ro:=fun f=>[]
def g84h(m:Nat):Hd:=g84hd (g84l0M m)
theorem g84l0Step(L84l0:Al S_g84l0){α:Type}(L:S_g84l0 α)(ls:List Lf)(k:KEx α):
  g84l0K (fun a b c d e h=>g84l0b a b c (L a b c) d e h) ls k=ev tab (g84hd L84l0) (bodyAt Tryz.f84 0) (atHead g84l0D ls) (loopK g84l0D 0 (loopH g84l0D (g84l0K L)) k):=by kernel_rfl
theorem g84Main(L84l0:Al S_g84l0){α:Type}(ls:List Lf)(k:KRe α):
  g84K (g84b L84l0) ls k=evFun tab (g84hd L84l0) Tryz.f84 (fT g84tp ls) (fB g84tp g84bp ls) k:=by kernel_rfl
theorem g84Calls(m:Nat):(g84h m).CallsOk Tryz.prog:=cok_nil
theorem g84l0Ok(m:Nat)(α:Type)(st:St)(k:KEx α)(r:α)(h:(g84h m).loop 0 st k=some r):
  LoopS Tryz.prog 0 (bodyAt Tryz.f84 0) st k r:=
 lpk (F:=fun n ls k=>g84l0K (fun a b c d e i=>g84l0 a b c n d e i) ls k) (g84Calls m) (lb0 (by kernel_rfl))
  (fun _ _=>rfl) (fun n ls k=>g84l0Step (g84l0M m) (fun a b c=>g84l0 a b c n) ls k) (n:=m) h
theorem g84Ok(m:Nat):RowOk Tryz.prog 84 (fun{α}=>g84R (g84 m (α:=α))):=
 rwk (g84Calls m) (lo1 (by kernel_rfl) (g84l0Ok m))
  (fun _=>g84Main (g84l0M m))
abbrev S_g53(α:Type):Type:=Bool→(List Int)→Bool→(List Int)→Bool→(Bool→(List Int)→Bool→Option α)→Option α
def g53b{α:Type}(G45:Al S_g45)(G73:Al S_g73)(G46:Al S_g46)(G84:Al S_g84)(a:Bool)(b:List Int)(c:Bool)(d:List Int)(e:Bool)(h:Bool→(List Int)→Bool→Option α):Option α:=cond (a==c) (G45 b d (fun i j=>cond e (G73 a i (fun l=>h l i true)) (G73 a i (fun n=>h n i j)))) (G46 b d (fun o=>cond (decide (o<(0:Int))) (G84 d b (fun p=>G73 c p (fun q=>h q p e))) (G84 b d (fun r=>G73 a r (fun s=>h s r e)))))
def g53{α:Type}(m:Nat):S_g53 α:=
 g53b (g45 m) (g73 m) (g46 m) (g84 m)
abbrev S_g41(α:Type):Type:=Bool→(List Int)→Bool→(List Int)→Bool→(Bool→(List Int)→Bool→Option α)→Option α
def g41b{α:Type}(G71:Al S_g71)(G53:Al S_g53)(a:Bool)(b:List Int)(c:Bool)(d:List Int)(e:Bool)(h:Bool→(List Int)→Bool→Option α):Option α:=G71 c d (fun i=>G53 a b i d e (fun j l n=>h j l n))
def g41{α:Type}(m:Nat):S_g41 α:=
 g41b (g71 m) (g53 m)
abbrev S_g104(α:Type):Type:=Int→(Int→Option α)→Option α
def g104b{α:Type}(a:Int)(b:Int→Option α):Option α:=cond (decide (a≥(65536:Int))) (let c:Int:=Int.fdiv a (2^16);cond (decide (c≥(256:Int))) (let d:Int:=IntKind.wrap .u8 (Int.fdiv c (2^8));if 0≤d∧d<strC0.size then b (IntKind.wrap .i64 ((24:Int)+(IntKind.wrap .i64 (byteAt strC0 d.toNat)))) else none) (let e:Int:=IntKind.wrap .u8 c;if 0≤e∧e<strC0.size then b (IntKind.wrap .i64 ((16:Int)+(IntKind.wrap .i64 (byteAt strC0 e.toNat)))) else none)) (cond (decide (a≥(256:Int))) (let h:Int:=IntKind.wrap .u8 (Int.fdiv a (2^8));if 0≤h∧h<strC0.size then b (IntKind.wrap .i64 ((8:Int)+(IntKind.wrap .i64 (byteAt strC0 h.toNat)))) else none) (let i:Int:=IntKind.wrap .u8 a;if 0≤i∧i<strC0.size then b (IntKind.wrap .i64 ((0:Int)+(IntKind.wrap .i64 (byteAt strC0 i.toNat)))) else none))
def g104{α:Type}(m:Nat):S_g104 α:=
 g104b
def g104tp:List TP:=[(.vl (.sv (.int .u32)))]
def g104bp:List BP:=[]
def g104K{α:Type}(G:S_g104 α)(ls:List Lf)(k:KRe α):Option α:=
 G (lf ls 0).int
  (fun a=>k (.vl (.sv (.int .i64 a))) [] [])
def g104R{α:Type}(G:S_g104 α):=rowK g104tp g104bp (g104K G)
def g104hd:Hd where
 call:=fun f args Bs k=>none
 loop:=fun id st k=>none
 ro:=fun f=>[]
def g104h(m:Nat):Hd:=g104hd
theorem g104Main{α:Type}(ls:List Lf)(k:KRe α):
  g104K (g104b) ls k=evFun tab (g104hd) Tryz.f104 (fT g104tp ls) (fB g104tp g104bp ls) k:=by kernel_rfl
theorem g104Calls(m:Nat):(g104h m).CallsOk Tryz.prog:=cok_nil
theorem g104Ok(m:Nat):RowOk Tryz.prog 104 (fun{α}=>g104R (g104 m (α:=α))):=
 rwk (g104Calls m) (lo0 (by kernel_rfl))
  (fun _=>g104Main)
abbrev S_g72(α:Type):Type:=(List Int)→(Int→Option α)→Option α
abbrev S_g72l0(α:Type):Type:=(List Int)→(Int→Option α)→(Option α)→Int→Option α
def g72l0b{α:Type}(G104:Al S_g104)(a:List Int)(b:Int→Option α)(c:Option α)(d:Int→Option α)(e:Int):Option α:=cond (decide (e≥(0:Int))) (if 0≤e∧e<(6:Nat) then if e.toNat<6 then cond ((List.getD a e.toNat 0) !=(0:Int)) (if 0≤e∧e<(6:Nat) then if e.toNat<6 then G104 (List.getD a e.toNat 0) (fun h=>b (IntKind.wrap .i64 ((IntKind.wrap .i64 ((32:Int)*e))+h))) else none else none) (d (IntKind.wrap .i64 (e-(1:Int)))) else none else none) (c)
def g72l0{α:Type}(G104:Al S_g104)(a:List Int)(b:Int→Option α)(c:Option α):Nat→Int→Option α
 |0=>fun _=>none
 |m+1=>fun d=>g72l0b G104 a b c (g72l0 G104 a b c m) d
def g72l0M{α:Type}(m:Nat):S_g72l0 α:=
 fun a b c d=>g72l0 (g104 m) a b c m d
def g72l0D:LoopD:={n:=19,low:=[],sl:=[1,3],bl:=[1000000],tp:=[(.vl (.sv (.ptr 1000000 0))),tI],bp:=[b6],xs:=[(1,[2]),(2,[])]}
def g72l0K{α:Type}(L:S_g72l0 α)(ls:List Lf)(k:KEx α):Option α:=
 L ((lf ls 1).lst uU)
  (fun a=>k .ret (mkSt 19 [2] [(.vl (.sv (.int .i64 a)))] [] []))
  (k .normal (mkSt 19 [] [] [] []))
  (lf ls 0).int
def g72b{α:Type}(G104:Al S_g104)(L72l0:Al S_g72l0)(a:List Int)(b:Int→Option α):Option α:=L72l0 a (fun c=>b c) (b (0:Int)) (5:Int)
def g72{α:Type}(m:Nat):S_g72 α:=
 g72b (g104 m) (g72l0M m)
def g72tp:List TP:=[(.vl (.agg [(.seq uU 6)]))]
def g72bp:List BP:=[]
def g72K{α:Type}(G:S_g72 α)(ls:List Lf)(k:KRe α):Option α:=
 G ((lf ls 0).lst uU)
  (fun a=>k (.vl (.sv (.int .i64 a))) [] [])
def g72R{α:Type}(G:S_g72 α):=rowK g72tp g72bp (g72K G)
def g72hd(G104:Al S_g104)(L72l0:Al S_g72l0):Hd where
 call:=fun f args Bs k=>cond (Nat.beq f 104) (g104R G104 args Bs k) (none)
 loop:=fun id st k=>cond (Nat.beq id 0) (loopH g72l0D (g72l0K L72l0) st k) (none)
 ro:=fun f=>[]
def g72h(m:Nat):Hd:=g72hd (g104 m) (g72l0M m)
theorem g72l0Step(G104:Al S_g104)(L72l0:Al S_g72l0){α:Type}(L:S_g72l0 α)(ls:List Lf)(k:KEx α):
  g72l0K (fun a b c d=>g72l0b G104 a b c (L a b c) d) ls k=ev tab (g72hd G104 L72l0) (bodyAt Tryz.f72 0) (atHead g72l0D ls) (loopK g72l0D 0 (loopH g72l0D (g72l0K L)) k):=by kernel_rfl
theorem g72Main(G104:Al S_g104)(L72l0:Al S_g72l0){α:Type}(ls:List Lf)(k:KRe α):
  g72K (g72b G104 L72l0) ls k=evFun tab (g72hd G104 L72l0) Tryz.f72 (fT g72tp ls) (fB g72tp g72bp ls) k:=by kernel_rfl
theorem g72Calls(m:Nat):(g72h m).CallsOk Tryz.prog:=(cok_cons (g104Ok m) cok_nil)
theorem g72l0Ok(m:Nat)(α:Type)(st:St)(k:KEx α)(r:α)(h:(g72h m).loop 0 st k=some r):
  LoopS Tryz.prog 0 (bodyAt Tryz.f72 0) st k r:=
 lpk (F:=fun n ls k=>g72l0K (fun a b c d=>g72l0 (g104 m) a b c n d) ls k) (g72Calls m) (lb0 (by kernel_rfl))
  (fun _ _=>rfl) (fun n ls k=>g72l0Step (g104 m) (g72l0M m) (fun a b c=>g72l0 (g104 m) a b c n) ls k) (n:=m) h
theorem g72Ok(m:Nat):RowOk Tryz.prog 72 (fun{α}=>g72R (g72 m (α:=α))):=
 rwk (g72Calls m) (lo1 (by kernel_rfl) (g72l0Ok m))
  (fun _=>g72Main (g104 m) (g72l0M m))
abbrev S_g44(α:Type):Type:=(List Int)→Int→((List Int)→Option α)→Option α
abbrev S_g44l0(α:Type):Type:=Int→Int→(List Int)→(List Int)→((List Int)→Option α)→Int→(List Int)→Option α
def g44l0b{α:Type}(a b:Int)(c d:List Int)(e:(List Int)→Option α)(h:Int→(List Int)→Option α)(i:Int)(j:List Int):Option α:=cond (decide (i≥a)) (let l:Int:=IntKind.wrap .i64 (i-a);if 0≤l∧l<(6:Nat) then if l.toNat<6 then if b<0 then none else if 0≤i∧i<(6:Nat) then if i.toNat<6 then let n:List Int:=List.set j (i.toNat) (IntKind.wrap .u32 ((List.getD c l.toNat 0)*2^(min b.toNat 32)));cond (decide (b>(0:Int))) (cond (decide (i>a)) (if 0≤i∧i<(6:Nat) then if i.toNat<6 then let o:Int:=IntKind.wrap .i64 ((IntKind.wrap .i64 (i-a))-(1:Int));if 0≤o∧o<(6:Nat) then if o.toNat<6 then let p:Int:=IntKind.wrap .i64 ((32:Int)-b);if p<0 then none else if 0≤i∧i<(6:Nat) then if i.toNat<6 then h (IntKind.wrap .i64 (i-(1:Int))) (List.set n (i.toNat) (ibits .or .u32 (List.getD n i.toNat 0) (Int.fdiv (List.getD c o.toNat 0) (2^(min p.toNat 32))))) else none else none else none else none else none else none) (h (IntKind.wrap .i64 (i-(1:Int))) n)) (h (IntKind.wrap .i64 (i-(1:Int))) n) else none else none else none else none) (e j)
def g44l0{α:Type}(a b:Int)(c d:List Int)(e:(List Int)→Option α):Nat→Int→(List Int)→Option α
 |0=>fun _ _=>none
 |m+1=>fun h i=>g44l0b a b c d e (g44l0 a b c d e m) h i
def g44l0M{α:Type}(m:Nat):S_g44l0 α:=
 fun a b c d e h i=>g44l0 a b c d e m h i
def g44l0D:LoopD:={n:=50,low:=[],sl:=[2,4,5,6,7,8],bl:=[1000000,1000001,1000002],tp:=[(.vl (.sv (.ptr 1000000 0))),(.vl (.sv (.ptr 1000001 0))),(.vl (.sv (.ptr 1000002 0))),tI,tI,tI],bp:=[b6,b6,b6],xs:=[(2,[4,5])]}
def g44l0K{α:Type}(L:S_g44l0 α)(ls:List Lf)(k:KEx α):Option α:=
 L (lf ls 0).int (lf ls 1).int ((lf ls 3).lst uU) ((lf ls 4).lst uU)
  (fun a=>k .normal (mkSt 50 [4,5] [(.vl (.sv (.ptr 1000000 0))),(.vl (.sv (.ptr 1000001 0)))] [1000000,1000001] [(true,[(.seq uU 6 ((lf ls 4).lst uU))]),(true,[(.seq uU 6 a)])]))
  (lf ls 2).int ((lf ls 5).lst uU)
def g44b{α:Type}(L44l0:Al S_g44l0)(a:List Int)(b:Int)(c:(List Int)→Option α):Option α:=L44l0 (IntKind.wrap .i64 (Int.tdiv b (32:Int))) (Int.tmod b (32:Int)) a [0,0,0,0,0,0] (fun d=>c d) (5:Int) [0,0,0,0,0,0]
def g44{α:Type}(m:Nat):S_g44 α:=
 g44b (g44l0M m)
def g44tp:List TP:=[(.vl (.agg [(.seq uU 6)])),tI]
def g44bp:List BP:=[]
def g44K{α:Type}(G:S_g44 α)(ls:List Lf)(k:KRe α):Option α:=
 G ((lf ls 0).lst uU) (lf ls 1).int
  (fun a=>k (.vl (.agg [(.seq uU 6 a)])) [] [])
def g44R{α:Type}(G:S_g44 α):=rowK g44tp g44bp (g44K G)
def g44hd(L44l0:Al S_g44l0):Hd where
 call:=fun f args Bs k=>none
 loop:=fun id st k=>cond (Nat.beq id 0) (loopH g44l0D (g44l0K L44l0) st k) (none)
 ro:=fun f=>[]
def g44h(m:Nat):Hd:=g44hd (g44l0M m)
theorem g44l0Step(L44l0:Al S_g44l0){α:Type}(L:S_g44l0 α)(ls:List Lf)(k:KEx α):
  g44l0K (fun a b c d e h i=>g44l0b a b c d e (L a b c d e) h i) ls k=ev tab (g44hd L44l0) (bodyAt Tryz.f44 0) (atHead g44l0D ls) (loopK g44l0D 0 (loopH g44l0D (g44l0K L)) k):=by kernel_rfl
theorem g44Main(L44l0:Al S_g44l0){α:Type}(ls:List Lf)(k:KRe α):
  g44K (g44b L44l0) ls k=evFun tab (g44hd L44l0) Tryz.f44 (fT g44tp ls) (fB g44tp g44bp ls) k:=by kernel_rfl
theorem g44Calls(m:Nat):(g44h m).CallsOk Tryz.prog:=cok_nil
theorem g44l0Ok(m:Nat)(α:Type)(st:St)(k:KEx α)(r:α)(h:(g44h m).loop 0 st k=some r):
  LoopS Tryz.prog 0 (bodyAt Tryz.f44 0) st k r:=
 lpk (F:=fun n ls k=>g44l0K (fun a b c d e i j=>g44l0 a b c d e n i j) ls k) (g44Calls m) (lb0 (by kernel_rfl))
  (fun _ _=>rfl) (fun n ls k=>g44l0Step (g44l0M m) (fun a b c d e=>g44l0 a b c d e n) ls k) (n:=m) h
theorem g44Ok(m:Nat):RowOk Tryz.prog 44 (fun{α}=>g44R (g44 m (α:=α))):=
 rwk (g44Calls m) (lo1 (by kernel_rfl) (g44l0Ok m))
  (fun _=>g44Main (g44l0M m))
abbrev S_g42(α:Type):Type:=Bool→(List Int)→Int→Bool→(Bool→(List Int)→Bool→Option α)→Option α
def g42b{α:Type}(G72:Al S_g72)(G44:Al S_g44)(G73:Al S_g73)(a:Bool)(b:List Int)(c:Int)(d:Bool)(e:Bool→(List Int)→Bool→Option α):Option α:=cond (decide (c>(191:Int))) (e false [0,0,0,0,0,0] true) (G72 b (fun h=>cond (decide ((IntKind.wrap .i64 (h+c))>(192:Int))) (e false [0,0,0,0,0,0] true) (G44 b c (fun i=>G73 a i (fun j=>e j i d)))))
def g42{α:Type}(m:Nat):S_g42 α:=
 g42b (g72 m) (g44 m) (g73 m)
abbrev S_g85(α:Type):Type:=(List Int)→(List Int)→((List Int)→Bool→Option α)→Option α
abbrev S_g85l2(α:Type):Type:=Int→Int→(List Int)→Int→(List Int)→(List Int)→(List Int)→(Int→(List Int)→Option α)→Int→Int→(List Int)→Option α
def g85l2b{α:Type}(a b:Int)(c:List Int)(d:Int)(e h i:List Int)(j:Int→(List Int)→Option α)(l:Int→Int→(List Int)→Option α)(n o:Int)(p:List Int):Option α:=cond (decide (o<(6:Int))) (if 0≤o∧o<(6:Nat) then let q:Int:=IntKind.wrap .i64 (a+o);if 0≤q∧q<(12:Nat) then if q.toNat<12 then let r:Int:=IntKind.wrap .u64 (n+(IntKind.wrap .u64 ((IntKind.wrap .u64 ((IntKind.wrap .u64 b)*(IntKind.wrap .u64 (List.getD e o.toNat 0))))+(IntKind.wrap .u64 (List.getD p q.toNat 0)))));let s:Int:=IntKind.wrap .i64 (a+o);if 0≤s∧s<(12:Nat) then if s.toNat<12 then l (Int.fdiv r (2^32)) (IntKind.wrap .i64 (o+(1:Int))) (List.set p (s.toNat) (IntKind.wrap .u32 r)) else none else none else none else none else none) (j n p)
def g85l2{α:Type}(a b:Int)(c:List Int)(d:Int)(e h i:List Int)(j:Int→(List Int)→Option α):Nat→Int→Int→(List Int)→Option α
 |0=>fun _ _ _=>none
 |m+1=>fun l n o=>g85l2b a b c d e h i j (g85l2 a b c d e h i j m) l n o
def g85l2M{α:Type}(m:Nat):S_g85l2 α:=
 fun a b c d e h i j l n o=>g85l2 a b c d e h i j m l n o
def g85l2D:LoopD:={n:=66,low:=[],sl:=[3,4,6,7,8,9,14,15,19,20],bl:=[1000000,1000001,1000002],tp:=[(.vl (.sv (.ptr 1000000 0))),(.vl (.sv (.ptr 1000001 0))),(.vl (.sv (.ptr 1000002 0))),tI,(.vl (.sv (.int .u32))),(.vl (.sv (.int .u64))),(.vl (.agg [(.seq uU 6)])),tI,(.vl (.agg [(.seq uU 6)])),tI],bp:=[b6,b6,(true,[(.seq uU 12)])],xs:=[(4,[3,4,6,7,9,14,15])]}
def g85l2K{α:Type}(L:S_g85l2 α)(ls:List Lf)(k:KEx α):Option α:=
 L (lf ls 0).int (lf ls 1).int ((lf ls 3).lst uU) (lf ls 4).int ((lf ls 5).lst uU) ((lf ls 7).lst uU) ((lf ls 8).lst uU)
  (fun a b=>k .normal (mkSt 66 [3,4,6,7,9,14,15] [(.vl (.sv (.ptr 1000000 0))),(.vl (.sv (.ptr 1000001 0))),(.vl (.sv (.ptr 1000002 0))),(.vl (.sv (.int .i64 (lf ls 0).int))),(.vl (.sv (.int .u64 a))),(.vl (.agg [(.seq uU 6 ((lf ls 3).lst uU))])),(.vl (.sv (.int .i64 (lf ls 4).int)))] [1000000,1000001,1000002] [(true,[(.seq uU 6 ((lf ls 7).lst uU))]),(true,[(.seq uU 6 ((lf ls 8).lst uU))]),(true,[(.seq uU 12 b)])]))
  (lf ls 2).int (lf ls 6).int ((lf ls 9).lst uU)
abbrev S_g85l0(α:Type):Type:=(List Int)→(List Int)→(List Int)→((List Int)→Option α)→Int→(List Int)→Option α
def g85l0b{α:Type}(L85l2:Al S_g85l2)(a b c:List Int)(d:(List Int)→Option α)(e:Int→(List Int)→Option α)(h:Int)(i:List Int):Option α:=cond (decide (h<(6:Int))) (if 0≤h∧h<(6:Nat) then L85l2 h (List.getD a h.toNat 0) a h b b c (fun j l=>let n:Int:=IntKind.wrap .i64 (h+(6:Int));if 0≤n∧n<(12:Nat) then if n.toNat<12 then e (IntKind.wrap .i64 (h+(1:Int))) (List.set l (n.toNat) (IntKind.wrap .u32 j)) else none else none) (0:Int) (0:Int) i else none) (d i)
def g85l0{α:Type}(L85l2:Al S_g85l2)(a b c:List Int)(d:(List Int)→Option α):Nat→Int→(List Int)→Option α
 |0=>fun _ _=>none
 |m+1=>fun e h=>g85l0b L85l2 a b c d (g85l0 L85l2 a b c d m) e h
def g85l0M{α:Type}(m:Nat):S_g85l0 α:=
 fun a b c d e h=>g85l0 (g85l2M m) a b c d m e h
def g85l0D:LoopD:={n:=66,low:=[],sl:=[3,4,6,14,15],bl:=[1000000,1000001,1000002],tp:=[(.vl (.sv (.ptr 1000000 0))),(.vl (.sv (.ptr 1000001 0))),(.vl (.sv (.ptr 1000002 0))),(.vl (.agg [(.seq uU 6)])),tI],bp:=[b6,b6,(true,[(.seq uU 12)])],xs:=[(2,[4,6])]}
def g85l0K{α:Type}(L:S_g85l0 α)(ls:List Lf)(k:KEx α):Option α:=
 L ((lf ls 0).lst uU) ((lf ls 2).lst uU) ((lf ls 3).lst uU)
  (fun a=>k .normal (mkSt 66 [4,6] [(.vl (.sv (.ptr 1000000 0))),(.vl (.sv (.ptr 1000001 0)))] [1000000,1000001] [(true,[(.seq uU 6 ((lf ls 3).lst uU))]),(true,[(.seq uU 12 a)])]))
  (lf ls 1).int ((lf ls 4).lst uU)
abbrev S_g85l4(α:Type):Type:=Nat→Nat→Nat→Int→(List Int)→(List Int)→((List Int)→Option α)→(Option α)→Int→Option α
def g85l4b{α:Type}(a b c:Nat)(d:Int)(e h:List Int)(i:(List Int)→Option α)(j:Option α)(l:Int→Option α)(n:Int):Option α:=cond (decide (n<d)) (if 0≤n∧n<(b:Nat) then if(a+n.toNat)<12 then cond ((List.getD h (a+n.toNat) 0) !=(0:Int)) (i [0,0,0,0,0,0]) (l (IntKind.wrap .i64 (n+(1:Int)))) else none else none) (j)
def g85l4{α:Type}(a b c:Nat)(d:Int)(e h:List Int)(i:(List Int)→Option α)(j:Option α):Nat→Int→Option α
 |0=>fun _=>none
 |m+1=>fun l=>g85l4b a b c d e h i j (g85l4 a b c d e h i j m) l
def g85l4M{α:Type}(m:Nat):S_g85l4 α:=
 fun a b c d e h i j l=>g85l4 a b c d e h i j m l
def g85l4D:LoopD:={n:=66,low:=[],sl:=[4,6,53,54,55],bl:=[1000000,1000001],tp:=[(.vl (.sv (.ptr 1000000 0))),(.vl (.sv (.ptr 1000001 0))),(.vl (.sv (.slc 1000001 0 1))),tI,tI],bp:=[b6,(true,[(.seq uU 12)])],xs:=[(1,[4,5]),(6,[4,6])]}
def g85l4K{α:Type}(L:S_g85l4 α)(ls:List Lf)(k:KEx α):Option α:=
 L (lf ls 0).nat (lf ls 1).nat (lf ls 2).nat (lf ls 3).int ((lf ls 5).lst uU) ((lf ls 6).lst uU)
  (fun a=>k .ret (mkSt 66 [4,5] [(.vl (.sv (.ptr 1000000 0))),(.vl (.sv (.bool true)))] [1000000] [(true,[(.seq uU 6 a)])]))
  (k .normal (mkSt 66 [4,6] [(.vl (.sv (.ptr 1000000 0))),(.vl (.sv (.ptr 1000001 0)))] [1000000,1000001] [(true,[(.seq uU 6 ((lf ls 5).lst uU))]),(true,[(.seq uU 12 ((lf ls 6).lst uU))])]))
  (lf ls 4).int
def g85b{α:Type}(L85l2:Al S_g85l2)(L85l0:Al S_g85l0)(L85l4:Al S_g85l4)(a b:List Int)(c:(List Int)→Bool→Option α):Option α:=L85l0 a b [0,0,0,0,0,0] (fun d=>L85l4 6 6 6 (6:Int) [0,0,0,0,0,0] d (fun e=>c e true) (c (List.take 6 (List.drop 0 d)) false) (0:Int)) (0:Int) [0,0,0,0,0,0,0,0,0,0,0,0]
def g85{α:Type}(m:Nat):S_g85 α:=
 g85b (g85l2M m) (g85l0M m) (g85l4M m)
def g85tp:List TP:=[(.vl (.agg [(.seq uU 6)])),(.vl (.agg [(.seq uU 6)]))]
def g85bp:List BP:=[]
def g85K{α:Type}(G:S_g85 α)(ls:List Lf)(k:KRe α):Option α:=
 G ((lf ls 0).lst uU) ((lf ls 1).lst uU)
  (fun a b=>k (.tup [(.agg [(.seq uU 6 a)]),(.sv (.bool b))]) [] [])
def g85R{α:Type}(G:S_g85 α):=rowK g85tp g85bp (g85K G)
def g85hd(L85l2:Al S_g85l2)(L85l0:Al S_g85l0)(L85l4:Al S_g85l4):Hd where
 call:=fun f args Bs k=>none
 loop:=fun id st k=>cond (Nat.beq id 2) (loopH g85l2D (g85l2K L85l2) st k) (cond (Nat.beq id 0) (loopH g85l0D (g85l0K L85l0) st k) (cond (Nat.beq id 4) (loopH g85l4D (g85l4K L85l4) st k) (none)))
 ro:=fun f=>[]
def g85h(m:Nat):Hd:=g85hd (g85l2M m) (g85l0M m) (g85l4M m)
theorem g85l2Step(L85l2:Al S_g85l2)(L85l0:Al S_g85l0)(L85l4:Al S_g85l4){α:Type}(L:S_g85l2 α)(ls:List Lf)(k:KEx α):
  g85l2K (fun a b c d e h i j l n o=>g85l2b a b c d e h i j (L a b c d e h i j) l n o) ls k=ev tab (g85hd L85l2 L85l0 L85l4) (bodyAt Tryz.f85 2) (atHead g85l2D ls) (loopK g85l2D 2 (loopH g85l2D (g85l2K L)) k):=by kernel_rfl
theorem g85l0Step(L85l2:Al S_g85l2)(L85l0:Al S_g85l0)(L85l4:Al S_g85l4){α:Type}(L:S_g85l0 α)(ls:List Lf)(k:KEx α):
  g85l0K (fun a b c d e h=>g85l0b L85l2 a b c d (L a b c d) e h) ls k=ev tab (g85hd L85l2 L85l0 L85l4) (bodyAt Tryz.f85 0) (atHead g85l0D ls) (loopK g85l0D 0 (loopH g85l0D (g85l0K L)) k):=by kernel_rfl
theorem g85l4Step(L85l2:Al S_g85l2)(L85l0:Al S_g85l0)(L85l4:Al S_g85l4){α:Type}(L:S_g85l4 α)(ls:List Lf)(k:KEx α):
  g85l4K (fun a b c d e h i j l=>g85l4b a b c d e h i j (L a b c d e h i j) l) ls k=ev tab (g85hd L85l2 L85l0 L85l4) (bodyAt Tryz.f85 4) (atHead g85l4D ls) (loopK g85l4D 4 (loopH g85l4D (g85l4K L)) k):=by kernel_rfl
theorem g85Main(L85l2:Al S_g85l2)(L85l0:Al S_g85l0)(L85l4:Al S_g85l4){α:Type}(ls:List Lf)(k:KRe α):
  g85K (g85b L85l2 L85l0 L85l4) ls k=evFun tab (g85hd L85l2 L85l0 L85l4) Tryz.f85 (fT g85tp ls) (fB g85tp g85bp ls) k:=by kernel_rfl
theorem g85Calls(m:Nat):(g85h m).CallsOk Tryz.prog:=cok_nil
theorem g85l2Ok(m:Nat)(α:Type)(st:St)(k:KEx α)(r:α)(h:(g85h m).loop 2 st k=some r):
  LoopS Tryz.prog 2 (bodyAt Tryz.f85 2) st k r:=
 lpk (F:=fun n ls k=>g85l2K (fun a b c d e i j l o q s=>g85l2 a b c d e i j l n o q s) ls k) (g85Calls m) (lb0 (by kernel_rfl))
  (fun _ _=>rfl) (fun n ls k=>g85l2Step (g85l2M m) (g85l0M m) (g85l4M m) (fun a b c d e i j l=>g85l2 a b c d e i j l n) ls k) (n:=m) h
theorem g85l0Ok(m:Nat)(α:Type)(st:St)(k:KEx α)(r:α)(h:(g85h m).loop 0 st k=some r):
  LoopS Tryz.prog 0 (bodyAt Tryz.f85 0) st k r:=
 lpk (F:=fun n ls k=>g85l0K (fun a b c d e i=>g85l0 (g85l2M m) a b c d n e i) ls k) (g85Calls m) (loopsOk_of _ (fun p hp=>by
  rw[show loopsOf (bodyAt Tryz.f85 0)=[(2,bodyAt Tryz.f85 2)] by kernel_rfl] at hp
  simp only[List.mem_cons,List.not_mem_nil,or_false] at hp
  rcases hp with rfl
  exact g85l2Ok m))
  (fun _ _=>rfl) (fun n ls k=>g85l0Step (g85l2M m) (g85l0M m) (g85l4M m) (fun a b c d=>g85l0 (g85l2M m) a b c d n) ls k) (n:=m) h
theorem g85l4Ok(m:Nat)(α:Type)(st:St)(k:KEx α)(r:α)(h:(g85h m).loop 4 st k=some r):
  LoopS Tryz.prog 4 (bodyAt Tryz.f85 4) st k r:=
 lpk (F:=fun n ls k=>g85l4K (fun a b c d e i j l o=>g85l4 a b c d e i j l n o) ls k) (g85Calls m) (lb0 (by kernel_rfl))
  (fun _ _=>rfl) (fun n ls k=>g85l4Step (g85l2M m) (g85l0M m) (g85l4M m) (fun a b c d e i j l=>g85l4 a b c d e i j l n) ls k) (n:=m) h
theorem g85Fn(m:Nat):FnOk Tryz.prog 85 g85tp g85bp (fun{α}=>g85K (g85 m (α:=α))):=
 fn_ok (tab:=tab) (h:=g85h m) (fn:=Tryz.f85) (F:=fun{α}=>g85K (g85 m (α:=α))) tabOk (g85Calls m) mixed (by kernel_rfl) (by kernel_rfl) (fun c hc=>by
  rw[bodyOf_some hc]
  exact loopsOk_of _ (fun p hp=>by
  rw[show loopsOf (bodyOf Tryz.f85)=[(0,bodyAt Tryz.f85 0),(4,bodyAt Tryz.f85 4)] by kernel_rfl] at hp
  simp only[List.mem_cons,List.not_mem_nil,or_false] at hp
  rcases hp with rfl|rfl
  ·exact g85l0Ok m
  ·exact g85l4Ok m))
  (fun _=>g85Main (g85l2M m) (g85l0M m) (g85l4M m))
theorem g85Ok(m:Nat):RowOk Tryz.prog 85 (fun{α}=>g85R (g85 m (α:=α))):=row_of (g85Fn m)
abbrev S_g54(α:Type):Type:=Bool→(List Int)→Bool→(List Int)→Bool→(Bool→(List Int)→Bool→Option α)→Option α
def g54b{α:Type}(G85:Al S_g85)(G73:Al S_g73)(a:Bool)(b:List Int)(c:Bool)(d:List Int)(e:Bool)(h:Bool→(List Int)→Bool→Option α):Option α:=G85 b d (fun i j=>cond e (G73 (!(a==c)) i (fun l=>h l i true)) (G73 (!(a==c)) i (fun n=>h n i j)))
def g54{α:Type}(m:Nat):S_g54 α:=
 g54b (g85 m) (g73 m)
abbrev S_g105(α:Type):Type:=(List Int)→Int→((List Int)→Option α)→Option α
abbrev S_g105l0(α:Type):Type:=Int→Int→(List Int)→(List Int)→((List Int)→Option α)→Int→(List Int)→Option α
def g105l0b{α:Type}(a b:Int)(c d:List Int)(e:(List Int)→Option α)(h:Int→(List Int)→Option α)(i:Int)(j:List Int):Option α:=cond (decide ((IntKind.wrap .i64 (i+a))<(6:Int))) (let l:Int:=IntKind.wrap .i64 (i+a);if 0≤l∧l<(6:Nat) then if l.toNat<6 then if b<0 then none else if 0≤i∧i<(6:Nat) then if i.toNat<6 then let n:List Int:=List.set j (i.toNat) (Int.fdiv (List.getD c l.toNat 0) (2^(min b.toNat 32)));cond (decide (b>(0:Int))) (cond (decide ((IntKind.wrap .i64 ((IntKind.wrap .i64 (i+a))+(1:Int)))<(6:Int))) (if 0≤i∧i<(6:Nat) then if i.toNat<6 then let o:Int:=IntKind.wrap .i64 ((IntKind.wrap .i64 (i+a))+(1:Int));if 0≤o∧o<(6:Nat) then if o.toNat<6 then let p:Int:=IntKind.wrap .i64 ((32:Int)-b);if p<0 then none else if 0≤i∧i<(6:Nat) then if i.toNat<6 then h (IntKind.wrap .i64 (i+(1:Int))) (List.set n (i.toNat) (ibits .or .u32 (List.getD n i.toNat 0) (IntKind.wrap .u32 ((List.getD c o.toNat 0)*2^(min p.toNat 32))))) else none else none else none else none else none else none) (h (IntKind.wrap .i64 (i+(1:Int))) n)) (h (IntKind.wrap .i64 (i+(1:Int))) n) else none else none else none else none) (e j)
def g105l0{α:Type}(a b:Int)(c d:List Int)(e:(List Int)→Option α):Nat→Int→(List Int)→Option α
 |0=>fun _ _=>none
 |m+1=>fun h i=>g105l0b a b c d e (g105l0 a b c d e m) h i
def g105l0M{α:Type}(m:Nat):S_g105l0 α:=
 fun a b c d e h i=>g105l0 a b c d e m h i
def g105l0D:LoopD:={n:=53,low:=[],sl:=[2,4,5,6,7,8],bl:=[1000000,1000001,1000002],tp:=[(.vl (.sv (.ptr 1000000 0))),(.vl (.sv (.ptr 1000001 0))),(.vl (.sv (.ptr 1000002 0))),tI,tI,tI],bp:=[b6,b6,b6],xs:=[(2,[4,5])]}
def g105l0K{α:Type}(L:S_g105l0 α)(ls:List Lf)(k:KEx α):Option α:=
 L (lf ls 0).int (lf ls 1).int ((lf ls 3).lst uU) ((lf ls 4).lst uU)
  (fun a=>k .normal (mkSt 53 [4,5] [(.vl (.sv (.ptr 1000000 0))),(.vl (.sv (.ptr 1000001 0)))] [1000000,1000001] [(true,[(.seq uU 6 ((lf ls 4).lst uU))]),(true,[(.seq uU 6 a)])]))
  (lf ls 2).int ((lf ls 5).lst uU)
def g105b{α:Type}(L105l0:Al S_g105l0)(a:List Int)(b:Int)(c:(List Int)→Option α):Option α:=L105l0 (IntKind.wrap .i64 (Int.tdiv b (32:Int))) (Int.tmod b (32:Int)) a [0,0,0,0,0,0] (fun d=>c d) (0:Int) [0,0,0,0,0,0]
def g105{α:Type}(m:Nat):S_g105 α:=
 g105b (g105l0M m)
def g105tp:List TP:=[(.vl (.agg [(.seq uU 6)])),tI]
def g105bp:List BP:=[]
def g105K{α:Type}(G:S_g105 α)(ls:List Lf)(k:KRe α):Option α:=
 G ((lf ls 0).lst uU) (lf ls 1).int
  (fun a=>k (.vl (.agg [(.seq uU 6 a)])) [] [])
def g105R{α:Type}(G:S_g105 α):=rowK g105tp g105bp (g105K G)
def g105hd(L105l0:Al S_g105l0):Hd where
 call:=fun f args Bs k=>none
 loop:=fun id st k=>cond (Nat.beq id 0) (loopH g105l0D (g105l0K L105l0) st k) (none)
 ro:=fun f=>[]
def g105h(m:Nat):Hd:=g105hd (g105l0M m)
theorem g105l0Step(L105l0:Al S_g105l0){α:Type}(L:S_g105l0 α)(ls:List Lf)(k:KEx α):
  g105l0K (fun a b c d e h i=>g105l0b a b c d e (L a b c d e) h i) ls k=ev tab (g105hd L105l0) (bodyAt Tryz.f105 0) (atHead g105l0D ls) (loopK g105l0D 0 (loopH g105l0D (g105l0K L)) k):=by kernel_rfl
theorem g105Main(L105l0:Al S_g105l0){α:Type}(ls:List Lf)(k:KRe α):
  g105K (g105b L105l0) ls k=evFun tab (g105hd L105l0) Tryz.f105 (fT g105tp ls) (fB g105tp g105bp ls) k:=by kernel_rfl
theorem g105Calls(m:Nat):(g105h m).CallsOk Tryz.prog:=cok_nil
theorem g105l0Ok(m:Nat)(α:Type)(st:St)(k:KEx α)(r:α)(h:(g105h m).loop 0 st k=some r):
  LoopS Tryz.prog 0 (bodyAt Tryz.f105 0) st k r:=
 lpk (F:=fun n ls k=>g105l0K (fun a b c d e i j=>g105l0 a b c d e n i j) ls k) (g105Calls m) (lb0 (by kernel_rfl))
  (fun _ _=>rfl) (fun n ls k=>g105l0Step (g105l0M m) (fun a b c d e=>g105l0 a b c d e n) ls k) (n:=m) h
theorem g105Ok(m:Nat):RowOk Tryz.prog 105 (fun{α}=>g105R (g105 m (α:=α))):=
 rwk (g105Calls m) (lo1 (by kernel_rfl) (g105l0Ok m))
  (fun _=>g105Main (g105l0M m))
abbrev S_g43(α:Type):Type:=((List Int)→Option α)→Option α
def g43b{α:Type}(a:(List Int)→Option α):Option α:=a [(1:Int),0,0,0,0,0]
def g43{α:Type}(m:Nat):S_g43 α:=
 g43b
def g43tp:List TP:=[]
def g43bp:List BP:=[]
def g43K{α:Type}(G:S_g43 α)(ls:List Lf)(k:KRe α):Option α:=
 G
  (fun a=>k (.vl (.agg [(.seq uU 6 a)])) [] [])
def g43R{α:Type}(G:S_g43 α):=rowK g43tp g43bp (g43K G)
def g43hd:Hd where
 call:=fun f args Bs k=>none
 loop:=fun id st k=>none
 ro:=fun f=>[]
def g43h(m:Nat):Hd:=g43hd
theorem g43Main{α:Type}(ls:List Lf)(k:KRe α):
  g43K (g43b) ls k=evFun tab (g43hd) Tryz.f43 (fT g43tp ls) (fB g43tp g43bp ls) k:=by kernel_rfl
theorem g43Calls(m:Nat):(g43h m).CallsOk Tryz.prog:=cok_nil
theorem g43Ok(m:Nat):RowOk Tryz.prog 43 (fun{α}=>g43R (g43 m (α:=α))):=
 rwk (g43Calls m) (lo0 (by kernel_rfl))
  (fun _=>g43Main)
abbrev S_g74(α:Type):Type:=Bool→(List Int)→Int→Bool→(Bool→(List Int)→Bool→Option α)→Option α
def g74b{α:Type}(G105:Al S_g105)(G43:Al S_g43)(G44:Al S_g44)(G84:Al S_g84)(G46:Al S_g46)(G45:Al S_g45)(G73:Al S_g73)(a:Bool)(b:List Int)(c:Int)(d:Bool)(e:Bool→(List Int)→Bool→Option α):Option α:=cond (decide (c>(191:Int))) (e false [0,0,0,0,0,0] true) (G105 b c (fun h=>cond (c==(0:Int)) (e a b d) (G43 (fun i=>G44 i (IntKind.wrap .i64 (c-(1:Int))) (fun j=>G44 h c (fun l=>G84 b l (fun n=>G46 n j (fun o=>cond (decide (o>(0:Int))) (G43 (fun p=>G45 h p (fun q r=>G73 a q (fun s=>e s q d)))) (cond (o==(0:Int)) (cond (!a) (G43 (fun t=>G45 h t (fun u v=>G73 a u (fun w=>e w u d)))) (G73 a h (fun x=>e x h d))) (G73 a h (fun y=>e y h d)))))))))))
def g74{α:Type}(m:Nat):S_g74 α:=
 g74b (g105 m) (g43 m) (g44 m) (g84 m) (g46 m) (g45 m) (g73 m)
abbrev S_g116(α:Type):Type:=(List Int)→Int→((List Int)→Int→Option α)→Option α
abbrev S_g116l0(α:Type):Type:=Int→(List Int)→(Int→(List Int)→Option α)→Int→Int→(List Int)→Option α
def g116l0b{α:Type}(a:Int)(b:List Int)(c:Int→(List Int)→Option α)(d:Int→Int→(List Int)→Option α)(e h:Int)(i:List Int):Option α:=cond (decide (h≥(0:Int))) (if 0≤h∧h<(6:Nat) then if h.toNat<6 then let j:Int:=ibits .or .u64 (IntKind.wrap .u64 (e*2^32)) (IntKind.wrap .u64 (List.getD i h.toNat 0));let l:Int:=IntKind.wrap .u64 a;if l=0 then none else if 0≤h∧h<(6:Nat) then if h.toNat<6 then let n:Int:=IntKind.wrap .u64 a;if n=0 then none else d (Int.tmod j n) (IntKind.wrap .i64 (h-(1:Int))) (List.set i (h.toNat) (IntKind.wrap .u32 (IntKind.wrap .u64 (Int.tdiv j l)))) else none else none else none else none) (c e i)
def g116l0{α:Type}(a:Int)(b:List Int)(c:Int→(List Int)→Option α):Nat→Int→Int→(List Int)→Option α
 |0=>fun _ _ _=>none
 |m+1=>fun d e h=>g116l0b a b c (g116l0 a b c m) d e h
def g116l0M{α:Type}(m:Nat):S_g116l0 α:=
 fun a b c d e h=>g116l0 a b c m d e h
def g116l0D:LoopD:={n:=33,low:=[],sl:=[1,2,4,6,7],bl:=[1000000,1000001],tp:=[(.vl (.sv (.int .u32))),(.vl (.sv (.ptr 1000000 0))),(.vl (.sv (.ptr 1000001 0))),(.vl (.sv (.int .u64))),tI],bp:=[b6,b6],xs:=[(2,[2,4,6])]}
def g116l0K{α:Type}(L:S_g116l0 α)(ls:List Lf)(k:KEx α):Option α:=
 L (lf ls 0).int ((lf ls 4).lst uU)
  (fun a b=>k .normal (mkSt 33 [2,4,6] [(.vl (.sv (.ptr 1000000 0))),(.vl (.sv (.ptr 1000001 0))),(.vl (.sv (.int .u64 a)))] [1000000,1000001] [(true,[(.seq uU 6 b)]),(true,[(.seq uU 6 ((lf ls 4).lst uU))])]))
  (lf ls 1).int (lf ls 2).int ((lf ls 3).lst uU)
def g116b{α:Type}(L116l0:Al S_g116l0)(a:List Int)(b:Int)(c:(List Int)→Int→Option α):Option α:=L116l0 b [0,0,0,0,0,0] (fun d e=>c e (IntKind.wrap .u32 d)) (0:Int) (5:Int) a
def g116{α:Type}(m:Nat):S_g116 α:=
 g116b (g116l0M m)
def g116tp:List TP:=[(.vl (.agg [(.seq uU 6)])),(.vl (.sv (.int .u32)))]
def g116bp:List BP:=[]
def g116K{α:Type}(G:S_g116 α)(ls:List Lf)(k:KRe α):Option α:=
 G ((lf ls 0).lst uU) (lf ls 1).int
  (fun a b=>k (.tup [(.agg [(.seq uU 6 a)]),(.sv (.int .u32 b))]) [] [])
def g116R{α:Type}(G:S_g116 α):=rowK g116tp g116bp (g116K G)
def g116hd(L116l0:Al S_g116l0):Hd where
 call:=fun f args Bs k=>none
 loop:=fun id st k=>cond (Nat.beq id 0) (loopH g116l0D (g116l0K L116l0) st k) (none)
 ro:=fun f=>[]
def g116h(m:Nat):Hd:=g116hd (g116l0M m)
theorem g116l0Step(L116l0:Al S_g116l0){α:Type}(L:S_g116l0 α)(ls:List Lf)(k:KEx α):
  g116l0K (fun a b c d e h=>g116l0b a b c (L a b c) d e h) ls k=ev tab (g116hd L116l0) (bodyAt Tryz.f116 0) (atHead g116l0D ls) (loopK g116l0D 0 (loopH g116l0D (g116l0K L)) k):=by kernel_rfl
theorem g116Main(L116l0:Al S_g116l0){α:Type}(ls:List Lf)(k:KRe α):
  g116K (g116b L116l0) ls k=evFun tab (g116hd L116l0) Tryz.f116 (fT g116tp ls) (fB g116tp g116bp ls) k:=by kernel_rfl
theorem g116Calls(m:Nat):(g116h m).CallsOk Tryz.prog:=cok_nil
theorem g116l0Ok(m:Nat)(α:Type)(st:St)(k:KEx α)(r:α)(h:(g116h m).loop 0 st k=some r):
  LoopS Tryz.prog 0 (bodyAt Tryz.f116 0) st k r:=
 lpk (F:=fun n ls k=>g116l0K (fun a b c d e i=>g116l0 a b c n d e i) ls k) (g116Calls m) (lb0 (by kernel_rfl))
  (fun _ _=>rfl) (fun n ls k=>g116l0Step (g116l0M m) (fun a b c=>g116l0 a b c n) ls k) (n:=m) h
theorem g116Ok(m:Nat):RowOk Tryz.prog 116 (fun{α}=>g116R (g116 m (α:=α))):=
 rwk (g116Calls m) (lo1 (by kernel_rfl) (g116l0Ok m))
  (fun _=>g116Main (g116l0M m))
abbrev S_g129(α:Type):Type:=Int→(Int→Option α)→Option α
def g129b{α:Type}(G104:Al S_g104)(a:Int)(b:Int→Option α):Option α:=G104 a (fun c=>b (IntKind.wrap .i64 ((32:Int)-c)))
def g129{α:Type}(m:Nat):S_g129 α:=
 g129b (g104 m)
def g129tp:List TP:=[(.vl (.sv (.int .u32)))]
def g129bp:List BP:=[]
def g129K{α:Type}(G:S_g129 α)(ls:List Lf)(k:KRe α):Option α:=
 G (lf ls 0).int
  (fun a=>k (.vl (.sv (.int .i64 a))) [] [])
def g129R{α:Type}(G:S_g129 α):=rowK g129tp g129bp (g129K G)
def g129hd(G104:Al S_g104):Hd where
 call:=fun f args Bs k=>cond (Nat.beq f 104) (g104R G104 args Bs k) (none)
 loop:=fun id st k=>none
 ro:=fun f=>[]
def g129h(m:Nat):Hd:=g129hd (g104 m)
theorem g129Main(G104:Al S_g104){α:Type}(ls:List Lf)(k:KRe α):
  g129K (g129b G104) ls k=evFun tab (g129hd G104) Tryz.f129 (fT g129tp ls) (fB g129tp g129bp ls) k:=by kernel_rfl
theorem g129Calls(m:Nat):(g129h m).CallsOk Tryz.prog:=(cok_cons (g104Ok m) cok_nil)
theorem g129Ok(m:Nat):RowOk Tryz.prog 129 (fun{α}=>g129R (g129 m (α:=α))):=
 rwk (g129Calls m) (lo0 (by kernel_rfl))
  (fun _=>g129Main (g104 m))
abbrev S_g130(α:Type):Type:=Nat→Nat→Nat→Nat→Nat→Nat→(List Int)→(List Int)→(Int→(List Int)→Option α)→Option α
abbrev S_g130l0(α:Type):Type:=Nat→Nat→Nat→Nat→Nat→Nat→Int→(List Int)→(List Int)→(Int→Option α)→Int→Int→Option α
def g130l0b{α:Type}(a b:Nat)(c d:Nat)(e h:Nat)(i:Int)(j l:List Int)(n:Int→Option α)(o:Int→Int→Option α)(p q:Int):Option α:=cond ((Int.fdiv p (2^32)) !=(0:Int)) (let r:Int:=IntKind.wrap .u64 (p-(1:Int));let s:Int:=IntKind.wrap .i64 (i-(1:Int));if 0≤s∧s<(e:Nat) then if(d+s.toNat)<6 then let t:Int:=IntKind.wrap .u64 (q+(IntKind.wrap .u64 (List.getD l (d+s.toNat) 0)));cond ((Int.fdiv t (2^32)) !=(0:Int)) (n r) (o r t) else none else none) (let u:Int:=IntKind.wrap .i64 (i-(2:Int));if 0≤u∧u<(e:Nat) then if(d+u.toNat)<6 then let v:Int:=IntKind.wrap .i64 (i-(2:Int));if 0≤v∧v<(b:Nat) then if(a+v.toNat)<7 then cond (decide ((IntKind.wrap .u64 (p*(IntKind.wrap .u64 (List.getD l (d+u.toNat) 0))))>(ibits .or .u64 (IntKind.wrap .u64 (q*2^32)) (IntKind.wrap .u64 (List.getD j (a+v.toNat) 0))))) (let w:Int:=IntKind.wrap .u64 (p-(1:Int));let x:Int:=IntKind.wrap .i64 (i-(1:Int));if 0≤x∧x<(e:Nat) then if(d+x.toNat)<6 then let y:Int:=IntKind.wrap .u64 (q+(IntKind.wrap .u64 (List.getD l (d+x.toNat) 0)));cond ((Int.fdiv y (2^32)) !=(0:Int)) (n w) (o w y) else none else none) (n p) else none else none else none else none)
def g130l0{α:Type}(a b:Nat)(c d:Nat)(e h:Nat)(i:Int)(j l:List Int)(n:Int→Option α):Nat→Int→Int→Option α
 |0=>fun _ _=>none
 |m+1=>fun o p=>g130l0b a b c d e h i j l n (g130l0 a b c d e h i j l n m) o p
def g130l0M{α:Type}(m:Nat):S_g130l0 α:=
 fun a b c d e h i j l n o p=>g130l0 a b c d e h i j l n m o p
def g130l0D:LoopD:={n:=170,low:=[0,1],sl:=[0,1,5,7,8],bl:=[0,1],tp:=[(.vl (.sv (.slc 0 0 1))),(.vl (.sv (.slc 1 0 1))),tI,(.vl (.sv (.int .u64))),(.vl (.sv (.int .u64)))],bp:=[(true,[(.seq uU 7)]),(false,[(.seq uU 6)])],xs:=[(2,[0,1,5,7])]}
def g130l0K{α:Type}(L:S_g130l0 α)(ls:List Lf)(k:KEx α):Option α:=
 L (lf ls 0).nat (lf ls 1).nat (lf ls 2).nat (lf ls 3).nat (lf ls 4).nat (lf ls 5).nat (lf ls 6).int ((lf ls 9).lst uU) ((lf ls 10).lst uU)
  (fun a=>k .normal (mkSt 170 [0,1,5,7] [(.vl (.sv (.slc 0 0 1 (lf ls 0).nat (lf ls 1).nat (lf ls 2).nat))),(.vl (.sv (.slc 1 0 1 (lf ls 3).nat (lf ls 4).nat (lf ls 5).nat))),(.vl (.sv (.int .i64 (lf ls 6).int))),(.vl (.sv (.int .u64 a)))] [0,1] [(true,[(.seq uU 7 ((lf ls 9).lst uU))]),(false,[(.seq uU 6 ((lf ls 10).lst uU))])]))
  (lf ls 7).int (lf ls 8).int
abbrev S_g130l2(α:Type):Type:=Nat→Nat→Nat→Nat→Nat→Nat→Int→Int→Int→(List Int)→(Int→Int→(List Int)→Option α)→Int→Int→Int→(List Int)→Option α
def g130l2b{α:Type}(a b:Nat)(c d:Nat)(e h:Nat)(i j l:Int)(n:List Int)(o:Int→Int→(List Int)→Option α)(p:Int→Int→Int→(List Int)→Option α)(q r s:Int)(t:List Int):Option α:=cond (decide (s<l)) (if 0≤s∧s<(e:Nat) then if(d+s.toNat)<6 then let u:Int:=IntKind.wrap .u64 (r+(IntKind.wrap .u64 (j*(IntKind.wrap .u64 (List.getD n (d+s.toNat) 0)))));if 0≤s∧s<(b:Nat) then if(a+s.toNat)<7 then let v:Int:=IntKind.wrap .u64 ((IntKind.wrap .u64 ((IntKind.wrap .u64 (List.getD t (a+s.toNat) 0))-(ibits .and .u64 u (4294967295:Int))))-q);if 0≤s∧s<(b:Nat) then if(a+s.toNat)<7 then p (Int.fdiv v (2^63)) (Int.fdiv u (2^32)) (IntKind.wrap .i64 (s+(1:Int))) (List.set t (a+s.toNat) (IntKind.wrap .u32 v)) else none else none else none else none else none else none) (o q r t)
def g130l2{α:Type}(a b:Nat)(c d:Nat)(e h:Nat)(i j l:Int)(n:List Int)(o:Int→Int→(List Int)→Option α):Nat→Int→Int→Int→(List Int)→Option α
 |0=>fun _ _ _ _=>none
 |m+1=>fun p q r s=>g130l2b a b c d e h i j l n o (g130l2 a b c d e h i j l n o m) p q r s
def g130l2M{α:Type}(m:Nat):S_g130l2 α:=
 fun a b c d e h i j l n o p q r s=>g130l2 a b c d e h i j l n o m p q r s
def g130l2D:LoopD:={n:=170,low:=[0,1],sl:=[0,1,5,7,9,10,82,83],bl:=[0,1],tp:=[(.vl (.sv (.slc 0 0 1))),(.vl (.sv (.slc 1 0 1))),tI,(.vl (.sv (.int .u64))),(.vl (.sv (.int .u64))),(.vl (.sv (.int .u64))),tI,tI],bp:=[(true,[(.seq uU 7)]),(false,[(.seq uU 6)])],xs:=[(4,[0,1,5,7,9,10])]}
def g130l2K{α:Type}(L:S_g130l2 α)(ls:List Lf)(k:KEx α):Option α:=
 L (lf ls 0).nat (lf ls 1).nat (lf ls 2).nat (lf ls 3).nat (lf ls 4).nat (lf ls 5).nat (lf ls 6).int (lf ls 7).int (lf ls 10).int ((lf ls 13).lst uU)
  (fun a b c=>k .normal (mkSt 170 [0,1,5,7,9,10] [(.vl (.sv (.slc 0 0 1 (lf ls 0).nat (lf ls 1).nat (lf ls 2).nat))),(.vl (.sv (.slc 1 0 1 (lf ls 3).nat (lf ls 4).nat (lf ls 5).nat))),(.vl (.sv (.int .i64 (lf ls 6).int))),(.vl (.sv (.int .u64 (lf ls 7).int))),(.vl (.sv (.int .u64 a))),(.vl (.sv (.int .u64 b)))] [0,1] [(true,[(.seq uU 7 c)]),(false,[(.seq uU 6 ((lf ls 13).lst uU))])]))
  (lf ls 8).int (lf ls 9).int (lf ls 11).int ((lf ls 12).lst uU)
abbrev S_g130l4(α:Type):Type:=Nat→Nat→Nat→Nat→Nat→Nat→Int→Int→Int→(List Int)→(Int→(List Int)→Option α)→Int→Int→(List Int)→Option α
def g130l4b{α:Type}(a b:Nat)(c d:Nat)(e h:Nat)(i j l:Int)(n:List Int)(o:Int→(List Int)→Option α)(p:Int→Int→(List Int)→Option α)(q r:Int)(s:List Int):Option α:=cond (decide (r<l)) (if 0≤r∧r<(b:Nat) then if(a+r.toNat)<7 then if 0≤r∧r<(e:Nat) then if(d+r.toNat)<6 then let t:Int:=IntKind.wrap .u64 (q+(IntKind.wrap .u64 ((IntKind.wrap .u64 (List.getD s (a+r.toNat) 0))+(IntKind.wrap .u64 (List.getD n (d+r.toNat) 0)))));if 0≤r∧r<(b:Nat) then if(a+r.toNat)<7 then p (Int.fdiv t (2^32)) (IntKind.wrap .i64 (r+(1:Int))) (List.set s (a+r.toNat) (IntKind.wrap .u32 t)) else none else none else none else none else none else none) (o q s)
def g130l4{α:Type}(a b:Nat)(c d:Nat)(e h:Nat)(i j l:Int)(n:List Int)(o:Int→(List Int)→Option α):Nat→Int→Int→(List Int)→Option α
 |0=>fun _ _ _=>none
 |m+1=>fun p q r=>g130l4b a b c d e h i j l n o (g130l4 a b c d e h i j l n o m) p q r
def g130l4M{α:Type}(m:Nat):S_g130l4 α:=
 fun a b c d e h i j l n o p q r=>g130l4 a b c d e h i j l n o m p q r
def g130l4D:LoopD:={n:=170,low:=[0,1],sl:=[0,1,5,7,10,134,135],bl:=[0,1],tp:=[(.vl (.sv (.slc 0 0 1))),(.vl (.sv (.slc 1 0 1))),tI,(.vl (.sv (.int .u64))),(.vl (.sv (.int .u64))),tI,tI],bp:=[(true,[(.seq uU 7)]),(false,[(.seq uU 6)])],xs:=[(6,[0,5,7,10])]}
def g130l4K{α:Type}(L:S_g130l4 α)(ls:List Lf)(k:KEx α):Option α:=
 L (lf ls 0).nat (lf ls 1).nat (lf ls 2).nat (lf ls 3).nat (lf ls 4).nat (lf ls 5).nat (lf ls 6).int (lf ls 7).int (lf ls 9).int ((lf ls 12).lst uU)
  (fun a b=>k .normal (mkSt 170 [0,5,7,10] [(.vl (.sv (.slc 0 0 1 (lf ls 0).nat (lf ls 1).nat (lf ls 2).nat))),(.vl (.sv (.int .i64 (lf ls 6).int))),(.vl (.sv (.int .u64 (lf ls 7).int))),(.vl (.sv (.int .u64 a)))] [0,1] [(true,[(.seq uU 7 b)]),(false,[(.seq uU 6 ((lf ls 12).lst uU))])]))
  (lf ls 8).int (lf ls 10).int ((lf ls 11).lst uU)
def g130b{α:Type}(L130l0:Al S_g130l0)(L130l2:Al S_g130l2)(L130l4:Al S_g130l4)(a b:Nat)(c d:Nat)(e h:Nat)(i j:List Int)(l:Int→(List Int)→Option α):Option α:=if 0≤((e:Nat):Int)∧((e:Nat):Int)<(b:Nat) then if(a+((e:Nat):Int).toNat)<7 then let n:Int:=IntKind.wrap .i64 (((e:Nat):Int)-(1:Int));if 0≤n∧n<(b:Nat) then if(a+n.toNat)<7 then let o:Int:=ibits .or .u64 (IntKind.wrap .u64 ((IntKind.wrap .u64 (List.getD i (a+((e:Nat):Int).toNat) 0))*2^32)) (IntKind.wrap .u64 (List.getD i (a+n.toNat) 0));let p:Int:=IntKind.wrap .i64 (((e:Nat):Int)-(1:Int));if 0≤p∧p<(e:Nat) then if(d+p.toNat)<6 then let q:Int:=IntKind.wrap .u64 (List.getD j (d+p.toNat) 0);if q=0 then none else let r:Int:=IntKind.wrap .i64 (((e:Nat):Int)-(1:Int));if 0≤r∧r<(e:Nat) then if(d+r.toNat)<6 then let s:Int:=IntKind.wrap .u64 (List.getD j (d+r.toNat) 0);if s=0 then none else L130l0 a b c d e h ((e:Nat):Int) i j (fun t=>L130l2 a b c d e h ((e:Nat):Int) t ((e:Nat):Int) j (fun u v w=>if 0≤((e:Nat):Int)∧((e:Nat):Int)<(b:Nat) then if(a+((e:Nat):Int).toNat)<7 then let x:Int:=IntKind.wrap .u64 ((IntKind.wrap .u64 ((IntKind.wrap .u64 (List.getD w (a+((e:Nat):Int).toNat) 0))-v))-u);if 0≤((e:Nat):Int)∧((e:Nat):Int)<(b:Nat) then if(a+((e:Nat):Int).toNat)<7 then let y:List Int:=List.set w (a+((e:Nat):Int).toNat) (IntKind.wrap .u32 x);cond ((Int.fdiv x (2^63))==(0:Int)) (l (IntKind.wrap .u32 t) y) (L130l4 a b c d e h ((e:Nat):Int) t ((e:Nat):Int) j (fun z a0=>if 0≤((e:Nat):Int)∧((e:Nat):Int)<(b:Nat) then if(a+((e:Nat):Int).toNat)<7 then if 0≤((e:Nat):Int)∧((e:Nat):Int)<(b:Nat) then if(a+((e:Nat):Int).toNat)<7 then l (IntKind.wrap .u32 (IntKind.wrap .u64 (t-(1:Int)))) (List.set a0 (a+((e:Nat):Int).toNat) (IntKind.wrap .u32 ((List.getD a0 (a+((e:Nat):Int).toNat) 0)+(IntKind.wrap .u32 z)))) else none else none else none else none) (0:Int) (0:Int) y) else none else none else none else none) (0:Int) (0:Int) (0:Int) i) (IntKind.wrap .u64 (Int.tdiv o q)) (Int.tmod o s) else none else none else none else none else none else none else none else none
def g130{α:Type}(m:Nat):S_g130 α:=
 g130b (g130l0M m) (g130l2M m) (g130l4M m)
def g130tp:List TP:=[(.vl (.sv (.slc 0 0 1))),(.vl (.sv (.slc 1 0 1)))]
def g130bp:List BP:=[(true,[(.seq uU 7)]),(false,[(.seq uU 6)])]
def g130K{α:Type}(G:S_g130 α)(ls:List Lf)(k:KRe α):Option α:=
 G (lf ls 0).nat (lf ls 1).nat (lf ls 2).nat (lf ls 3).nat (lf ls 4).nat (lf ls 5).nat ((lf ls 6).lst uU) ((lf ls 7).lst uU)
  (fun a b=>k (.vl (.sv (.int .u32 a))) [[(.seq uU 7 b)],[(.seq uU 6 ((lf ls 7).lst uU))]] [])
def g130R{α:Type}(G:S_g130 α):=rowK g130tp g130bp (g130K G)
def g130hd(L130l0:Al S_g130l0)(L130l2:Al S_g130l2)(L130l4:Al S_g130l4):Hd where
 call:=fun f args Bs k=>none
 loop:=fun id st k=>cond (Nat.beq id 0) (loopH g130l0D (g130l0K L130l0) st k) (cond (Nat.beq id 2) (loopH g130l2D (g130l2K L130l2) st k) (cond (Nat.beq id 4) (loopH g130l4D (g130l4K L130l4) st k) (none)))
 ro:=fun f=>[]
def g130h(m:Nat):Hd:=g130hd (g130l0M m) (g130l2M m) (g130l4M m)
theorem g130l0Step(L130l0:Al S_g130l0)(L130l2:Al S_g130l2)(L130l4:Al S_g130l4){α:Type}(L:S_g130l0 α)(ls:List Lf)(k:KEx α):
  g130l0K (fun a b c d e h i j l n o p=>g130l0b a b c d e h i j l n (L a b c d e h i j l n) o p) ls k=ev tab (g130hd L130l0 L130l2 L130l4) (bodyAt Tryz.f130 0) (atHead g130l0D ls) (loopK g130l0D 0 (loopH g130l0D (g130l0K L)) k):=by kernel_rfl
theorem g130l2Step(L130l0:Al S_g130l0)(L130l2:Al S_g130l2)(L130l4:Al S_g130l4){α:Type}(L:S_g130l2 α)(ls:List Lf)(k:KEx α):
  g130l2K (fun a b c d e h i j l n o p q r s=>g130l2b a b c d e h i j l n o (L a b c d e h i j l n o) p q r s) ls k=ev tab (g130hd L130l0 L130l2 L130l4) (bodyAt Tryz.f130 2) (atHead g130l2D ls) (loopK g130l2D 2 (loopH g130l2D (g130l2K L)) k):=by kernel_rfl
theorem g130l4Step(L130l0:Al S_g130l0)(L130l2:Al S_g130l2)(L130l4:Al S_g130l4){α:Type}(L:S_g130l4 α)(ls:List Lf)(k:KEx α):
  g130l4K (fun a b c d e h i j l n o p q r=>g130l4b a b c d e h i j l n o (L a b c d e h i j l n o) p q r) ls k=ev tab (g130hd L130l0 L130l2 L130l4) (bodyAt Tryz.f130 4) (atHead g130l4D ls) (loopK g130l4D 4 (loopH g130l4D (g130l4K L)) k):=by kernel_rfl
theorem g130Main(L130l0:Al S_g130l0)(L130l2:Al S_g130l2)(L130l4:Al S_g130l4){α:Type}(ls:List Lf)(k:KRe α):
  g130K (g130b L130l0 L130l2 L130l4) ls k=evFun tab (g130hd L130l0 L130l2 L130l4) Tryz.f130 (fT g130tp ls) (fB g130tp g130bp ls) k:=by kernel_rfl
theorem g130Calls(m:Nat):(g130h m).CallsOk Tryz.prog:=cok_nil
theorem g130l0Ok(m:Nat)(α:Type)(st:St)(k:KEx α)(r:α)(h:(g130h m).loop 0 st k=some r):
  LoopS Tryz.prog 0 (bodyAt Tryz.f130 0) st k r:=
 lpk (F:=fun n ls k=>g130l0K (fun a b c d e i j l o q s t=>g130l0 a b c d e i j l o q n s t) ls k) (g130Calls m) (lb0 (by kernel_rfl))
  (fun _ _=>rfl) (fun n ls k=>g130l0Step (g130l0M m) (g130l2M m) (g130l4M m) (fun a b c d e i j l o q=>g130l0 a b c d e i j l o q n) ls k) (n:=m) h
theorem g130l2Ok(m:Nat)(α:Type)(st:St)(k:KEx α)(r:α)(h:(g130h m).loop 2 st k=some r):
  LoopS Tryz.prog 2 (bodyAt Tryz.f130 2) st k r:=
 lpk (F:=fun n ls k=>g130l2K (fun a b c d e i j l o q s t u v w=>g130l2 a b c d e i j l o q s n t u v w) ls k) (g130Calls m) (lb0 (by kernel_rfl))
  (fun _ _=>rfl) (fun n ls k=>g130l2Step (g130l0M m) (g130l2M m) (g130l4M m) (fun a b c d e i j l o q s=>g130l2 a b c d e i j l o q s n) ls k) (n:=m) h
theorem g130l4Ok(m:Nat)(α:Type)(st:St)(k:KEx α)(r:α)(h:(g130h m).loop 4 st k=some r):
  LoopS Tryz.prog 4 (bodyAt Tryz.f130 4) st k r:=
 lpk (F:=fun n ls k=>g130l4K (fun a b c d e i j l o q s t u v=>g130l4 a b c d e i j l o q s n t u v) ls k) (g130Calls m) (lb0 (by kernel_rfl))
  (fun _ _=>rfl) (fun n ls k=>g130l4Step (g130l0M m) (g130l2M m) (g130l4M m) (fun a b c d e i j l o q s=>g130l4 a b c d e i j l o q s n) ls k) (n:=m) h
theorem g130Fn(m:Nat):FnOk Tryz.prog 130 g130tp g130bp (fun{α}=>g130K (g130 m (α:=α))):=
 fn_ok (tab:=tab) (h:=g130h m) (fn:=Tryz.f130) (F:=fun{α}=>g130K (g130 m (α:=α))) tabOk (g130Calls m) mixed (by kernel_rfl) (by kernel_rfl) (fun c hc=>by
  rw[bodyOf_some hc]
  exact loopsOk_of _ (fun p hp=>by
  rw[show loopsOf (bodyOf Tryz.f130)=[(0,bodyAt Tryz.f130 0),(2,bodyAt Tryz.f130 2),(4,bodyAt Tryz.f130 4)] by kernel_rfl] at hp
  simp only[List.mem_cons,List.not_mem_nil,or_false] at hp
  rcases hp with rfl|rfl|rfl
  ·exact g130l0Ok m
  ·exact g130l2Ok m
  ·exact g130l4Ok m))
  (fun _=>g130Main (g130l0M m) (g130l2M m) (g130l4M m))
theorem g130Ok(m:Nat):RowOk Tryz.prog 130 (fun{α}=>g130R (g130 m (α:=α))):=row_of (g130Fn m)
abbrev S_g127(α:Type):Type:=(List Int)→(List Int)→((List Int)→(List Int)→Option α)→Option α
abbrev S_g127l0(α:Type):Type:=Int→Int→(List Int)→(List Int)→(List Int)→((List Int)→(List Int)→Option α)→Int→(List Int)→(List Int)→Option α
def g127l0b{α:Type}(G130:Al S_g130)(a b:Int)(c d e:List Int)(h:(List Int)→(List Int)→Option α)(i:Int→(List Int)→(List Int)→Option α)(j:Int)(l n:List Int):Option α:=cond (decide (j≥(0:Int))) (let o:Int:=IntKind.wrap .i64 ((IntKind.wrap .i64 (j+a))+(1:Int));if 0≤j∧j≤o∧o≤((7:Nat):Int) then if 0≤(0:Int)∧(0:Int)≤a∧a≤((6:Nat):Int) then G130 (cond (Nat.beq 7 (Int.toNat j)) 0 (Int.toNat j)) ((Int.toNat o)-(Int.toNat j)) (7-(Int.toNat j)) 0 ((Int.toNat a)-0) 6 l e (fun p q=>if 0≤j∧j<(6:Nat) then if j.toNat<6 then i (IntKind.wrap .i64 (j-(1:Int))) q (List.set n (j.toNat) p) else none else none) else none else none) (h l n)
def g127l0{α:Type}(G130:Al S_g130)(a b:Int)(c d e:List Int)(h:(List Int)→(List Int)→Option α):Nat→Int→(List Int)→(List Int)→Option α
 |0=>fun _ _ _=>none
 |m+1=>fun i j l=>g127l0b G130 a b c d e h (g127l0 G130 a b c d e h m) i j l
def g127l0M{α:Type}(m:Nat):S_g127l0 α:=
 fun a b c d e h i j l=>g127l0 (g130 m) a b c d e h m i j l
def g127l0D:LoopD:={n:=86,low:=[],sl:=[4,5,6,9,10,11,13,14],bl:=[1000000,1000001,1000002,1000003,1000004],tp:=[(.vl (.sv (.ptr 1000000 0))),(.vl (.sv (.ptr 1000001 0))),tI,tI,(.vl (.sv (.ptr 1000002 0))),(.vl (.sv (.ptr 1000003 0))),(.vl (.sv (.ptr 1000004 0))),tI],bp:=[b6,b6,b6,(true,[(.seq uU 7)]),b6],xs:=[(2,[4,5,9,11,13])]}
def g127l0K{α:Type}(L:S_g127l0 α)(ls:List Lf)(k:KEx α):Option α:=
 L (lf ls 0).int (lf ls 1).int ((lf ls 3).lst uU) ((lf ls 4).lst uU) ((lf ls 5).lst uU)
  (fun a b=>k .normal (mkSt 86 [4,5,9,11,13] [(.vl (.sv (.ptr 1000000 0))),(.vl (.sv (.ptr 1000001 0))),(.vl (.sv (.int .i64 (lf ls 1).int))),(.vl (.sv (.ptr 1000002 0))),(.vl (.sv (.ptr 1000003 0)))] [1000000,1000001,1000002,1000003] [(true,[(.seq uU 6 ((lf ls 3).lst uU))]),(true,[(.seq uU 6 ((lf ls 4).lst uU))]),(true,[(.seq uU 7 a)]),(true,[(.seq uU 6 b)])]))
  (lf ls 2).int ((lf ls 6).lst uU) ((lf ls 7).lst uU)
def g127b{α:Type}(G72:Al S_g72)(G116:Al S_g116)(G46:Al S_g46)(G129:Al S_g129)(G44:Al S_g44)(G130:Al S_g130)(G105:Al S_g105)(L127l0:Al S_g127l0)(a b:List Int)(c:(List Int)→(List Int)→Option α):Option α:=G72 b (fun d=>let e:Int:=IntKind.wrap .i64 (Int.tdiv (IntKind.wrap .i64 (d+(31:Int))) (32:Int));cond (e==(1:Int)) (G116 a (List.getD b 0 0) (fun h i=>c h [i,0,0,0,0,0])) (G46 a b (fun j=>cond (decide (j<(0:Int))) (c [0,0,0,0,0,0] a) (let l:Int:=IntKind.wrap .i64 (e-(1:Int));if 0≤l∧l<(6:Nat) then if l.toNat<6 then G129 (List.getD b l.toNat 0) (fun n=>G44 b n (fun o=>G44 a n (fun p=>let q:List Int:=List.take 0 [0,0,0,0,0,0,0]++(List.take 6 (List.drop 0 p)++List.drop (0+6) [0,0,0,0,0,0,0]);cond (decide (n>(0:Int))) (let r:Int:=IntKind.wrap .i64 ((32:Int)-n);if r<0 then none else L127l0 e n [0,0,0,0,0,0] [0,0,0,0,0,0] o (fun s t=>G105 (List.take 0 [0,0,0,0,0,0]++(List.take 6 (List.drop 0 s)++List.drop (0+6) [0,0,0,0,0,0])) n (fun u=>c t u)) (IntKind.wrap .i64 ((6:Int)-e)) (List.set q 6 (Int.fdiv (List.getD a 5 0) (2^(min r.toNat 32)))) [0,0,0,0,0,0]) (L127l0 e n [0,0,0,0,0,0] [0,0,0,0,0,0] o (fun v w=>G105 (List.take 0 [0,0,0,0,0,0]++(List.take 6 (List.drop 0 v)++List.drop (0+6) [0,0,0,0,0,0])) n (fun x=>c w x)) (IntKind.wrap .i64 ((6:Int)-e)) q [0,0,0,0,0,0])))) else none else none))))
def g127{α:Type}(m:Nat):S_g127 α:=
 g127b (g72 m) (g116 m) (g46 m) (g129 m) (g44 m) (g130 m) (g105 m) (g127l0M m)
def g127tp:List TP:=[(.vl (.agg [(.seq uU 6)])),(.vl (.agg [(.seq uU 6)]))]
def g127bp:List BP:=[]
def g127K{α:Type}(G:S_g127 α)(ls:List Lf)(k:KRe α):Option α:=
 G ((lf ls 0).lst uU) ((lf ls 1).lst uU)
  (fun a b=>k (.tup [(.agg [(.seq uU 6 a)]),(.agg [(.seq uU 6 b)])]) [] [])
def g127R{α:Type}(G:S_g127 α):=rowK g127tp g127bp (g127K G)
def g127hd(G72:Al S_g72)(G116:Al S_g116)(G46:Al S_g46)(G129:Al S_g129)(G44:Al S_g44)(G130:Al S_g130)(G105:Al S_g105)(L127l0:Al S_g127l0):Hd where
 call:=fun f args Bs k=>cond (Nat.beq f 72) (g72R G72 args Bs k) (cond (Nat.beq f 116) (g116R G116 args Bs k) (cond (Nat.beq f 46) (g46R G46 args Bs k) (cond (Nat.beq f 129) (g129R G129 args Bs k) (cond (Nat.beq f 44) (g44R G44 args Bs k) (cond (Nat.beq f 130) (g130R G130 args Bs k) (cond (Nat.beq f 105) (g105R G105 args Bs k) (none)))))))
 loop:=fun id st k=>cond (Nat.beq id 0) (loopH g127l0D (g127l0K L127l0) st k) (none)
 ro:=fun f=>cond (Nat.beq f 130) [1] ([])
def g127h(m:Nat):Hd:=g127hd (g72 m) (g116 m) (g46 m) (g129 m) (g44 m) (g130 m) (g105 m) (g127l0M m)
theorem g127l0Step(G72:Al S_g72)(G116:Al S_g116)(G46:Al S_g46)(G129:Al S_g129)(G44:Al S_g44)(G130:Al S_g130)(G105:Al S_g105)(L127l0:Al S_g127l0){α:Type}(L:S_g127l0 α)(ls:List Lf)(k:KEx α):
  g127l0K (fun a b c d e h i j l=>g127l0b G130 a b c d e h (L a b c d e h) i j l) ls k=ev tab (g127hd G72 G116 G46 G129 G44 G130 G105 L127l0) (bodyAt Tryz.f127 0) (atHead g127l0D ls) (loopK g127l0D 0 (loopH g127l0D (g127l0K L)) k):=by kernel_rfl
theorem g127Main(G72:Al S_g72)(G116:Al S_g116)(G46:Al S_g46)(G129:Al S_g129)(G44:Al S_g44)(G130:Al S_g130)(G105:Al S_g105)(L127l0:Al S_g127l0){α:Type}(ls:List Lf)(k:KRe α):
  g127K (g127b G72 G116 G46 G129 G44 G130 G105 L127l0) ls k=evFun tab (g127hd G72 G116 G46 G129 G44 G130 G105 L127l0) Tryz.f127 (fT g127tp ls) (fB g127tp g127bp ls) k:=by kernel_rfl
theorem g127Calls(m:Nat):(g127h m).CallsOk Tryz.prog:=(cok_cons (g72Ok m) (cok_cons (g116Ok m) (cok_cons (g46Ok m) (cok_cons (g129Ok m) (cok_cons (g44Ok m) (cok_cons (g130Ok m) (cok_cons (g105Ok m) cok_nil)))))))
theorem g127l0Ok(m:Nat)(α:Type)(st:St)(k:KEx α)(r:α)(h:(g127h m).loop 0 st k=some r):
  LoopS Tryz.prog 0 (bodyAt Tryz.f127 0) st k r:=
 lpk (F:=fun n ls k=>g127l0K (fun a b c d e i j l o=>g127l0 (g130 m) a b c d e i n j l o) ls k) (g127Calls m) (lb0 (by kernel_rfl))
  (fun _ _=>rfl) (fun n ls k=>g127l0Step (g72 m) (g116 m) (g46 m) (g129 m) (g44 m) (g130 m) (g105 m) (g127l0M m) (fun a b c d e i=>g127l0 (g130 m) a b c d e i n) ls k) (n:=m) h
theorem g127Ok(m:Nat):RowOk Tryz.prog 127 (fun{α}=>g127R (g127 m (α:=α))):=
 rwk (g127Calls m) (lo1 (by kernel_rfl) (g127l0Ok m))
  (fun _=>g127Main (g72 m) (g116 m) (g46 m) (g129 m) (g44 m) (g130 m) (g105 m) (g127l0M m))
abbrev S_g112(α:Type):Type:=Bool→(List Int)→Bool→(List Int)→(Bool→(List Int)→Bool→(List Int)→Option α)→Option α
def g112b{α:Type}(G127:Al S_g127)(G43:Al S_g43)(G45:Al S_g45)(G84:Al S_g84)(G73:Al S_g73)(a:Bool)(b:List Int)(c:Bool)(d:List Int)(e:Bool→(List Int)→Bool→(List Int)→Option α):Option α:=G127 b d (fun h i=>cond (!(a==c)) (cond (!(eqLI i [0,0,0,0,0,0])) (G43 (fun j=>G45 h j (fun l n=>G84 d i (fun o=>G73 (!(a==c)) l (fun p=>G73 c o (fun q=>e p l q o)))))) (G73 (!(a==c)) h (fun r=>G73 c i (fun s=>e r h s i)))) (G73 (!(a==c)) h (fun t=>G73 c i (fun u=>e t h u i))))
def g112{α:Type}(m:Nat):S_g112 α:=
 g112b (g127 m) (g43 m) (g45 m) (g84 m) (g73 m)
def g112tp:List TP:=[vW,vW]
def g112bp:List BP:=[]
def g112K{α:Type}(G:S_g112 α)(ls:List Lf)(k:KRe α):Option α:=
 G (lf ls 0).bool ((lf ls 1).lst uU) (lf ls 2).bool ((lf ls 3).lst uU)
  (fun a b c d=>k (.tup [(.agg [(.one (.bool a)),(.seq uU 6 b)]),(.agg [(.one (.bool c)),(.seq uU 6 d)])]) [] [])
def g112R{α:Type}(G:S_g112 α):=rowK g112tp g112bp (g112K G)
def g112hd(G127:Al S_g127)(G43:Al S_g43)(G45:Al S_g45)(G84:Al S_g84)(G73:Al S_g73):Hd where
 call:=fun f args Bs k=>cond (Nat.beq f 127) (g127R G127 args Bs k) (cond (Nat.beq f 43) (g43R G43 args Bs k) (cond (Nat.beq f 45) (g45R G45 args Bs k) (cond (Nat.beq f 84) (g84R G84 args Bs k) (cond (Nat.beq f 73) (g73R G73 args Bs k) (none)))))
 loop:=fun id st k=>none
 ro:=fun f=>[]
def g112h(m:Nat):Hd:=g112hd (g127 m) (g43 m) (g45 m) (g84 m) (g73 m)
theorem g112Main(G127:Al S_g127)(G43:Al S_g43)(G45:Al S_g45)(G84:Al S_g84)(G73:Al S_g73){α:Type}(ls:List Lf)(k:KRe α):
  g112K (g112b G127 G43 G45 G84 G73) ls k=evFun tab (g112hd G127 G43 G45 G84 G73) Tryz.f112 (fT g112tp ls) (fB g112tp g112bp ls) k:=by kernel_rfl
theorem g112Calls(m:Nat):(g112h m).CallsOk Tryz.prog:=(cok_cons (g127Ok m) (cok_cons (g43Ok m) (cok_cons (g45Ok m) (cok_cons (g84Ok m) (cok_cons (g73Ok m) cok_nil)))))
theorem g112Ok(m:Nat):RowOk Tryz.prog 112 (fun{α}=>g112R (g112 m (α:=α))):=
 rwk (g112Calls m) (lo0 (by kernel_rfl))
  (fun _=>g112Main (g127 m) (g43 m) (g45 m) (g84 m) (g73 m))
abbrev S_g55(α:Type):Type:=Int→(Bool→(List Int)→Option α)→Option α
def g55b{α:Type}(G73:Al S_g73)(a:Int)(b:Bool→(List Int)→Option α):Option α:=let c:Int:=IntKind.wrap .u64 a;cond (decide (a<(0:Int))) (let d:Int:=IntKind.wrap .u64 (0-c);let e:Int:=IntKind.wrap .u32 d;let h:Int:=IntKind.wrap .u32 (Int.fdiv d (2^32));G73 (decide (a<(0:Int))) [e,h,0,0,0,0] (fun i=>b i [e,h,0,0,0,0])) (let j:Int:=IntKind.wrap .u32 c;let l:Int:=IntKind.wrap .u32 (Int.fdiv c (2^32));G73 (decide (a<(0:Int))) [j,l,0,0,0,0] (fun n=>b n [j,l,0,0,0,0]))
def g55{α:Type}(m:Nat):S_g55 α:=
 g55b (g73 m)
def g55tp:List TP:=[tI]
def g55bp:List BP:=[]
def g55K{α:Type}(G:S_g55 α)(ls:List Lf)(k:KRe α):Option α:=
 G (lf ls 0).int
  (fun a b=>k (.vl (.agg [(.one (.bool a)),(.seq uU 6 b)])) [] [])
def g55R{α:Type}(G:S_g55 α):=rowK g55tp g55bp (g55K G)
def g55hd(G73:Al S_g73):Hd where
 call:=fun f args Bs k=>cond (Nat.beq f 73) (g73R G73 args Bs k) (none)
 loop:=fun id st k=>none
 ro:=fun f=>[]
def g55h(m:Nat):Hd:=g55hd (g73 m)
theorem g55Main(G73:Al S_g73){α:Type}(ls:List Lf)(k:KRe α):
  g55K (g55b G73) ls k=evFun tab (g55hd G73) Tryz.f55 (fT g55tp ls) (fB g55tp g55bp ls) k:=by kernel_rfl
theorem g55Calls(m:Nat):(g55h m).CallsOk Tryz.prog:=(cok_cons (g73Ok m) cok_nil)
theorem g55Ok(m:Nat):RowOk Tryz.prog 55 (fun{α}=>g55R (g55 m (α:=α))):=
 rwk (g55Calls m) (lo0 (by kernel_rfl))
  (fun _=>g55Main (g73 m))
abbrev S_g87(α:Type):Type:=Bool→(List Int)→Bool→(List Int)→Bool→(Bool→(List Int)→Bool→Option α)→Option α
def g87b{α:Type}(G112:Al S_g112)(G84:Al S_g84)(G46:Al S_g46)(G55:Al S_g55)(G53:Al S_g53)(a:Bool)(b:List Int)(c:Bool)(d:List Int)(e:Bool)(h:Bool→(List Int)→Bool→Option α):Option α:=G112 a b c d (fun i j l n=>G84 d n (fun o=>G46 n o (fun p=>cond (decide (p<(0:Int))) (h i j e) (G55 (1:Int) (fun q r=>G53 i j q r e (fun s t u=>h s t u))))))
def g87{α:Type}(m:Nat):S_g87 α:=
 g87b (g112 m) (g84 m) (g46 m) (g55 m) (g53 m)
abbrev S_g20(α:Type):Type:=Nat→Nat→Nat→Int→Nat→Ty0→(Int→Option α)→Option α
def g20b{α:Type}(a b c:Nat)(d:Int)(e:Nat)(h:Ty0)(i:Int→Option α):Option α:=let j:Int:=IntKind.wrap .i64 (d-((b:Nat):Int));cond (decide (j<(0:Int))) (i (-1:Int)) (i j)
def g20{α:Type}(m:Nat):S_g20 α:=
 g20b
def g20tp:List TP:=[(.vl (.sv (.sla 0 0 5))),tI]
def g20bp:List BP:=[(false,[(.seqv rN)])]
def g20K{α:Type}(G:S_g20 α)(ls:List Lf)(k:KRe α):Option α:=
 G (lf ls 0).nat (lf ls 1).nat (lf ls 2).nat (lf ls 3).int (lf ls 4).nat ((lf ls 5).lst rN)
  (fun a=>k (.vl (.sv (.int .i64 a))) [[(.seq rN (lf ls 4).nat ((lf ls 5).lst rN))]] [])
def g20R{α:Type}(G:S_g20 α):=rowK g20tp g20bp (g20K G)
def g20hd:Hd where
 call:=fun f args Bs k=>none
 loop:=fun id st k=>none
 ro:=fun f=>[]
def g20h(m:Nat):Hd:=g20hd
theorem g20Main{α:Type}(ls:List Lf)(k:KRe α):
  g20K (g20b) ls k=evFun tab (g20hd) Tryz.f20 (fT g20tp ls) (fB g20tp g20bp ls) k:=by kernel_rfl
theorem g20Calls(m:Nat):(g20h m).CallsOk Tryz.prog:=cok_nil
theorem g20Ok(m:Nat):RowOk Tryz.prog 20 (fun{α}=>g20R (g20 m (α:=α))):=
 rwk (g20Calls m) (lo0 (by kernel_rfl))
  (fun _=>g20Main)
abbrev S_g57(α:Type):Type:=Int→Int→Int→Int→Int→(Option α)→Option α
def g57b{α:Type}(a b:Int)(c d e:Int)(h:Option α):Option α:=h
def g57{α:Type}(m:Nat):S_g57 α:=
 g57b
def g57tp:List TP:=[(.vl (.agg [(.one (.int .i8)),(.one (.int .i16)),(.one (.int .i16)),(.one (.int .i64)),(.one (.int .i64))]))]
def g57bp:List BP:=[]
def g57K{α:Type}(G:S_g57 α)(ls:List Lf)(k:KRe α):Option α:=
 G (lf ls 0).int (lf ls 1).int (lf ls 2).int (lf ls 3).int (lf ls 4).int
  (k (.vl (.agg [(.one (.int .i8 (lf ls 0).int)),(.one (.int .i16 (lf ls 1).int)),(.one (.int .i16 (lf ls 2).int)),(.one (.int .i64 (lf ls 3).int)),(.one (.int .i64 (lf ls 4).int))])) [] [])
def g57R{α:Type}(G:S_g57 α):=rowK g57tp g57bp (g57K G)
def g57hd:Hd where
 call:=fun f args Bs k=>none
 loop:=fun id st k=>none
 ro:=fun f=>[]
def g57h(m:Nat):Hd:=g57hd
theorem g57Main{α:Type}(ls:List Lf)(k:KRe α):
  g57K (g57b) ls k=evFun tab (g57hd) Tryz.f57 (fT g57tp ls) (fB g57tp g57bp ls) k:=by kernel_rfl
theorem g57Calls(m:Nat):(g57h m).CallsOk Tryz.prog:=cok_nil
theorem g57Ok(m:Nat):RowOk Tryz.prog 57 (fun{α}=>g57R (g57 m (α:=α))):=
 rwk (g57Calls m) (lo0 (by kernel_rfl))
  (fun _=>g57Main)
abbrev S_g21(α:Type):Type:=Nat→Nat→Nat→Nat→Ty0→(Ty0→Option α)→Option α
abbrev S_g21l0(α:Type):Type:=Nat→Nat→Nat→Nat→Nat→Nat→Nat→Ty0→Nat→(Ty0→Option α)→Int→Ty0→Option α
def g21l0b{α:Type}(G57:Al S_g57)(a b:Nat)(c d:Nat)(e h i:Nat)(j:Ty0)(l:Nat)(n:Ty0→Option α)(o:Int→Ty0→Option α)(p:Int)(q:Ty0):Option α:=cond (decide (p<((b:Nat):Int))) (if 0≤p∧p<(b:Nat) then if(a+p.toNat)<i then let r:Int:=(List.getD j (a+p.toNat) []).headD 0;let s:Int:=(List.getD j (a+p.toNat) []).tail.headD 0;let t:Int:=(List.getD j (a+p.toNat) []).tail.tail.headD 0;let u:Int:=(List.getD j (a+p.toNat) []).tail.tail.tail.headD 0;let v:Int:=(List.getD j (a+p.toNat) []).tail.tail.tail.tail.headD 0;G57 r s t u v (if 0≤p∧p<(e:Nat) then if(d+p.toNat)<l then o (IntKind.wrap .i64 (p+(1:Int))) (List.set q (d+p.toNat) [r,s,t,u,v]) else none else none) else none else none) (n q)
def g21l0{α:Type}(G57:Al S_g57)(a b:Nat)(c d:Nat)(e h i:Nat)(j:Ty0)(l:Nat)(n:Ty0→Option α):Nat→Int→Ty0→Option α
 |0=>fun _ _=>none
 |m+1=>fun o p=>g21l0b G57 a b c d e h i j l n (g21l0 G57 a b c d e h i j l n m) o p
def g21l0M{α:Type}(m:Nat):S_g21l0 α:=
 fun a b c d e h i j l n o p=>g21l0 (g57 m) a b c d e h i j l n m o p
def g21l0D:LoopD:={n:=23,low:=[0],sl:=[0,3,4],bl:=[0,1000001],tp:=[(.vl (.sv (.sla 0 0 5))),(.vl (.sv (.slc 1000001 0 5))),tI],bp:=[(false,[(.seqv rN)]),(true,[(.seqv rN)])],xs:=[(2,[3])]}
def g21l0K{α:Type}(L:S_g21l0 α)(ls:List Lf)(k:KEx α):Option α:=
 L (lf ls 0).nat (lf ls 1).nat (lf ls 2).nat (lf ls 3).nat (lf ls 4).nat (lf ls 5).nat (lf ls 7).nat ((lf ls 8).lst rN) (lf ls 9).nat
  (fun a=>k .normal (mkSt 23 [3] [(.vl (.sv (.slc 1000001 0 5 (lf ls 3).nat (lf ls 4).nat (lf ls 5).nat)))] [0,1000001] [(false,[(.seq rN (lf ls 7).nat ((lf ls 8).lst rN))]),(true,[(.seq rN (lf ls 9).nat a)])]))
  (lf ls 6).int ((lf ls 10).lst rN)
def g21b{α:Type}(G57:Al S_g57)(L21l0:Al S_g21l0)(a b:Nat)(c d:Nat)(e:Ty0)(h:Ty0→Option α):Option α:=if((b:Nat):Int)=((b:Nat):Int)∧0≤((b:Nat):Int)∧((b:Nat):Int)≤1048576 then L21l0 a b c 0 b b d e b (fun i=>h i) (0:Int) (List.replicate b ([]:List Int)) else none
def g21{α:Type}(m:Nat):S_g21 α:=
 g21b (g57 m) (g21l0M m)
def g21tp:List TP:=[(.vl (.sv (.sla 0 0 5)))]
def g21bp:List BP:=[(false,[(.seqv rN)])]
def g21K{α:Type}(G:S_g21 α)(ls:List Lf)(k:KRe α):Option α:=
 G (lf ls 0).nat (lf ls 1).nat (lf ls 2).nat (lf ls 3).nat ((lf ls 4).lst rN)
  (fun a=>k (.vl (.sv (.slc 1 0 5 0 (lf ls 1).nat (lf ls 1).nat))) [[(.seq rN (lf ls 3).nat ((lf ls 4).lst rN))]] [[(.seq rN (lf ls 1).nat a)]])
def g21R{α:Type}(G:S_g21 α):=rowK g21tp g21bp (g21K G)
def g21hd(G57:Al S_g57)(L21l0:Al S_g21l0):Hd where
 call:=fun f args Bs k=>cond (Nat.beq f 57) (g57R G57 args Bs k) (none)
 loop:=fun id st k=>cond (Nat.beq id 0) (loopH g21l0D (g21l0K L21l0) st k) (none)
 ro:=fun f=>[]
def g21h(m:Nat):Hd:=g21hd (g57 m) (g21l0M m)
theorem g21l0Step(G57:Al S_g57)(L21l0:Al S_g21l0){α:Type}(L:S_g21l0 α)(ls:List Lf)(k:KEx α):
  g21l0K (fun a b c d e h i j l n o p=>g21l0b G57 a b c d e h i j l n (L a b c d e h i j l n) o p) ls k=ev tab (g21hd G57 L21l0) (bodyAt Tryz.f21 0) (atHead g21l0D ls) (loopK g21l0D 0 (loopH g21l0D (g21l0K L)) k):=by kernel_rfl
theorem g21Main(G57:Al S_g57)(L21l0:Al S_g21l0){α:Type}(ls:List Lf)(k:KRe α):
  g21K (g21b G57 L21l0) ls k=evFun tab (g21hd G57 L21l0) Tryz.f21 (fT g21tp ls) (fB g21tp g21bp ls) k:=by kernel_rfl
theorem g21Calls(m:Nat):(g21h m).CallsOk Tryz.prog:=(cok_cons (g57Ok m) cok_nil)
theorem g21l0Ok(m:Nat)(α:Type)(st:St)(k:KEx α)(r:α)(h:(g21h m).loop 0 st k=some r):
  LoopS Tryz.prog 0 (bodyAt Tryz.f21 0) st k r:=
 lpk (F:=fun n ls k=>g21l0K (fun a b c d e i j l o q s t=>g21l0 (g57 m) a b c d e i j l o q n s t) ls k) (g21Calls m) (lb0 (by kernel_rfl))
  (fun _ _=>rfl) (fun n ls k=>g21l0Step (g57 m) (g21l0M m) (fun a b c d e i j l o q=>g21l0 (g57 m) a b c d e i j l o q n) ls k) (n:=m) h
theorem g21Ok(m:Nat):RowOk Tryz.prog 21 (fun{α}=>g21R (g21 m (α:=α))):=
 rwk (g21Calls m) (lo1 (by kernel_rfl) (g21l0Ok m))
  (fun _=>g21Main (g57 m) (g21l0M m))
abbrev S_g95(α:Type):Type:=Int→Int→Int→(Bool→Option α)→Option α
def g95b{α:Type}(a b c:Int)(d:Bool→Option α):Option α:=cond (decide (a≥b)) (d (decide (a≤c))) (d false)
def g95{α:Type}(m:Nat):S_g95 α:=
 g95b
def g95tp:List TP:=[tI,tI,tI]
def g95bp:List BP:=[]
def g95K{α:Type}(G:S_g95 α)(ls:List Lf)(k:KRe α):Option α:=
 G (lf ls 0).int (lf ls 1).int (lf ls 2).int
  (fun a=>k (.vl (.sv (.bool a))) [] [])
def g95R{α:Type}(G:S_g95 α):=rowK g95tp g95bp (g95K G)
def g95hd:Hd where
 call:=fun f args Bs k=>none
 loop:=fun id st k=>none
 ro:=fun f=>[]
def g95h(m:Nat):Hd:=g95hd
theorem g95Main{α:Type}(ls:List Lf)(k:KRe α):
  g95K (g95b) ls k=evFun tab (g95hd) Tryz.f95 (fT g95tp ls) (fB g95tp g95bp ls) k:=by kernel_rfl
theorem g95Calls(m:Nat):(g95h m).CallsOk Tryz.prog:=cok_nil
theorem g95Ok(m:Nat):RowOk Tryz.prog 95 (fun{α}=>g95R (g95 m (α:=α))):=
 rwk (g95Calls m) (lo0 (by kernel_rfl))
  (fun _=>g95Main)
abbrev S_g117(α:Type):Type:=Int→(Bool→Option α)→Option α
def g117b{α:Type}(a:Int)(b:Bool→Option α):Option α:=cond (a==(6:Int)) (b true) (cond (a==(7:Int)) (b true) (b (a==(10:Int))))
def g117{α:Type}(m:Nat):S_g117 α:=
 g117b
def g117tp:List TP:=[(.vl (.sv (.int .i8)))]
def g117bp:List BP:=[]
def g117K{α:Type}(G:S_g117 α)(ls:List Lf)(k:KRe α):Option α:=
 G (lf ls 0).int
  (fun a=>k (.vl (.sv (.bool a))) [] [])
def g117R{α:Type}(G:S_g117 α):=rowK g117tp g117bp (g117K G)
def g117hd:Hd where
 call:=fun f args Bs k=>none
 loop:=fun id st k=>none
 ro:=fun f=>[]
def g117h(m:Nat):Hd:=g117hd
theorem g117Main{α:Type}(ls:List Lf)(k:KRe α):
  g117K (g117b) ls k=evFun tab (g117hd) Tryz.f117 (fT g117tp ls) (fB g117tp g117bp ls) k:=by kernel_rfl
theorem g117Calls(m:Nat):(g117h m).CallsOk Tryz.prog:=cok_nil
theorem g117Ok(m:Nat):RowOk Tryz.prog 117 (fun{α}=>g117R (g117 m (α:=α))):=
 rwk (g117Calls m) (lo0 (by kernel_rfl))
  (fun _=>g117Main)
abbrev S_g62(α:Type):Type:=Int→(Bool→Option α)→Option α
def g62b{α:Type}(a:Int)(b:Bool→Option α):Option α:=cond (decide (a≥(2:Int))) (cond (decide (a≤(5:Int))) (b true) (cond (a==(8:Int)) (b true) (b (a==(9:Int))))) (cond (a==(8:Int)) (b true) (b (a==(9:Int))))
def g62{α:Type}(m:Nat):S_g62 α:=
 g62b
def g62tp:List TP:=[(.vl (.sv (.int .i8)))]
def g62bp:List BP:=[]
def g62K{α:Type}(G:S_g62 α)(ls:List Lf)(k:KRe α):Option α:=
 G (lf ls 0).int
  (fun a=>k (.vl (.sv (.bool a))) [] [])
def g62R{α:Type}(G:S_g62 α):=rowK g62tp g62bp (g62K G)
def g62hd:Hd where
 call:=fun f args Bs k=>none
 loop:=fun id st k=>none
 ro:=fun f=>[]
def g62h(m:Nat):Hd:=g62hd
theorem g62Main{α:Type}(ls:List Lf)(k:KRe α):
  g62K (g62b) ls k=evFun tab (g62hd) Tryz.f62 (fT g62tp ls) (fB g62tp g62bp ls) k:=by kernel_rfl
theorem g62Calls(m:Nat):(g62h m).CallsOk Tryz.prog:=cok_nil
theorem g62Ok(m:Nat):RowOk Tryz.prog 62 (fun{α}=>g62R (g62 m (α:=α))):=
 rwk (g62Calls m) (lo0 (by kernel_rfl))
  (fun _=>g62Main)
abbrev S_g96(α:Type):Type:=Nat→Int→Nat→Ty0→(Bool→Option α)→Option α
def g96b{α:Type}(G117:Al S_g117)(G95:Al S_g95)(G62:Al S_g62)(a:Nat)(b:Int)(c:Nat)(d:Ty0)(e:Bool→Option α):Option α:=if a<c then cond (decide (((List.getD d a []).headD 0)<(1:Int))) (e false) (if a<c then cond (decide (((List.getD d a []).headD 0)>(12:Int))) (e false) (if a<c then G117 ((List.getD d a []).headD 0) (fun h=>cond h (if a<c then G95 (IntKind.wrap .i64 (((List.getD d a []).tail).headD 0)) (0:Int) (IntKind.wrap .i64 (b-(1:Int))) (fun i=>cond (!i) (e false) (if a<c then cond ((((List.getD d a []).tail.tail.tail).headD 0) !=(0:Int)) (e false) (if a<c then cond ((((List.getD d a []).tail.tail.tail.tail).headD 0) !=(0:Int)) (e false) (if a<c then G62 ((List.getD d a []).headD 0) (fun j=>cond j (if a<c then G95 (IntKind.wrap .i64 (((List.getD d a []).tail.tail).headD 0)) (0:Int) (IntKind.wrap .i64 (b-(1:Int))) (fun l=>e l) else none) (if a<c then e ((((List.getD d a []).tail.tail).headD 0)==(0:Int)) else none)) else none) else none) else none)) else none) (if a<c then G62 ((List.getD d a []).headD 0) (fun n=>cond n (if a<c then G95 (IntKind.wrap .i64 (((List.getD d a []).tail).headD 0)) (0:Int) (IntKind.wrap .i64 (b-(1:Int))) (fun o=>cond (!o) (e false) (if a<c then cond ((((List.getD d a []).tail.tail.tail).headD 0) !=(0:Int)) (e false) (if a<c then cond ((((List.getD d a []).tail.tail.tail.tail).headD 0) !=(0:Int)) (e false) (if a<c then G62 ((List.getD d a []).headD 0) (fun p=>cond p (if a<c then G95 (IntKind.wrap .i64 (((List.getD d a []).tail.tail).headD 0)) (0:Int) (IntKind.wrap .i64 (b-(1:Int))) (fun q=>e q) else none) (if a<c then e ((((List.getD d a []).tail.tail).headD 0)==(0:Int)) else none)) else none) else none) else none)) else none) (if a<c then cond ((((List.getD d a []).tail).headD 0) !=(0:Int)) (e false) (if a<c then cond ((((List.getD d a []).tail.tail).headD 0) !=(0:Int)) (e false) (if a<c then cond (((List.getD d a []).headD 0)==(1:Int)) (if a<c then G95 (((List.getD d a []).tail.tail.tail).headD 0) (-1000000000:Int) (1000000000:Int) (fun r=>cond r (if a<c then G95 (((List.getD d a []).tail.tail.tail.tail).headD 0) (1:Int) (1000000000:Int) (fun s=>e s) else none) (e false)) else none) (if a<c then cond ((((List.getD d a []).tail.tail.tail).headD 0)==(0:Int)) (if a<c then e ((((List.getD d a []).tail.tail.tail.tail).headD 0)==(0:Int)) else none) (e false) else none) else none) else none) else none)) else none)) else none) else none) else none
def g96{α:Type}(m:Nat):S_g96 α:=
 g96b (g117 m) (g95 m) (g62 m)
def g96tp:List TP:=[(.vl (.sv (.el 0 0 5 0))),tI]
def g96bp:List BP:=[(false,[(.seqv rN)])]
def g96K{α:Type}(G:S_g96 α)(ls:List Lf)(k:KRe α):Option α:=
 G (lf ls 0).nat (lf ls 1).int (lf ls 2).nat ((lf ls 3).lst rN)
  (fun a=>k (.vl (.sv (.bool a))) [[(.seq rN (lf ls 2).nat ((lf ls 3).lst rN))]] [])
def g96R{α:Type}(G:S_g96 α):=rowK g96tp g96bp (g96K G)
def g96hd(G117:Al S_g117)(G95:Al S_g95)(G62:Al S_g62):Hd where
 call:=fun f args Bs k=>cond (Nat.beq f 117) (g117R G117 args Bs k) (cond (Nat.beq f 95) (g95R G95 args Bs k) (cond (Nat.beq f 62) (g62R G62 args Bs k) (none)))
 loop:=fun id st k=>none
 ro:=fun f=>[]
def g96h(m:Nat):Hd:=g96hd (g117 m) (g95 m) (g62 m)
theorem g96Main(G117:Al S_g117)(G95:Al S_g95)(G62:Al S_g62){α:Type}(ls:List Lf)(k:KRe α):
  g96K (g96b G117 G95 G62) ls k=evFun tab (g96hd G117 G95 G62) Tryz.f96 (fT g96tp ls) (fB g96tp g96bp ls) k:=by kernel_rfl
theorem g96Calls(m:Nat):(g96h m).CallsOk Tryz.prog:=(cok_cons (g117Ok m) (cok_cons (g95Ok m) (cok_cons (g62Ok m) cok_nil)))
theorem g96Ok(m:Nat):RowOk Tryz.prog 96 (fun{α}=>g96R (g96 m (α:=α))):=
 rwk (g96Calls m) (lo0 (by kernel_rfl))
  (fun _=>g96Main (g117 m) (g95 m) (g62 m))
abbrev S_g67(α:Type):Type:=Nat→Nat→Nat→Nat→Ty0→(Bool→Option α)→Option α
abbrev S_g67l0(α:Type):Type:=Nat→Nat→Nat→Nat→Ty0→(Option α)→(Option α)→Int→Option α
def g67l0b{α:Type}(G96:Al S_g96)(a b:Nat)(c d:Nat)(e:Ty0)(h i:Option α)(j:Int→Option α)(l:Int):Option α:=cond (decide (l<((b:Nat):Int))) (if 0≤l∧l<(b:Nat) then G96 (a+l.toNat) l d e (fun n=>cond (!n) (h) (j (IntKind.wrap .i64 (l+(1:Int))))) else none) (i)
def g67l0{α:Type}(G96:Al S_g96)(a b:Nat)(c d:Nat)(e:Ty0)(h i:Option α):Nat→Int→Option α
 |0=>fun _=>none
 |m+1=>fun j=>g67l0b G96 a b c d e h i (g67l0 G96 a b c d e h i m) j
def g67l0M{α:Type}(m:Nat):S_g67l0 α:=
 fun a b c d e h i j=>g67l0 (g96 m) a b c d e h i m j
def g67l0D:LoopD:={n:=20,low:=[0],sl:=[0,3],bl:=[0],tp:=[(.vl (.sv (.slc 0 0 5))),tI],bp:=[(false,[(.seqv rN)])],xs:=[(1,[2]),(2,[])]}
def g67l0K{α:Type}(L:S_g67l0 α)(ls:List Lf)(k:KEx α):Option α:=
 L (lf ls 0).nat (lf ls 1).nat (lf ls 2).nat (lf ls 4).nat ((lf ls 5).lst rN)
  (k .ret (mkSt 20 [2] [(.vl (.sv (.bool false)))] [0] [(false,[(.seq rN (lf ls 4).nat ((lf ls 5).lst rN))])]))
  (k .normal (mkSt 20 [] [] [0] [(false,[(.seq rN (lf ls 4).nat ((lf ls 5).lst rN))])]))
  (lf ls 3).int
def g67b{α:Type}(G95:Al S_g95)(G96:Al S_g96)(L67l0:Al S_g67l0)(a b:Nat)(c d:Nat)(e:Ty0)(h:Bool→Option α):Option α:=G95 ((b:Nat):Int) (1:Int) (40:Int) (fun i=>cond (!i) (h false) (L67l0 a b c d e (h false) (h true) (0:Int)))
def g67{α:Type}(m:Nat):S_g67 α:=
 g67b (g95 m) (g96 m) (g67l0M m)
def g67tp:List TP:=[(.vl (.sv (.slc 0 0 5)))]
def g67bp:List BP:=[(false,[(.seqv rN)])]
def g67K{α:Type}(G:S_g67 α)(ls:List Lf)(k:KRe α):Option α:=
 G (lf ls 0).nat (lf ls 1).nat (lf ls 2).nat (lf ls 3).nat ((lf ls 4).lst rN)
  (fun a=>k (.vl (.sv (.bool a))) [[(.seq rN (lf ls 3).nat ((lf ls 4).lst rN))]] [])
def g67R{α:Type}(G:S_g67 α):=rowK g67tp g67bp (g67K G)
def g67hd(G95:Al S_g95)(G96:Al S_g96)(L67l0:Al S_g67l0):Hd where
 call:=fun f args Bs k=>cond (Nat.beq f 95) (g95R G95 args Bs k) (cond (Nat.beq f 96) (g96R G96 args Bs k) (none))
 loop:=fun id st k=>cond (Nat.beq id 0) (loopH g67l0D (g67l0K L67l0) st k) (none)
 ro:=fun f=>cond (Nat.beq f 96) [0] ([])
def g67h(m:Nat):Hd:=g67hd (g95 m) (g96 m) (g67l0M m)
theorem g67l0Step(G95:Al S_g95)(G96:Al S_g96)(L67l0:Al S_g67l0){α:Type}(L:S_g67l0 α)(ls:List Lf)(k:KEx α):
  g67l0K (fun a b c d e h i j=>g67l0b G96 a b c d e h i (L a b c d e h i) j) ls k=ev tab (g67hd G95 G96 L67l0) (bodyAt Tryz.f67 0) (atHead g67l0D ls) (loopK g67l0D 0 (loopH g67l0D (g67l0K L)) k):=by kernel_rfl
theorem g67Main(G95:Al S_g95)(G96:Al S_g96)(L67l0:Al S_g67l0){α:Type}(ls:List Lf)(k:KRe α):
  g67K (g67b G95 G96 L67l0) ls k=evFun tab (g67hd G95 G96 L67l0) Tryz.f67 (fT g67tp ls) (fB g67tp g67bp ls) k:=by kernel_rfl
theorem g67Calls(m:Nat):(g67h m).CallsOk Tryz.prog:=(cok_cons (g95Ok m) (cok_cons (g96Ok m) cok_nil))
theorem g67l0Ok(m:Nat)(α:Type)(st:St)(k:KEx α)(r:α)(h:(g67h m).loop 0 st k=some r):
  LoopS Tryz.prog 0 (bodyAt Tryz.f67 0) st k r:=
 lpk (F:=fun n ls k=>g67l0K (fun a b c d e i j l=>g67l0 (g96 m) a b c d e i j n l) ls k) (g67Calls m) (lb0 (by kernel_rfl))
  (fun _ _=>rfl) (fun n ls k=>g67l0Step (g95 m) (g96 m) (g67l0M m) (fun a b c d e i j=>g67l0 (g96 m) a b c d e i j n) ls k) (n:=m) h
theorem g67Ok(m:Nat):RowOk Tryz.prog 67 (fun{α}=>g67R (g67 m (α:=α))):=
 rwk (g67Calls m) (lo1 (by kernel_rfl) (g67l0Ok m))
  (fun _=>g67Main (g95 m) (g96 m) (g67l0M m))
abbrev S_g68(α:Type):Type:=Nat→Nat→Nat→Int→Nat→Ty0→(Bool→Option α)→Option α
def g68b{α:Type}(G95:Al S_g95)(a b c:Nat)(d:Int)(e:Nat)(h:Ty0)(i:Bool→Option α):Option α:=G95 d (0:Int) (IntKind.wrap .i64 (((b:Nat):Int)-(1:Int))) (fun j=>i j)
def g68{α:Type}(m:Nat):S_g68 α:=
 g68b (g95 m)
def g68tp:List TP:=[(.vl (.sv (.slc 0 0 5))),tI]
def g68bp:List BP:=[(false,[(.seqv rN)])]
def g68K{α:Type}(G:S_g68 α)(ls:List Lf)(k:KRe α):Option α:=
 G (lf ls 0).nat (lf ls 1).nat (lf ls 2).nat (lf ls 3).int (lf ls 4).nat ((lf ls 5).lst rN)
  (fun a=>k (.vl (.sv (.bool a))) [[(.seq rN (lf ls 4).nat ((lf ls 5).lst rN))]] [])
def g68R{α:Type}(G:S_g68 α):=rowK g68tp g68bp (g68K G)
def g68hd(G95:Al S_g95):Hd where
 call:=fun f args Bs k=>cond (Nat.beq f 95) (g95R G95 args Bs k) (none)
 loop:=fun id st k=>none
 ro:=fun f=>[]
def g68h(m:Nat):Hd:=g68hd (g95 m)
theorem g68Main(G95:Al S_g95){α:Type}(ls:List Lf)(k:KRe α):
  g68K (g68b G95) ls k=evFun tab (g68hd G95) Tryz.f68 (fT g68tp ls) (fB g68tp g68bp ls) k:=by kernel_rfl
theorem g68Calls(m:Nat):(g68h m).CallsOk Tryz.prog:=(cok_cons (g95Ok m) cok_nil)
theorem g68Ok(m:Nat):RowOk Tryz.prog 68 (fun{α}=>g68R (g68 m (α:=α))):=
 rwk (g68Calls m) (lo0 (by kernel_rfl))
  (fun _=>g68Main (g95 m))
abbrev S_g69(α:Type):Type:=Int→(Bool→Option α)→Option α
def g69b{α:Type}(G95:Al S_g95)(a:Int)(b:Bool→Option α):Option α:=G95 a (0:Int) (64:Int) (fun c=>b c)
def g69{α:Type}(m:Nat):S_g69 α:=
 g69b (g95 m)
def g69tp:List TP:=[tI]
def g69bp:List BP:=[]
def g69K{α:Type}(G:S_g69 α)(ls:List Lf)(k:KRe α):Option α:=
 G (lf ls 0).int
  (fun a=>k (.vl (.sv (.bool a))) [] [])
def g69R{α:Type}(G:S_g69 α):=rowK g69tp g69bp (g69K G)
def g69hd(G95:Al S_g95):Hd where
 call:=fun f args Bs k=>cond (Nat.beq f 95) (g95R G95 args Bs k) (none)
 loop:=fun id st k=>none
 ro:=fun f=>[]
def g69h(m:Nat):Hd:=g69hd (g95 m)
theorem g69Main(G95:Al S_g95){α:Type}(ls:List Lf)(k:KRe α):
  g69K (g69b G95) ls k=evFun tab (g69hd G95) Tryz.f69 (fT g69tp ls) (fB g69tp g69bp ls) k:=by kernel_rfl
theorem g69Calls(m:Nat):(g69h m).CallsOk Tryz.prog:=(cok_cons (g95Ok m) cok_nil)
theorem g69Ok(m:Nat):RowOk Tryz.prog 69 (fun{α}=>g69R (g69 m (α:=α))):=
 rwk (g69Calls m) (lo0 (by kernel_rfl))
  (fun _=>g69Main (g95 m))
abbrev S_g34(α:Type):Type:=Nat→Nat→Nat→Int→Int→Nat→Ty0→(Int→Option α)→Option α
def g34b{α:Type}(G67:Al S_g67)(G68:Al S_g68)(G69:Al S_g69)(a b c:Nat)(d e:Int)(h:Nat)(i:Ty0)(j:Int→Option α):Option α:=G67 a b c h i (fun l=>cond (!l) (j (1:Int)) (G68 a b c d h i (fun n=>cond (!n) (j (2:Int)) (G69 e (fun o=>cond (!o) (j (2:Int)) (j (0:Int)))))))
def g34{α:Type}(m:Nat):S_g34 α:=
 g34b (g67 m) (g68 m) (g69 m)
def g34tp:List TP:=[(.vl (.sv (.slc 0 0 5))),tI,tI]
def g34bp:List BP:=[(false,[(.seqv rN)])]
def g34K{α:Type}(G:S_g34 α)(ls:List Lf)(k:KRe α):Option α:=
 G (lf ls 0).nat (lf ls 1).nat (lf ls 2).nat (lf ls 3).int (lf ls 4).int (lf ls 5).nat ((lf ls 6).lst rN)
  (fun a=>k (.vl (.sv (.int .i64 a))) [[(.seq rN (lf ls 5).nat ((lf ls 6).lst rN))]] [])
def g34R{α:Type}(G:S_g34 α):=rowK g34tp g34bp (g34K G)
def g34hd(G67:Al S_g67)(G68:Al S_g68)(G69:Al S_g69):Hd where
 call:=fun f args Bs k=>cond (Nat.beq f 67) (g67R G67 args Bs k) (cond (Nat.beq f 68) (g68R G68 args Bs k) (cond (Nat.beq f 69) (g69R G69 args Bs k) (none)))
 loop:=fun id st k=>none
 ro:=fun f=>cond (Nat.beq f 67) [0] (cond (Nat.beq f 68) [0] ([]))
def g34h(m:Nat):Hd:=g34hd (g67 m) (g68 m) (g69 m)
theorem g34Main(G67:Al S_g67)(G68:Al S_g68)(G69:Al S_g69){α:Type}(ls:List Lf)(k:KRe α):
  g34K (g34b G67 G68 G69) ls k=evFun tab (g34hd G67 G68 G69) Tryz.f34 (fT g34tp ls) (fB g34tp g34bp ls) k:=by kernel_rfl
theorem g34Calls(m:Nat):(g34h m).CallsOk Tryz.prog:=(cok_cons (g67Ok m) (cok_cons (g68Ok m) (cok_cons (g69Ok m) cok_nil)))
theorem g34Ok(m:Nat):RowOk Tryz.prog 34 (fun{α}=>g34R (g34 m (α:=α))):=
 rwk (g34Calls m) (lo0 (by kernel_rfl))
  (fun _=>g34Main (g67 m) (g68 m) (g69 m))
abbrev S_g35(α:Type):Type:=Nat→Nat→Nat→Nat→Ty0→(Ty1→Ty0→Option α)→Option α
def g35b{α:Type}(a b:Nat)(c d:Nat)(e:Ty0)(h:Ty1→Ty0→Option α):Option α:=if((b:Nat):Int)=((b:Nat):Int)∧0≤((b:Nat):Int)∧((b:Nat):Int)≤1048576 then h (List.replicate b []) [] else none
def g35{α:Type}(m:Nat):S_g35 α:=
 g35b
def g35tp:List TP:=[(.vl (.sv (.slc 0 0 5)))]
def g35bp:List BP:=[(false,[(.seqv rN)])]
def g35K{α:Type}(G:S_g35 α)(ls:List Lf)(k:KRe α):Option α:=
 G (lf ls 0).nat (lf ls 1).nat (lf ls 2).nat (lf ls 3).nat ((lf ls 4).lst rN)
  (fun c d=>k (.vl (.sv (.ptr 1 0))) [[(.seq rN (lf ls 3).nat ((lf ls 4).lst rN))]] [[(.one (.slc 0 0 5 (lf ls 0).nat (lf ls 1).nat (lf ls 2).nat)),(.one (.slc 2 0 1 0 (lf ls 1).nat (lf ls 1).nat)),(.one (.gsl 3 2))],[(.rws mK c none)],[(.gro rP d)]])
def g35R{α:Type}(G:S_g35 α):=rowK g35tp g35bp (g35K G)
def g35hd:Hd where
 call:=fun f args Bs k=>none
 loop:=fun id st k=>none
 ro:=fun f=>[]
def g35h(m:Nat):Hd:=g35hd
theorem g35Main{α:Type}(ls:List Lf)(k:KRe α):
  g35K (g35b) ls k=evFun tab (g35hd) Tryz.f35 (fT g35tp ls) (fB g35tp g35bp ls) k:=by kernel_rfl
theorem g35Calls(m:Nat):(g35h m).CallsOk Tryz.prog:=cok_nil
theorem g35Ok(m:Nat):RowOk Tryz.prog 35 (fun{α}=>g35R (g35 m (α:=α))):=
 rwk (g35Calls m) (lo0 (by kernel_rfl))
  (fun _=>g35Main)
abbrev S_g126(α:Type):Type:=(List Int)→(Bool→Option α)→Option α
def g126b{α:Type}(a:List Int)(b:Bool→Option α):Option α:=b (eqLI a [0,0,0,0,0,0])
def g126{α:Type}(m:Nat):S_g126 α:=
 g126b
def g126tp:List TP:=[(.vl (.sv (.ptr 0 0)))]
def g126bp:List BP:=[(false,[(.seq uU 6)])]
def g126K{α:Type}(G:S_g126 α)(ls:List Lf)(k:KRe α):Option α:=
 G ((lf ls 0).lst uU)
  (fun a=>k (.vl (.sv (.bool a))) [[(.seq uU 6 ((lf ls 0).lst uU))]] [])
def g126R{α:Type}(G:S_g126 α):=rowK g126tp g126bp (g126K G)
def g126hd:Hd where
 call:=fun f args Bs k=>none
 loop:=fun id st k=>none
 ro:=fun f=>[]
def g126h(m:Nat):Hd:=g126hd
theorem g126Main{α:Type}(ls:List Lf)(k:KRe α):
  g126K (g126b) ls k=evFun tab (g126hd) Tryz.f126 (fT g126tp ls) (fB g126tp g126bp ls) k:=by kernel_rfl
theorem g126Calls(m:Nat):(g126h m).CallsOk Tryz.prog:=cok_nil
theorem g126Ok(m:Nat):RowOk Tryz.prog 126 (fun{α}=>g126R (g126 m (α:=α))):=
 rwk (g126Calls m) (lo0 (by kernel_rfl))
  (fun _=>g126Main)
abbrev S_g110(α:Type):Type:=Bool→(List Int)→(Bool→Option α)→Option α
def g110b{α:Type}(G126:Al S_g126)(a:Bool)(b:List Int)(c:Bool→Option α):Option α:=cond a (G126 b (fun d=>c (!d))) (c false)
def g110{α:Type}(m:Nat):S_g110 α:=
 g110b (g126 m)
def g110tp:List TP:=[(.vl (.sv .bool)),(.vl (.agg [(.seq uU 6)]))]
def g110bp:List BP:=[]
def g110K{α:Type}(G:S_g110 α)(ls:List Lf)(k:KRe α):Option α:=
 G (lf ls 0).bool ((lf ls 1).lst uU)
  (fun a=>k (.vl (.agg [(.one (.bool a)),(.seq uU 6 ((lf ls 1).lst uU))])) [] [])
def g110R{α:Type}(G:S_g110 α):=rowK g110tp g110bp (g110K G)
def g110hd(G126:Al S_g126):Hd where
 call:=fun f args Bs k=>cond (Nat.beq f 126) (g126R G126 args Bs k) (none)
 loop:=fun id st k=>none
 ro:=fun f=>cond (Nat.beq f 126) [0] ([])
def g110h(m:Nat):Hd:=g110hd (g126 m)
theorem g110Main(G126:Al S_g126){α:Type}(ls:List Lf)(k:KRe α):
  g110K (g110b G126) ls k=evFun tab (g110hd G126) Tryz.f110 (fT g110tp ls) (fB g110tp g110bp ls) k:=by kernel_rfl
theorem g110Calls(m:Nat):(g110h m).CallsOk Tryz.prog:=(cok_cons (g126Ok m) cok_nil)
theorem g110Ok(m:Nat):RowOk Tryz.prog 110 (fun{α}=>g110R (g110 m (α:=α))):=
 rwk (g110Calls m) (lo0 (by kernel_rfl))
  (fun _=>g110Main (g126 m))
abbrev S_g80(α:Type):Type:=Int→(Bool→(List Int)→Option α)→Option α
def g80b{α:Type}(G110:Al S_g110)(a:Int)(b:Bool→(List Int)→Option α):Option α:=let c:Int:=IntKind.wrap .u64 a;cond (decide (a<(0:Int))) (let d:Int:=IntKind.wrap .u64 (0-c);let e:List Int:=List.set (List.set [0,0,0,0,0,0] 0 (IntKind.wrap .u32 d)) 1 (IntKind.wrap .u32 (Int.fdiv d (2^32)));G110 (decide (a<(0:Int))) e (fun h=>b h e)) (let i:List Int:=List.set (List.set [0,0,0,0,0,0] 0 (IntKind.wrap .u32 c)) 1 (IntKind.wrap .u32 (Int.fdiv c (2^32)));G110 (decide (a<(0:Int))) i (fun j=>b j i))
def g80{α:Type}(m:Nat):S_g80 α:=
 g80b (g110 m)
def g80tp:List TP:=[tI]
def g80bp:List BP:=[]
def g80K{α:Type}(G:S_g80 α)(ls:List Lf)(k:KRe α):Option α:=
 G (lf ls 0).int
  (fun a b=>k (.vl (.agg [(.one (.bool a)),(.seq uU 6 b)])) [] [])
def g80R{α:Type}(G:S_g80 α):=rowK g80tp g80bp (g80K G)
def g80hd(G110:Al S_g110):Hd where
 call:=fun f args Bs k=>cond (Nat.beq f 110) (g110R G110 args Bs k) (none)
 loop:=fun id st k=>none
 ro:=fun f=>[]
def g80h(m:Nat):Hd:=g80hd (g110 m)
theorem g80Main(G110:Al S_g110){α:Type}(ls:List Lf)(k:KRe α):
  g80K (g80b G110) ls k=evFun tab (g80hd G110) Tryz.f80 (fT g80tp ls) (fB g80tp g80bp ls) k:=by kernel_rfl
theorem g80Calls(m:Nat):(g80h m).CallsOk Tryz.prog:=(cok_cons (g110Ok m) cok_nil)
theorem g80Ok(m:Nat):RowOk Tryz.prog 80 (fun{α}=>g80R (g80 m (α:=α))):=
 rwk (g80Calls m) (lo0 (by kernel_rfl))
  (fun _=>g80Main (g110 m))
abbrev S_g122(α:Type):Type:=(List Int)→(Int→Option α)→Option α
abbrev S_g122l2(α:Type):Type:=Int→(List Int)→(Int→Option α)→Int→Int→Option α
def g122l2b{α:Type}(a:Int)(b:List Int)(c:Int→Option α)(d:Int→Int→Option α)(e h:Int):Option α:=cond (decide (h>(0:Int))) (d (IntKind.wrap .i64 (e+(1:Int))) (Int.fdiv h (2^1))) (c e)
def g122l2{α:Type}(a:Int)(b:List Int)(c:Int→Option α):Nat→Int→Int→Option α
 |0=>fun _ _=>none
 |m+1=>fun d e=>g122l2b a b c (g122l2 a b c m) d e
def g122l2M{α:Type}(m:Nat):S_g122l2 α:=
 fun a b c d e=>g122l2 a b c m d e
def g122l2D:LoopD:={n:=31,low:=[0],sl:=[3,4,5],bl:=[0],tp:=[tI,tI,(.vl (.sv (.int .u32)))],bp:=[(false,[(.seq uU 6)])],xs:=[(4,[3,4])]}
def g122l2K{α:Type}(L:S_g122l2 α)(ls:List Lf)(k:KEx α):Option α:=
 L (lf ls 0).int ((lf ls 3).lst uU)
  (fun a=>k .normal (mkSt 31 [3,4] [(.vl (.sv (.int .i64 (lf ls 0).int))),(.vl (.sv (.int .i64 a)))] [0] [(false,[(.seq uU 6 ((lf ls 3).lst uU))])]))
  (lf ls 1).int (lf ls 2).int
abbrev S_g122l0(α:Type):Type:=(List Int)→(Int→Option α)→(Option α)→Int→Option α
def g122l0b{α:Type}(L122l2:Al S_g122l2)(a:List Int)(b:Int→Option α)(c:Option α)(d:Int→Option α)(e:Int):Option α:=cond (decide (e≥(0:Int))) (if 0≤e∧e<(6:Nat) then if e.toNat<6 then cond ((List.getD a e.toNat 0)==(0:Int)) (d (IntKind.wrap .i64 (e-(1:Int)))) (if 0≤e∧e<(6:Nat) then if e.toNat<6 then L122l2 e a (fun h=>b (IntKind.wrap .i64 ((IntKind.wrap .i64 ((32:Int)*e))+h))) (0:Int) (List.getD a e.toNat 0) else none else none) else none else none) (c)
def g122l0{α:Type}(L122l2:Al S_g122l2)(a:List Int)(b:Int→Option α)(c:Option α):Nat→Int→Option α
 |0=>fun _=>none
 |m+1=>fun d=>g122l0b L122l2 a b c (g122l0 L122l2 a b c m) d
def g122l0M{α:Type}(m:Nat):S_g122l0 α:=
 fun a b c d=>g122l0 (g122l2M m) a b c m d
def g122l0D:LoopD:={n:=31,low:=[0],sl:=[0,3],bl:=[0],tp:=[(.vl (.sv (.ptr 0 0))),tI],bp:=[(false,[(.seq uU 6)])],xs:=[(1,[2]),(2,[])]}
def g122l0K{α:Type}(L:S_g122l0 α)(ls:List Lf)(k:KEx α):Option α:=
 L ((lf ls 1).lst uU)
  (fun a=>k .ret (mkSt 31 [2] [(.vl (.sv (.int .i64 a)))] [0] [(false,[(.seq uU 6 ((lf ls 1).lst uU))])]))
  (k .normal (mkSt 31 [] [] [0] [(false,[(.seq uU 6 ((lf ls 1).lst uU))])]))
  (lf ls 0).int
def g122b{α:Type}(L122l2:Al S_g122l2)(L122l0:Al S_g122l0)(a:List Int)(b:Int→Option α):Option α:=L122l0 a (fun c=>b c) (b (0:Int)) (5:Int)
def g122{α:Type}(m:Nat):S_g122 α:=
 g122b (g122l2M m) (g122l0M m)
def g122tp:List TP:=[(.vl (.sv (.ptr 0 0)))]
def g122bp:List BP:=[(false,[(.seq uU 6)])]
def g122K{α:Type}(G:S_g122 α)(ls:List Lf)(k:KRe α):Option α:=
 G ((lf ls 0).lst uU)
  (fun a=>k (.vl (.sv (.int .i64 a))) [[(.seq uU 6 ((lf ls 0).lst uU))]] [])
def g122R{α:Type}(G:S_g122 α):=rowK g122tp g122bp (g122K G)
def g122hd(L122l2:Al S_g122l2)(L122l0:Al S_g122l0):Hd where
 call:=fun f args Bs k=>none
 loop:=fun id st k=>cond (Nat.beq id 2) (loopH g122l2D (g122l2K L122l2) st k) (cond (Nat.beq id 0) (loopH g122l0D (g122l0K L122l0) st k) (none))
 ro:=fun f=>[]
def g122h(m:Nat):Hd:=g122hd (g122l2M m) (g122l0M m)
theorem g122l2Step(L122l2:Al S_g122l2)(L122l0:Al S_g122l0){α:Type}(L:S_g122l2 α)(ls:List Lf)(k:KEx α):
  g122l2K (fun a b c d e=>g122l2b a b c (L a b c) d e) ls k=ev tab (g122hd L122l2 L122l0) (bodyAt Tryz.f122 2) (atHead g122l2D ls) (loopK g122l2D 2 (loopH g122l2D (g122l2K L)) k):=by kernel_rfl
theorem g122l0Step(L122l2:Al S_g122l2)(L122l0:Al S_g122l0){α:Type}(L:S_g122l0 α)(ls:List Lf)(k:KEx α):
  g122l0K (fun a b c d=>g122l0b L122l2 a b c (L a b c) d) ls k=ev tab (g122hd L122l2 L122l0) (bodyAt Tryz.f122 0) (atHead g122l0D ls) (loopK g122l0D 0 (loopH g122l0D (g122l0K L)) k):=by kernel_rfl
theorem g122Main(L122l2:Al S_g122l2)(L122l0:Al S_g122l0){α:Type}(ls:List Lf)(k:KRe α):
  g122K (g122b L122l2 L122l0) ls k=evFun tab (g122hd L122l2 L122l0) Tryz.f122 (fT g122tp ls) (fB g122tp g122bp ls) k:=by kernel_rfl
theorem g122Calls(m:Nat):(g122h m).CallsOk Tryz.prog:=cok_nil
theorem g122l2Ok(m:Nat)(α:Type)(st:St)(k:KEx α)(r:α)(h:(g122h m).loop 2 st k=some r):
  LoopS Tryz.prog 2 (bodyAt Tryz.f122 2) st k r:=
 lpk (F:=fun n ls k=>g122l2K (fun a b c d e=>g122l2 a b c n d e) ls k) (g122Calls m) (lb0 (by kernel_rfl))
  (fun _ _=>rfl) (fun n ls k=>g122l2Step (g122l2M m) (g122l0M m) (fun a b c=>g122l2 a b c n) ls k) (n:=m) h
theorem g122l0Ok(m:Nat)(α:Type)(st:St)(k:KEx α)(r:α)(h:(g122h m).loop 0 st k=some r):
  LoopS Tryz.prog 0 (bodyAt Tryz.f122 0) st k r:=
 lpk (F:=fun n ls k=>g122l0K (fun a b c d=>g122l0 (g122l2M m) a b c n d) ls k) (g122Calls m) (loopsOk_of _ (fun p hp=>by
  rw[show loopsOf (bodyAt Tryz.f122 0)=[(2,bodyAt Tryz.f122 2)] by kernel_rfl] at hp
  simp only[List.mem_cons,List.not_mem_nil,or_false] at hp
  rcases hp with rfl
  exact g122l2Ok m))
  (fun _ _=>rfl) (fun n ls k=>g122l0Step (g122l2M m) (g122l0M m) (fun a b c=>g122l0 (g122l2M m) a b c n) ls k) (n:=m) h
theorem g122Ok(m:Nat):RowOk Tryz.prog 122 (fun{α}=>g122R (g122 m (α:=α))):=
 rwk (g122Calls m) (lo1 (by kernel_rfl) (g122l0Ok m))
  (fun _=>g122Main (g122l2M m) (g122l0M m))
abbrev S_g107(α:Type):Type:=Int→(List Int)→((List Int)→Bool→Option α)→Option α
abbrev S_g107l0(α:Type):Type:=Int→(List Int)→(List Int)→((List Int)→Option α)→Int→(List Int)→Option α
def g107l0b{α:Type}(a:Int)(b c:List Int)(d:(List Int)→Option α)(e:Int→(List Int)→Option α)(h:Int)(i:List Int):Option α:=cond (decide (h<(6:Int))) (let j:Int:=IntKind.wrap .i64 (h+(IntKind.wrap .i64 (Int.tdiv a (32:Int))));cond (decide (j≥(6:Int))) (d i) (if 0≤h∧h<(6:Nat) then if h.toNat<6 then let l:Int:=IntKind.wrap .u64 (Int.tmod a (32:Int));if l<0 then none else let n:Int:=IntKind.wrap .u64 ((IntKind.wrap .u64 (List.getD b h.toNat 0))*2^(min l.toNat 64));if 0≤j∧j<(6:Nat) then if j.toNat<6 then if 0≤j∧j<(6:Nat) then if j.toNat<6 then let o:List Int:=List.set i (j.toNat) (ibits .or .u32 (List.getD i j.toNat 0) (IntKind.wrap .u32 n));cond (decide ((IntKind.wrap .i64 (j+(1:Int)))<(6:Int))) (let p:Int:=IntKind.wrap .i64 (j+(1:Int));if 0≤p∧p<(6:Nat) then if p.toNat<6 then if 0≤p∧p<(6:Nat) then if p.toNat<6 then e (IntKind.wrap .i64 (h+(1:Int))) (List.set o (p.toNat) (ibits .or .u32 (List.getD o p.toNat 0) (IntKind.wrap .u32 (Int.fdiv n (2^32))))) else none else none else none else none) (e (IntKind.wrap .i64 (h+(1:Int))) o) else none else none else none else none else none else none)) (d i)
def g107l0{α:Type}(a:Int)(b c:List Int)(d:(List Int)→Option α):Nat→Int→(List Int)→Option α
 |0=>fun _ _=>none
 |m+1=>fun e h=>g107l0b a b c d (g107l0 a b c d m) e h
def g107l0M{α:Type}(m:Nat):S_g107l0 α:=
 fun a b c d e h=>g107l0 a b c d m e h
def g107l0D:LoopD:={n:=62,low:=[0],sl:=[0,1,4,6,7],bl:=[0,1000001,1000002],tp:=[(.vl (.sv (.ptr 0 0))),tI,(.vl (.sv (.ptr 1000001 0))),(.vl (.sv (.ptr 1000002 0))),tI],bp:=[(false,[(.seq uU 6)]),b6,b6],xs:=[(2,[4,6])]}
def g107l0K{α:Type}(L:S_g107l0 α)(ls:List Lf)(k:KEx α):Option α:=
 L (lf ls 0).int ((lf ls 2).lst uU) ((lf ls 3).lst uU)
  (fun a=>k .normal (mkSt 62 [4,6] [(.vl (.sv (.ptr 1000001 0))),(.vl (.sv (.ptr 1000002 0)))] [0,1000001,1000002] [(false,[(.seq uU 6 ((lf ls 2).lst uU))]),(true,[(.seq uU 6 ((lf ls 3).lst uU))]),(true,[(.seq uU 6 a)])]))
  (lf ls 1).int ((lf ls 4).lst uU)
def g107b{α:Type}(G122:Al S_g122)(G126:Al S_g126)(L107l0:Al S_g107l0)(a:Int)(b:List Int)(c:(List Int)→Bool→Option α):Option α:=G122 b (fun d=>cond (decide ((IntKind.wrap .i64 (d+a))>(192:Int))) (G126 b (fun e=>cond (!e) (c [0,0,0,0,0,0] false) (L107l0 a b [0,0,0,0,0,0] (fun h=>c h true) (0:Int) [0,0,0,0,0,0]))) (L107l0 a b [0,0,0,0,0,0] (fun i=>c i true) (0:Int) [0,0,0,0,0,0]))
def g107{α:Type}(m:Nat):S_g107 α:=
 g107b (g122 m) (g126 m) (g107l0M m)
def g107tp:List TP:=[(.vl (.sv (.ptr 0 0))),tI]
def g107bp:List BP:=[(false,[(.seq uU 6)])]
def g107K{α:Type}(G:S_g107 α)(ls:List Lf)(k:KRe α):Option α:=
 G (lf ls 0).int ((lf ls 1).lst uU)
  (fun a b=>k (.tup [(.agg [(.seq uU 6 a)]),(.sv (.bool b))]) [[(.seq uU 6 ((lf ls 1).lst uU))]] [])
def g107R{α:Type}(G:S_g107 α):=rowK g107tp g107bp (g107K G)
def g107hd(G122:Al S_g122)(G126:Al S_g126)(L107l0:Al S_g107l0):Hd where
 call:=fun f args Bs k=>cond (Nat.beq f 122) (g122R G122 args Bs k) (cond (Nat.beq f 126) (g126R G126 args Bs k) (none))
 loop:=fun id st k=>cond (Nat.beq id 0) (loopH g107l0D (g107l0K L107l0) st k) (none)
 ro:=fun f=>cond (Nat.beq f 122) [0] (cond (Nat.beq f 126) [0] ([]))
def g107h(m:Nat):Hd:=g107hd (g122 m) (g126 m) (g107l0M m)
theorem g107l0Step(G122:Al S_g122)(G126:Al S_g126)(L107l0:Al S_g107l0){α:Type}(L:S_g107l0 α)(ls:List Lf)(k:KEx α):
  g107l0K (fun a b c d e h=>g107l0b a b c d (L a b c d) e h) ls k=ev tab (g107hd G122 G126 L107l0) (bodyAt Tryz.f107 0) (atHead g107l0D ls) (loopK g107l0D 0 (loopH g107l0D (g107l0K L)) k):=by kernel_rfl
theorem g107Main(G122:Al S_g122)(G126:Al S_g126)(L107l0:Al S_g107l0){α:Type}(ls:List Lf)(k:KRe α):
  g107K (g107b G122 G126 L107l0) ls k=evFun tab (g107hd G122 G126 L107l0) Tryz.f107 (fT g107tp ls) (fB g107tp g107bp ls) k:=by kernel_rfl
theorem g107Calls(m:Nat):(g107h m).CallsOk Tryz.prog:=(cok_cons (g122Ok m) (cok_cons (g126Ok m) cok_nil))
theorem g107l0Ok(m:Nat)(α:Type)(st:St)(k:KEx α)(r:α)(h:(g107h m).loop 0 st k=some r):
  LoopS Tryz.prog 0 (bodyAt Tryz.f107 0) st k r:=
 lpk (F:=fun n ls k=>g107l0K (fun a b c d e i=>g107l0 a b c d n e i) ls k) (g107Calls m) (lb0 (by kernel_rfl))
  (fun _ _=>rfl) (fun n ls k=>g107l0Step (g122 m) (g126 m) (g107l0M m) (fun a b c d=>g107l0 a b c d n) ls k) (n:=m) h
theorem g107Ok(m:Nat):RowOk Tryz.prog 107 (fun{α}=>g107R (g107 m (α:=α))):=
 rwk (g107Calls m) (lo1 (by kernel_rfl) (g107l0Ok m))
  (fun _=>g107Main (g122 m) (g126 m) (g107l0M m))
abbrev S_g77(α:Type):Type:=Bool→(List Int)→Int→(Bool→(List Int)→Int→Option α)→Option α
def g77b{α:Type}(G107:Al S_g107)(G110:Al S_g110)(a:Bool)(b:List Int)(c:Int)(d:Bool→(List Int)→Int→Option α):Option α:=G107 c b (fun e h=>cond (!h) (d false [0,0,0,0,0,0] (3:Int)) (G110 a e (fun i=>d i e (0:Int))))
def g77{α:Type}(m:Nat):S_g77 α:=
 g77b (g107 m) (g110 m)
def g77tp:List TP:=[vW,tI]
def g77bp:List BP:=[]
def g77K{α:Type}(G:S_g77 α)(ls:List Lf)(k:KRe α):Option α:=
 G (lf ls 0).bool ((lf ls 1).lst uU) (lf ls 2).int
  (fun a b c=>k (.tup [(.agg [(.one (.bool a)),(.seq uU 6 b)]),(.sv (.int .i64 c))]) [] [])
def g77R{α:Type}(G:S_g77 α):=rowK g77tp g77bp (g77K G)
def g77hd(G107:Al S_g107)(G110:Al S_g110):Hd where
 call:=fun f args Bs k=>cond (Nat.beq f 107) (g107R G107 args Bs k) (cond (Nat.beq f 110) (g110R G110 args Bs k) (none))
 loop:=fun id st k=>none
 ro:=fun f=>cond (Nat.beq f 107) [0] ([])
def g77h(m:Nat):Hd:=g77hd (g107 m) (g110 m)
theorem g77Main(G107:Al S_g107)(G110:Al S_g110){α:Type}(ls:List Lf)(k:KRe α):
  g77K (g77b G107 G110) ls k=evFun tab (g77hd G107 G110) Tryz.f77 (fT g77tp ls) (fB g77tp g77bp ls) k:=by kernel_rfl
theorem g77Calls(m:Nat):(g77h m).CallsOk Tryz.prog:=(cok_cons (g107Ok m) (cok_cons (g110Ok m) cok_nil))
theorem g77Ok(m:Nat):RowOk Tryz.prog 77 (fun{α}=>g77R (g77 m (α:=α))):=
 rwk (g77Calls m) (lo0 (by kernel_rfl))
  (fun _=>g77Main (g107 m) (g110 m))
abbrev S_g97(α:Type):Type:=Bool→(List Int)→Int→(Bool→(List Int)→Int→Option α)→Option α
def g97b{α:Type}(G77:Al S_g77)(a:Bool)(b:List Int)(c:Int)(d:Bool→(List Int)→Int→Option α):Option α:=cond (decide (c>(191:Int))) (d false [0,0,0,0,0,0] (3:Int)) (G77 a b c (fun e h i=>d e h i))
def g97{α:Type}(m:Nat):S_g97 α:=
 g97b (g77 m)
def g97tp:List TP:=[vW,tI]
def g97bp:List BP:=[]
def g97K{α:Type}(G:S_g97 α)(ls:List Lf)(k:KRe α):Option α:=
 G (lf ls 0).bool ((lf ls 1).lst uU) (lf ls 2).int
  (fun a b c=>k (.tup [(.agg [(.one (.bool a)),(.seq uU 6 b)]),(.sv (.int .i64 c))]) [] [])
def g97R{α:Type}(G:S_g97 α):=rowK g97tp g97bp (g97K G)
def g97hd(G77:Al S_g77):Hd where
 call:=fun f args Bs k=>cond (Nat.beq f 77) (g77R G77 args Bs k) (none)
 loop:=fun id st k=>none
 ro:=fun f=>[]
def g97h(m:Nat):Hd:=g97hd (g77 m)
theorem g97Main(G77:Al S_g77){α:Type}(ls:List Lf)(k:KRe α):
  g97K (g97b G77) ls k=evFun tab (g97hd G77) Tryz.f97 (fT g97tp ls) (fB g97tp g97bp ls) k:=by kernel_rfl
theorem g97Calls(m:Nat):(g97h m).CallsOk Tryz.prog:=(cok_cons (g77Ok m) cok_nil)
theorem g97Ok(m:Nat):RowOk Tryz.prog 97 (fun{α}=>g97R (g97 m (α:=α))):=
 rwk (g97Calls m) (lo0 (by kernel_rfl))
  (fun _=>g97Main (g77 m))
abbrev S_g108(α:Type):Type:=(List Int)→(List Int)→((List Int)→Option α)→Option α
abbrev S_g108l0(α:Type):Type:=(List Int)→(List Int)→(List Int)→((List Int)→Option α)→Int→Int→(List Int)→Option α
def g108l0b{α:Type}(a b c:List Int)(d:(List Int)→Option α)(e:Int→Int→(List Int)→Option α)(h i:Int)(j:List Int):Option α:=cond (decide (i<(6:Int))) (if 0≤i∧i<(6:Nat) then if i.toNat<6 then if 0≤i∧i<(6:Nat) then if i.toNat<6 then let l:Int:=IntKind.wrap .i64 ((IntKind.wrap .i64 ((IntKind.wrap .i64 (List.getD a i.toNat 0))-(IntKind.wrap .i64 (List.getD b i.toNat 0))))-h);cond (decide (l<(0:Int))) (if 0≤i∧i<(6:Nat) then if i.toNat<6 then e (1:Int) (IntKind.wrap .i64 (i+(1:Int))) (List.set j (i.toNat) (IntKind.wrap .u32 (IntKind.wrap .i64 (l+(4294967296:Int))))) else none else none) (if 0≤i∧i<(6:Nat) then if i.toNat<6 then e (0:Int) (IntKind.wrap .i64 (i+(1:Int))) (List.set j (i.toNat) (IntKind.wrap .u32 l)) else none else none) else none else none else none else none) (d j)
def g108l0{α:Type}(a b c:List Int)(d:(List Int)→Option α):Nat→Int→Int→(List Int)→Option α
 |0=>fun _ _ _=>none
 |m+1=>fun e h i=>g108l0b a b c d (g108l0 a b c d m) e h i
def g108l0M{α:Type}(m:Nat):S_g108l0 α:=
 fun a b c d e h i=>g108l0 a b c d m e h i
def g108l0D:LoopD:={n:=38,low:=[0,1],sl:=[0,1,4,5,6,7],bl:=[0,1,1000002,1000003],tp:=[(.vl (.sv (.ptr 0 0))),(.vl (.sv (.ptr 1 0))),(.vl (.sv (.ptr 1000002 0))),(.vl (.sv (.ptr 1000003 0))),tI,tI],bp:=[(false,[(.seq uU 6)]),(false,[(.seq uU 6)]),b6,b6],xs:=[(2,[4,5])]}
def g108l0K{α:Type}(L:S_g108l0 α)(ls:List Lf)(k:KEx α):Option α:=
 L ((lf ls 2).lst uU) ((lf ls 3).lst uU) ((lf ls 4).lst uU)
  (fun a=>k .normal (mkSt 38 [4,5] [(.vl (.sv (.ptr 1000002 0))),(.vl (.sv (.ptr 1000003 0)))] [0,1,1000002,1000003] [(false,[(.seq uU 6 ((lf ls 2).lst uU))]),(false,[(.seq uU 6 ((lf ls 3).lst uU))]),(true,[(.seq uU 6 ((lf ls 4).lst uU))]),(true,[(.seq uU 6 a)])]))
  (lf ls 0).int (lf ls 1).int ((lf ls 5).lst uU)
def g108b{α:Type}(L108l0:Al S_g108l0)(a b:List Int)(c:(List Int)→Option α):Option α:=L108l0 a b [0,0,0,0,0,0] (fun d=>c d) (0:Int) (0:Int) [0,0,0,0,0,0]
def g108{α:Type}(m:Nat):S_g108 α:=
 g108b (g108l0M m)
def g108tp:List TP:=[(.vl (.sv (.ptr 0 0))),(.vl (.sv (.ptr 1 0)))]
def g108bp:List BP:=[(false,[(.seq uU 6)]),(false,[(.seq uU 6)])]
def g108K{α:Type}(G:S_g108 α)(ls:List Lf)(k:KRe α):Option α:=
 G ((lf ls 0).lst uU) ((lf ls 1).lst uU)
  (fun a=>k (.vl (.agg [(.seq uU 6 a)])) [[(.seq uU 6 ((lf ls 0).lst uU))],[(.seq uU 6 ((lf ls 1).lst uU))]] [])
def g108R{α:Type}(G:S_g108 α):=rowK g108tp g108bp (g108K G)
def g108hd(L108l0:Al S_g108l0):Hd where
 call:=fun f args Bs k=>none
 loop:=fun id st k=>cond (Nat.beq id 0) (loopH g108l0D (g108l0K L108l0) st k) (none)
 ro:=fun f=>[]
def g108h(m:Nat):Hd:=g108hd (g108l0M m)
theorem g108l0Step(L108l0:Al S_g108l0){α:Type}(L:S_g108l0 α)(ls:List Lf)(k:KEx α):
  g108l0K (fun a b c d e h i=>g108l0b a b c d (L a b c d) e h i) ls k=ev tab (g108hd L108l0) (bodyAt Tryz.f108 0) (atHead g108l0D ls) (loopK g108l0D 0 (loopH g108l0D (g108l0K L)) k):=by kernel_rfl
theorem g108Main(L108l0:Al S_g108l0){α:Type}(ls:List Lf)(k:KRe α):
  g108K (g108b L108l0) ls k=evFun tab (g108hd L108l0) Tryz.f108 (fT g108tp ls) (fB g108tp g108bp ls) k:=by kernel_rfl
theorem g108Calls(m:Nat):(g108h m).CallsOk Tryz.prog:=cok_nil
theorem g108l0Ok(m:Nat)(α:Type)(st:St)(k:KEx α)(r:α)(h:(g108h m).loop 0 st k=some r):
  LoopS Tryz.prog 0 (bodyAt Tryz.f108 0) st k r:=
 lpk (F:=fun n ls k=>g108l0K (fun a b c d e i j=>g108l0 a b c d n e i j) ls k) (g108Calls m) (lb0 (by kernel_rfl))
  (fun _ _=>rfl) (fun n ls k=>g108l0Step (g108l0M m) (fun a b c d=>g108l0 a b c d n) ls k) (n:=m) h
theorem g108Ok(m:Nat):RowOk Tryz.prog 108 (fun{α}=>g108R (g108 m (α:=α))):=
 rwk (g108Calls m) (lo1 (by kernel_rfl) (g108l0Ok m))
  (fun _=>g108Main (g108l0M m))
end Go.Proofs.YtlmmgjngihlpeaaGreat.Sx
