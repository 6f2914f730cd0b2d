/- Functions. Printed by our own sx.py. -/
import Derived.Test.YtlmmgjngihlpeaaGreatDoorSxT
namespace Go.Proofs.YtlmmgjngihlpeaaGreatDoor.Sx
open Go
set_option linter.unusedVariables false
set_option maxRecDepth 100000
abbrev S_g158(α:Type):Type:=Int→(Int→Option α)→Option α
def g158b{α:Type}(a:Int)(b:Int→Option α):Option α:=cond (decide (a≥(65536:Int))) (let c:Int:=Int.fdiv a (2^16);cond (decide (c≥(256:Int))) (let d:Int:=IntKind.wrap .u8 (Int.fdiv c (2^8));if 0≤d∧d<strC0.size then b (IntKind.wrap .i64 ((24:Int)+(IntKind.wrap .i64 (byteAt strC0 d.toNat)))) else none) (let e:Int:=IntKind.wrap .u8 c;if 0≤e∧e<strC0.size then b (IntKind.wrap .i64 ((16:Int)+(IntKind.wrap .i64 (byteAt strC0 e.toNat)))) else none)) (cond (decide (a≥(256:Int))) (let h:Int:=IntKind.wrap .u8 (Int.fdiv a (2^8));if 0≤h∧h<strC0.size then b (IntKind.wrap .i64 ((8:Int)+(IntKind.wrap .i64 (byteAt strC0 h.toNat)))) else none) (let i:Int:=IntKind.wrap .u8 a;if 0≤i∧i<strC0.size then b (IntKind.wrap .i64 ((0:Int)+(IntKind.wrap .i64 (byteAt strC0 i.toNat)))) else none))
def g158{α:Type}(m:Nat):S_g158 α:=
 g158b
def g158tp:List TP:=[(.vl (.sv (.int .u32)))]
def g158bp:List BP:=[]
def g158K{α:Type}(G:S_g158 α)(ls:List Lf)(k:KRe α):Option α:=
 G (lf ls 0).int
  (fun a=>k (.vl (.sv (.int .i64 a))) [] [])
def g158R{α:Type}(G:S_g158 α):=rowK g158tp g158bp (g158K G)
def g158hd:Hd where
 call:=fun f args Bs k=>none
 loop:=fun id st k=>none
 ro:=fun f=>[]
def g158h(m:Nat):Hd:=g158hd
theorem g158Main{α:Type}(ls:List Lf)(k:KRe α):
  g158K (g158b) ls k=evFun tab (g158hd) Tryz.f158 (fT g158tp ls) (fB g158tp g158bp ls) k:=by kernel_rfl
theorem g158Calls(m:Nat):(g158h m).CallsOk Tryz.prog:=cok_nil
theorem g158Ok(m:Nat):RowOk Tryz.prog 158 (fun{α}=>g158R (g158 m (α:=α))):=
 rwk (g158Calls m) (lo0 (by kernel_rfl))
  (fun _=>g158Main)
abbrev S_g164(α:Type):Type:=Int→(ByteArray→Option α)→Option α
def g164b{α:Type}(a:Int)(b:ByteArray→Option α):Option α:=cond (decide (a<(10:Int))) (let c:Int:=IntKind.wrap .i64 (a+(1:Int));if 0≤a∧a≤c∧c≤((strC1.size:Nat):Int) then b (ByteArray.extract strC1 (Int.toNat a) (Int.toNat c)) else none) (let d:Int:=IntKind.wrap .i64 (a*(2:Int));let e:Int:=IntKind.wrap .i64 ((IntKind.wrap .i64 (a*(2:Int)))+(2:Int));if 0≤d∧d≤e∧e≤((strC2.size:Nat):Int) then b (ByteArray.extract strC2 (Int.toNat d) (Int.toNat e)) else none)
def g164{α:Type}(m:Nat):S_g164 α:=
 g164b
def g164tp:List TP:=[tI]
def g164bp:List BP:=[]
def g164K{α:Type}(G:S_g164 α)(ls:List Lf)(k:KRe α):Option α:=
 G (lf ls 0).int
  (fun a=>k (.vl (.sv (.str a))) [] [])
def g164R{α:Type}(G:S_g164 α):=rowK g164tp g164bp (g164K G)
def g164hd:Hd where
 call:=fun f args Bs k=>none
 loop:=fun id st k=>none
 ro:=fun f=>[]
def g164h(m:Nat):Hd:=g164hd
theorem g164Main{α:Type}(ls:List Lf)(k:KRe α):
  g164K (g164b) ls k=evFun tab (g164hd) Tryz.f164 (fT g164tp ls) (fB g164tp g164bp ls) k:=by kernel_rfl
theorem g164Calls(m:Nat):(g164h m).CallsOk Tryz.prog:=cok_nil
theorem g164Ok(m:Nat):RowOk Tryz.prog 164 (fun{α}=>g164R (g164 m (α:=α))):=
 rwk (g164Calls m) (lo0 (by kernel_rfl))
  (fun _=>g164Main)
abbrev S_g96(α:Type):Type:=(List Int)→(List Int)→((List Int)→Bool→Option α)→Option α
abbrev S_g96l2(α:Type):Type:=Int→Int→(List Int)→Int→(List Int)→(List Int)→(List Int)→(Int→(List Int)→Option α)→Int→Int→(List Int)→Option α
def g96l2b{α:Type}(a b:Int)(c:List Int)(d:Int)(e h i:List Int)(j:Int→(List Int)→Option α)(l:Int→Int→(List Int)→Option α)(n o:Int)(p:List Int):Option α:=cond (decide (o<(6:Int))) (if 0≤o∧o<(6:Nat) then let q:Int:=IntKind.wrap .i64 (a+o);if 0≤q∧q<(12:Nat) then if q.toNat<12 then let r:Int:=IntKind.wrap .u64 (n+(IntKind.wrap .u64 ((IntKind.wrap .u64 ((IntKind.wrap .u64 b)*(IntKind.wrap .u64 (List.getD e o.toNat 0))))+(IntKind.wrap .u64 (List.getD p q.toNat 0)))));let s:Int:=IntKind.wrap .i64 (a+o);if 0≤s∧s<(12:Nat) then if s.toNat<12 then l (Int.fdiv r (2^32)) (IntKind.wrap .i64 (o+(1:Int))) (List.set p (s.toNat) (IntKind.wrap .u32 r)) else none else none else none else none else none) (j n p)
def g96l2{α:Type}(a b:Int)(c:List Int)(d:Int)(e h i:List Int)(j:Int→(List Int)→Option α):Nat→Int→Int→(List Int)→Option α
 |0=>fun _ _ _=>none
 |m+1=>fun l n o=>g96l2b a b c d e h i j (g96l2 a b c d e h i j m) l n o
def g96l2M{α:Type}(m:Nat):S_g96l2 α:=
 fun a b c d e h i j l n o=>g96l2 a b c d e h i j m l n o
def g96l2D:LoopD:={n:=66,low:=[],sl:=[3,4,6,7,8,9,14,15,19,20],bl:=[1000000,1000001,1000002],tp:=[(.vl (.sv (.ptr 1000000 0))),(.vl (.sv (.ptr 1000001 0))),(.vl (.sv (.ptr 1000002 0))),tI,(.vl (.sv (.int .u32))),(.vl (.sv (.int .u64))),(.vl (.agg [(.seq uU 6)])),tI,(.vl (.agg [(.seq uU 6)])),tI],bp:=[b6,b6,(true,[(.seq uU 12)])],xs:=[(4,[3,4,6,7,9,14,15])]}
def g96l2K{α:Type}(L:S_g96l2 α)(ls:List Lf)(k:KEx α):Option α:=
 L (lf ls 0).int (lf ls 1).int ((lf ls 3).lst uU) (lf ls 4).int ((lf ls 5).lst uU) ((lf ls 7).lst uU) ((lf ls 8).lst uU)
  (fun a b=>k .normal (mkSt 66 [3,4,6,7,9,14,15] [(.vl (.sv (.ptr 1000000 0))),(.vl (.sv (.ptr 1000001 0))),(.vl (.sv (.ptr 1000002 0))),(.vl (.sv (.int .i64 (lf ls 0).int))),(.vl (.sv (.int .u64 a))),(.vl (.agg [(.seq uU 6 ((lf ls 3).lst uU))])),(.vl (.sv (.int .i64 (lf ls 4).int)))] [1000000,1000001,1000002] [(true,[(.seq uU 6 ((lf ls 7).lst uU))]),(true,[(.seq uU 6 ((lf ls 8).lst uU))]),(true,[(.seq uU 12 b)])]))
  (lf ls 2).int (lf ls 6).int ((lf ls 9).lst uU)
abbrev S_g96l0(α:Type):Type:=(List Int)→(List Int)→(List Int)→((List Int)→Option α)→Int→(List Int)→Option α
def g96l0b{α:Type}(L96l2:Al S_g96l2)(a b c:List Int)(d:(List Int)→Option α)(e:Int→(List Int)→Option α)(h:Int)(i:List Int):Option α:=cond (decide (h<(6:Int))) (if 0≤h∧h<(6:Nat) then L96l2 h (List.getD a h.toNat 0) a h b b c (fun j l=>let n:Int:=IntKind.wrap .i64 (h+(6:Int));if 0≤n∧n<(12:Nat) then if n.toNat<12 then e (IntKind.wrap .i64 (h+(1:Int))) (List.set l (n.toNat) (IntKind.wrap .u32 j)) else none else none) (0:Int) (0:Int) i else none) (d i)
def g96l0{α:Type}(L96l2:Al S_g96l2)(a b c:List Int)(d:(List Int)→Option α):Nat→Int→(List Int)→Option α
 |0=>fun _ _=>none
 |m+1=>fun e h=>g96l0b L96l2 a b c d (g96l0 L96l2 a b c d m) e h
def g96l0M{α:Type}(m:Nat):S_g96l0 α:=
 fun a b c d e h=>g96l0 (g96l2M m) a b c d m e h
def g96l0D:LoopD:={n:=66,low:=[],sl:=[3,4,6,14,15],bl:=[1000000,1000001,1000002],tp:=[(.vl (.sv (.ptr 1000000 0))),(.vl (.sv (.ptr 1000001 0))),(.vl (.sv (.ptr 1000002 0))),(.vl (.agg [(.seq uU 6)])),tI],bp:=[b6,b6,(true,[(.seq uU 12)])],xs:=[(2,[4,6])]}
def g96l0K{α:Type}(L:S_g96l0 α)(ls:List Lf)(k:KEx α):Option α:=
 L ((lf ls 0).lst uU) ((lf ls 2).lst uU) ((lf ls 3).lst uU)
  (fun a=>k .normal (mkSt 66 [4,6] [(.vl (.sv (.ptr 1000000 0))),(.vl (.sv (.ptr 1000001 0)))] [1000000,1000001] [(true,[(.seq uU 6 ((lf ls 3).lst uU))]),(true,[(.seq uU 12 a)])]))
  (lf ls 1).int ((lf ls 4).lst uU)
abbrev S_g96l4(α:Type):Type:=Nat→Nat→Nat→Int→(List Int)→(List Int)→((List Int)→Option α)→(Option α)→Int→Option α
def g96l4b{α:Type}(a b c:Nat)(d:Int)(e h:List Int)(i:(List Int)→Option α)(j:Option α)(l:Int→Option α)(n:Int):Option α:=cond (decide (n<d)) (if 0≤n∧n<(b:Nat) then if(a+n.toNat)<12 then cond ((List.getD h (a+n.toNat) 0) !=(0:Int)) (i [0,0,0,0,0,0]) (l (IntKind.wrap .i64 (n+(1:Int)))) else none else none) (j)
def g96l4{α:Type}(a b c:Nat)(d:Int)(e h:List Int)(i:(List Int)→Option α)(j:Option α):Nat→Int→Option α
 |0=>fun _=>none
 |m+1=>fun l=>g96l4b a b c d e h i j (g96l4 a b c d e h i j m) l
def g96l4M{α:Type}(m:Nat):S_g96l4 α:=
 fun a b c d e h i j l=>g96l4 a b c d e h i j m l
def g96l4D:LoopD:={n:=66,low:=[],sl:=[4,6,53,54,55],bl:=[1000000,1000001],tp:=[(.vl (.sv (.ptr 1000000 0))),(.vl (.sv (.ptr 1000001 0))),(.vl (.sv (.slc 1000001 0 1))),tI,tI],bp:=[b6,(true,[(.seq uU 12)])],xs:=[(1,[4,5]),(6,[4,6])]}
def g96l4K{α:Type}(L:S_g96l4 α)(ls:List Lf)(k:KEx α):Option α:=
 L (lf ls 0).nat (lf ls 1).nat (lf ls 2).nat (lf ls 3).int ((lf ls 5).lst uU) ((lf ls 6).lst uU)
  (fun a=>k .ret (mkSt 66 [4,5] [(.vl (.sv (.ptr 1000000 0))),(.vl (.sv (.bool true)))] [1000000] [(true,[(.seq uU 6 a)])]))
  (k .normal (mkSt 66 [4,6] [(.vl (.sv (.ptr 1000000 0))),(.vl (.sv (.ptr 1000001 0)))] [1000000,1000001] [(true,[(.seq uU 6 ((lf ls 5).lst uU))]),(true,[(.seq uU 12 ((lf ls 6).lst uU))])]))
  (lf ls 4).int
def g96b{α:Type}(L96l2:Al S_g96l2)(L96l0:Al S_g96l0)(L96l4:Al S_g96l4)(a b:List Int)(c:(List Int)→Bool→Option α):Option α:=L96l0 a b [0,0,0,0,0,0] (fun d=>L96l4 6 6 6 (6:Int) [0,0,0,0,0,0] d (fun e=>c e true) (c (List.take 6 (List.drop 0 d)) false) (0:Int)) (0:Int) [0,0,0,0,0,0,0,0,0,0,0,0]
def g96{α:Type}(m:Nat):S_g96 α:=
 g96b (g96l2M m) (g96l0M m) (g96l4M m)
def g96tp:List TP:=[(.vl (.agg [(.seq uU 6)])),(.vl (.agg [(.seq uU 6)]))]
def g96bp:List BP:=[]
def g96K{α:Type}(G:S_g96 α)(ls:List Lf)(k:KRe α):Option α:=
 G ((lf ls 0).lst uU) ((lf ls 1).lst uU)
  (fun a b=>k (.tup [(.agg [(.seq uU 6 a)]),(.sv (.bool b))]) [] [])
def g96R{α:Type}(G:S_g96 α):=rowK g96tp g96bp (g96K G)
def g96hd(L96l2:Al S_g96l2)(L96l0:Al S_g96l0)(L96l4:Al S_g96l4):Hd where
 call:=fun f args Bs k=>none
 loop:=fun id st k=>cond (Nat.beq id 2) (loopH g96l2D (g96l2K L96l2) st k) (cond (Nat.beq id 0) (loopH g96l0D (g96l0K L96l0) st k) (cond (Nat.beq id 4) (loopH g96l4D (g96l4K L96l4) st k) (none)))
 ro:=fun f=>[]
def g96h(m:Nat):Hd:=g96hd (g96l2M m) (g96l0M m) (g96l4M m)
theorem g96l2Step(L96l2:Al S_g96l2)(L96l0:Al S_g96l0)(L96l4:Al S_g96l4){α:Type}(L:S_g96l2 α)(ls:List Lf)(k:KEx α):
  g96l2K (fun a b c d e h i j l n o=>g96l2b a b c d e h i j (L a b c d e h i j) l n o) ls k=ev tab (g96hd L96l2 L96l0 L96l4) (bodyAt Tryz.f96 2) (atHead g96l2D ls) (loopK g96l2D 2 (loopH g96l2D (g96l2K L)) k):=by kernel_rfl
theorem g96l0Step(L96l2:Al S_g96l2)(L96l0:Al S_g96l0)(L96l4:Al S_g96l4){α:Type}(L:S_g96l0 α)(ls:List Lf)(k:KEx α):
  g96l0K (fun a b c d e h=>g96l0b L96l2 a b c d (L a b c d) e h) ls k=ev tab (g96hd L96l2 L96l0 L96l4) (bodyAt Tryz.f96 0) (atHead g96l0D ls) (loopK g96l0D 0 (loopH g96l0D (g96l0K L)) k):=by kernel_rfl
theorem g96l4Step(L96l2:Al S_g96l2)(L96l0:Al S_g96l0)(L96l4:Al S_g96l4){α:Type}(L:S_g96l4 α)(ls:List Lf)(k:KEx α):
  g96l4K (fun a b c d e h i j l=>g96l4b a b c d e h i j (L a b c d e h i j) l) ls k=ev tab (g96hd L96l2 L96l0 L96l4) (bodyAt Tryz.f96 4) (atHead g96l4D ls) (loopK g96l4D 4 (loopH g96l4D (g96l4K L)) k):=by kernel_rfl
theorem g96Main(L96l2:Al S_g96l2)(L96l0:Al S_g96l0)(L96l4:Al S_g96l4){α:Type}(ls:List Lf)(k:KRe α):
  g96K (g96b L96l2 L96l0 L96l4) ls k=evFun tab (g96hd L96l2 L96l0 L96l4) Tryz.f96 (fT g96tp ls) (fB g96tp g96bp ls) k:=by kernel_rfl
theorem g96Calls(m:Nat):(g96h m).CallsOk Tryz.prog:=cok_nil
theorem g96l2Ok(m:Nat)(α:Type)(st:St)(k:KEx α)(r:α)(h:(g96h m).loop 2 st k=some r):
  LoopS Tryz.prog 2 (bodyAt Tryz.f96 2) st k r:=
 lpk (F:=fun n ls k=>g96l2K (fun a b c d e i j l o q s=>g96l2 a b c d e i j l n o q s) ls k) (g96Calls m) (lb0 (by kernel_rfl))
  (fun _ _=>rfl) (fun n ls k=>g96l2Step (g96l2M m) (g96l0M m) (g96l4M m) (fun a b c d e i j l=>g96l2 a b c d e i j l n) ls k) (n:=m) h
theorem g96l0Ok(m:Nat)(α:Type)(st:St)(k:KEx α)(r:α)(h:(g96h m).loop 0 st k=some r):
  LoopS Tryz.prog 0 (bodyAt Tryz.f96 0) st k r:=
 lpk (F:=fun n ls k=>g96l0K (fun a b c d e i=>g96l0 (g96l2M m) a b c d n e i) ls k) (g96Calls m) (loopsOk_of _ (fun p hp=>by
  rw[show loopsOf (bodyAt Tryz.f96 0)=[(2,bodyAt Tryz.f96 2)] by kernel_rfl] at hp
  simp only[List.mem_cons,List.not_mem_nil,or_false] at hp
  rcases hp with rfl
  exact g96l2Ok m))
  (fun _ _=>rfl) (fun n ls k=>g96l0Step (g96l2M m) (g96l0M m) (g96l4M m) (fun a b c d=>g96l0 (g96l2M m) a b c d n) ls k) (n:=m) h
theorem g96l4Ok(m:Nat)(α:Type)(st:St)(k:KEx α)(r:α)(h:(g96h m).loop 4 st k=some r):
  LoopS Tryz.prog 4 (bodyAt Tryz.f96 4) st k r:=
 lpk (F:=fun n ls k=>g96l4K (fun a b c d e i j l o=>g96l4 a b c d e i j l n o) ls k) (g96Calls m) (lb0 (by kernel_rfl))
  (fun _ _=>rfl) (fun n ls k=>g96l4Step (g96l2M m) (g96l0M m) (g96l4M m) (fun a b c d e i j l=>g96l4 a b c d e i j l n) ls k) (n:=m) h
theorem g96Fn(m:Nat):FnOk Tryz.prog 96 g96tp g96bp (fun{α}=>g96K (g96 m (α:=α))):=
 fn_ok (tab:=tab) (h:=g96h m) (fn:=Tryz.f96) (F:=fun{α}=>g96K (g96 m (α:=α))) tabOk (g96Calls m) mixed (by kernel_rfl) (by kernel_rfl) (fun c hc=>by
  rw[bodyOf_some hc]
  exact loopsOk_of _ (fun p hp=>by
  rw[show loopsOf (bodyOf Tryz.f96)=[(0,bodyAt Tryz.f96 0),(4,bodyAt Tryz.f96 4)] by kernel_rfl] at hp
  simp only[List.mem_cons,List.not_mem_nil,or_false] at hp
  rcases hp with rfl|rfl
  ·exact g96l0Ok m
  ·exact g96l4Ok m))
  (fun _=>g96Main (g96l2M m) (g96l0M m) (g96l4M m))
theorem g96Ok(m:Nat):RowOk Tryz.prog 96 (fun{α}=>g96R (g96 m (α:=α))):=row_of (g96Fn m)
abbrev S_g65(α:Type):Type:=Bool→(List Int)→(Bool→Option α)→Option α
def g65b{α:Type}(a:Bool)(b:List Int)(c:Bool→Option α):Option α:=cond a (c (!(eqLI b [0,0,0,0,0,0]))) (c false)
def g65{α:Type}(m:Nat):S_g65 α:=
 g65b
def g65tp:List TP:=[(.vl (.sv .bool)),(.vl (.agg [(.seq uU 6)]))]
def g65bp:List BP:=[]
def g65K{α:Type}(G:S_g65 α)(ls:List Lf)(k:KRe α):Option α:=
 G (lf ls 0).bool ((lf ls 1).lst uU)
  (fun a=>k (.vl (.agg [(.one (.bool a)),(.seq uU 6 ((lf ls 1).lst uU))])) [] [])
def g65R{α:Type}(G:S_g65 α):=rowK g65tp g65bp (g65K G)
def g65hd:Hd where
 call:=fun f args Bs k=>none
 loop:=fun id st k=>none
 ro:=fun f=>[]
def g65h(m:Nat):Hd:=g65hd
theorem g65Main{α:Type}(ls:List Lf)(k:KRe α):
  g65K (g65b) ls k=evFun tab (g65hd) Tryz.f65 (fT g65tp ls) (fB g65tp g65bp ls) k:=by kernel_rfl
theorem g65Calls(m:Nat):(g65h m).CallsOk Tryz.prog:=cok_nil
theorem g65Ok(m:Nat):RowOk Tryz.prog 65 (fun{α}=>g65R (g65 m (α:=α))):=
 rwk (g65Calls m) (lo0 (by kernel_rfl))
  (fun _=>g65Main)
abbrev S_g61(α:Type):Type:=Bool→(List Int)→Bool→(List Int)→Bool→(Bool→(List Int)→Bool→Option α)→Option α
def g61b{α:Type}(G96:Al S_g96)(G65:Al S_g65)(a:Bool)(b:List Int)(c:Bool)(d:List Int)(e:Bool)(h:Bool→(List Int)→Bool→Option α):Option α:=G96 b d (fun i j=>cond e (G65 (!(a==c)) i (fun l=>h l i true)) (G65 (!(a==c)) i (fun n=>h n i j)))
def g61{α:Type}(m:Nat):S_g61 α:=
 g61b (g96 m) (g65 m)
abbrev S_g97(α:Type):Type:=(List Int)→Int→((List Int)→Option α)→Option α
abbrev S_g97l0(α:Type):Type:=Int→Int→(List Int)→(List Int)→((List Int)→Option α)→Int→(List Int)→Option α
def g97l0b{α:Type}(a b:Int)(c d:List Int)(e:(List Int)→Option α)(h:Int→(List Int)→Option α)(i:Int)(j:List Int):Option α:=cond (decide ((IntKind.wrap .i64 (i+a))<(6:Int))) (let l:Int:=IntKind.wrap .i64 (i+a);if 0≤l∧l<(6:Nat) then if l.toNat<6 then if b<0 then none else if 0≤i∧i<(6:Nat) then if i.toNat<6 then let n:List Int:=List.set j (i.toNat) (Int.fdiv (List.getD c l.toNat 0) (2^(min b.toNat 32)));cond (decide (b>(0:Int))) (cond (decide ((IntKind.wrap .i64 ((IntKind.wrap .i64 (i+a))+(1:Int)))<(6:Int))) (if 0≤i∧i<(6:Nat) then if i.toNat<6 then let o:Int:=IntKind.wrap .i64 ((IntKind.wrap .i64 (i+a))+(1:Int));if 0≤o∧o<(6:Nat) then if o.toNat<6 then let p:Int:=IntKind.wrap .i64 ((32:Int)-b);if p<0 then none else if 0≤i∧i<(6:Nat) then if i.toNat<6 then h (IntKind.wrap .i64 (i+(1:Int))) (List.set n (i.toNat) (ibits .or .u32 (List.getD n i.toNat 0) (IntKind.wrap .u32 ((List.getD c o.toNat 0)*2^(min p.toNat 32))))) else none else none else none else none else none else none) (h (IntKind.wrap .i64 (i+(1:Int))) n)) (h (IntKind.wrap .i64 (i+(1:Int))) n) else none else none else none else none) (e j)
def g97l0{α:Type}(a b:Int)(c d:List Int)(e:(List Int)→Option α):Nat→Int→(List Int)→Option α
 |0=>fun _ _=>none
 |m+1=>fun h i=>g97l0b a b c d e (g97l0 a b c d e m) h i
def g97l0M{α:Type}(m:Nat):S_g97l0 α:=
 fun a b c d e h i=>g97l0 a b c d e m h i
def g97l0D:LoopD:={n:=53,low:=[],sl:=[2,4,5,6,7,8],bl:=[1000000,1000001,1000002],tp:=[(.vl (.sv (.ptr 1000000 0))),(.vl (.sv (.ptr 1000001 0))),(.vl (.sv (.ptr 1000002 0))),tI,tI,tI],bp:=[b6,b6,b6],xs:=[(2,[4,5])]}
def g97l0K{α:Type}(L:S_g97l0 α)(ls:List Lf)(k:KEx α):Option α:=
 L (lf ls 0).int (lf ls 1).int ((lf ls 3).lst uU) ((lf ls 4).lst uU)
  (fun a=>k .normal (mkSt 53 [4,5] [(.vl (.sv (.ptr 1000000 0))),(.vl (.sv (.ptr 1000001 0)))] [1000000,1000001] [(true,[(.seq uU 6 ((lf ls 4).lst uU))]),(true,[(.seq uU 6 a)])]))
  (lf ls 2).int ((lf ls 5).lst uU)
def g97b{α:Type}(L97l0:Al S_g97l0)(a:List Int)(b:Int)(c:(List Int)→Option α):Option α:=L97l0 (IntKind.wrap .i64 (Int.tdiv b (32:Int))) (Int.tmod b (32:Int)) a [0,0,0,0,0,0] (fun d=>c d) (0:Int) [0,0,0,0,0,0]
def g97{α:Type}(m:Nat):S_g97 α:=
 g97b (g97l0M m)
def g97tp:List TP:=[(.vl (.agg [(.seq uU 6)])),tI]
def g97bp:List BP:=[]
def g97K{α:Type}(G:S_g97 α)(ls:List Lf)(k:KRe α):Option α:=
 G ((lf ls 0).lst uU) (lf ls 1).int
  (fun a=>k (.vl (.agg [(.seq uU 6 a)])) [] [])
def g97R{α:Type}(G:S_g97 α):=rowK g97tp g97bp (g97K G)
def g97hd(L97l0:Al S_g97l0):Hd where
 call:=fun f args Bs k=>none
 loop:=fun id st k=>cond (Nat.beq id 0) (loopH g97l0D (g97l0K L97l0) st k) (none)
 ro:=fun f=>[]
def g97h(m:Nat):Hd:=g97hd (g97l0M m)
theorem g97l0Step(L97l0:Al S_g97l0){α:Type}(L:S_g97l0 α)(ls:List Lf)(k:KEx α):
  g97l0K (fun a b c d e h i=>g97l0b a b c d e (L a b c d e) h i) ls k=ev tab (g97hd L97l0) (bodyAt Tryz.f97 0) (atHead g97l0D ls) (loopK g97l0D 0 (loopH g97l0D (g97l0K L)) k):=by kernel_rfl
theorem g97Main(L97l0:Al S_g97l0){α:Type}(ls:List Lf)(k:KRe α):
  g97K (g97b L97l0) ls k=evFun tab (g97hd L97l0) Tryz.f97 (fT g97tp ls) (fB g97tp g97bp ls) k:=by kernel_rfl
theorem g97Calls(m:Nat):(g97h m).CallsOk Tryz.prog:=cok_nil
theorem g97l0Ok(m:Nat)(α:Type)(st:St)(k:KEx α)(r:α)(h:(g97h m).loop 0 st k=some r):
  LoopS Tryz.prog 0 (bodyAt Tryz.f97 0) st k r:=
 lpk (F:=fun n ls k=>g97l0K (fun a b c d e i j=>g97l0 a b c d e n i j) ls k) (g97Calls m) (lb0 (by kernel_rfl))
  (fun _ _=>rfl) (fun n ls k=>g97l0Step (g97l0M m) (fun a b c d e=>g97l0 a b c d e n) ls k) (n:=m) h
theorem g97Ok(m:Nat):RowOk Tryz.prog 97 (fun{α}=>g97R (g97 m (α:=α))):=
 rwk (g97Calls m) (lo1 (by kernel_rfl) (g97l0Ok m))
  (fun _=>g97Main (g97l0M m))
abbrev S_g98(α:Type):Type:=((List Int)→Option α)→Option α
def g98b{α:Type}(a:(List Int)→Option α):Option α:=a [(1:Int),0,0,0,0,0]
def g98{α:Type}(m:Nat):S_g98 α:=
 g98b
def g98tp:List TP:=[]
def g98bp:List BP:=[]
def g98K{α:Type}(G:S_g98 α)(ls:List Lf)(k:KRe α):Option α:=
 G
  (fun a=>k (.vl (.agg [(.seq uU 6 a)])) [] [])
def g98R{α:Type}(G:S_g98 α):=rowK g98tp g98bp (g98K G)
def g98hd:Hd where
 call:=fun f args Bs k=>none
 loop:=fun id st k=>none
 ro:=fun f=>[]
def g98h(m:Nat):Hd:=g98hd
theorem g98Main{α:Type}(ls:List Lf)(k:KRe α):
  g98K (g98b) ls k=evFun tab (g98hd) Tryz.f98 (fT g98tp ls) (fB g98tp g98bp ls) k:=by kernel_rfl
theorem g98Calls(m:Nat):(g98h m).CallsOk Tryz.prog:=cok_nil
theorem g98Ok(m:Nat):RowOk Tryz.prog 98 (fun{α}=>g98R (g98 m (α:=α))):=
 rwk (g98Calls m) (lo0 (by kernel_rfl))
  (fun _=>g98Main)
abbrev S_g99(α:Type):Type:=(List Int)→Int→((List Int)→Option α)→Option α
abbrev S_g99l0(α:Type):Type:=Int→Int→(List Int)→(List Int)→((List Int)→Option α)→Int→(List Int)→Option α
def g99l0b{α:Type}(a b:Int)(c d:List Int)(e:(List Int)→Option α)(h:Int→(List Int)→Option α)(i:Int)(j:List Int):Option α:=cond (decide (i≥a)) (let l:Int:=IntKind.wrap .i64 (i-a);if 0≤l∧l<(6:Nat) then if l.toNat<6 then if b<0 then none else if 0≤i∧i<(6:Nat) then if i.toNat<6 then let n:List Int:=List.set j (i.toNat) (IntKind.wrap .u32 ((List.getD c l.toNat 0)*2^(min b.toNat 32)));cond (decide (b>(0:Int))) (cond (decide (i>a)) (if 0≤i∧i<(6:Nat) then if i.toNat<6 then let o:Int:=IntKind.wrap .i64 ((IntKind.wrap .i64 (i-a))-(1:Int));if 0≤o∧o<(6:Nat) then if o.toNat<6 then let p:Int:=IntKind.wrap .i64 ((32:Int)-b);if p<0 then none else if 0≤i∧i<(6:Nat) then if i.toNat<6 then h (IntKind.wrap .i64 (i-(1:Int))) (List.set n (i.toNat) (ibits .or .u32 (List.getD n i.toNat 0) (Int.fdiv (List.getD c o.toNat 0) (2^(min p.toNat 32))))) else none else none else none else none else none else none) (h (IntKind.wrap .i64 (i-(1:Int))) n)) (h (IntKind.wrap .i64 (i-(1:Int))) n) else none else none else none else none) (e j)
def g99l0{α:Type}(a b:Int)(c d:List Int)(e:(List Int)→Option α):Nat→Int→(List Int)→Option α
 |0=>fun _ _=>none
 |m+1=>fun h i=>g99l0b a b c d e (g99l0 a b c d e m) h i
def g99l0M{α:Type}(m:Nat):S_g99l0 α:=
 fun a b c d e h i=>g99l0 a b c d e m h i
def g99l0D:LoopD:={n:=50,low:=[],sl:=[2,4,5,6,7,8],bl:=[1000000,1000001,1000002],tp:=[(.vl (.sv (.ptr 1000000 0))),(.vl (.sv (.ptr 1000001 0))),(.vl (.sv (.ptr 1000002 0))),tI,tI,tI],bp:=[b6,b6,b6],xs:=[(2,[4,5])]}
def g99l0K{α:Type}(L:S_g99l0 α)(ls:List Lf)(k:KEx α):Option α:=
 L (lf ls 0).int (lf ls 1).int ((lf ls 3).lst uU) ((lf ls 4).lst uU)
  (fun a=>k .normal (mkSt 50 [4,5] [(.vl (.sv (.ptr 1000000 0))),(.vl (.sv (.ptr 1000001 0)))] [1000000,1000001] [(true,[(.seq uU 6 ((lf ls 4).lst uU))]),(true,[(.seq uU 6 a)])]))
  (lf ls 2).int ((lf ls 5).lst uU)
def g99b{α:Type}(L99l0:Al S_g99l0)(a:List Int)(b:Int)(c:(List Int)→Option α):Option α:=L99l0 (IntKind.wrap .i64 (Int.tdiv b (32:Int))) (Int.tmod b (32:Int)) a [0,0,0,0,0,0] (fun d=>c d) (5:Int) [0,0,0,0,0,0]
def g99{α:Type}(m:Nat):S_g99 α:=
 g99b (g99l0M m)
def g99tp:List TP:=[(.vl (.agg [(.seq uU 6)])),tI]
def g99bp:List BP:=[]
def g99K{α:Type}(G:S_g99 α)(ls:List Lf)(k:KRe α):Option α:=
 G ((lf ls 0).lst uU) (lf ls 1).int
  (fun a=>k (.vl (.agg [(.seq uU 6 a)])) [] [])
def g99R{α:Type}(G:S_g99 α):=rowK g99tp g99bp (g99K G)
def g99hd(L99l0:Al S_g99l0):Hd where
 call:=fun f args Bs k=>none
 loop:=fun id st k=>cond (Nat.beq id 0) (loopH g99l0D (g99l0K L99l0) st k) (none)
 ro:=fun f=>[]
def g99h(m:Nat):Hd:=g99hd (g99l0M m)
theorem g99l0Step(L99l0:Al S_g99l0){α:Type}(L:S_g99l0 α)(ls:List Lf)(k:KEx α):
  g99l0K (fun a b c d e h i=>g99l0b a b c d e (L a b c d e) h i) ls k=ev tab (g99hd L99l0) (bodyAt Tryz.f99 0) (atHead g99l0D ls) (loopK g99l0D 0 (loopH g99l0D (g99l0K L)) k):=by kernel_rfl
theorem g99Main(L99l0:Al S_g99l0){α:Type}(ls:List Lf)(k:KRe α):
  g99K (g99b L99l0) ls k=evFun tab (g99hd L99l0) Tryz.f99 (fT g99tp ls) (fB g99tp g99bp ls) k:=by kernel_rfl
theorem g99Calls(m:Nat):(g99h m).CallsOk Tryz.prog:=cok_nil
theorem g99l0Ok(m:Nat)(α:Type)(st:St)(k:KEx α)(r:α)(h:(g99h m).loop 0 st k=some r):
  LoopS Tryz.prog 0 (bodyAt Tryz.f99 0) st k r:=
 lpk (F:=fun n ls k=>g99l0K (fun a b c d e i j=>g99l0 a b c d e n i j) ls k) (g99Calls m) (lb0 (by kernel_rfl))
  (fun _ _=>rfl) (fun n ls k=>g99l0Step (g99l0M m) (fun a b c d e=>g99l0 a b c d e n) ls k) (n:=m) h
theorem g99Ok(m:Nat):RowOk Tryz.prog 99 (fun{α}=>g99R (g99 m (α:=α))):=
 rwk (g99Calls m) (lo1 (by kernel_rfl) (g99l0Ok m))
  (fun _=>g99Main (g99l0M m))
abbrev S_g100(α:Type):Type:=(List Int)→(List Int)→((List Int)→Option α)→Option α
abbrev S_g100l0(α:Type):Type:=(List Int)→(List Int)→((List Int)→Option α)→Int→Int→(List Int)→Option α
def g100l0b{α:Type}(a b:List Int)(c:(List Int)→Option α)(d:Int→Int→(List Int)→Option α)(e h:Int)(i:List Int):Option α:=cond (decide (h<(6:Int))) (if 0≤h∧h<(6:Nat) then if h.toNat<6 then if 0≤h∧h<(6:Nat) then if h.toNat<6 then let j:Int:=IntKind.wrap .u64 ((IntKind.wrap .u64 ((IntKind.wrap .u64 (List.getD i h.toNat 0))-(IntKind.wrap .u64 (List.getD a h.toNat 0))))-e);if 0≤h∧h<(6:Nat) then if h.toNat<6 then d (Int.fdiv j (2^63)) (IntKind.wrap .i64 (h+(1:Int))) (List.set i (h.toNat) (IntKind.wrap .u32 j)) else none else none else none else none else none else none) (c i)
def g100l0{α:Type}(a b:List Int)(c:(List Int)→Option α):Nat→Int→Int→(List Int)→Option α
 |0=>fun _ _ _=>none
 |m+1=>fun d e h=>g100l0b a b c (g100l0 a b c m) d e h
def g100l0M{α:Type}(m:Nat):S_g100l0 α:=
 fun a b c d e h=>g100l0 a b c m d e h
def g100l0D:LoopD:={n:=30,low:=[],sl:=[2,3,4,5,8],bl:=[1000000,1000001,1000002],tp:=[(.vl (.sv (.ptr 1000000 0))),(.vl (.sv (.ptr 1000001 0))),(.vl (.sv (.ptr 1000002 0))),(.vl (.sv (.int .u64))),tI],bp:=[b6,b6,b6],xs:=[(2,[2,4])]}
def g100l0K{α:Type}(L:S_g100l0 α)(ls:List Lf)(k:KEx α):Option α:=
 L ((lf ls 3).lst uU) ((lf ls 4).lst uU)
  (fun a=>k .normal (mkSt 30 [2,4] [(.vl (.sv (.ptr 1000000 0))),(.vl (.sv (.ptr 1000001 0)))] [1000000,1000001] [(true,[(.seq uU 6 a)]),(true,[(.seq uU 6 ((lf ls 4).lst uU))])]))
  (lf ls 0).int (lf ls 1).int ((lf ls 2).lst uU)
def g100b{α:Type}(L100l0:Al S_g100l0)(a b:List Int)(c:(List Int)→Option α):Option α:=L100l0 b [0,0,0,0,0,0] (fun d=>c d) (0:Int) (0:Int) a
def g100{α:Type}(m:Nat):S_g100 α:=
 g100b (g100l0M m)
def g100tp:List TP:=[(.vl (.agg [(.seq uU 6)])),(.vl (.agg [(.seq uU 6)]))]
def g100bp:List BP:=[]
def g100K{α:Type}(G:S_g100 α)(ls:List Lf)(k:KRe α):Option α:=
 G ((lf ls 0).lst uU) ((lf ls 1).lst uU)
  (fun a=>k (.vl (.agg [(.seq uU 6 a)])) [] [])
def g100R{α:Type}(G:S_g100 α):=rowK g100tp g100bp (g100K G)
def g100hd(L100l0:Al S_g100l0):Hd where
 call:=fun f args Bs k=>none
 loop:=fun id st k=>cond (Nat.beq id 0) (loopH g100l0D (g100l0K L100l0) st k) (none)
 ro:=fun f=>[]
def g100h(m:Nat):Hd:=g100hd (g100l0M m)
theorem g100l0Step(L100l0:Al S_g100l0){α:Type}(L:S_g100l0 α)(ls:List Lf)(k:KEx α):
  g100l0K (fun a b c d e h=>g100l0b a b c (L a b c) d e h) ls k=ev tab (g100hd L100l0) (bodyAt Tryz.f100 0) (atHead g100l0D ls) (loopK g100l0D 0 (loopH g100l0D (g100l0K L)) k):=by kernel_rfl
theorem g100Main(L100l0:Al S_g100l0){α:Type}(ls:List Lf)(k:KRe α):
  g100K (g100b L100l0) ls k=evFun tab (g100hd L100l0) Tryz.f100 (fT g100tp ls) (fB g100tp g100bp ls) k:=by kernel_rfl
theorem g100Calls(m:Nat):(g100h m).CallsOk Tryz.prog:=cok_nil
theorem g100l0Ok(m:Nat)(α:Type)(st:St)(k:KEx α)(r:α)(h:(g100h m).loop 0 st k=some r):
  LoopS Tryz.prog 0 (bodyAt Tryz.f100 0) st k r:=
 lpk (F:=fun n ls k=>g100l0K (fun a b c d e i=>g100l0 a b c n d e i) ls k) (g100Calls m) (lb0 (by kernel_rfl))
  (fun _ _=>rfl) (fun n ls k=>g100l0Step (g100l0M m) (fun a b c=>g100l0 a b c n) ls k) (n:=m) h
theorem g100Ok(m:Nat):RowOk Tryz.prog 100 (fun{α}=>g100R (g100 m (α:=α))):=
 rwk (g100Calls m) (lo1 (by kernel_rfl) (g100l0Ok m))
  (fun _=>g100Main (g100l0M m))
abbrev S_g101(α:Type):Type:=(List Int)→(List Int)→(Int→Option α)→Option α
abbrev S_g101l0(α:Type):Type:=(List Int)→(List Int)→(Int→Option α)→(Option α)→Int→Option α
def g101l0b{α:Type}(a b:List Int)(c:Int→Option α)(d:Option α)(e:Int→Option α)(h:Int):Option α:=cond (decide (h≥(0:Int))) (if 0≤h∧h<(6:Nat) then if h.toNat<6 then if 0≤h∧h<(6:Nat) then if h.toNat<6 then cond ((List.getD a h.toNat 0) !=(List.getD b h.toNat 0)) (if 0≤h∧h<(6:Nat) then if h.toNat<6 then if 0≤h∧h<(6:Nat) then if h.toNat<6 then cond (decide ((List.getD a h.toNat 0)<(List.getD b h.toNat 0))) (c (-1:Int)) (c (1:Int)) else none else none else none else none) (e (IntKind.wrap .i64 (h-(1:Int)))) else none else none else none else none) (d)
def g101l0{α:Type}(a b:List Int)(c:Int→Option α)(d:Option α):Nat→Int→Option α
 |0=>fun _=>none
 |m+1=>fun e=>g101l0b a b c d (g101l0 a b c d m) e
def g101l0M{α:Type}(m:Nat):S_g101l0 α:=
 fun a b c d e=>g101l0 a b c d m e
def g101l0D:LoopD:={n:=24,low:=[],sl:=[2,3,5],bl:=[1000000,1000001],tp:=[(.vl (.sv (.ptr 1000000 0))),(.vl (.sv (.ptr 1000001 0))),tI],bp:=[b6,b6],xs:=[(1,[4]),(2,[])]}
def g101l0K{α:Type}(L:S_g101l0 α)(ls:List Lf)(k:KEx α):Option α:=
 L ((lf ls 1).lst uU) ((lf ls 2).lst uU)
  (fun a=>k .ret (mkSt 24 [4] [(.vl (.sv (.int .i64 a)))] [] []))
  (k .normal (mkSt 24 [] [] [] []))
  (lf ls 0).int
def g101b{α:Type}(L101l0:Al S_g101l0)(a b:List Int)(c:Int→Option α):Option α:=L101l0 a b (fun d=>c d) (c (0:Int)) (5:Int)
def g101{α:Type}(m:Nat):S_g101 α:=
 g101b (g101l0M m)
def g101tp:List TP:=[(.vl (.agg [(.seq uU 6)])),(.vl (.agg [(.seq uU 6)]))]
def g101bp:List BP:=[]
def g101K{α:Type}(G:S_g101 α)(ls:List Lf)(k:KRe α):Option α:=
 G ((lf ls 0).lst uU) ((lf ls 1).lst uU)
  (fun a=>k (.vl (.sv (.int .i64 a))) [] [])
def g101R{α:Type}(G:S_g101 α):=rowK g101tp g101bp (g101K G)
def g101hd(L101l0:Al S_g101l0):Hd where
 call:=fun f args Bs k=>none
 loop:=fun id st k=>cond (Nat.beq id 0) (loopH g101l0D (g101l0K L101l0) st k) (none)
 ro:=fun f=>[]
def g101h(m:Nat):Hd:=g101hd (g101l0M m)
theorem g101l0Step(L101l0:Al S_g101l0){α:Type}(L:S_g101l0 α)(ls:List Lf)(k:KEx α):
  g101l0K (fun a b c d e=>g101l0b a b c d (L a b c d) e) ls k=ev tab (g101hd L101l0) (bodyAt Tryz.f101 0) (atHead g101l0D ls) (loopK g101l0D 0 (loopH g101l0D (g101l0K L)) k):=by kernel_rfl
theorem g101Main(L101l0:Al S_g101l0){α:Type}(ls:List Lf)(k:KRe α):
  g101K (g101b L101l0) ls k=evFun tab (g101hd L101l0) Tryz.f101 (fT g101tp ls) (fB g101tp g101bp ls) k:=by kernel_rfl
theorem g101Calls(m:Nat):(g101h m).CallsOk Tryz.prog:=cok_nil
theorem g101l0Ok(m:Nat)(α:Type)(st:St)(k:KEx α)(r:α)(h:(g101h m).loop 0 st k=some r):
  LoopS Tryz.prog 0 (bodyAt Tryz.f101 0) st k r:=
 lpk (F:=fun n ls k=>g101l0K (fun a b c d e=>g101l0 a b c d n e) ls k) (g101Calls m) (lb0 (by kernel_rfl))
  (fun _ _=>rfl) (fun n ls k=>g101l0Step (g101l0M m) (fun a b c d=>g101l0 a b c d n) ls k) (n:=m) h
theorem g101Ok(m:Nat):RowOk Tryz.prog 101 (fun{α}=>g101R (g101 m (α:=α))):=
 rwk (g101Calls m) (lo1 (by kernel_rfl) (g101l0Ok m))
  (fun _=>g101Main (g101l0M m))
abbrev S_g102(α:Type):Type:=(List Int)→(List Int)→((List Int)→Bool→Option α)→Option α
abbrev S_g102l0(α:Type):Type:=(List Int)→(List Int)→(Int→(List Int)→Option α)→Int→Int→(List Int)→Option α
def g102l0b{α:Type}(a b:List Int)(c:Int→(List Int)→Option α)(d:Int→Int→(List Int)→Option α)(e h:Int)(i:List Int):Option α:=cond (decide (h<(6:Int))) (if 0≤h∧h<(6:Nat) then if h.toNat<6 then if 0≤h∧h<(6:Nat) then if h.toNat<6 then let j:Int:=IntKind.wrap .u64 (e+(IntKind.wrap .u64 ((IntKind.wrap .u64 (List.getD i h.toNat 0))+(IntKind.wrap .u64 (List.getD a h.toNat 0)))));if 0≤h∧h<(6:Nat) then if h.toNat<6 then d (Int.fdiv j (2^32)) (IntKind.wrap .i64 (h+(1:Int))) (List.set i (h.toNat) (IntKind.wrap .u32 j)) else none else none else none else none else none else none) (c e i)
def g102l0{α:Type}(a b:List Int)(c:Int→(List Int)→Option α):Nat→Int→Int→(List Int)→Option α
 |0=>fun _ _ _=>none
 |m+1=>fun d e h=>g102l0b a b c (g102l0 a b c m) d e h
def g102l0M{α:Type}(m:Nat):S_g102l0 α:=
 fun a b c d e h=>g102l0 a b c m d e h
def g102l0D:LoopD:={n:=32,low:=[],sl:=[2,3,4,6,8],bl:=[1000000,1000001,1000002],tp:=[(.vl (.sv (.ptr 1000000 0))),(.vl (.sv (.ptr 1000001 0))),(.vl (.sv (.ptr 1000002 0))),(.vl (.sv (.int .u64))),tI],bp:=[b6,b6,b6],xs:=[(2,[2,4,6])]}
def g102l0K{α:Type}(L:S_g102l0 α)(ls:List Lf)(k:KEx α):Option α:=
 L ((lf ls 3).lst uU) ((lf ls 4).lst uU)
  (fun a b=>k .normal (mkSt 32 [2,4,6] [(.vl (.sv (.ptr 1000000 0))),(.vl (.sv (.ptr 1000001 0))),(.vl (.sv (.int .u64 a)))] [1000000,1000001] [(true,[(.seq uU 6 b)]),(true,[(.seq uU 6 ((lf ls 4).lst uU))])]))
  (lf ls 0).int (lf ls 1).int ((lf ls 2).lst uU)
def g102b{α:Type}(L102l0:Al S_g102l0)(a b:List Int)(c:(List Int)→Bool→Option α):Option α:=L102l0 b [0,0,0,0,0,0] (fun d e=>c e (d !=(0:Int))) (0:Int) (0:Int) a
def g102{α:Type}(m:Nat):S_g102 α:=
 g102b (g102l0M m)
def g102tp:List TP:=[(.vl (.agg [(.seq uU 6)])),(.vl (.agg [(.seq uU 6)]))]
def g102bp:List BP:=[]
def g102K{α:Type}(G:S_g102 α)(ls:List Lf)(k:KRe α):Option α:=
 G ((lf ls 0).lst uU) ((lf ls 1).lst uU)
  (fun a b=>k (.tup [(.agg [(.seq uU 6 a)]),(.sv (.bool b))]) [] [])
def g102R{α:Type}(G:S_g102 α):=rowK g102tp g102bp (g102K G)
def g102hd(L102l0:Al S_g102l0):Hd where
 call:=fun f args Bs k=>none
 loop:=fun id st k=>cond (Nat.beq id 0) (loopH g102l0D (g102l0K L102l0) st k) (none)
 ro:=fun f=>[]
def g102h(m:Nat):Hd:=g102hd (g102l0M m)
theorem g102l0Step(L102l0:Al S_g102l0){α:Type}(L:S_g102l0 α)(ls:List Lf)(k:KEx α):
  g102l0K (fun a b c d e h=>g102l0b a b c (L a b c) d e h) ls k=ev tab (g102hd L102l0) (bodyAt Tryz.f102 0) (atHead g102l0D ls) (loopK g102l0D 0 (loopH g102l0D (g102l0K L)) k):=by kernel_rfl
theorem g102Main(L102l0:Al S_g102l0){α:Type}(ls:List Lf)(k:KRe α):
  g102K (g102b L102l0) ls k=evFun tab (g102hd L102l0) Tryz.f102 (fT g102tp ls) (fB g102tp g102bp ls) k:=by kernel_rfl
theorem g102Calls(m:Nat):(g102h m).CallsOk Tryz.prog:=cok_nil
theorem g102l0Ok(m:Nat)(α:Type)(st:St)(k:KEx α)(r:α)(h:(g102h m).loop 0 st k=some r):
  LoopS Tryz.prog 0 (bodyAt Tryz.f102 0) st k r:=
 lpk (F:=fun n ls k=>g102l0K (fun a b c d e i=>g102l0 a b c n d e i) ls k) (g102Calls m) (lb0 (by kernel_rfl))
  (fun _ _=>rfl) (fun n ls k=>g102l0Step (g102l0M m) (fun a b c=>g102l0 a b c n) ls k) (n:=m) h
theorem g102Ok(m:Nat):RowOk Tryz.prog 102 (fun{α}=>g102R (g102 m (α:=α))):=
 rwk (g102Calls m) (lo1 (by kernel_rfl) (g102l0Ok m))
  (fun _=>g102Main (g102l0M m))
abbrev S_g63(α:Type):Type:=Bool→(List Int)→Int→Bool→(Bool→(List Int)→Bool→Option α)→Option α
def g63b{α:Type}(G97:Al S_g97)(G98:Al S_g98)(G99:Al S_g99)(G100:Al S_g100)(G101:Al S_g101)(G102:Al S_g102)(G65:Al S_g65)(a:Bool)(b:List Int)(c:Int)(d:Bool)(e:Bool→(List Int)→Bool→Option α):Option α:=cond (decide (c>(191:Int))) (e false [0,0,0,0,0,0] true) (G97 b c (fun h=>cond (c==(0:Int)) (e a b d) (G98 (fun i=>G99 i (IntKind.wrap .i64 (c-(1:Int))) (fun j=>G99 h c (fun l=>G100 b l (fun n=>G101 n j (fun o=>cond (decide (o>(0:Int))) (G98 (fun p=>G102 h p (fun q r=>G65 a q (fun s=>e s q d)))) (cond (o==(0:Int)) (cond (!a) (G98 (fun t=>G102 h t (fun u v=>G65 a u (fun w=>e w u d)))) (G65 a h (fun x=>e x h d))) (G65 a h (fun y=>e y h d)))))))))))
def g63{α:Type}(m:Nat):S_g63 α:=
 g63b (g97 m) (g98 m) (g99 m) (g100 m) (g101 m) (g102 m) (g65 m)
abbrev S_g113(α:Type):Type:=(List Int)→(Int→Option α)→Option α
abbrev S_g113l0(α:Type):Type:=(List Int)→(Int→Option α)→(Option α)→Int→Option α
def g113l0b{α:Type}(G158:Al S_g158)(a:List Int)(b:Int→Option α)(c:Option α)(d:Int→Option α)(e:Int):Option α:=cond (decide (e≥(0:Int))) (if 0≤e∧e<(6:Nat) then if e.toNat<6 then cond ((List.getD a e.toNat 0) !=(0:Int)) (if 0≤e∧e<(6:Nat) then if e.toNat<6 then G158 (List.getD a e.toNat 0) (fun h=>b (IntKind.wrap .i64 ((IntKind.wrap .i64 ((32:Int)*e))+h))) else none else none) (d (IntKind.wrap .i64 (e-(1:Int)))) else none else none) (c)
def g113l0{α:Type}(G158:Al S_g158)(a:List Int)(b:Int→Option α)(c:Option α):Nat→Int→Option α
 |0=>fun _=>none
 |m+1=>fun d=>g113l0b G158 a b c (g113l0 G158 a b c m) d
def g113l0M{α:Type}(m:Nat):S_g113l0 α:=
 fun a b c d=>g113l0 (g158 m) a b c m d
def g113l0D:LoopD:={n:=19,low:=[],sl:=[1,3],bl:=[1000000],tp:=[(.vl (.sv (.ptr 1000000 0))),tI],bp:=[b6],xs:=[(1,[2]),(2,[])]}
def g113l0K{α:Type}(L:S_g113l0 α)(ls:List Lf)(k:KEx α):Option α:=
 L ((lf ls 1).lst uU)
  (fun a=>k .ret (mkSt 19 [2] [(.vl (.sv (.int .i64 a)))] [] []))
  (k .normal (mkSt 19 [] [] [] []))
  (lf ls 0).int
def g113b{α:Type}(G158:Al S_g158)(L113l0:Al S_g113l0)(a:List Int)(b:Int→Option α):Option α:=L113l0 a (fun c=>b c) (b (0:Int)) (5:Int)
def g113{α:Type}(m:Nat):S_g113 α:=
 g113b (g158 m) (g113l0M m)
def g113tp:List TP:=[(.vl (.agg [(.seq uU 6)]))]
def g113bp:List BP:=[]
def g113K{α:Type}(G:S_g113 α)(ls:List Lf)(k:KRe α):Option α:=
 G ((lf ls 0).lst uU)
  (fun a=>k (.vl (.sv (.int .i64 a))) [] [])
def g113R{α:Type}(G:S_g113 α):=rowK g113tp g113bp (g113K G)
def g113hd(G158:Al S_g158)(L113l0:Al S_g113l0):Hd where
 call:=fun f args Bs k=>cond (Nat.beq f 158) (g158R G158 args Bs k) (none)
 loop:=fun id st k=>cond (Nat.beq id 0) (loopH g113l0D (g113l0K L113l0) st k) (none)
 ro:=fun f=>[]
def g113h(m:Nat):Hd:=g113hd (g158 m) (g113l0M m)
theorem g113l0Step(G158:Al S_g158)(L113l0:Al S_g113l0){α:Type}(L:S_g113l0 α)(ls:List Lf)(k:KEx α):
  g113l0K (fun a b c d=>g113l0b G158 a b c (L a b c) d) ls k=ev tab (g113hd G158 L113l0) (bodyAt Tryz.f113 0) (atHead g113l0D ls) (loopK g113l0D 0 (loopH g113l0D (g113l0K L)) k):=by kernel_rfl
theorem g113Main(G158:Al S_g158)(L113l0:Al S_g113l0){α:Type}(ls:List Lf)(k:KRe α):
  g113K (g113b G158 L113l0) ls k=evFun tab (g113hd G158 L113l0) Tryz.f113 (fT g113tp ls) (fB g113tp g113bp ls) k:=by kernel_rfl
theorem g113Calls(m:Nat):(g113h m).CallsOk Tryz.prog:=(cok_cons (g158Ok m) cok_nil)
theorem g113l0Ok(m:Nat)(α:Type)(st:St)(k:KEx α)(r:α)(h:(g113h m).loop 0 st k=some r):
  LoopS Tryz.prog 0 (bodyAt Tryz.f113 0) st k r:=
 lpk (F:=fun n ls k=>g113l0K (fun a b c d=>g113l0 (g158 m) a b c n d) ls k) (g113Calls m) (lb0 (by kernel_rfl))
  (fun _ _=>rfl) (fun n ls k=>g113l0Step (g158 m) (g113l0M m) (fun a b c=>g113l0 (g158 m) a b c n) ls k) (n:=m) h
theorem g113Ok(m:Nat):RowOk Tryz.prog 113 (fun{α}=>g113R (g113 m (α:=α))):=
 rwk (g113Calls m) (lo1 (by kernel_rfl) (g113l0Ok m))
  (fun _=>g113Main (g158 m) (g113l0M m))
abbrev S_g104(α:Type):Type:=(List Int)→Int→((List Int)→Int→Option α)→Option α
abbrev S_g104l0(α:Type):Type:=Int→(List Int)→(Int→(List Int)→Option α)→Int→Int→(List Int)→Option α
def g104l0b{α:Type}(a:Int)(b:List Int)(c:Int→(List Int)→Option α)(d:Int→Int→(List Int)→Option α)(e h:Int)(i:List Int):Option α:=cond (decide (h≥(0:Int))) (if 0≤h∧h<(6:Nat) then if h.toNat<6 then let j:Int:=ibits .or .u64 (IntKind.wrap .u64 (e*2^32)) (IntKind.wrap .u64 (List.getD i h.toNat 0));let l:Int:=IntKind.wrap .u64 a;if l=0 then none else if 0≤h∧h<(6:Nat) then if h.toNat<6 then let n:Int:=IntKind.wrap .u64 a;if n=0 then none else d (Int.tmod j n) (IntKind.wrap .i64 (h-(1:Int))) (List.set i (h.toNat) (IntKind.wrap .u32 (IntKind.wrap .u64 (Int.tdiv j l)))) else none else none else none else none) (c e i)
def g104l0{α:Type}(a:Int)(b:List Int)(c:Int→(List Int)→Option α):Nat→Int→Int→(List Int)→Option α
 |0=>fun _ _ _=>none
 |m+1=>fun d e h=>g104l0b a b c (g104l0 a b c m) d e h
def g104l0M{α:Type}(m:Nat):S_g104l0 α:=
 fun a b c d e h=>g104l0 a b c m d e h
def g104l0D:LoopD:={n:=33,low:=[],sl:=[1,2,4,6,7],bl:=[1000000,1000001],tp:=[(.vl (.sv (.int .u32))),(.vl (.sv (.ptr 1000000 0))),(.vl (.sv (.ptr 1000001 0))),(.vl (.sv (.int .u64))),tI],bp:=[b6,b6],xs:=[(2,[2,4,6])]}
def g104l0K{α:Type}(L:S_g104l0 α)(ls:List Lf)(k:KEx α):Option α:=
 L (lf ls 0).int ((lf ls 4).lst uU)
  (fun a b=>k .normal (mkSt 33 [2,4,6] [(.vl (.sv (.ptr 1000000 0))),(.vl (.sv (.ptr 1000001 0))),(.vl (.sv (.int .u64 a)))] [1000000,1000001] [(true,[(.seq uU 6 b)]),(true,[(.seq uU 6 ((lf ls 4).lst uU))])]))
  (lf ls 1).int (lf ls 2).int ((lf ls 3).lst uU)
def g104b{α:Type}(L104l0:Al S_g104l0)(a:List Int)(b:Int)(c:(List Int)→Int→Option α):Option α:=L104l0 b [0,0,0,0,0,0] (fun d e=>c e (IntKind.wrap .u32 d)) (0:Int) (5:Int) a
def g104{α:Type}(m:Nat):S_g104 α:=
 g104b (g104l0M m)
def g104tp:List TP:=[(.vl (.agg [(.seq uU 6)])),(.vl (.sv (.int .u32)))]
def g104bp:List BP:=[]
def g104K{α:Type}(G:S_g104 α)(ls:List Lf)(k:KRe α):Option α:=
 G ((lf ls 0).lst uU) (lf ls 1).int
  (fun a b=>k (.tup [(.agg [(.seq uU 6 a)]),(.sv (.int .u32 b))]) [] [])
def g104R{α:Type}(G:S_g104 α):=rowK g104tp g104bp (g104K G)
def g104hd(L104l0:Al S_g104l0):Hd where
 call:=fun f args Bs k=>none
 loop:=fun id st k=>cond (Nat.beq id 0) (loopH g104l0D (g104l0K L104l0) st k) (none)
 ro:=fun f=>[]
def g104h(m:Nat):Hd:=g104hd (g104l0M m)
theorem g104l0Step(L104l0:Al S_g104l0){α:Type}(L:S_g104l0 α)(ls:List Lf)(k:KEx α):
  g104l0K (fun a b c d e h=>g104l0b a b c (L a b c) d e h) ls k=ev tab (g104hd L104l0) (bodyAt Tryz.f104 0) (atHead g104l0D ls) (loopK g104l0D 0 (loopH g104l0D (g104l0K L)) k):=by kernel_rfl
theorem g104Main(L104l0:Al S_g104l0){α:Type}(ls:List Lf)(k:KRe α):
  g104K (g104b L104l0) ls k=evFun tab (g104hd L104l0) Tryz.f104 (fT g104tp ls) (fB g104tp g104bp ls) k:=by kernel_rfl
theorem g104Calls(m:Nat):(g104h m).CallsOk Tryz.prog:=cok_nil
theorem g104l0Ok(m:Nat)(α:Type)(st:St)(k:KEx α)(r:α)(h:(g104h m).loop 0 st k=some r):
  LoopS Tryz.prog 0 (bodyAt Tryz.f104 0) st k r:=
 lpk (F:=fun n ls k=>g104l0K (fun a b c d e i=>g104l0 a b c n d e i) ls k) (g104Calls m) (lb0 (by kernel_rfl))
  (fun _ _=>rfl) (fun n ls k=>g104l0Step (g104l0M m) (fun a b c=>g104l0 a b c n) ls k) (n:=m) h
theorem g104Ok(m:Nat):RowOk Tryz.prog 104 (fun{α}=>g104R (g104 m (α:=α))):=
 rwk (g104Calls m) (lo1 (by kernel_rfl) (g104l0Ok m))
  (fun _=>g104Main (g104l0M m))
abbrev S_g202(α:Type):Type:=Int→(Int→Option α)→Option α
def g202b{α:Type}(G158:Al S_g158)(a:Int)(b:Int→Option α):Option α:=G158 a (fun c=>b (IntKind.wrap .i64 ((32:Int)-c)))
def g202{α:Type}(m:Nat):S_g202 α:=
 g202b (g158 m)
def g202tp:List TP:=[(.vl (.sv (.int .u32)))]
def g202bp:List BP:=[]
def g202K{α:Type}(G:S_g202 α)(ls:List Lf)(k:KRe α):Option α:=
 G (lf ls 0).int
  (fun a=>k (.vl (.sv (.int .i64 a))) [] [])
def g202R{α:Type}(G:S_g202 α):=rowK g202tp g202bp (g202K G)
def g202hd(G158:Al S_g158):Hd where
 call:=fun f args Bs k=>cond (Nat.beq f 158) (g158R G158 args Bs k) (none)
 loop:=fun id st k=>none
 ro:=fun f=>[]
def g202h(m:Nat):Hd:=g202hd (g158 m)
theorem g202Main(G158:Al S_g158){α:Type}(ls:List Lf)(k:KRe α):
  g202K (g202b G158) ls k=evFun tab (g202hd G158) Tryz.f202 (fT g202tp ls) (fB g202tp g202bp ls) k:=by kernel_rfl
theorem g202Calls(m:Nat):(g202h m).CallsOk Tryz.prog:=(cok_cons (g158Ok m) cok_nil)
theorem g202Ok(m:Nat):RowOk Tryz.prog 202 (fun{α}=>g202R (g202 m (α:=α))):=
 rwk (g202Calls m) (lo0 (by kernel_rfl))
  (fun _=>g202Main (g158 m))
abbrev S_g203(α:Type):Type:=Nat→Nat→Nat→Nat→Nat→Nat→(List Int)→(List Int)→(Int→(List Int)→Option α)→Option α
abbrev S_g203l0(α:Type):Type:=Nat→Nat→Nat→Nat→Nat→Nat→Int→(List Int)→(List Int)→(Int→Option α)→Int→Int→Option α
def g203l0b{α:Type}(a b:Nat)(c d:Nat)(e h:Nat)(i:Int)(j l:List Int)(n:Int→Option α)(o:Int→Int→Option α)(p q:Int):Option α:=cond ((Int.fdiv p (2^32)) !=(0:Int)) (let r:Int:=IntKind.wrap .u64 (p-(1:Int));let s:Int:=IntKind.wrap .i64 (i-(1:Int));if 0≤s∧s<(e:Nat) then if(d+s.toNat)<6 then let t:Int:=IntKind.wrap .u64 (q+(IntKind.wrap .u64 (List.getD l (d+s.toNat) 0)));cond ((Int.fdiv t (2^32)) !=(0:Int)) (n r) (o r t) else none else none) (let u:Int:=IntKind.wrap .i64 (i-(2:Int));if 0≤u∧u<(e:Nat) then if(d+u.toNat)<6 then let v:Int:=IntKind.wrap .i64 (i-(2:Int));if 0≤v∧v<(b:Nat) then if(a+v.toNat)<7 then cond (decide ((IntKind.wrap .u64 (p*(IntKind.wrap .u64 (List.getD l (d+u.toNat) 0))))>(ibits .or .u64 (IntKind.wrap .u64 (q*2^32)) (IntKind.wrap .u64 (List.getD j (a+v.toNat) 0))))) (let w:Int:=IntKind.wrap .u64 (p-(1:Int));let x:Int:=IntKind.wrap .i64 (i-(1:Int));if 0≤x∧x<(e:Nat) then if(d+x.toNat)<6 then let y:Int:=IntKind.wrap .u64 (q+(IntKind.wrap .u64 (List.getD l (d+x.toNat) 0)));cond ((Int.fdiv y (2^32)) !=(0:Int)) (n w) (o w y) else none else none) (n p) else none else none else none else none)
def g203l0{α:Type}(a b:Nat)(c d:Nat)(e h:Nat)(i:Int)(j l:List Int)(n:Int→Option α):Nat→Int→Int→Option α
 |0=>fun _ _=>none
 |m+1=>fun o p=>g203l0b a b c d e h i j l n (g203l0 a b c d e h i j l n m) o p
def g203l0M{α:Type}(m:Nat):S_g203l0 α:=
 fun a b c d e h i j l n o p=>g203l0 a b c d e h i j l n m o p
def g203l0D:LoopD:={n:=170,low:=[0,1],sl:=[0,1,5,7,8],bl:=[0,1],tp:=[(.vl (.sv (.slc 0 0 1))),(.vl (.sv (.slc 1 0 1))),tI,(.vl (.sv (.int .u64))),(.vl (.sv (.int .u64)))],bp:=[(true,[(.seq uU 7)]),(false,[(.seq uU 6)])],xs:=[(2,[0,1,5,7])]}
def g203l0K{α:Type}(L:S_g203l0 α)(ls:List Lf)(k:KEx α):Option α:=
 L (lf ls 0).nat (lf ls 1).nat (lf ls 2).nat (lf ls 3).nat (lf ls 4).nat (lf ls 5).nat (lf ls 6).int ((lf ls 9).lst uU) ((lf ls 10).lst uU)
  (fun a=>k .normal (mkSt 170 [0,1,5,7] [(.vl (.sv (.slc 0 0 1 (lf ls 0).nat (lf ls 1).nat (lf ls 2).nat))),(.vl (.sv (.slc 1 0 1 (lf ls 3).nat (lf ls 4).nat (lf ls 5).nat))),(.vl (.sv (.int .i64 (lf ls 6).int))),(.vl (.sv (.int .u64 a)))] [0,1] [(true,[(.seq uU 7 ((lf ls 9).lst uU))]),(false,[(.seq uU 6 ((lf ls 10).lst uU))])]))
  (lf ls 7).int (lf ls 8).int
abbrev S_g203l2(α:Type):Type:=Nat→Nat→Nat→Nat→Nat→Nat→Int→Int→Int→(List Int)→(Int→Int→(List Int)→Option α)→Int→Int→Int→(List Int)→Option α
def g203l2b{α:Type}(a b:Nat)(c d:Nat)(e h:Nat)(i j l:Int)(n:List Int)(o:Int→Int→(List Int)→Option α)(p:Int→Int→Int→(List Int)→Option α)(q r s:Int)(t:List Int):Option α:=cond (decide (s<l)) (if 0≤s∧s<(e:Nat) then if(d+s.toNat)<6 then let u:Int:=IntKind.wrap .u64 (r+(IntKind.wrap .u64 (j*(IntKind.wrap .u64 (List.getD n (d+s.toNat) 0)))));if 0≤s∧s<(b:Nat) then if(a+s.toNat)<7 then let v:Int:=IntKind.wrap .u64 ((IntKind.wrap .u64 ((IntKind.wrap .u64 (List.getD t (a+s.toNat) 0))-(ibits .and .u64 u (4294967295:Int))))-q);if 0≤s∧s<(b:Nat) then if(a+s.toNat)<7 then p (Int.fdiv v (2^63)) (Int.fdiv u (2^32)) (IntKind.wrap .i64 (s+(1:Int))) (List.set t (a+s.toNat) (IntKind.wrap .u32 v)) else none else none else none else none else none else none) (o q r t)
def g203l2{α:Type}(a b:Nat)(c d:Nat)(e h:Nat)(i j l:Int)(n:List Int)(o:Int→Int→(List Int)→Option α):Nat→Int→Int→Int→(List Int)→Option α
 |0=>fun _ _ _ _=>none
 |m+1=>fun p q r s=>g203l2b a b c d e h i j l n o (g203l2 a b c d e h i j l n o m) p q r s
def g203l2M{α:Type}(m:Nat):S_g203l2 α:=
 fun a b c d e h i j l n o p q r s=>g203l2 a b c d e h i j l n o m p q r s
def g203l2D:LoopD:={n:=170,low:=[0,1],sl:=[0,1,5,7,9,10,82,83],bl:=[0,1],tp:=[(.vl (.sv (.slc 0 0 1))),(.vl (.sv (.slc 1 0 1))),tI,(.vl (.sv (.int .u64))),(.vl (.sv (.int .u64))),(.vl (.sv (.int .u64))),tI,tI],bp:=[(true,[(.seq uU 7)]),(false,[(.seq uU 6)])],xs:=[(4,[0,1,5,7,9,10])]}
def g203l2K{α:Type}(L:S_g203l2 α)(ls:List Lf)(k:KEx α):Option α:=
 L (lf ls 0).nat (lf ls 1).nat (lf ls 2).nat (lf ls 3).nat (lf ls 4).nat (lf ls 5).nat (lf ls 6).int (lf ls 7).int (lf ls 10).int ((lf ls 13).lst uU)
  (fun a b c=>k .normal (mkSt 170 [0,1,5,7,9,10] [(.vl (.sv (.slc 0 0 1 (lf ls 0).nat (lf ls 1).nat (lf ls 2).nat))),(.vl (.sv (.slc 1 0 1 (lf ls 3).nat (lf ls 4).nat (lf ls 5).nat))),(.vl (.sv (.int .i64 (lf ls 6).int))),(.vl (.sv (.int .u64 (lf ls 7).int))),(.vl (.sv (.int .u64 a))),(.vl (.sv (.int .u64 b)))] [0,1] [(true,[(.seq uU 7 c)]),(false,[(.seq uU 6 ((lf ls 13).lst uU))])]))
  (lf ls 8).int (lf ls 9).int (lf ls 11).int ((lf ls 12).lst uU)
abbrev S_g203l4(α:Type):Type:=Nat→Nat→Nat→Nat→Nat→Nat→Int→Int→Int→(List Int)→(Int→(List Int)→Option α)→Int→Int→(List Int)→Option α
def g203l4b{α:Type}(a b:Nat)(c d:Nat)(e h:Nat)(i j l:Int)(n:List Int)(o:Int→(List Int)→Option α)(p:Int→Int→(List Int)→Option α)(q r:Int)(s:List Int):Option α:=cond (decide (r<l)) (if 0≤r∧r<(b:Nat) then if(a+r.toNat)<7 then if 0≤r∧r<(e:Nat) then if(d+r.toNat)<6 then let t:Int:=IntKind.wrap .u64 (q+(IntKind.wrap .u64 ((IntKind.wrap .u64 (List.getD s (a+r.toNat) 0))+(IntKind.wrap .u64 (List.getD n (d+r.toNat) 0)))));if 0≤r∧r<(b:Nat) then if(a+r.toNat)<7 then p (Int.fdiv t (2^32)) (IntKind.wrap .i64 (r+(1:Int))) (List.set s (a+r.toNat) (IntKind.wrap .u32 t)) else none else none else none else none else none else none) (o q s)
def g203l4{α:Type}(a b:Nat)(c d:Nat)(e h:Nat)(i j l:Int)(n:List Int)(o:Int→(List Int)→Option α):Nat→Int→Int→(List Int)→Option α
 |0=>fun _ _ _=>none
 |m+1=>fun p q r=>g203l4b a b c d e h i j l n o (g203l4 a b c d e h i j l n o m) p q r
def g203l4M{α:Type}(m:Nat):S_g203l4 α:=
 fun a b c d e h i j l n o p q r=>g203l4 a b c d e h i j l n o m p q r
def g203l4D:LoopD:={n:=170,low:=[0,1],sl:=[0,1,5,7,10,134,135],bl:=[0,1],tp:=[(.vl (.sv (.slc 0 0 1))),(.vl (.sv (.slc 1 0 1))),tI,(.vl (.sv (.int .u64))),(.vl (.sv (.int .u64))),tI,tI],bp:=[(true,[(.seq uU 7)]),(false,[(.seq uU 6)])],xs:=[(6,[0,5,7,10])]}
def g203l4K{α:Type}(L:S_g203l4 α)(ls:List Lf)(k:KEx α):Option α:=
 L (lf ls 0).nat (lf ls 1).nat (lf ls 2).nat (lf ls 3).nat (lf ls 4).nat (lf ls 5).nat (lf ls 6).int (lf ls 7).int (lf ls 9).int ((lf ls 12).lst uU)
  (fun a b=>k .normal (mkSt 170 [0,5,7,10] [(.vl (.sv (.slc 0 0 1 (lf ls 0).nat (lf ls 1).nat (lf ls 2).nat))),(.vl (.sv (.int .i64 (lf ls 6).int))),(.vl (.sv (.int .u64 (lf ls 7).int))),(.vl (.sv (.int .u64 a)))] [0,1] [(true,[(.seq uU 7 b)]),(false,[(.seq uU 6 ((lf ls 12).lst uU))])]))
  (lf ls 8).int (lf ls 10).int ((lf ls 11).lst uU)
def g203b{α:Type}(L203l0:Al S_g203l0)(L203l2:Al S_g203l2)(L203l4:Al S_g203l4)(a b:Nat)(c d:Nat)(e h:Nat)(i j:List Int)(l:Int→(List Int)→Option α):Option α:=if 0≤((e:Nat):Int)∧((e:Nat):Int)<(b:Nat) then if(a+((e:Nat):Int).toNat)<7 then let n:Int:=IntKind.wrap .i64 (((e:Nat):Int)-(1:Int));if 0≤n∧n<(b:Nat) then if(a+n.toNat)<7 then let o:Int:=ibits .or .u64 (IntKind.wrap .u64 ((IntKind.wrap .u64 (List.getD i (a+((e:Nat):Int).toNat) 0))*2^32)) (IntKind.wrap .u64 (List.getD i (a+n.toNat) 0));let p:Int:=IntKind.wrap .i64 (((e:Nat):Int)-(1:Int));if 0≤p∧p<(e:Nat) then if(d+p.toNat)<6 then let q:Int:=IntKind.wrap .u64 (List.getD j (d+p.toNat) 0);if q=0 then none else let r:Int:=IntKind.wrap .i64 (((e:Nat):Int)-(1:Int));if 0≤r∧r<(e:Nat) then if(d+r.toNat)<6 then let s:Int:=IntKind.wrap .u64 (List.getD j (d+r.toNat) 0);if s=0 then none else L203l0 a b c d e h ((e:Nat):Int) i j (fun t=>L203l2 a b c d e h ((e:Nat):Int) t ((e:Nat):Int) j (fun u v w=>if 0≤((e:Nat):Int)∧((e:Nat):Int)<(b:Nat) then if(a+((e:Nat):Int).toNat)<7 then let x:Int:=IntKind.wrap .u64 ((IntKind.wrap .u64 ((IntKind.wrap .u64 (List.getD w (a+((e:Nat):Int).toNat) 0))-v))-u);if 0≤((e:Nat):Int)∧((e:Nat):Int)<(b:Nat) then if(a+((e:Nat):Int).toNat)<7 then let y:List Int:=List.set w (a+((e:Nat):Int).toNat) (IntKind.wrap .u32 x);cond ((Int.fdiv x (2^63))==(0:Int)) (l (IntKind.wrap .u32 t) y) (L203l4 a b c d e h ((e:Nat):Int) t ((e:Nat):Int) j (fun z a0=>if 0≤((e:Nat):Int)∧((e:Nat):Int)<(b:Nat) then if(a+((e:Nat):Int).toNat)<7 then if 0≤((e:Nat):Int)∧((e:Nat):Int)<(b:Nat) then if(a+((e:Nat):Int).toNat)<7 then l (IntKind.wrap .u32 (IntKind.wrap .u64 (t-(1:Int)))) (List.set a0 (a+((e:Nat):Int).toNat) (IntKind.wrap .u32 ((List.getD a0 (a+((e:Nat):Int).toNat) 0)+(IntKind.wrap .u32 z)))) else none else none else none else none) (0:Int) (0:Int) y) else none else none else none else none) (0:Int) (0:Int) (0:Int) i) (IntKind.wrap .u64 (Int.tdiv o q)) (Int.tmod o s) else none else none else none else none else none else none else none else none
def g203{α:Type}(m:Nat):S_g203 α:=
 g203b (g203l0M m) (g203l2M m) (g203l4M m)
def g203tp:List TP:=[(.vl (.sv (.slc 0 0 1))),(.vl (.sv (.slc 1 0 1)))]
def g203bp:List BP:=[(true,[(.seq uU 7)]),(false,[(.seq uU 6)])]
def g203K{α:Type}(G:S_g203 α)(ls:List Lf)(k:KRe α):Option α:=
 G (lf ls 0).nat (lf ls 1).nat (lf ls 2).nat (lf ls 3).nat (lf ls 4).nat (lf ls 5).nat ((lf ls 6).lst uU) ((lf ls 7).lst uU)
  (fun a b=>k (.vl (.sv (.int .u32 a))) [[(.seq uU 7 b)],[(.seq uU 6 ((lf ls 7).lst uU))]] [])
def g203R{α:Type}(G:S_g203 α):=rowK g203tp g203bp (g203K G)
def g203hd(L203l0:Al S_g203l0)(L203l2:Al S_g203l2)(L203l4:Al S_g203l4):Hd where
 call:=fun f args Bs k=>none
 loop:=fun id st k=>cond (Nat.beq id 0) (loopH g203l0D (g203l0K L203l0) st k) (cond (Nat.beq id 2) (loopH g203l2D (g203l2K L203l2) st k) (cond (Nat.beq id 4) (loopH g203l4D (g203l4K L203l4) st k) (none)))
 ro:=fun f=>[]
def g203h(m:Nat):Hd:=g203hd (g203l0M m) (g203l2M m) (g203l4M m)
theorem g203l0Step(L203l0:Al S_g203l0)(L203l2:Al S_g203l2)(L203l4:Al S_g203l4){α:Type}(L:S_g203l0 α)(ls:List Lf)(k:KEx α):
  g203l0K (fun a b c d e h i j l n o p=>g203l0b a b c d e h i j l n (L a b c d e h i j l n) o p) ls k=ev tab (g203hd L203l0 L203l2 L203l4) (bodyAt Tryz.f203 0) (atHead g203l0D ls) (loopK g203l0D 0 (loopH g203l0D (g203l0K L)) k):=by kernel_rfl
theorem g203l2Step(L203l0:Al S_g203l0)(L203l2:Al S_g203l2)(L203l4:Al S_g203l4){α:Type}(L:S_g203l2 α)(ls:List Lf)(k:KEx α):
  g203l2K (fun a b c d e h i j l n o p q r s=>g203l2b a b c d e h i j l n o (L a b c d e h i j l n o) p q r s) ls k=ev tab (g203hd L203l0 L203l2 L203l4) (bodyAt Tryz.f203 2) (atHead g203l2D ls) (loopK g203l2D 2 (loopH g203l2D (g203l2K L)) k):=by kernel_rfl
theorem g203l4Step(L203l0:Al S_g203l0)(L203l2:Al S_g203l2)(L203l4:Al S_g203l4){α:Type}(L:S_g203l4 α)(ls:List Lf)(k:KEx α):
  g203l4K (fun a b c d e h i j l n o p q r=>g203l4b a b c d e h i j l n o (L a b c d e h i j l n o) p q r) ls k=ev tab (g203hd L203l0 L203l2 L203l4) (bodyAt Tryz.f203 4) (atHead g203l4D ls) (loopK g203l4D 4 (loopH g203l4D (g203l4K L)) k):=by kernel_rfl
theorem g203Main(L203l0:Al S_g203l0)(L203l2:Al S_g203l2)(L203l4:Al S_g203l4){α:Type}(ls:List Lf)(k:KRe α):
  g203K (g203b L203l0 L203l2 L203l4) ls k=evFun tab (g203hd L203l0 L203l2 L203l4) Tryz.f203 (fT g203tp ls) (fB g203tp g203bp ls) k:=by kernel_rfl
theorem g203Calls(m:Nat):(g203h m).CallsOk Tryz.prog:=cok_nil
theorem g203l0Ok(m:Nat)(α:Type)(st:St)(k:KEx α)(r:α)(h:(g203h m).loop 0 st k=some r):
  LoopS Tryz.prog 0 (bodyAt Tryz.f203 0) st k r:=
 lpk (F:=fun n ls k=>g203l0K (fun a b c d e i j l o q s t=>g203l0 a b c d e i j l o q n s t) ls k) (g203Calls m) (lb0 (by kernel_rfl))
  (fun _ _=>rfl) (fun n ls k=>g203l0Step (g203l0M m) (g203l2M m) (g203l4M m) (fun a b c d e i j l o q=>g203l0 a b c d e i j l o q n) ls k) (n:=m) h
theorem g203l2Ok(m:Nat)(α:Type)(st:St)(k:KEx α)(r:α)(h:(g203h m).loop 2 st k=some r):
  LoopS Tryz.prog 2 (bodyAt Tryz.f203 2) st k r:=
 lpk (F:=fun n ls k=>g203l2K (fun a b c d e i j l o q s t u v w=>g203l2 a b c d e i j l o q s n t u v w) ls k) (g203Calls m) (lb0 (by kernel_rfl))
  (fun _ _=>rfl) (fun n ls k=>g203l2Step (g203l0M m) (g203l2M m) (g203l4M m) (fun a b c d e i j l o q s=>g203l2 a b c d e i j l o q s n) ls k) (n:=m) h
theorem g203l4Ok(m:Nat)(α:Type)(st:St)(k:KEx α)(r:α)(h:(g203h m).loop 4 st k=some r):
  LoopS Tryz.prog 4 (bodyAt Tryz.f203 4) st k r:=
 lpk (F:=fun n ls k=>g203l4K (fun a b c d e i j l o q s t u v=>g203l4 a b c d e i j l o q s n t u v) ls k) (g203Calls m) (lb0 (by kernel_rfl))
  (fun _ _=>rfl) (fun n ls k=>g203l4Step (g203l0M m) (g203l2M m) (g203l4M m) (fun a b c d e i j l o q s=>g203l4 a b c d e i j l o q s n) ls k) (n:=m) h
theorem g203Fn(m:Nat):FnOk Tryz.prog 203 g203tp g203bp (fun{α}=>g203K (g203 m (α:=α))):=
 fn_ok (tab:=tab) (h:=g203h m) (fn:=Tryz.f203) (F:=fun{α}=>g203K (g203 m (α:=α))) tabOk (g203Calls m) mixed (by kernel_rfl) (by kernel_rfl) (fun c hc=>by
  rw[bodyOf_some hc]
  exact loopsOk_of _ (fun p hp=>by
  rw[show loopsOf (bodyOf Tryz.f203)=[(0,bodyAt Tryz.f203 0),(2,bodyAt Tryz.f203 2),(4,bodyAt Tryz.f203 4)] by kernel_rfl] at hp
  simp only[List.mem_cons,List.not_mem_nil,or_false] at hp
  rcases hp with rfl|rfl|rfl
  ·exact g203l0Ok m
  ·exact g203l2Ok m
  ·exact g203l4Ok m))
  (fun _=>g203Main (g203l0M m) (g203l2M m) (g203l4M m))
theorem g203Ok(m:Nat):RowOk Tryz.prog 203 (fun{α}=>g203R (g203 m (α:=α))):=row_of (g203Fn m)
abbrev S_g193(α:Type):Type:=(List Int)→(List Int)→((List Int)→(List Int)→Option α)→Option α
abbrev S_g193l0(α:Type):Type:=Int→Int→(List Int)→(List Int)→(List Int)→((List Int)→(List Int)→Option α)→Int→(List Int)→(List Int)→Option α
def g193l0b{α:Type}(G203:Al S_g203)(a b:Int)(c d e:List Int)(h:(List Int)→(List Int)→Option α)(i:Int→(List Int)→(List Int)→Option α)(j:Int)(l n:List Int):Option α:=cond (decide (j≥(0:Int))) (let o:Int:=IntKind.wrap .i64 ((IntKind.wrap .i64 (j+a))+(1:Int));if 0≤j∧j≤o∧o≤((7:Nat):Int) then if 0≤(0:Int)∧(0:Int)≤a∧a≤((6:Nat):Int) then G203 (cond (Nat.beq 7 (Int.toNat j)) 0 (Int.toNat j)) ((Int.toNat o)-(Int.toNat j)) (7-(Int.toNat j)) 0 ((Int.toNat a)-0) 6 l e (fun p q=>if 0≤j∧j<(6:Nat) then if j.toNat<6 then i (IntKind.wrap .i64 (j-(1:Int))) q (List.set n (j.toNat) p) else none else none) else none else none) (h l n)
def g193l0{α:Type}(G203:Al S_g203)(a b:Int)(c d e:List Int)(h:(List Int)→(List Int)→Option α):Nat→Int→(List Int)→(List Int)→Option α
 |0=>fun _ _ _=>none
 |m+1=>fun i j l=>g193l0b G203 a b c d e h (g193l0 G203 a b c d e h m) i j l
def g193l0M{α:Type}(m:Nat):S_g193l0 α:=
 fun a b c d e h i j l=>g193l0 (g203 m) a b c d e h m i j l
def g193l0D:LoopD:={n:=86,low:=[],sl:=[4,5,6,9,10,11,13,14],bl:=[1000000,1000001,1000002,1000003,1000004],tp:=[(.vl (.sv (.ptr 1000000 0))),(.vl (.sv (.ptr 1000001 0))),tI,tI,(.vl (.sv (.ptr 1000002 0))),(.vl (.sv (.ptr 1000003 0))),(.vl (.sv (.ptr 1000004 0))),tI],bp:=[b6,b6,b6,(true,[(.seq uU 7)]),b6],xs:=[(2,[4,5,9,11,13])]}
def g193l0K{α:Type}(L:S_g193l0 α)(ls:List Lf)(k:KEx α):Option α:=
 L (lf ls 0).int (lf ls 1).int ((lf ls 3).lst uU) ((lf ls 4).lst uU) ((lf ls 5).lst uU)
  (fun a b=>k .normal (mkSt 86 [4,5,9,11,13] [(.vl (.sv (.ptr 1000000 0))),(.vl (.sv (.ptr 1000001 0))),(.vl (.sv (.int .i64 (lf ls 1).int))),(.vl (.sv (.ptr 1000002 0))),(.vl (.sv (.ptr 1000003 0)))] [1000000,1000001,1000002,1000003] [(true,[(.seq uU 6 ((lf ls 3).lst uU))]),(true,[(.seq uU 6 ((lf ls 4).lst uU))]),(true,[(.seq uU 7 a)]),(true,[(.seq uU 6 b)])]))
  (lf ls 2).int ((lf ls 6).lst uU) ((lf ls 7).lst uU)
def g193b{α:Type}(G113:Al S_g113)(G104:Al S_g104)(G101:Al S_g101)(G202:Al S_g202)(G99:Al S_g99)(G203:Al S_g203)(G97:Al S_g97)(L193l0:Al S_g193l0)(a b:List Int)(c:(List Int)→(List Int)→Option α):Option α:=G113 b (fun d=>let e:Int:=IntKind.wrap .i64 (Int.tdiv (IntKind.wrap .i64 (d+(31:Int))) (32:Int));cond (e==(1:Int)) (G104 a (List.getD b 0 0) (fun h i=>c h [i,0,0,0,0,0])) (G101 a b (fun j=>cond (decide (j<(0:Int))) (c [0,0,0,0,0,0] a) (let l:Int:=IntKind.wrap .i64 (e-(1:Int));if 0≤l∧l<(6:Nat) then if l.toNat<6 then G202 (List.getD b l.toNat 0) (fun n=>G99 b n (fun o=>G99 a n (fun p=>let q:List Int:=List.take 0 [0,0,0,0,0,0,0]++(List.take 6 (List.drop 0 p)++List.drop (0+6) [0,0,0,0,0,0,0]);cond (decide (n>(0:Int))) (let r:Int:=IntKind.wrap .i64 ((32:Int)-n);if r<0 then none else L193l0 e n [0,0,0,0,0,0] [0,0,0,0,0,0] o (fun s t=>G97 (List.take 0 [0,0,0,0,0,0]++(List.take 6 (List.drop 0 s)++List.drop (0+6) [0,0,0,0,0,0])) n (fun u=>c t u)) (IntKind.wrap .i64 ((6:Int)-e)) (List.set q 6 (Int.fdiv (List.getD a 5 0) (2^(min r.toNat 32)))) [0,0,0,0,0,0]) (L193l0 e n [0,0,0,0,0,0] [0,0,0,0,0,0] o (fun v w=>G97 (List.take 0 [0,0,0,0,0,0]++(List.take 6 (List.drop 0 v)++List.drop (0+6) [0,0,0,0,0,0])) n (fun x=>c w x)) (IntKind.wrap .i64 ((6:Int)-e)) q [0,0,0,0,0,0])))) else none else none))))
def g193{α:Type}(m:Nat):S_g193 α:=
 g193b (g113 m) (g104 m) (g101 m) (g202 m) (g99 m) (g203 m) (g97 m) (g193l0M m)
def g193tp:List TP:=[(.vl (.agg [(.seq uU 6)])),(.vl (.agg [(.seq uU 6)]))]
def g193bp:List BP:=[]
def g193K{α:Type}(G:S_g193 α)(ls:List Lf)(k:KRe α):Option α:=
 G ((lf ls 0).lst uU) ((lf ls 1).lst uU)
  (fun a b=>k (.tup [(.agg [(.seq uU 6 a)]),(.agg [(.seq uU 6 b)])]) [] [])
def g193R{α:Type}(G:S_g193 α):=rowK g193tp g193bp (g193K G)
def g193hd(G113:Al S_g113)(G104:Al S_g104)(G101:Al S_g101)(G202:Al S_g202)(G99:Al S_g99)(G203:Al S_g203)(G97:Al S_g97)(L193l0:Al S_g193l0):Hd where
 call:=fun f args Bs k=>cond (Nat.beq f 113) (g113R G113 args Bs k) (cond (Nat.beq f 104) (g104R G104 args Bs k) (cond (Nat.beq f 101) (g101R G101 args Bs k) (cond (Nat.beq f 202) (g202R G202 args Bs k) (cond (Nat.beq f 99) (g99R G99 args Bs k) (cond (Nat.beq f 203) (g203R G203 args Bs k) (cond (Nat.beq f 97) (g97R G97 args Bs k) (none)))))))
 loop:=fun id st k=>cond (Nat.beq id 0) (loopH g193l0D (g193l0K L193l0) st k) (none)
 ro:=fun f=>cond (Nat.beq f 203) [1] ([])
def g193h(m:Nat):Hd:=g193hd (g113 m) (g104 m) (g101 m) (g202 m) (g99 m) (g203 m) (g97 m) (g193l0M m)
theorem g193l0Step(G113:Al S_g113)(G104:Al S_g104)(G101:Al S_g101)(G202:Al S_g202)(G99:Al S_g99)(G203:Al S_g203)(G97:Al S_g97)(L193l0:Al S_g193l0){α:Type}(L:S_g193l0 α)(ls:List Lf)(k:KEx α):
  g193l0K (fun a b c d e h i j l=>g193l0b G203 a b c d e h (L a b c d e h) i j l) ls k=ev tab (g193hd G113 G104 G101 G202 G99 G203 G97 L193l0) (bodyAt Tryz.f193 0) (atHead g193l0D ls) (loopK g193l0D 0 (loopH g193l0D (g193l0K L)) k):=by kernel_rfl
theorem g193Main(G113:Al S_g113)(G104:Al S_g104)(G101:Al S_g101)(G202:Al S_g202)(G99:Al S_g99)(G203:Al S_g203)(G97:Al S_g97)(L193l0:Al S_g193l0){α:Type}(ls:List Lf)(k:KRe α):
  g193K (g193b G113 G104 G101 G202 G99 G203 G97 L193l0) ls k=evFun tab (g193hd G113 G104 G101 G202 G99 G203 G97 L193l0) Tryz.f193 (fT g193tp ls) (fB g193tp g193bp ls) k:=by kernel_rfl
theorem g193Calls(m:Nat):(g193h m).CallsOk Tryz.prog:=(cok_cons (g113Ok m) (cok_cons (g104Ok m) (cok_cons (g101Ok m) (cok_cons (g202Ok m) (cok_cons (g99Ok m) (cok_cons (g203Ok m) (cok_cons (g97Ok m) cok_nil)))))))
theorem g193l0Ok(m:Nat)(α:Type)(st:St)(k:KEx α)(r:α)(h:(g193h m).loop 0 st k=some r):
  LoopS Tryz.prog 0 (bodyAt Tryz.f193 0) st k r:=
 lpk (F:=fun n ls k=>g193l0K (fun a b c d e i j l o=>g193l0 (g203 m) a b c d e i n j l o) ls k) (g193Calls m) (lb0 (by kernel_rfl))
  (fun _ _=>rfl) (fun n ls k=>g193l0Step (g113 m) (g104 m) (g101 m) (g202 m) (g99 m) (g203 m) (g97 m) (g193l0M m) (fun a b c d e i=>g193l0 (g203 m) a b c d e i n) ls k) (n:=m) h
theorem g193Ok(m:Nat):RowOk Tryz.prog 193 (fun{α}=>g193R (g193 m (α:=α))):=
 rwk (g193Calls m) (lo1 (by kernel_rfl) (g193l0Ok m))
  (fun _=>g193Main (g113 m) (g104 m) (g101 m) (g202 m) (g99 m) (g203 m) (g97 m) (g193l0M m))
abbrev S_g173(α:Type):Type:=Bool→(List Int)→Bool→(List Int)→(Bool→(List Int)→Bool→(List Int)→Option α)→Option α
def g173b{α:Type}(G193:Al S_g193)(G98:Al S_g98)(G102:Al S_g102)(G100:Al S_g100)(G65:Al S_g65)(a:Bool)(b:List Int)(c:Bool)(d:List Int)(e:Bool→(List Int)→Bool→(List Int)→Option α):Option α:=G193 b d (fun h i=>cond (!(a==c)) (cond (!(eqLI i [0,0,0,0,0,0])) (G98 (fun j=>G102 h j (fun l n=>G100 d i (fun o=>G65 (!(a==c)) l (fun p=>G65 c o (fun q=>e p l q o)))))) (G65 (!(a==c)) h (fun r=>G65 c i (fun s=>e r h s i)))) (G65 (!(a==c)) h (fun t=>G65 c i (fun u=>e t h u i))))
def g173{α:Type}(m:Nat):S_g173 α:=
 g173b (g193 m) (g98 m) (g102 m) (g100 m) (g65 m)
def g173tp:List TP:=[vW,vW]
def g173bp:List BP:=[]
def g173K{α:Type}(G:S_g173 α)(ls:List Lf)(k:KRe α):Option α:=
 G (lf ls 0).bool ((lf ls 1).lst uU) (lf ls 2).bool ((lf ls 3).lst uU)
  (fun a b c d=>k (.tup [(.agg [(.one (.bool a)),(.seq uU 6 b)]),(.agg [(.one (.bool c)),(.seq uU 6 d)])]) [] [])
def g173R{α:Type}(G:S_g173 α):=rowK g173tp g173bp (g173K G)
def g173hd(G193:Al S_g193)(G98:Al S_g98)(G102:Al S_g102)(G100:Al S_g100)(G65:Al S_g65):Hd where
 call:=fun f args Bs k=>cond (Nat.beq f 193) (g193R G193 args Bs k) (cond (Nat.beq f 98) (g98R G98 args Bs k) (cond (Nat.beq f 102) (g102R G102 args Bs k) (cond (Nat.beq f 100) (g100R G100 args Bs k) (cond (Nat.beq f 65) (g65R G65 args Bs k) (none)))))
 loop:=fun id st k=>none
 ro:=fun f=>[]
def g173h(m:Nat):Hd:=g173hd (g193 m) (g98 m) (g102 m) (g100 m) (g65 m)
theorem g173Main(G193:Al S_g193)(G98:Al S_g98)(G102:Al S_g102)(G100:Al S_g100)(G65:Al S_g65){α:Type}(ls:List Lf)(k:KRe α):
  g173K (g173b G193 G98 G102 G100 G65) ls k=evFun tab (g173hd G193 G98 G102 G100 G65) Tryz.f173 (fT g173tp ls) (fB g173tp g173bp ls) k:=by kernel_rfl
theorem g173Calls(m:Nat):(g173h m).CallsOk Tryz.prog:=(cok_cons (g193Ok m) (cok_cons (g98Ok m) (cok_cons (g102Ok m) (cok_cons (g100Ok m) (cok_cons (g65Ok m) cok_nil)))))
theorem g173Ok(m:Nat):RowOk Tryz.prog 173 (fun{α}=>g173R (g173 m (α:=α))):=
 rwk (g173Calls m) (lo0 (by kernel_rfl))
  (fun _=>g173Main (g193 m) (g98 m) (g102 m) (g100 m) (g65 m))
abbrev S_g62(α:Type):Type:=Int→(Bool→(List Int)→Option α)→Option α
def g62b{α:Type}(G65:Al S_g65)(a:Int)(b:Bool→(List Int)→Option α):Option α:=let c:Int:=IntKind.wrap .u64 a;cond (decide (a<(0:Int))) (let d:Int:=IntKind.wrap .u64 (0-c);let e:Int:=IntKind.wrap .u32 d;let h:Int:=IntKind.wrap .u32 (Int.fdiv d (2^32));G65 (decide (a<(0:Int))) [e,h,0,0,0,0] (fun i=>b i [e,h,0,0,0,0])) (let j:Int:=IntKind.wrap .u32 c;let l:Int:=IntKind.wrap .u32 (Int.fdiv c (2^32));G65 (decide (a<(0:Int))) [j,l,0,0,0,0] (fun n=>b n [j,l,0,0,0,0]))
def g62{α:Type}(m:Nat):S_g62 α:=
 g62b (g65 m)
def g62tp:List TP:=[tI]
def g62bp:List BP:=[]
def g62K{α:Type}(G:S_g62 α)(ls:List Lf)(k:KRe α):Option α:=
 G (lf ls 0).int
  (fun a b=>k (.vl (.agg [(.one (.bool a)),(.seq uU 6 b)])) [] [])
def g62R{α:Type}(G:S_g62 α):=rowK g62tp g62bp (g62K G)
def g62hd(G65:Al S_g65):Hd where
 call:=fun f args Bs k=>cond (Nat.beq f 65) (g65R G65 args Bs k) (none)
 loop:=fun id st k=>none
 ro:=fun f=>[]
def g62h(m:Nat):Hd:=g62hd (g65 m)
theorem g62Main(G65:Al S_g65){α:Type}(ls:List Lf)(k:KRe α):
  g62K (g62b G65) ls k=evFun tab (g62hd G65) Tryz.f62 (fT g62tp ls) (fB g62tp g62bp ls) k:=by kernel_rfl
theorem g62Calls(m:Nat):(g62h m).CallsOk Tryz.prog:=(cok_cons (g65Ok m) cok_nil)
theorem g62Ok(m:Nat):RowOk Tryz.prog 62 (fun{α}=>g62R (g62 m (α:=α))):=
 rwk (g62Calls m) (lo0 (by kernel_rfl))
  (fun _=>g62Main (g65 m))
abbrev S_g137(α:Type):Type:=Bool→(List Int)→Bool→(List Int)→Bool→(Bool→(List Int)→Bool→Option α)→Option α
def g137b{α:Type}(G102:Al S_g102)(G65:Al S_g65)(G101:Al S_g101)(G100:Al S_g100)(a:Bool)(b:List Int)(c:Bool)(d:List Int)(e:Bool)(h:Bool→(List Int)→Bool→Option α):Option α:=cond (a==c) (G102 b d (fun i j=>cond e (G65 a i (fun l=>h l i true)) (G65 a i (fun n=>h n i j)))) (G101 b d (fun o=>cond (decide (o<(0:Int))) (G100 d b (fun p=>G65 c p (fun q=>h q p e))) (G100 b d (fun r=>G65 a r (fun s=>h s r e)))))
def g137{α:Type}(m:Nat):S_g137 α:=
 g137b (g102 m) (g65 m) (g101 m) (g100 m)
abbrev S_g134(α:Type):Type:=Bool→(List Int)→Bool→(List Int)→Bool→(Bool→(List Int)→Bool→Option α)→Option α
def g134b{α:Type}(G173:Al S_g173)(G100:Al S_g100)(G101:Al S_g101)(G62:Al S_g62)(G137:Al S_g137)(a:Bool)(b:List Int)(c:Bool)(d:List Int)(e:Bool)(h:Bool→(List Int)→Bool→Option α):Option α:=G173 a b c d (fun i j l n=>G100 d n (fun o=>G101 n o (fun p=>cond (decide (p<(0:Int))) (h i j e) (G62 (1:Int) (fun q r=>G137 i j q r e (fun s t u=>h s t u))))))
def g134{α:Type}(m:Nat):S_g134 α:=
 g134b (g173 m) (g100 m) (g101 m) (g62 m) (g137 m)
abbrev S_g135(α:Type):Type:=Bool→(List Int)→Int→Bool→(Bool→(List Int)→Bool→Option α)→Option α
def g135b{α:Type}(G113:Al S_g113)(G99:Al S_g99)(G65:Al S_g65)(a:Bool)(b:List Int)(c:Int)(d:Bool)(e:Bool→(List Int)→Bool→Option α):Option α:=cond (decide (c>(191:Int))) (e false [0,0,0,0,0,0] true) (G113 b (fun h=>cond (decide ((IntKind.wrap .i64 (h+c))>(192:Int))) (e false [0,0,0,0,0,0] true) (G99 b c (fun i=>G65 a i (fun j=>e j i d)))))
def g135{α:Type}(m:Nat):S_g135 α:=
 g135b (g113 m) (g99 m) (g65 m)
abbrev S_g139(α:Type):Type:=Bool→(List Int)→(Bool→Option α)→Option α
def g139b{α:Type}(G65:Al S_g65)(a:Bool)(b:List Int)(c:Bool→Option α):Option α:=G65 (!a) b (fun d=>c d)
def g139{α:Type}(m:Nat):S_g139 α:=
 g139b (g65 m)
def g139tp:List TP:=[vW]
def g139bp:List BP:=[]
def g139K{α:Type}(G:S_g139 α)(ls:List Lf)(k:KRe α):Option α:=
 G (lf ls 0).bool ((lf ls 1).lst uU)
  (fun a=>k (.vl (.agg [(.one (.bool a)),(.seq uU 6 ((lf ls 1).lst uU))])) [] [])
def g139R{α:Type}(G:S_g139 α):=rowK g139tp g139bp (g139K G)
def g139hd(G65:Al S_g65):Hd where
 call:=fun f args Bs k=>cond (Nat.beq f 65) (g65R G65 args Bs k) (none)
 loop:=fun id st k=>none
 ro:=fun f=>[]
def g139h(m:Nat):Hd:=g139hd (g65 m)
theorem g139Main(G65:Al S_g65){α:Type}(ls:List Lf)(k:KRe α):
  g139K (g139b G65) ls k=evFun tab (g139hd G65) Tryz.f139 (fT g139tp ls) (fB g139tp g139bp ls) k:=by kernel_rfl
theorem g139Calls(m:Nat):(g139h m).CallsOk Tryz.prog:=(cok_cons (g65Ok m) cok_nil)
theorem g139Ok(m:Nat):RowOk Tryz.prog 139 (fun{α}=>g139R (g139 m (α:=α))):=
 rwk (g139Calls m) (lo0 (by kernel_rfl))
  (fun _=>g139Main (g65 m))
abbrev S_g138(α:Type):Type:=Bool→(List Int)→Bool→(List Int)→Bool→(Bool→(List Int)→Bool→Option α)→Option α
def g138b{α:Type}(G139:Al S_g139)(G137:Al S_g137)(a:Bool)(b:List Int)(c:Bool)(d:List Int)(e:Bool)(h:Bool→(List Int)→Bool→Option α):Option α:=G139 c d (fun i=>G137 a b i d e (fun j l n=>h j l n))
def g138{α:Type}(m:Nat):S_g138 α:=
 g138b (g139 m) (g137 m)
abbrev S_g27(α:Type):Type:=Nat→Nat→Nat→Int→Nat→Ty0→(Int→Option α)→Option α
def g27b{α:Type}(a b c:Nat)(d:Int)(e:Nat)(h:Ty0)(i:Int→Option α):Option α:=let j:Int:=IntKind.wrap .i64 (d-((b:Nat):Int));cond (decide (j<(0:Int))) (i (-1:Int)) (i j)
def g27{α:Type}(m:Nat):S_g27 α:=
 g27b
def g27tp:List TP:=[(.vl (.sv (.sla 0 0 5))),tI]
def g27bp:List BP:=[(false,[(.seqv rN)])]
def g27K{α:Type}(G:S_g27 α)(ls:List Lf)(k:KRe α):Option α:=
 G (lf ls 0).nat (lf ls 1).nat (lf ls 2).nat (lf ls 3).int (lf ls 4).nat ((lf ls 5).lst rN)
  (fun a=>k (.vl (.sv (.int .i64 a))) [[(.seq rN (lf ls 4).nat ((lf ls 5).lst rN))]] [])
def g27R{α:Type}(G:S_g27 α):=rowK g27tp g27bp (g27K G)
def g27hd:Hd where
 call:=fun f args Bs k=>none
 loop:=fun id st k=>none
 ro:=fun f=>[]
def g27h(m:Nat):Hd:=g27hd
theorem g27Main{α:Type}(ls:List Lf)(k:KRe α):
  g27K (g27b) ls k=evFun tab (g27hd) Tryz.f27 (fT g27tp ls) (fB g27tp g27bp ls) k:=by kernel_rfl
theorem g27Calls(m:Nat):(g27h m).CallsOk Tryz.prog:=cok_nil
theorem g27Ok(m:Nat):RowOk Tryz.prog 27 (fun{α}=>g27R (g27 m (α:=α))):=
 rwk (g27Calls m) (lo0 (by kernel_rfl))
  (fun _=>g27Main)
abbrev S_g70(α:Type):Type:=Int→Int→Int→Int→Int→(Option α)→Option α
def g70b{α:Type}(a b:Int)(c d e:Int)(h:Option α):Option α:=h
def g70{α:Type}(m:Nat):S_g70 α:=
 g70b
def g70tp:List TP:=[(.vl (.agg [(.one (.int .i8)),(.one (.int .i16)),(.one (.int .i16)),(.one (.int .i64)),(.one (.int .i64))]))]
def g70bp:List BP:=[]
def g70K{α:Type}(G:S_g70 α)(ls:List Lf)(k:KRe α):Option α:=
 G (lf ls 0).int (lf ls 1).int (lf ls 2).int (lf ls 3).int (lf ls 4).int
  (k (.vl (.agg [(.one (.int .i8 (lf ls 0).int)),(.one (.int .i16 (lf ls 1).int)),(.one (.int .i16 (lf ls 2).int)),(.one (.int .i64 (lf ls 3).int)),(.one (.int .i64 (lf ls 4).int))])) [] [])
def g70R{α:Type}(G:S_g70 α):=rowK g70tp g70bp (g70K G)
def g70hd:Hd where
 call:=fun f args Bs k=>none
 loop:=fun id st k=>none
 ro:=fun f=>[]
def g70h(m:Nat):Hd:=g70hd
theorem g70Main{α:Type}(ls:List Lf)(k:KRe α):
  g70K (g70b) ls k=evFun tab (g70hd) Tryz.f70 (fT g70tp ls) (fB g70tp g70bp ls) k:=by kernel_rfl
theorem g70Calls(m:Nat):(g70h m).CallsOk Tryz.prog:=cok_nil
theorem g70Ok(m:Nat):RowOk Tryz.prog 70 (fun{α}=>g70R (g70 m (α:=α))):=
 rwk (g70Calls m) (lo0 (by kernel_rfl))
  (fun _=>g70Main)
abbrev S_g28(α:Type):Type:=Nat→Nat→Nat→Nat→Ty0→(Ty0→Option α)→Option α
abbrev S_g28l0(α:Type):Type:=Nat→Nat→Nat→Nat→Nat→Nat→Nat→Ty0→Nat→(Ty0→Option α)→Int→Ty0→Option α
def g28l0b{α:Type}(G70:Al S_g70)(a b:Nat)(c d:Nat)(e h i:Nat)(j:Ty0)(l:Nat)(n:Ty0→Option α)(o:Int→Ty0→Option α)(p:Int)(q:Ty0):Option α:=cond (decide (p<((b:Nat):Int))) (if 0≤p∧p<(b:Nat) then if(a+p.toNat)<i then let r:Int:=(List.getD j (a+p.toNat) []).headD 0;let s:Int:=(List.getD j (a+p.toNat) []).tail.headD 0;let t:Int:=(List.getD j (a+p.toNat) []).tail.tail.headD 0;let u:Int:=(List.getD j (a+p.toNat) []).tail.tail.tail.headD 0;let v:Int:=(List.getD j (a+p.toNat) []).tail.tail.tail.tail.headD 0;G70 r s t u v (if 0≤p∧p<(e:Nat) then if(d+p.toNat)<l then o (IntKind.wrap .i64 (p+(1:Int))) (List.set q (d+p.toNat) [r,s,t,u,v]) else none else none) else none else none) (n q)
def g28l0{α:Type}(G70:Al S_g70)(a b:Nat)(c d:Nat)(e h i:Nat)(j:Ty0)(l:Nat)(n:Ty0→Option α):Nat→Int→Ty0→Option α
 |0=>fun _ _=>none
 |m+1=>fun o p=>g28l0b G70 a b c d e h i j l n (g28l0 G70 a b c d e h i j l n m) o p
def g28l0M{α:Type}(m:Nat):S_g28l0 α:=
 fun a b c d e h i j l n o p=>g28l0 (g70 m) a b c d e h i j l n m o p
def g28l0D:LoopD:={n:=23,low:=[0],sl:=[0,3,4],bl:=[0,1000001],tp:=[(.vl (.sv (.sla 0 0 5))),(.vl (.sv (.slc 1000001 0 5))),tI],bp:=[(false,[(.seqv rN)]),(true,[(.seqv rN)])],xs:=[(2,[3])]}
def g28l0K{α:Type}(L:S_g28l0 α)(ls:List Lf)(k:KEx α):Option α:=
 L (lf ls 0).nat (lf ls 1).nat (lf ls 2).nat (lf ls 3).nat (lf ls 4).nat (lf ls 5).nat (lf ls 7).nat ((lf ls 8).lst rN) (lf ls 9).nat
  (fun a=>k .normal (mkSt 23 [3] [(.vl (.sv (.slc 1000001 0 5 (lf ls 3).nat (lf ls 4).nat (lf ls 5).nat)))] [0,1000001] [(false,[(.seq rN (lf ls 7).nat ((lf ls 8).lst rN))]),(true,[(.seq rN (lf ls 9).nat a)])]))
  (lf ls 6).int ((lf ls 10).lst rN)
def g28b{α:Type}(G70:Al S_g70)(L28l0:Al S_g28l0)(a b:Nat)(c d:Nat)(e:Ty0)(h:Ty0→Option α):Option α:=if((b:Nat):Int)=((b:Nat):Int)∧0≤((b:Nat):Int)∧((b:Nat):Int)≤1048576 then L28l0 a b c 0 b b d e b (fun i=>h i) (0:Int) (List.replicate b ([]:List Int)) else none
def g28{α:Type}(m:Nat):S_g28 α:=
 g28b (g70 m) (g28l0M m)
def g28tp:List TP:=[(.vl (.sv (.sla 0 0 5)))]
def g28bp:List BP:=[(false,[(.seqv rN)])]
def g28K{α:Type}(G:S_g28 α)(ls:List Lf)(k:KRe α):Option α:=
 G (lf ls 0).nat (lf ls 1).nat (lf ls 2).nat (lf ls 3).nat ((lf ls 4).lst rN)
  (fun a=>k (.vl (.sv (.slc 1 0 5 0 (lf ls 1).nat (lf ls 1).nat))) [[(.seq rN (lf ls 3).nat ((lf ls 4).lst rN))]] [[(.seq rN (lf ls 1).nat a)]])
def g28R{α:Type}(G:S_g28 α):=rowK g28tp g28bp (g28K G)
def g28hd(G70:Al S_g70)(L28l0:Al S_g28l0):Hd where
 call:=fun f args Bs k=>cond (Nat.beq f 70) (g70R G70 args Bs k) (none)
 loop:=fun id st k=>cond (Nat.beq id 0) (loopH g28l0D (g28l0K L28l0) st k) (none)
 ro:=fun f=>[]
def g28h(m:Nat):Hd:=g28hd (g70 m) (g28l0M m)
theorem g28l0Step(G70:Al S_g70)(L28l0:Al S_g28l0){α:Type}(L:S_g28l0 α)(ls:List Lf)(k:KEx α):
  g28l0K (fun a b c d e h i j l n o p=>g28l0b G70 a b c d e h i j l n (L a b c d e h i j l n) o p) ls k=ev tab (g28hd G70 L28l0) (bodyAt Tryz.f28 0) (atHead g28l0D ls) (loopK g28l0D 0 (loopH g28l0D (g28l0K L)) k):=by kernel_rfl
theorem g28Main(G70:Al S_g70)(L28l0:Al S_g28l0){α:Type}(ls:List Lf)(k:KRe α):
  g28K (g28b G70 L28l0) ls k=evFun tab (g28hd G70 L28l0) Tryz.f28 (fT g28tp ls) (fB g28tp g28bp ls) k:=by kernel_rfl
theorem g28Calls(m:Nat):(g28h m).CallsOk Tryz.prog:=(cok_cons (g70Ok m) cok_nil)
theorem g28l0Ok(m:Nat)(α:Type)(st:St)(k:KEx α)(r:α)(h:(g28h m).loop 0 st k=some r):
  LoopS Tryz.prog 0 (bodyAt Tryz.f28 0) st k r:=
 lpk (F:=fun n ls k=>g28l0K (fun a b c d e i j l o q s t=>g28l0 (g70 m) a b c d e i j l o q n s t) ls k) (g28Calls m) (lb0 (by kernel_rfl))
  (fun _ _=>rfl) (fun n ls k=>g28l0Step (g70 m) (g28l0M m) (fun a b c d e i j l o q=>g28l0 (g70 m) a b c d e i j l o q n) ls k) (n:=m) h
theorem g28Ok(m:Nat):RowOk Tryz.prog 28 (fun{α}=>g28R (g28 m (α:=α))):=
 rwk (g28Calls m) (lo1 (by kernel_rfl) (g28l0Ok m))
  (fun _=>g28Main (g70 m) (g28l0M m))
abbrev S_g94(α:Type):Type:=Int→Int→Int→(Bool→Option α)→Option α
def g94b{α:Type}(a b c:Int)(d:Bool→Option α):Option α:=cond (decide (a≥b)) (d (decide (a≤c))) (d false)
def g94{α:Type}(m:Nat):S_g94 α:=
 g94b
def g94tp:List TP:=[tI,tI,tI]
def g94bp:List BP:=[]
def g94K{α:Type}(G:S_g94 α)(ls:List Lf)(k:KRe α):Option α:=
 G (lf ls 0).int (lf ls 1).int (lf ls 2).int
  (fun a=>k (.vl (.sv (.bool a))) [] [])
def g94R{α:Type}(G:S_g94 α):=rowK g94tp g94bp (g94K G)
def g94hd:Hd where
 call:=fun f args Bs k=>none
 loop:=fun id st k=>none
 ro:=fun f=>[]
def g94h(m:Nat):Hd:=g94hd
theorem g94Main{α:Type}(ls:List Lf)(k:KRe α):
  g94K (g94b) ls k=evFun tab (g94hd) Tryz.f94 (fT g94tp ls) (fB g94tp g94bp ls) k:=by kernel_rfl
theorem g94Calls(m:Nat):(g94h m).CallsOk Tryz.prog:=cok_nil
theorem g94Ok(m:Nat):RowOk Tryz.prog 94 (fun{α}=>g94R (g94 m (α:=α))):=
 rwk (g94Calls m) (lo0 (by kernel_rfl))
  (fun _=>g94Main)
abbrev S_g90(α:Type):Type:=Int→(Bool→Option α)→Option α
def g90b{α:Type}(a:Int)(b:Bool→Option α):Option α:=cond (a==(6:Int)) (b true) (cond (a==(7:Int)) (b true) (b (a==(10:Int))))
def g90{α:Type}(m:Nat):S_g90 α:=
 g90b
def g90tp:List TP:=[(.vl (.sv (.int .i8)))]
def g90bp:List BP:=[]
def g90K{α:Type}(G:S_g90 α)(ls:List Lf)(k:KRe α):Option α:=
 G (lf ls 0).int
  (fun a=>k (.vl (.sv (.bool a))) [] [])
def g90R{α:Type}(G:S_g90 α):=rowK g90tp g90bp (g90K G)
def g90hd:Hd where
 call:=fun f args Bs k=>none
 loop:=fun id st k=>none
 ro:=fun f=>[]
def g90h(m:Nat):Hd:=g90hd
theorem g90Main{α:Type}(ls:List Lf)(k:KRe α):
  g90K (g90b) ls k=evFun tab (g90hd) Tryz.f90 (fT g90tp ls) (fB g90tp g90bp ls) k:=by kernel_rfl
theorem g90Calls(m:Nat):(g90h m).CallsOk Tryz.prog:=cok_nil
theorem g90Ok(m:Nat):RowOk Tryz.prog 90 (fun{α}=>g90R (g90 m (α:=α))):=
 rwk (g90Calls m) (lo0 (by kernel_rfl))
  (fun _=>g90Main)
abbrev S_g74(α:Type):Type:=Int→(Bool→Option α)→Option α
def g74b{α:Type}(a:Int)(b:Bool→Option α):Option α:=cond (decide (a≥(2:Int))) (cond (decide (a≤(5:Int))) (b true) (cond (a==(8:Int)) (b true) (b (a==(9:Int))))) (cond (a==(8:Int)) (b true) (b (a==(9:Int))))
def g74{α:Type}(m:Nat):S_g74 α:=
 g74b
def g74tp:List TP:=[(.vl (.sv (.int .i8)))]
def g74bp:List BP:=[]
def g74K{α:Type}(G:S_g74 α)(ls:List Lf)(k:KRe α):Option α:=
 G (lf ls 0).int
  (fun a=>k (.vl (.sv (.bool a))) [] [])
def g74R{α:Type}(G:S_g74 α):=rowK g74tp g74bp (g74K G)
def g74hd:Hd where
 call:=fun f args Bs k=>none
 loop:=fun id st k=>none
 ro:=fun f=>[]
def g74h(m:Nat):Hd:=g74hd
theorem g74Main{α:Type}(ls:List Lf)(k:KRe α):
  g74K (g74b) ls k=evFun tab (g74hd) Tryz.f74 (fT g74tp ls) (fB g74tp g74bp ls) k:=by kernel_rfl
theorem g74Calls(m:Nat):(g74h m).CallsOk Tryz.prog:=cok_nil
theorem g74Ok(m:Nat):RowOk Tryz.prog 74 (fun{α}=>g74R (g74 m (α:=α))):=
 rwk (g74Calls m) (lo0 (by kernel_rfl))
  (fun _=>g74Main)
abbrev S_g95(α:Type):Type:=Nat→Int→Nat→Ty0→(Bool→Option α)→Option α
def g95b{α:Type}(G90:Al S_g90)(G94:Al S_g94)(G74:Al S_g74)(a:Nat)(b:Int)(c:Nat)(d:Ty0)(e:Bool→Option α):Option α:=if a<c then cond (decide (((List.getD d a []).headD 0)<(1:Int))) (e false) (if a<c then cond (decide (((List.getD d a []).headD 0)>(12:Int))) (e false) (if a<c then G90 ((List.getD d a []).headD 0) (fun h=>cond h (if a<c then G94 (IntKind.wrap .i64 (((List.getD d a []).tail).headD 0)) (0:Int) (IntKind.wrap .i64 (b-(1:Int))) (fun i=>cond (!i) (e false) (if a<c then cond ((((List.getD d a []).tail.tail.tail).headD 0) !=(0:Int)) (e false) (if a<c then cond ((((List.getD d a []).tail.tail.tail.tail).headD 0) !=(0:Int)) (e false) (if a<c then G74 ((List.getD d a []).headD 0) (fun j=>cond j (if a<c then G94 (IntKind.wrap .i64 (((List.getD d a []).tail.tail).headD 0)) (0:Int) (IntKind.wrap .i64 (b-(1:Int))) (fun l=>e l) else none) (if a<c then e ((((List.getD d a []).tail.tail).headD 0)==(0:Int)) else none)) else none) else none) else none)) else none) (if a<c then G74 ((List.getD d a []).headD 0) (fun n=>cond n (if a<c then G94 (IntKind.wrap .i64 (((List.getD d a []).tail).headD 0)) (0:Int) (IntKind.wrap .i64 (b-(1:Int))) (fun o=>cond (!o) (e false) (if a<c then cond ((((List.getD d a []).tail.tail.tail).headD 0) !=(0:Int)) (e false) (if a<c then cond ((((List.getD d a []).tail.tail.tail.tail).headD 0) !=(0:Int)) (e false) (if a<c then G74 ((List.getD d a []).headD 0) (fun p=>cond p (if a<c then G94 (IntKind.wrap .i64 (((List.getD d a []).tail.tail).headD 0)) (0:Int) (IntKind.wrap .i64 (b-(1:Int))) (fun q=>e q) else none) (if a<c then e ((((List.getD d a []).tail.tail).headD 0)==(0:Int)) else none)) else none) else none) else none)) else none) (if a<c then cond ((((List.getD d a []).tail).headD 0) !=(0:Int)) (e false) (if a<c then cond ((((List.getD d a []).tail.tail).headD 0) !=(0:Int)) (e false) (if a<c then cond (((List.getD d a []).headD 0)==(1:Int)) (if a<c then G94 (((List.getD d a []).tail.tail.tail).headD 0) (-1000000000:Int) (1000000000:Int) (fun r=>cond r (if a<c then G94 (((List.getD d a []).tail.tail.tail.tail).headD 0) (1:Int) (1000000000:Int) (fun s=>e s) else none) (e false)) else none) (if a<c then cond ((((List.getD d a []).tail.tail.tail).headD 0)==(0:Int)) (if a<c then e ((((List.getD d a []).tail.tail.tail.tail).headD 0)==(0:Int)) else none) (e false) else none) else none) else none) else none)) else none)) else none) else none) else none
def g95{α:Type}(m:Nat):S_g95 α:=
 g95b (g90 m) (g94 m) (g74 m)
def g95tp:List TP:=[(.vl (.sv (.el 0 0 5 0))),tI]
def g95bp:List BP:=[(false,[(.seqv rN)])]
def g95K{α:Type}(G:S_g95 α)(ls:List Lf)(k:KRe α):Option α:=
 G (lf ls 0).nat (lf ls 1).int (lf ls 2).nat ((lf ls 3).lst rN)
  (fun a=>k (.vl (.sv (.bool a))) [[(.seq rN (lf ls 2).nat ((lf ls 3).lst rN))]] [])
def g95R{α:Type}(G:S_g95 α):=rowK g95tp g95bp (g95K G)
def g95hd(G90:Al S_g90)(G94:Al S_g94)(G74:Al S_g74):Hd where
 call:=fun f args Bs k=>cond (Nat.beq f 90) (g90R G90 args Bs k) (cond (Nat.beq f 94) (g94R G94 args Bs k) (cond (Nat.beq f 74) (g74R G74 args Bs k) (none)))
 loop:=fun id st k=>none
 ro:=fun f=>[]
def g95h(m:Nat):Hd:=g95hd (g90 m) (g94 m) (g74 m)
theorem g95Main(G90:Al S_g90)(G94:Al S_g94)(G74:Al S_g74){α:Type}(ls:List Lf)(k:KRe α):
  g95K (g95b G90 G94 G74) ls k=evFun tab (g95hd G90 G94 G74) Tryz.f95 (fT g95tp ls) (fB g95tp g95bp ls) k:=by kernel_rfl
theorem g95Calls(m:Nat):(g95h m).CallsOk Tryz.prog:=(cok_cons (g90Ok m) (cok_cons (g94Ok m) (cok_cons (g74Ok m) cok_nil)))
theorem g95Ok(m:Nat):RowOk Tryz.prog 95 (fun{α}=>g95R (g95 m (α:=α))):=
 rwk (g95Calls m) (lo0 (by kernel_rfl))
  (fun _=>g95Main (g90 m) (g94 m) (g74 m))
abbrev S_g57(α:Type):Type:=Nat→Nat→Nat→Nat→Ty0→(Bool→Option α)→Option α
abbrev S_g57l0(α:Type):Type:=Nat→Nat→Nat→Nat→Ty0→(Option α)→(Option α)→Int→Option α
def g57l0b{α:Type}(G95:Al S_g95)(a b:Nat)(c d:Nat)(e:Ty0)(h i:Option α)(j:Int→Option α)(l:Int):Option α:=cond (decide (l<((b:Nat):Int))) (if 0≤l∧l<(b:Nat) then G95 (a+l.toNat) l d e (fun n=>cond (!n) (h) (j (IntKind.wrap .i64 (l+(1:Int))))) else none) (i)
def g57l0{α:Type}(G95:Al S_g95)(a b:Nat)(c d:Nat)(e:Ty0)(h i:Option α):Nat→Int→Option α
 |0=>fun _=>none
 |m+1=>fun j=>g57l0b G95 a b c d e h i (g57l0 G95 a b c d e h i m) j
def g57l0M{α:Type}(m:Nat):S_g57l0 α:=
 fun a b c d e h i j=>g57l0 (g95 m) a b c d e h i m j
def g57l0D:LoopD:={n:=20,low:=[0],sl:=[0,3],bl:=[0],tp:=[(.vl (.sv (.slc 0 0 5))),tI],bp:=[(false,[(.seqv rN)])],xs:=[(1,[2]),(2,[])]}
def g57l0K{α:Type}(L:S_g57l0 α)(ls:List Lf)(k:KEx α):Option α:=
 L (lf ls 0).nat (lf ls 1).nat (lf ls 2).nat (lf ls 4).nat ((lf ls 5).lst rN)
  (k .ret (mkSt 20 [2] [(.vl (.sv (.bool false)))] [0] [(false,[(.seq rN (lf ls 4).nat ((lf ls 5).lst rN))])]))
  (k .normal (mkSt 20 [] [] [0] [(false,[(.seq rN (lf ls 4).nat ((lf ls 5).lst rN))])]))
  (lf ls 3).int
def g57b{α:Type}(G94:Al S_g94)(G95:Al S_g95)(L57l0:Al S_g57l0)(a b:Nat)(c d:Nat)(e:Ty0)(h:Bool→Option α):Option α:=G94 ((b:Nat):Int) (1:Int) (40:Int) (fun i=>cond (!i) (h false) (L57l0 a b c d e (h false) (h true) (0:Int)))
def g57{α:Type}(m:Nat):S_g57 α:=
 g57b (g94 m) (g95 m) (g57l0M m)
def g57tp:List TP:=[(.vl (.sv (.slc 0 0 5)))]
def g57bp:List BP:=[(false,[(.seqv rN)])]
def g57K{α:Type}(G:S_g57 α)(ls:List Lf)(k:KRe α):Option α:=
 G (lf ls 0).nat (lf ls 1).nat (lf ls 2).nat (lf ls 3).nat ((lf ls 4).lst rN)
  (fun a=>k (.vl (.sv (.bool a))) [[(.seq rN (lf ls 3).nat ((lf ls 4).lst rN))]] [])
def g57R{α:Type}(G:S_g57 α):=rowK g57tp g57bp (g57K G)
def g57hd(G94:Al S_g94)(G95:Al S_g95)(L57l0:Al S_g57l0):Hd where
 call:=fun f args Bs k=>cond (Nat.beq f 94) (g94R G94 args Bs k) (cond (Nat.beq f 95) (g95R G95 args Bs k) (none))
 loop:=fun id st k=>cond (Nat.beq id 0) (loopH g57l0D (g57l0K L57l0) st k) (none)
 ro:=fun f=>cond (Nat.beq f 95) [0] ([])
def g57h(m:Nat):Hd:=g57hd (g94 m) (g95 m) (g57l0M m)
theorem g57l0Step(G94:Al S_g94)(G95:Al S_g95)(L57l0:Al S_g57l0){α:Type}(L:S_g57l0 α)(ls:List Lf)(k:KEx α):
  g57l0K (fun a b c d e h i j=>g57l0b G95 a b c d e h i (L a b c d e h i) j) ls k=ev tab (g57hd G94 G95 L57l0) (bodyAt Tryz.f57 0) (atHead g57l0D ls) (loopK g57l0D 0 (loopH g57l0D (g57l0K L)) k):=by kernel_rfl
theorem g57Main(G94:Al S_g94)(G95:Al S_g95)(L57l0:Al S_g57l0){α:Type}(ls:List Lf)(k:KRe α):
  g57K (g57b G94 G95 L57l0) ls k=evFun tab (g57hd G94 G95 L57l0) Tryz.f57 (fT g57tp ls) (fB g57tp g57bp ls) k:=by kernel_rfl
theorem g57Calls(m:Nat):(g57h m).CallsOk Tryz.prog:=(cok_cons (g94Ok m) (cok_cons (g95Ok m) cok_nil))
theorem g57l0Ok(m:Nat)(α:Type)(st:St)(k:KEx α)(r:α)(h:(g57h m).loop 0 st k=some r):
  LoopS Tryz.prog 0 (bodyAt Tryz.f57 0) st k r:=
 lpk (F:=fun n ls k=>g57l0K (fun a b c d e i j l=>g57l0 (g95 m) a b c d e i j n l) ls k) (g57Calls m) (lb0 (by kernel_rfl))
  (fun _ _=>rfl) (fun n ls k=>g57l0Step (g94 m) (g95 m) (g57l0M m) (fun a b c d e i j=>g57l0 (g95 m) a b c d e i j n) ls k) (n:=m) h
theorem g57Ok(m:Nat):RowOk Tryz.prog 57 (fun{α}=>g57R (g57 m (α:=α))):=
 rwk (g57Calls m) (lo1 (by kernel_rfl) (g57l0Ok m))
  (fun _=>g57Main (g94 m) (g95 m) (g57l0M m))
abbrev S_g85(α:Type):Type:=Nat→Nat→Nat→Int→Nat→Ty0→(Bool→Option α)→Option α
def g85b{α:Type}(G94:Al S_g94)(a b c:Nat)(d:Int)(e:Nat)(h:Ty0)(i:Bool→Option α):Option α:=G94 d (0:Int) (IntKind.wrap .i64 (((b:Nat):Int)-(1:Int))) (fun j=>i j)
def g85{α:Type}(m:Nat):S_g85 α:=
 g85b (g94 m)
def g85tp:List TP:=[(.vl (.sv (.slc 0 0 5))),tI]
def g85bp:List BP:=[(false,[(.seqv rN)])]
def g85K{α:Type}(G:S_g85 α)(ls:List Lf)(k:KRe α):Option α:=
 G (lf ls 0).nat (lf ls 1).nat (lf ls 2).nat (lf ls 3).int (lf ls 4).nat ((lf ls 5).lst rN)
  (fun a=>k (.vl (.sv (.bool a))) [[(.seq rN (lf ls 4).nat ((lf ls 5).lst rN))]] [])
def g85R{α:Type}(G:S_g85 α):=rowK g85tp g85bp (g85K G)
def g85hd(G94:Al S_g94):Hd where
 call:=fun f args Bs k=>cond (Nat.beq f 94) (g94R G94 args Bs k) (none)
 loop:=fun id st k=>none
 ro:=fun f=>[]
def g85h(m:Nat):Hd:=g85hd (g94 m)
theorem g85Main(G94:Al S_g94){α:Type}(ls:List Lf)(k:KRe α):
  g85K (g85b G94) ls k=evFun tab (g85hd G94) Tryz.f85 (fT g85tp ls) (fB g85tp g85bp ls) k:=by kernel_rfl
theorem g85Calls(m:Nat):(g85h m).CallsOk Tryz.prog:=(cok_cons (g94Ok m) cok_nil)
theorem g85Ok(m:Nat):RowOk Tryz.prog 85 (fun{α}=>g85R (g85 m (α:=α))):=
 rwk (g85Calls m) (lo0 (by kernel_rfl))
  (fun _=>g85Main (g94 m))
abbrev S_g86(α:Type):Type:=Int→(Bool→Option α)→Option α
def g86b{α:Type}(G94:Al S_g94)(a:Int)(b:Bool→Option α):Option α:=G94 a (0:Int) (64:Int) (fun c=>b c)
def g86{α:Type}(m:Nat):S_g86 α:=
 g86b (g94 m)
def g86tp:List TP:=[tI]
def g86bp:List BP:=[]
def g86K{α:Type}(G:S_g86 α)(ls:List Lf)(k:KRe α):Option α:=
 G (lf ls 0).int
  (fun a=>k (.vl (.sv (.bool a))) [] [])
def g86R{α:Type}(G:S_g86 α):=rowK g86tp g86bp (g86K G)
def g86hd(G94:Al S_g94):Hd where
 call:=fun f args Bs k=>cond (Nat.beq f 94) (g94R G94 args Bs k) (none)
 loop:=fun id st k=>none
 ro:=fun f=>[]
def g86h(m:Nat):Hd:=g86hd (g94 m)
theorem g86Main(G94:Al S_g94){α:Type}(ls:List Lf)(k:KRe α):
  g86K (g86b G94) ls k=evFun tab (g86hd G94) Tryz.f86 (fT g86tp ls) (fB g86tp g86bp ls) k:=by kernel_rfl
theorem g86Calls(m:Nat):(g86h m).CallsOk Tryz.prog:=(cok_cons (g94Ok m) cok_nil)
theorem g86Ok(m:Nat):RowOk Tryz.prog 86 (fun{α}=>g86R (g86 m (α:=α))):=
 rwk (g86Calls m) (lo0 (by kernel_rfl))
  (fun _=>g86Main (g94 m))
abbrev S_g43(α:Type):Type:=Nat→Nat→Nat→Int→Int→Nat→Ty0→(Int→Option α)→Option α
def g43b{α:Type}(G57:Al S_g57)(G85:Al S_g85)(G86:Al S_g86)(a b c:Nat)(d e:Int)(h:Nat)(i:Ty0)(j:Int→Option α):Option α:=G57 a b c h i (fun l=>cond (!l) (j (1:Int)) (G85 a b c d h i (fun n=>cond (!n) (j (2:Int)) (G86 e (fun o=>cond (!o) (j (2:Int)) (j (0:Int)))))))
def g43{α:Type}(m:Nat):S_g43 α:=
 g43b (g57 m) (g85 m) (g86 m)
def g43tp:List TP:=[(.vl (.sv (.slc 0 0 5))),tI,tI]
def g43bp:List BP:=[(false,[(.seqv rN)])]
def g43K{α:Type}(G:S_g43 α)(ls:List Lf)(k:KRe α):Option α:=
 G (lf ls 0).nat (lf ls 1).nat (lf ls 2).nat (lf ls 3).int (lf ls 4).int (lf ls 5).nat ((lf ls 6).lst rN)
  (fun a=>k (.vl (.sv (.int .i64 a))) [[(.seq rN (lf ls 5).nat ((lf ls 6).lst rN))]] [])
def g43R{α:Type}(G:S_g43 α):=rowK g43tp g43bp (g43K G)
def g43hd(G57:Al S_g57)(G85:Al S_g85)(G86:Al S_g86):Hd where
 call:=fun f args Bs k=>cond (Nat.beq f 57) (g57R G57 args Bs k) (cond (Nat.beq f 85) (g85R G85 args Bs k) (cond (Nat.beq f 86) (g86R G86 args Bs k) (none)))
 loop:=fun id st k=>none
 ro:=fun f=>cond (Nat.beq f 57) [0] (cond (Nat.beq f 85) [0] ([]))
def g43h(m:Nat):Hd:=g43hd (g57 m) (g85 m) (g86 m)
theorem g43Main(G57:Al S_g57)(G85:Al S_g85)(G86:Al S_g86){α:Type}(ls:List Lf)(k:KRe α):
  g43K (g43b G57 G85 G86) ls k=evFun tab (g43hd G57 G85 G86) Tryz.f43 (fT g43tp ls) (fB g43tp g43bp ls) k:=by kernel_rfl
theorem g43Calls(m:Nat):(g43h m).CallsOk Tryz.prog:=(cok_cons (g57Ok m) (cok_cons (g85Ok m) (cok_cons (g86Ok m) cok_nil)))
theorem g43Ok(m:Nat):RowOk Tryz.prog 43 (fun{α}=>g43R (g43 m (α:=α))):=
 rwk (g43Calls m) (lo0 (by kernel_rfl))
  (fun _=>g43Main (g57 m) (g85 m) (g86 m))
abbrev S_g44(α:Type):Type:=Nat→Nat→Nat→Nat→Ty0→(Ty1→Ty0→Option α)→Option α
def g44b{α:Type}(a b:Nat)(c d:Nat)(e:Ty0)(h:Ty1→Ty0→Option α):Option α:=if((b:Nat):Int)=((b:Nat):Int)∧0≤((b:Nat):Int)∧((b:Nat):Int)≤1048576 then h (List.replicate b []) [] else none
def g44{α:Type}(m:Nat):S_g44 α:=
 g44b
def g44tp:List TP:=[(.vl (.sv (.slc 0 0 5)))]
def g44bp:List BP:=[(false,[(.seqv rN)])]
def g44K{α:Type}(G:S_g44 α)(ls:List Lf)(k:KRe α):Option α:=
 G (lf ls 0).nat (lf ls 1).nat (lf ls 2).nat (lf ls 3).nat ((lf ls 4).lst rN)
  (fun c d=>k (.vl (.sv (.ptr 1 0))) [[(.seq rN (lf ls 3).nat ((lf ls 4).lst rN))]] [[(.one (.slc 0 0 5 (lf ls 0).nat (lf ls 1).nat (lf ls 2).nat)),(.one (.slc 2 0 1 0 (lf ls 1).nat (lf ls 1).nat)),(.one (.gsl 3 2))],[(.rws mK c none)],[(.gro rP d)]])
def g44R{α:Type}(G:S_g44 α):=rowK g44tp g44bp (g44K G)
def g44hd:Hd where
 call:=fun f args Bs k=>none
 loop:=fun id st k=>none
 ro:=fun f=>[]
def g44h(m:Nat):Hd:=g44hd
theorem g44Main{α:Type}(ls:List Lf)(k:KRe α):
  g44K (g44b) ls k=evFun tab (g44hd) Tryz.f44 (fT g44tp ls) (fB g44tp g44bp ls) k:=by kernel_rfl
theorem g44Calls(m:Nat):(g44h m).CallsOk Tryz.prog:=cok_nil
theorem g44Ok(m:Nat):RowOk Tryz.prog 44 (fun{α}=>g44R (g44 m (α:=α))):=
 rwk (g44Calls m) (lo0 (by kernel_rfl))
  (fun _=>g44Main)
abbrev S_g157(α:Type):Type:=(List Int)→(Bool→Option α)→Option α
def g157b{α:Type}(a:List Int)(b:Bool→Option α):Option α:=b (eqLI a [0,0,0,0,0,0])
def g157{α:Type}(m:Nat):S_g157 α:=
 g157b
def g157tp:List TP:=[(.vl (.sv (.ptr 0 0)))]
def g157bp:List BP:=[(false,[(.seq uU 6)])]
def g157K{α:Type}(G:S_g157 α)(ls:List Lf)(k:KRe α):Option α:=
 G ((lf ls 0).lst uU)
  (fun a=>k (.vl (.sv (.bool a))) [[(.seq uU 6 ((lf ls 0).lst uU))]] [])
def g157R{α:Type}(G:S_g157 α):=rowK g157tp g157bp (g157K G)
def g157hd:Hd where
 call:=fun f args Bs k=>none
 loop:=fun id st k=>none
 ro:=fun f=>[]
def g157h(m:Nat):Hd:=g157hd
theorem g157Main{α:Type}(ls:List Lf)(k:KRe α):
  g157K (g157b) ls k=evFun tab (g157hd) Tryz.f157 (fT g157tp ls) (fB g157tp g157bp ls) k:=by kernel_rfl
theorem g157Calls(m:Nat):(g157h m).CallsOk Tryz.prog:=cok_nil
theorem g157Ok(m:Nat):RowOk Tryz.prog 157 (fun{α}=>g157R (g157 m (α:=α))):=
 rwk (g157Calls m) (lo0 (by kernel_rfl))
  (fun _=>g157Main)
abbrev S_g150(α:Type):Type:=Bool→(List Int)→(Bool→Option α)→Option α
def g150b{α:Type}(G157:Al S_g157)(a:Bool)(b:List Int)(c:Bool→Option α):Option α:=cond a (G157 b (fun d=>c (!d))) (c false)
def g150{α:Type}(m:Nat):S_g150 α:=
 g150b (g157 m)
def g150tp:List TP:=[(.vl (.sv .bool)),(.vl (.agg [(.seq uU 6)]))]
def g150bp:List BP:=[]
def g150K{α:Type}(G:S_g150 α)(ls:List Lf)(k:KRe α):Option α:=
 G (lf ls 0).bool ((lf ls 1).lst uU)
  (fun a=>k (.vl (.agg [(.one (.bool a)),(.seq uU 6 ((lf ls 1).lst uU))])) [] [])
def g150R{α:Type}(G:S_g150 α):=rowK g150tp g150bp (g150K G)
def g150hd(G157:Al S_g157):Hd where
 call:=fun f args Bs k=>cond (Nat.beq f 157) (g157R G157 args Bs k) (none)
 loop:=fun id st k=>none
 ro:=fun f=>cond (Nat.beq f 157) [0] ([])
def g150h(m:Nat):Hd:=g150hd (g157 m)
theorem g150Main(G157:Al S_g157){α:Type}(ls:List Lf)(k:KRe α):
  g150K (g150b G157) ls k=evFun tab (g150hd G157) Tryz.f150 (fT g150tp ls) (fB g150tp g150bp ls) k:=by kernel_rfl
theorem g150Calls(m:Nat):(g150h m).CallsOk Tryz.prog:=(cok_cons (g157Ok m) cok_nil)
theorem g150Ok(m:Nat):RowOk Tryz.prog 150 (fun{α}=>g150R (g150 m (α:=α))):=
 rwk (g150Calls m) (lo0 (by kernel_rfl))
  (fun _=>g150Main (g157 m))
abbrev S_g109(α:Type):Type:=Int→(Bool→(List Int)→Option α)→Option α
def g109b{α:Type}(G150:Al S_g150)(a:Int)(b:Bool→(List Int)→Option α):Option α:=let c:Int:=IntKind.wrap .u64 a;cond (decide (a<(0:Int))) (let d:Int:=IntKind.wrap .u64 (0-c);let e:List Int:=List.set (List.set [0,0,0,0,0,0] 0 (IntKind.wrap .u32 d)) 1 (IntKind.wrap .u32 (Int.fdiv d (2^32)));G150 (decide (a<(0:Int))) e (fun h=>b h e)) (let i:List Int:=List.set (List.set [0,0,0,0,0,0] 0 (IntKind.wrap .u32 c)) 1 (IntKind.wrap .u32 (Int.fdiv c (2^32)));G150 (decide (a<(0:Int))) i (fun j=>b j i))
def g109{α:Type}(m:Nat):S_g109 α:=
 g109b (g150 m)
def g109tp:List TP:=[tI]
def g109bp:List BP:=[]
def g109K{α:Type}(G:S_g109 α)(ls:List Lf)(k:KRe α):Option α:=
 G (lf ls 0).int
  (fun a b=>k (.vl (.agg [(.one (.bool a)),(.seq uU 6 b)])) [] [])
def g109R{α:Type}(G:S_g109 α):=rowK g109tp g109bp (g109K G)
def g109hd(G150:Al S_g150):Hd where
 call:=fun f args Bs k=>cond (Nat.beq f 150) (g150R G150 args Bs k) (none)
 loop:=fun id st k=>none
 ro:=fun f=>[]
def g109h(m:Nat):Hd:=g109hd (g150 m)
theorem g109Main(G150:Al S_g150){α:Type}(ls:List Lf)(k:KRe α):
  g109K (g109b G150) ls k=evFun tab (g109hd G150) Tryz.f109 (fT g109tp ls) (fB g109tp g109bp ls) k:=by kernel_rfl
theorem g109Calls(m:Nat):(g109h m).CallsOk Tryz.prog:=(cok_cons (g150Ok m) cok_nil)
theorem g109Ok(m:Nat):RowOk Tryz.prog 109 (fun{α}=>g109R (g109 m (α:=α))):=
 rwk (g109Calls m) (lo0 (by kernel_rfl))
  (fun _=>g109Main (g150 m))
abbrev S_g115(α:Type):Type:=(List Int)→(Int→Option α)→Option α
abbrev S_g115l2(α:Type):Type:=Int→(List Int)→(Int→Option α)→Int→Int→Option α
def g115l2b{α:Type}(a:Int)(b:List Int)(c:Int→Option α)(d:Int→Int→Option α)(e h:Int):Option α:=cond (decide (h>(0:Int))) (d (IntKind.wrap .i64 (e+(1:Int))) (Int.fdiv h (2^1))) (c e)
def g115l2{α:Type}(a:Int)(b:List Int)(c:Int→Option α):Nat→Int→Int→Option α
 |0=>fun _ _=>none
 |m+1=>fun d e=>g115l2b a b c (g115l2 a b c m) d e
def g115l2M{α:Type}(m:Nat):S_g115l2 α:=
 fun a b c d e=>g115l2 a b c m d e
def g115l2D:LoopD:={n:=31,low:=[0],sl:=[3,4,5],bl:=[0],tp:=[tI,tI,(.vl (.sv (.int .u32)))],bp:=[(false,[(.seq uU 6)])],xs:=[(4,[3,4])]}
def g115l2K{α:Type}(L:S_g115l2 α)(ls:List Lf)(k:KEx α):Option α:=
 L (lf ls 0).int ((lf ls 3).lst uU)
  (fun a=>k .normal (mkSt 31 [3,4] [(.vl (.sv (.int .i64 (lf ls 0).int))),(.vl (.sv (.int .i64 a)))] [0] [(false,[(.seq uU 6 ((lf ls 3).lst uU))])]))
  (lf ls 1).int (lf ls 2).int
abbrev S_g115l0(α:Type):Type:=(List Int)→(Int→Option α)→(Option α)→Int→Option α
def g115l0b{α:Type}(L115l2:Al S_g115l2)(a:List Int)(b:Int→Option α)(c:Option α)(d:Int→Option α)(e:Int):Option α:=cond (decide (e≥(0:Int))) (if 0≤e∧e<(6:Nat) then if e.toNat<6 then cond ((List.getD a e.toNat 0)==(0:Int)) (d (IntKind.wrap .i64 (e-(1:Int)))) (if 0≤e∧e<(6:Nat) then if e.toNat<6 then L115l2 e a (fun h=>b (IntKind.wrap .i64 ((IntKind.wrap .i64 ((32:Int)*e))+h))) (0:Int) (List.getD a e.toNat 0) else none else none) else none else none) (c)
def g115l0{α:Type}(L115l2:Al S_g115l2)(a:List Int)(b:Int→Option α)(c:Option α):Nat→Int→Option α
 |0=>fun _=>none
 |m+1=>fun d=>g115l0b L115l2 a b c (g115l0 L115l2 a b c m) d
def g115l0M{α:Type}(m:Nat):S_g115l0 α:=
 fun a b c d=>g115l0 (g115l2M m) a b c m d
def g115l0D:LoopD:={n:=31,low:=[0],sl:=[0,3],bl:=[0],tp:=[(.vl (.sv (.ptr 0 0))),tI],bp:=[(false,[(.seq uU 6)])],xs:=[(1,[2]),(2,[])]}
def g115l0K{α:Type}(L:S_g115l0 α)(ls:List Lf)(k:KEx α):Option α:=
 L ((lf ls 1).lst uU)
  (fun a=>k .ret (mkSt 31 [2] [(.vl (.sv (.int .i64 a)))] [0] [(false,[(.seq uU 6 ((lf ls 1).lst uU))])]))
  (k .normal (mkSt 31 [] [] [0] [(false,[(.seq uU 6 ((lf ls 1).lst uU))])]))
  (lf ls 0).int
def g115b{α:Type}(L115l2:Al S_g115l2)(L115l0:Al S_g115l0)(a:List Int)(b:Int→Option α):Option α:=L115l0 a (fun c=>b c) (b (0:Int)) (5:Int)
def g115{α:Type}(m:Nat):S_g115 α:=
 g115b (g115l2M m) (g115l0M m)
def g115tp:List TP:=[(.vl (.sv (.ptr 0 0)))]
def g115bp:List BP:=[(false,[(.seq uU 6)])]
def g115K{α:Type}(G:S_g115 α)(ls:List Lf)(k:KRe α):Option α:=
 G ((lf ls 0).lst uU)
  (fun a=>k (.vl (.sv (.int .i64 a))) [[(.seq uU 6 ((lf ls 0).lst uU))]] [])
def g115R{α:Type}(G:S_g115 α):=rowK g115tp g115bp (g115K G)
def g115hd(L115l2:Al S_g115l2)(L115l0:Al S_g115l0):Hd where
 call:=fun f args Bs k=>none
 loop:=fun id st k=>cond (Nat.beq id 2) (loopH g115l2D (g115l2K L115l2) st k) (cond (Nat.beq id 0) (loopH g115l0D (g115l0K L115l0) st k) (none))
 ro:=fun f=>[]
def g115h(m:Nat):Hd:=g115hd (g115l2M m) (g115l0M m)
theorem g115l2Step(L115l2:Al S_g115l2)(L115l0:Al S_g115l0){α:Type}(L:S_g115l2 α)(ls:List Lf)(k:KEx α):
  g115l2K (fun a b c d e=>g115l2b a b c (L a b c) d e) ls k=ev tab (g115hd L115l2 L115l0) (bodyAt Tryz.f115 2) (atHead g115l2D ls) (loopK g115l2D 2 (loopH g115l2D (g115l2K L)) k):=by kernel_rfl
theorem g115l0Step(L115l2:Al S_g115l2)(L115l0:Al S_g115l0){α:Type}(L:S_g115l0 α)(ls:List Lf)(k:KEx α):
  g115l0K (fun a b c d=>g115l0b L115l2 a b c (L a b c) d) ls k=ev tab (g115hd L115l2 L115l0) (bodyAt Tryz.f115 0) (atHead g115l0D ls) (loopK g115l0D 0 (loopH g115l0D (g115l0K L)) k):=by kernel_rfl
theorem g115Main(L115l2:Al S_g115l2)(L115l0:Al S_g115l0){α:Type}(ls:List Lf)(k:KRe α):
  g115K (g115b L115l2 L115l0) ls k=evFun tab (g115hd L115l2 L115l0) Tryz.f115 (fT g115tp ls) (fB g115tp g115bp ls) k:=by kernel_rfl
theorem g115Calls(m:Nat):(g115h m).CallsOk Tryz.prog:=cok_nil
theorem g115l2Ok(m:Nat)(α:Type)(st:St)(k:KEx α)(r:α)(h:(g115h m).loop 2 st k=some r):
  LoopS Tryz.prog 2 (bodyAt Tryz.f115 2) st k r:=
 lpk (F:=fun n ls k=>g115l2K (fun a b c d e=>g115l2 a b c n d e) ls k) (g115Calls m) (lb0 (by kernel_rfl))
  (fun _ _=>rfl) (fun n ls k=>g115l2Step (g115l2M m) (g115l0M m) (fun a b c=>g115l2 a b c n) ls k) (n:=m) h
theorem g115l0Ok(m:Nat)(α:Type)(st:St)(k:KEx α)(r:α)(h:(g115h m).loop 0 st k=some r):
  LoopS Tryz.prog 0 (bodyAt Tryz.f115 0) st k r:=
 lpk (F:=fun n ls k=>g115l0K (fun a b c d=>g115l0 (g115l2M m) a b c n d) ls k) (g115Calls m) (loopsOk_of _ (fun p hp=>by
  rw[show loopsOf (bodyAt Tryz.f115 0)=[(2,bodyAt Tryz.f115 2)] by kernel_rfl] at hp
  simp only[List.mem_cons,List.not_mem_nil,or_false] at hp
  rcases hp with rfl
  exact g115l2Ok m))
  (fun _ _=>rfl) (fun n ls k=>g115l0Step (g115l2M m) (g115l0M m) (fun a b c=>g115l0 (g115l2M m) a b c n) ls k) (n:=m) h
theorem g115Ok(m:Nat):RowOk Tryz.prog 115 (fun{α}=>g115R (g115 m (α:=α))):=
 rwk (g115Calls m) (lo1 (by kernel_rfl) (g115l0Ok m))
  (fun _=>g115Main (g115l2M m) (g115l0M m))
abbrev S_g152(α:Type):Type:=Int→(List Int)→((List Int)→Bool→Option α)→Option α
abbrev S_g152l0(α:Type):Type:=Int→(List Int)→(List Int)→((List Int)→Option α)→Int→(List Int)→Option α
def g152l0b{α:Type}(a:Int)(b c:List Int)(d:(List Int)→Option α)(e:Int→(List Int)→Option α)(h:Int)(i:List Int):Option α:=cond (decide (h<(6:Int))) (let j:Int:=IntKind.wrap .i64 (h+(IntKind.wrap .i64 (Int.tdiv a (32:Int))));cond (decide (j≥(6:Int))) (d i) (if 0≤h∧h<(6:Nat) then if h.toNat<6 then let l:Int:=IntKind.wrap .u64 (Int.tmod a (32:Int));if l<0 then none else let n:Int:=IntKind.wrap .u64 ((IntKind.wrap .u64 (List.getD b h.toNat 0))*2^(min l.toNat 64));if 0≤j∧j<(6:Nat) then if j.toNat<6 then if 0≤j∧j<(6:Nat) then if j.toNat<6 then let o:List Int:=List.set i (j.toNat) (ibits .or .u32 (List.getD i j.toNat 0) (IntKind.wrap .u32 n));cond (decide ((IntKind.wrap .i64 (j+(1:Int)))<(6:Int))) (let p:Int:=IntKind.wrap .i64 (j+(1:Int));if 0≤p∧p<(6:Nat) then if p.toNat<6 then if 0≤p∧p<(6:Nat) then if p.toNat<6 then e (IntKind.wrap .i64 (h+(1:Int))) (List.set o (p.toNat) (ibits .or .u32 (List.getD o p.toNat 0) (IntKind.wrap .u32 (Int.fdiv n (2^32))))) else none else none else none else none) (e (IntKind.wrap .i64 (h+(1:Int))) o) else none else none else none else none else none else none)) (d i)
def g152l0{α:Type}(a:Int)(b c:List Int)(d:(List Int)→Option α):Nat→Int→(List Int)→Option α
 |0=>fun _ _=>none
 |m+1=>fun e h=>g152l0b a b c d (g152l0 a b c d m) e h
def g152l0M{α:Type}(m:Nat):S_g152l0 α:=
 fun a b c d e h=>g152l0 a b c d m e h
def g152l0D:LoopD:={n:=62,low:=[0],sl:=[0,1,4,6,7],bl:=[0,1000001,1000002],tp:=[(.vl (.sv (.ptr 0 0))),tI,(.vl (.sv (.ptr 1000001 0))),(.vl (.sv (.ptr 1000002 0))),tI],bp:=[(false,[(.seq uU 6)]),b6,b6],xs:=[(2,[4,6])]}
def g152l0K{α:Type}(L:S_g152l0 α)(ls:List Lf)(k:KEx α):Option α:=
 L (lf ls 0).int ((lf ls 2).lst uU) ((lf ls 3).lst uU)
  (fun a=>k .normal (mkSt 62 [4,6] [(.vl (.sv (.ptr 1000001 0))),(.vl (.sv (.ptr 1000002 0)))] [0,1000001,1000002] [(false,[(.seq uU 6 ((lf ls 2).lst uU))]),(true,[(.seq uU 6 ((lf ls 3).lst uU))]),(true,[(.seq uU 6 a)])]))
  (lf ls 1).int ((lf ls 4).lst uU)
def g152b{α:Type}(G115:Al S_g115)(G157:Al S_g157)(L152l0:Al S_g152l0)(a:Int)(b:List Int)(c:(List Int)→Bool→Option α):Option α:=G115 b (fun d=>cond (decide ((IntKind.wrap .i64 (d+a))>(192:Int))) (G157 b (fun e=>cond (!e) (c [0,0,0,0,0,0] false) (L152l0 a b [0,0,0,0,0,0] (fun h=>c h true) (0:Int) [0,0,0,0,0,0]))) (L152l0 a b [0,0,0,0,0,0] (fun i=>c i true) (0:Int) [0,0,0,0,0,0]))
def g152{α:Type}(m:Nat):S_g152 α:=
 g152b (g115 m) (g157 m) (g152l0M m)
def g152tp:List TP:=[(.vl (.sv (.ptr 0 0))),tI]
def g152bp:List BP:=[(false,[(.seq uU 6)])]
def g152K{α:Type}(G:S_g152 α)(ls:List Lf)(k:KRe α):Option α:=
 G (lf ls 0).int ((lf ls 1).lst uU)
  (fun a b=>k (.tup [(.agg [(.seq uU 6 a)]),(.sv (.bool b))]) [[(.seq uU 6 ((lf ls 1).lst uU))]] [])
def g152R{α:Type}(G:S_g152 α):=rowK g152tp g152bp (g152K G)
def g152hd(G115:Al S_g115)(G157:Al S_g157)(L152l0:Al S_g152l0):Hd where
 call:=fun f args Bs k=>cond (Nat.beq f 115) (g115R G115 args Bs k) (cond (Nat.beq f 157) (g157R G157 args Bs k) (none))
 loop:=fun id st k=>cond (Nat.beq id 0) (loopH g152l0D (g152l0K L152l0) st k) (none)
 ro:=fun f=>cond (Nat.beq f 115) [0] (cond (Nat.beq f 157) [0] ([]))
def g152h(m:Nat):Hd:=g152hd (g115 m) (g157 m) (g152l0M m)
theorem g152l0Step(G115:Al S_g115)(G157:Al S_g157)(L152l0:Al S_g152l0){α:Type}(L:S_g152l0 α)(ls:List Lf)(k:KEx α):
  g152l0K (fun a b c d e h=>g152l0b a b c d (L a b c d) e h) ls k=ev tab (g152hd G115 G157 L152l0) (bodyAt Tryz.f152 0) (atHead g152l0D ls) (loopK g152l0D 0 (loopH g152l0D (g152l0K L)) k):=by kernel_rfl
theorem g152Main(G115:Al S_g115)(G157:Al S_g157)(L152l0:Al S_g152l0){α:Type}(ls:List Lf)(k:KRe α):
  g152K (g152b G115 G157 L152l0) ls k=evFun tab (g152hd G115 G157 L152l0) Tryz.f152 (fT g152tp ls) (fB g152tp g152bp ls) k:=by kernel_rfl
theorem g152Calls(m:Nat):(g152h m).CallsOk Tryz.prog:=(cok_cons (g115Ok m) (cok_cons (g157Ok m) cok_nil))
theorem g152l0Ok(m:Nat)(α:Type)(st:St)(k:KEx α)(r:α)(h:(g152h m).loop 0 st k=some r):
  LoopS Tryz.prog 0 (bodyAt Tryz.f152 0) st k r:=
 lpk (F:=fun n ls k=>g152l0K (fun a b c d e i=>g152l0 a b c d n e i) ls k) (g152Calls m) (lb0 (by kernel_rfl))
  (fun _ _=>rfl) (fun n ls k=>g152l0Step (g115 m) (g157 m) (g152l0M m) (fun a b c d=>g152l0 a b c d n) ls k) (n:=m) h
theorem g152Ok(m:Nat):RowOk Tryz.prog 152 (fun{α}=>g152R (g152 m (α:=α))):=
 rwk (g152Calls m) (lo1 (by kernel_rfl) (g152l0Ok m))
  (fun _=>g152Main (g115 m) (g157 m) (g152l0M m))
abbrev S_g116(α:Type):Type:=Bool→(List Int)→Int→(Bool→(List Int)→Int→Option α)→Option α
def g116b{α:Type}(G152:Al S_g152)(G150:Al S_g150)(a:Bool)(b:List Int)(c:Int)(d:Bool→(List Int)→Int→Option α):Option α:=G152 c b (fun e h=>cond (!h) (d false [0,0,0,0,0,0] (3:Int)) (G150 a e (fun i=>d i e (0:Int))))
def g116{α:Type}(m:Nat):S_g116 α:=
 g116b (g152 m) (g150 m)
def g116tp:List TP:=[vW,tI]
def g116bp:List BP:=[]
def g116K{α:Type}(G:S_g116 α)(ls:List Lf)(k:KRe α):Option α:=
 G (lf ls 0).bool ((lf ls 1).lst uU) (lf ls 2).int
  (fun a b c=>k (.tup [(.agg [(.one (.bool a)),(.seq uU 6 b)]),(.sv (.int .i64 c))]) [] [])
def g116R{α:Type}(G:S_g116 α):=rowK g116tp g116bp (g116K G)
def g116hd(G152:Al S_g152)(G150:Al S_g150):Hd where
 call:=fun f args Bs k=>cond (Nat.beq f 152) (g152R G152 args Bs k) (cond (Nat.beq f 150) (g150R G150 args Bs k) (none))
 loop:=fun id st k=>none
 ro:=fun f=>cond (Nat.beq f 152) [0] ([])
def g116h(m:Nat):Hd:=g116hd (g152 m) (g150 m)
theorem g116Main(G152:Al S_g152)(G150:Al S_g150){α:Type}(ls:List Lf)(k:KRe α):
  g116K (g116b G152 G150) ls k=evFun tab (g116hd G152 G150) Tryz.f116 (fT g116tp ls) (fB g116tp g116bp ls) k:=by kernel_rfl
theorem g116Calls(m:Nat):(g116h m).CallsOk Tryz.prog:=(cok_cons (g152Ok m) (cok_cons (g150Ok m) cok_nil))
theorem g116Ok(m:Nat):RowOk Tryz.prog 116 (fun{α}=>g116R (g116 m (α:=α))):=
 rwk (g116Calls m) (lo0 (by kernel_rfl))
  (fun _=>g116Main (g152 m) (g150 m))
abbrev S_g126(α:Type):Type:=Bool→(List Int)→Int→(Bool→(List Int)→Int→Option α)→Option α
def g126b{α:Type}(G116:Al S_g116)(a:Bool)(b:List Int)(c:Int)(d:Bool→(List Int)→Int→Option α):Option α:=cond (decide (c>(191:Int))) (d false [0,0,0,0,0,0] (3:Int)) (G116 a b c (fun e h i=>d e h i))
def g126{α:Type}(m:Nat):S_g126 α:=
 g126b (g116 m)
def g126tp:List TP:=[vW,tI]
def g126bp:List BP:=[]
def g126K{α:Type}(G:S_g126 α)(ls:List Lf)(k:KRe α):Option α:=
 G (lf ls 0).bool ((lf ls 1).lst uU) (lf ls 2).int
  (fun a b c=>k (.tup [(.agg [(.one (.bool a)),(.seq uU 6 b)]),(.sv (.int .i64 c))]) [] [])
def g126R{α:Type}(G:S_g126 α):=rowK g126tp g126bp (g126K G)
def g126hd(G116:Al S_g116):Hd where
 call:=fun f args Bs k=>cond (Nat.beq f 116) (g116R G116 args Bs k) (none)
 loop:=fun id st k=>none
 ro:=fun f=>[]
def g126h(m:Nat):Hd:=g126hd (g116 m)
theorem g126Main(G116:Al S_g116){α:Type}(ls:List Lf)(k:KRe α):
  g126K (g126b G116) ls k=evFun tab (g126hd G116) Tryz.f126 (fT g126tp ls) (fB g126tp g126bp ls) k:=by kernel_rfl
theorem g126Calls(m:Nat):(g126h m).CallsOk Tryz.prog:=(cok_cons (g116Ok m) cok_nil)
theorem g126Ok(m:Nat):RowOk Tryz.prog 126 (fun{α}=>g126R (g126 m (α:=α))):=
 rwk (g126Calls m) (lo0 (by kernel_rfl))
  (fun _=>g126Main (g116 m))
end Go.Proofs.YtlmmgjngihlpeaaGreatDoor.Sx
