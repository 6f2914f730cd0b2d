/- Functions. Printed by our own sx.py. -/
import Derived.Test.YtlmmgjngihlpeaaGreatSxV0
namespace Go.Proofs.YtlmmgjngihlpeaaGreat.Sx
open Go
set_option linter.unusedVariables false
set_option maxRecDepth 100000
abbrev S_g111(α:Type):Type:=(List Int)→(List Int)→(Int→Option α)→Option α
abbrev S_g111l0(α:Type):Type:=(List Int)→(List Int)→(Int→Option α)→(Option α)→Int→Option α
def g111l0b{α:Type}(a b:List Int)(c:Int→Option α)(d:Option α)(e:Int→Option α)(h:Int):Option α:=cond (decide (h≥(0:Int))) (if 0≤h∧h<(6:Nat) then if h.toNat<6 then if 0≤h∧h<(6:Nat) then if h.toNat<6 then cond (decide ((List.getD a h.toNat 0)<(List.getD b h.toNat 0))) (c (-1:Int)) (if 0≤h∧h<(6:Nat) then if h.toNat<6 then if 0≤h∧h<(6:Nat) then if h.toNat<6 then cond (decide ((List.getD a h.toNat 0)>(List.getD b h.toNat 0))) (c (1:Int)) (e (IntKind.wrap .i64 (h-(1:Int)))) else none else none else none else none) else none else none else none else none) (d)
def g111l0{α:Type}(a b:List Int)(c:Int→Option α)(d:Option α):Nat→Int→Option α
 |0=>fun _=>none
 |m+1=>fun e=>g111l0b a b c d (g111l0 a b c d m) e
def g111l0M{α:Type}(m:Nat):S_g111l0 α:=
 fun a b c d e=>g111l0 a b c d m e
def g111l0D:LoopD:={n:=32,low:=[0,1],sl:=[0,1,5],bl:=[0,1],tp:=[(.vl (.sv (.ptr 0 0))),(.vl (.sv (.ptr 1 0))),tI],bp:=[(false,[(.seq uU 6)]),(false,[(.seq uU 6)])],xs:=[(1,[4]),(2,[])]}
def g111l0K{α:Type}(L:S_g111l0 α)(ls:List Lf)(k:KEx α):Option α:=
 L ((lf ls 1).lst uU) ((lf ls 2).lst uU)
  (fun a=>k .ret (mkSt 32 [4] [(.vl (.sv (.int .i64 a)))] [0,1] [(false,[(.seq uU 6 ((lf ls 1).lst uU))]),(false,[(.seq uU 6 ((lf ls 2).lst uU))])]))
  (k .normal (mkSt 32 [] [] [0,1] [(false,[(.seq uU 6 ((lf ls 1).lst uU))]),(false,[(.seq uU 6 ((lf ls 2).lst uU))])]))
  (lf ls 0).int
def g111b{α:Type}(L111l0:Al S_g111l0)(a b:List Int)(c:Int→Option α):Option α:=L111l0 a b (fun d=>c d) (c (0:Int)) (5:Int)
def g111{α:Type}(m:Nat):S_g111 α:=
 g111b (g111l0M m)
def g111tp:List TP:=[(.vl (.sv (.ptr 0 0))),(.vl (.sv (.ptr 1 0)))]
def g111bp:List BP:=[(false,[(.seq uU 6)]),(false,[(.seq uU 6)])]
def g111K{α:Type}(G:S_g111 α)(ls:List Lf)(k:KRe α):Option α:=
 G ((lf ls 0).lst uU) ((lf ls 1).lst uU)
  (fun a=>k (.vl (.sv (.int .i64 a))) [[(.seq uU 6 ((lf ls 0).lst uU))],[(.seq uU 6 ((lf ls 1).lst uU))]] [])
def g111R{α:Type}(G:S_g111 α):=rowK g111tp g111bp (g111K G)
def g111hd(L111l0:Al S_g111l0):Hd where
 call:=fun f args Bs k=>none
 loop:=fun id st k=>cond (Nat.beq id 0) (loopH g111l0D (g111l0K L111l0) st k) (none)
 ro:=fun f=>[]
def g111h(m:Nat):Hd:=g111hd (g111l0M m)
theorem g111l0Step(L111l0:Al S_g111l0){α:Type}(L:S_g111l0 α)(ls:List Lf)(k:KEx α):
  g111l0K (fun a b c d e=>g111l0b a b c d (L a b c d) e) ls k=ev tab (g111hd L111l0) (bodyAt Tryz.f111 0) (atHead g111l0D ls) (loopK g111l0D 0 (loopH g111l0D (g111l0K L)) k):=by kernel_rfl
theorem g111Main(L111l0:Al S_g111l0){α:Type}(ls:List Lf)(k:KRe α):
  g111K (g111b L111l0) ls k=evFun tab (g111hd L111l0) Tryz.f111 (fT g111tp ls) (fB g111tp g111bp ls) k:=by kernel_rfl
theorem g111Calls(m:Nat):(g111h m).CallsOk Tryz.prog:=cok_nil
theorem g111l0Ok(m:Nat)(α:Type)(st:St)(k:KEx α)(r:α)(h:(g111h m).loop 0 st k=some r):
  LoopS Tryz.prog 0 (bodyAt Tryz.f111 0) st k r:=
 lpk (F:=fun n ls k=>g111l0K (fun a b c d e=>g111l0 a b c d n e) ls k) (g111Calls m) (lb0 (by kernel_rfl))
  (fun _ _=>rfl) (fun n ls k=>g111l0Step (g111l0M m) (fun a b c d=>g111l0 a b c d n) ls k) (n:=m) h
theorem g111Ok(m:Nat):RowOk Tryz.prog 111 (fun{α}=>g111R (g111 m (α:=α))):=
 rwk (g111Calls m) (lo1 (by kernel_rfl) (g111l0Ok m))
  (fun _=>g111Main (g111l0M m))
abbrev S_g128(α:Type):Type:=(List Int)→(List Int)→((List Int)→(List Int)→Option α)→Option α
abbrev S_g128l2(α:Type):Type:=Int→Int→(List Int)→(List Int)→(List Int)→(List Int)→(List Int)→((List Int)→Option α)→Int→(List Int)→Option α
def g128l2b{α:Type}(a b:Int)(c d:List Int)(e h i:List Int)(j:(List Int)→Option α)(l:Int→(List Int)→Option α)(n:Int)(o:List Int):Option α:=cond (decide (n>(0:Int))) (if 0≤n∧n<(6:Nat) then if n.toNat<6 then let p:Int:=IntKind.wrap .i64 (n-(1:Int));if 0≤p∧p<(6:Nat) then if p.toNat<6 then if 0≤n∧n<(6:Nat) then if n.toNat<6 then l (IntKind.wrap .i64 (n-(1:Int))) (List.set o (n.toNat) (ibits .or .u32 (IntKind.wrap .u32 ((List.getD o n.toNat 0)*2^1)) (Int.fdiv (List.getD o p.toNat 0) (2^31)))) else none else none else none else none else none else none) (j o)
def g128l2{α:Type}(a b:Int)(c d:List Int)(e h i:List Int)(j:(List Int)→Option α):Nat→Int→(List Int)→Option α
 |0=>fun _ _=>none
 |m+1=>fun l n=>g128l2b a b c d e h i j (g128l2 a b c d e h i j m) l n
def g128l2M{α:Type}(m:Nat):S_g128l2 α:=
 fun a b c d e h i j l n=>g128l2 a b c d e h i j m l n
def g128l2D:LoopD:={n:=76,low:=[0,1],sl:=[0,1,4,5,6,7,8,9,10],bl:=[0,1,1000002,1000003,1000004,1000005],tp:=[(.vl (.sv (.ptr 0 0))),(.vl (.sv (.ptr 1 0))),(.vl (.sv (.ptr 1000002 0))),(.vl (.sv (.ptr 1000003 0))),(.vl (.sv (.ptr 1000004 0))),(.vl (.sv (.ptr 1000005 0))),tI,(.vl (.sv (.int .u32))),tI],bp:=[(false,[(.seq uU 6)]),(false,[(.seq uU 6)]),b6,b6,b6,b6],xs:=[(4,[0,1,4,5,6,7,8,9])]}
def g128l2K{α:Type}(L:S_g128l2 α)(ls:List Lf)(k:KEx α):Option α:=
 L (lf ls 0).int (lf ls 1).int ((lf ls 3).lst uU) ((lf ls 4).lst uU) ((lf ls 5).lst uU) ((lf ls 6).lst uU) ((lf ls 7).lst uU)
  (fun a=>k .normal (mkSt 76 [0,1,4,5,6,7,8,9] [(.vl (.sv (.ptr 0 0))),(.vl (.sv (.ptr 1 0))),(.vl (.sv (.ptr 1000002 0))),(.vl (.sv (.ptr 1000003 0))),(.vl (.sv (.ptr 1000004 0))),(.vl (.sv (.ptr 1000005 0))),(.vl (.sv (.int .i64 (lf ls 0).int))),(.vl (.sv (.int .u32 (lf ls 1).int)))] [0,1,1000002,1000003,1000004,1000005] [(false,[(.seq uU 6 ((lf ls 3).lst uU))]),(false,[(.seq uU 6 ((lf ls 4).lst uU))]),(true,[(.seq uU 6 ((lf ls 5).lst uU))]),(true,[(.seq uU 6 ((lf ls 6).lst uU))]),(true,[(.seq uU 6 ((lf ls 7).lst uU))]),(true,[(.seq uU 6 a)])]))
  (lf ls 2).int ((lf ls 8).lst uU)
abbrev S_g128l0(α:Type):Type:=(List Int)→(List Int)→(List Int)→(List Int)→((List Int)→(List Int)→Option α)→Int→(List Int)→(List Int)→Option α
def g128l0b{α:Type}(G108:Al S_g108)(G111:Al S_g111)(L128l2:Al S_g128l2)(a b:List Int)(c d:List Int)(e:(List Int)→(List Int)→Option α)(h:Int→(List Int)→(List Int)→Option α)(i:Int)(j l:List Int):Option α:=cond (decide (i≥(0:Int))) (let n:Int:=Int.fdiv (List.getD l 5 0) (2^31);L128l2 i n a b c d j (fun o=>let p:Int:=IntKind.wrap .i64 (Int.tdiv i (32:Int));if 0≤p∧p<(6:Nat) then if p.toNat<6 then let q:Int:=IntKind.wrap .u64 (Int.tmod i (32:Int));if q<0 then none else let r:List Int:=List.set o 0 (ibits .or .u32 (IntKind.wrap .u32 ((List.getD o 0 0)*2^1)) (ibits .and .u32 (Int.fdiv (List.getD a p.toNat 0) (2^(min q.toNat 32))) (1:Int)));cond (n==(1:Int)) (G108 r b (fun s=>let t:Int:=IntKind.wrap .i64 (Int.tdiv i (32:Int));if 0≤t∧t<(6:Nat) then if t.toNat<6 then let u:Int:=IntKind.wrap .u64 (Int.tmod i (32:Int));if u<0 then none else if 0≤t∧t<(6:Nat) then if t.toNat<6 then h (IntKind.wrap .i64 (i-(1:Int))) (List.set j (t.toNat) (ibits .or .u32 (List.getD j t.toNat 0) (IntKind.wrap .u32 ((1:Int)*2^(min u.toNat 32))))) s else none else none else none else none)) (G111 r b (fun v=>cond (decide (v≥(0:Int))) (G108 r b (fun w=>let x:Int:=IntKind.wrap .i64 (Int.tdiv i (32:Int));if 0≤x∧x<(6:Nat) then if x.toNat<6 then let y:Int:=IntKind.wrap .u64 (Int.tmod i (32:Int));if y<0 then none else if 0≤x∧x<(6:Nat) then if x.toNat<6 then h (IntKind.wrap .i64 (i-(1:Int))) (List.set j (x.toNat) (ibits .or .u32 (List.getD j x.toNat 0) (IntKind.wrap .u32 ((1:Int)*2^(min y.toNat 32))))) w else none else none else none else none)) (h (IntKind.wrap .i64 (i-(1:Int))) j r))) else none else none) (5:Int) l) (e j l)
def g128l0{α:Type}(G108:Al S_g108)(G111:Al S_g111)(L128l2:Al S_g128l2)(a b:List Int)(c d:List Int)(e:(List Int)→(List Int)→Option α):Nat→Int→(List Int)→(List Int)→Option α
 |0=>fun _ _ _=>none
 |m+1=>fun h i j=>g128l0b G108 G111 L128l2 a b c d e (g128l0 G108 G111 L128l2 a b c d e m) h i j
def g128l0M{α:Type}(m:Nat):S_g128l0 α:=
 fun a b c d e h i j=>g128l0 (g108 m) (g111 m) (g128l2M m) a b c d e m h i j
def g128l0D:LoopD:={n:=76,low:=[0,1],sl:=[0,1,4,5,6,7,8],bl:=[0,1,1000002,1000003,1000004,1000005],tp:=[(.vl (.sv (.ptr 0 0))),(.vl (.sv (.ptr 1 0))),(.vl (.sv (.ptr 1000002 0))),(.vl (.sv (.ptr 1000003 0))),(.vl (.sv (.ptr 1000004 0))),(.vl (.sv (.ptr 1000005 0))),tI],bp:=[(false,[(.seq uU 6)]),(false,[(.seq uU 6)]),b6,b6,b6,b6],xs:=[(2,[4,5,6,7])]}
def g128l0K{α:Type}(L:S_g128l0 α)(ls:List Lf)(k:KEx α):Option α:=
 L ((lf ls 1).lst uU) ((lf ls 2).lst uU) ((lf ls 3).lst uU) ((lf ls 4).lst uU)
  (fun a b=>k .normal (mkSt 76 [4,5,6,7] [(.vl (.sv (.ptr 1000002 0))),(.vl (.sv (.ptr 1000003 0))),(.vl (.sv (.ptr 1000004 0))),(.vl (.sv (.ptr 1000005 0)))] [0,1,1000002,1000003,1000004,1000005] [(false,[(.seq uU 6 ((lf ls 1).lst uU))]),(false,[(.seq uU 6 ((lf ls 2).lst uU))]),(true,[(.seq uU 6 ((lf ls 3).lst uU))]),(true,[(.seq uU 6 ((lf ls 4).lst uU))]),(true,[(.seq uU 6 a)]),(true,[(.seq uU 6 b)])]))
  (lf ls 0).int ((lf ls 5).lst uU) ((lf ls 6).lst uU)
def g128b{α:Type}(G122:Al S_g122)(G108:Al S_g108)(G111:Al S_g111)(L128l2:Al S_g128l2)(L128l0:Al S_g128l0)(a b:List Int)(c:(List Int)→(List Int)→Option α):Option α:=G122 a (fun d=>L128l0 a b [0,0,0,0,0,0] [0,0,0,0,0,0] (fun e h=>c e h) (IntKind.wrap .i64 (d-(1:Int))) [0,0,0,0,0,0] [0,0,0,0,0,0])
def g128{α:Type}(m:Nat):S_g128 α:=
 g128b (g122 m) (g108 m) (g111 m) (g128l2M m) (g128l0M m)
def g128tp:List TP:=[(.vl (.sv (.ptr 0 0))),(.vl (.sv (.ptr 1 0)))]
def g128bp:List BP:=[(false,[(.seq uU 6)]),(false,[(.seq uU 6)])]
def g128K{α:Type}(G:S_g128 α)(ls:List Lf)(k:KRe α):Option α:=
 G ((lf ls 0).lst uU) ((lf ls 1).lst uU)
  (fun a b=>k (.tup [(.agg [(.seq uU 6 a)]),(.agg [(.seq uU 6 b)])]) [[(.seq uU 6 ((lf ls 0).lst uU))],[(.seq uU 6 ((lf ls 1).lst uU))]] [])
def g128R{α:Type}(G:S_g128 α):=rowK g128tp g128bp (g128K G)
def g128hd(G122:Al S_g122)(G108:Al S_g108)(G111:Al S_g111)(L128l2:Al S_g128l2)(L128l0:Al S_g128l0):Hd where
 call:=fun f args Bs k=>cond (Nat.beq f 122) (g122R G122 args Bs k) (cond (Nat.beq f 108) (g108R G108 args Bs k) (cond (Nat.beq f 111) (g111R G111 args Bs k) (none)))
 loop:=fun id st k=>cond (Nat.beq id 2) (loopH g128l2D (g128l2K L128l2) st k) (cond (Nat.beq id 0) (loopH g128l0D (g128l0K L128l0) st k) (none))
 ro:=fun f=>cond (Nat.beq f 108) [0,1] (cond (Nat.beq f 111) [0,1] (cond (Nat.beq f 122) [0] ([])))
def g128h(m:Nat):Hd:=g128hd (g122 m) (g108 m) (g111 m) (g128l2M m) (g128l0M m)
theorem g128l2Step(G122:Al S_g122)(G108:Al S_g108)(G111:Al S_g111)(L128l2:Al S_g128l2)(L128l0:Al S_g128l0){α:Type}(L:S_g128l2 α)(ls:List Lf)(k:KEx α):
  g128l2K (fun a b c d e h i j l n=>g128l2b a b c d e h i j (L a b c d e h i j) l n) ls k=ev tab (g128hd G122 G108 G111 L128l2 L128l0) (bodyAt Tryz.f128 2) (atHead g128l2D ls) (loopK g128l2D 2 (loopH g128l2D (g128l2K L)) k):=by kernel_rfl
theorem g128l0Step(G122:Al S_g122)(G108:Al S_g108)(G111:Al S_g111)(L128l2:Al S_g128l2)(L128l0:Al S_g128l0){α:Type}(L:S_g128l0 α)(ls:List Lf)(k:KEx α):
  g128l0K (fun a b c d e h i j=>g128l0b G108 G111 L128l2 a b c d e (L a b c d e) h i j) ls k=ev tab (g128hd G122 G108 G111 L128l2 L128l0) (bodyAt Tryz.f128 0) (atHead g128l0D ls) (loopK g128l0D 0 (loopH g128l0D (g128l0K L)) k):=by kernel_rfl
theorem g128Main(G122:Al S_g122)(G108:Al S_g108)(G111:Al S_g111)(L128l2:Al S_g128l2)(L128l0:Al S_g128l0){α:Type}(ls:List Lf)(k:KRe α):
  g128K (g128b G122 G108 G111 L128l2 L128l0) ls k=evFun tab (g128hd G122 G108 G111 L128l2 L128l0) Tryz.f128 (fT g128tp ls) (fB g128tp g128bp ls) k:=by kernel_rfl
theorem g128Calls(m:Nat):(g128h m).CallsOk Tryz.prog:=(cok_cons (g122Ok m) (cok_cons (g108Ok m) (cok_cons (g111Ok m) cok_nil)))
theorem g128l2Ok(m:Nat)(α:Type)(st:St)(k:KEx α)(r:α)(h:(g128h m).loop 2 st k=some r):
  LoopS Tryz.prog 2 (bodyAt Tryz.f128 2) st k r:=
 lpk (F:=fun n ls k=>g128l2K (fun a b c d e i j l o q=>g128l2 a b c d e i j l n o q) ls k) (g128Calls m) (lb0 (by kernel_rfl))
  (fun _ _=>rfl) (fun n ls k=>g128l2Step (g122 m) (g108 m) (g111 m) (g128l2M m) (g128l0M m) (fun a b c d e i j l=>g128l2 a b c d e i j l n) ls k) (n:=m) h
theorem g128l0Ok(m:Nat)(α:Type)(st:St)(k:KEx α)(r:α)(h:(g128h m).loop 0 st k=some r):
  LoopS Tryz.prog 0 (bodyAt Tryz.f128 0) st k r:=
 lpk (F:=fun n ls k=>g128l0K (fun a b c d e i j l=>g128l0 (g108 m) (g111 m) (g128l2M m) a b c d e n i j l) ls k) (g128Calls m) (loopsOk_of _ (fun p hp=>by
  rw[show loopsOf (bodyAt Tryz.f128 0)=[(2,bodyAt Tryz.f128 2)] by kernel_rfl] at hp
  simp only[List.mem_cons,List.not_mem_nil,or_false] at hp
  rcases hp with rfl
  exact g128l2Ok m))
  (fun _ _=>rfl) (fun n ls k=>g128l0Step (g122 m) (g108 m) (g111 m) (g128l2M m) (g128l0M m) (fun a b c d e=>g128l0 (g108 m) (g111 m) (g128l2M m) a b c d e n) ls k) (n:=m) h
theorem g128Ok(m:Nat):RowOk Tryz.prog 128 (fun{α}=>g128R (g128 m (α:=α))):=
 rwk (g128Calls m) (lo1 (by kernel_rfl) (g128l0Ok m))
  (fun _=>g128Main (g122 m) (g108 m) (g111 m) (g128l2M m) (g128l0M m))
abbrev S_g109(α:Type):Type:=(List Int)→(List Int)→((List Int)→Bool→Option α)→Option α
abbrev S_g109l0(α:Type):Type:=(List Int)→(List Int)→(List Int)→(Int→(List Int)→Option α)→Int→Int→(List Int)→Option α
def g109l0b{α:Type}(a b c:List Int)(d:Int→(List Int)→Option α)(e:Int→Int→(List Int)→Option α)(h i:Int)(j:List Int):Option α:=cond (decide (i<(6:Int))) (if 0≤i∧i<(6:Nat) then if i.toNat<6 then if 0≤i∧i<(6:Nat) then if i.toNat<6 then let l:Int:=IntKind.wrap .u64 ((IntKind.wrap .u64 ((IntKind.wrap .u64 (List.getD a i.toNat 0))+(IntKind.wrap .u64 (List.getD b i.toNat 0))))+h);if 0≤i∧i<(6:Nat) then if i.toNat<6 then e (Int.fdiv l (2^32)) (IntKind.wrap .i64 (i+(1:Int))) (List.set j (i.toNat) (IntKind.wrap .u32 l)) else none else none else none else none else none else none) (d h j)
def g109l0{α:Type}(a b c:List Int)(d:Int→(List Int)→Option α):Nat→Int→Int→(List Int)→Option α
 |0=>fun _ _ _=>none
 |m+1=>fun e h i=>g109l0b a b c d (g109l0 a b c d m) e h i
def g109l0M{α:Type}(m:Nat):S_g109l0 α:=
 fun a b c d e h i=>g109l0 a b c d m e h i
def g109l0D:LoopD:={n:=39,low:=[0,1],sl:=[0,1,4,6,7,8],bl:=[0,1,1000002,1000003],tp:=[(.vl (.sv (.ptr 0 0))),(.vl (.sv (.ptr 1 0))),(.vl (.sv (.ptr 1000002 0))),(.vl (.sv (.ptr 1000003 0))),(.vl (.sv (.int .u64))),tI],bp:=[(false,[(.seq uU 6)]),(false,[(.seq uU 6)]),b6,b6],xs:=[(2,[4,6,7])]}
def g109l0K{α:Type}(L:S_g109l0 α)(ls:List Lf)(k:KEx α):Option α:=
 L ((lf ls 2).lst uU) ((lf ls 3).lst uU) ((lf ls 4).lst uU)
  (fun a b=>k .normal (mkSt 39 [4,6,7] [(.vl (.sv (.ptr 1000002 0))),(.vl (.sv (.ptr 1000003 0))),(.vl (.sv (.int .u64 a)))] [0,1,1000002,1000003] [(false,[(.seq uU 6 ((lf ls 2).lst uU))]),(false,[(.seq uU 6 ((lf ls 3).lst uU))]),(true,[(.seq uU 6 ((lf ls 4).lst uU))]),(true,[(.seq uU 6 b)])]))
  (lf ls 0).int (lf ls 1).int ((lf ls 5).lst uU)
def g109b{α:Type}(L109l0:Al S_g109l0)(a b:List Int)(c:(List Int)→Bool→Option α):Option α:=L109l0 a b [0,0,0,0,0,0] (fun d e=>c e (d==(0:Int))) (0:Int) (0:Int) [0,0,0,0,0,0]
def g109{α:Type}(m:Nat):S_g109 α:=
 g109b (g109l0M m)
def g109tp:List TP:=[(.vl (.sv (.ptr 0 0))),(.vl (.sv (.ptr 1 0)))]
def g109bp:List BP:=[(false,[(.seq uU 6)]),(false,[(.seq uU 6)])]
def g109K{α:Type}(G:S_g109 α)(ls:List Lf)(k:KRe α):Option α:=
 G ((lf ls 0).lst uU) ((lf ls 1).lst uU)
  (fun a b=>k (.tup [(.agg [(.seq uU 6 a)]),(.sv (.bool b))]) [[(.seq uU 6 ((lf ls 0).lst uU))],[(.seq uU 6 ((lf ls 1).lst uU))]] [])
def g109R{α:Type}(G:S_g109 α):=rowK g109tp g109bp (g109K G)
def g109hd(L109l0:Al S_g109l0):Hd where
 call:=fun f args Bs k=>none
 loop:=fun id st k=>cond (Nat.beq id 0) (loopH g109l0D (g109l0K L109l0) st k) (none)
 ro:=fun f=>[]
def g109h(m:Nat):Hd:=g109hd (g109l0M m)
theorem g109l0Step(L109l0:Al S_g109l0){α:Type}(L:S_g109l0 α)(ls:List Lf)(k:KEx α):
  g109l0K (fun a b c d e h i=>g109l0b a b c d (L a b c d) e h i) ls k=ev tab (g109hd L109l0) (bodyAt Tryz.f109 0) (atHead g109l0D ls) (loopK g109l0D 0 (loopH g109l0D (g109l0K L)) k):=by kernel_rfl
theorem g109Main(L109l0:Al S_g109l0){α:Type}(ls:List Lf)(k:KRe α):
  g109K (g109b L109l0) ls k=evFun tab (g109hd L109l0) Tryz.f109 (fT g109tp ls) (fB g109tp g109bp ls) k:=by kernel_rfl
theorem g109Calls(m:Nat):(g109h m).CallsOk Tryz.prog:=cok_nil
theorem g109l0Ok(m:Nat)(α:Type)(st:St)(k:KEx α)(r:α)(h:(g109h m).loop 0 st k=some r):
  LoopS Tryz.prog 0 (bodyAt Tryz.f109 0) st k r:=
 lpk (F:=fun n ls k=>g109l0K (fun a b c d e i j=>g109l0 a b c d n e i j) ls k) (g109Calls m) (lb0 (by kernel_rfl))
  (fun _ _=>rfl) (fun n ls k=>g109l0Step (g109l0M m) (fun a b c d=>g109l0 a b c d n) ls k) (n:=m) h
theorem g109Ok(m:Nat):RowOk Tryz.prog 109 (fun{α}=>g109R (g109 m (α:=α))):=
 rwk (g109Calls m) (lo1 (by kernel_rfl) (g109l0Ok m))
  (fun _=>g109Main (g109l0M m))
abbrev S_g118(α:Type):Type:=Bool→(List Int)→Bool→(List Int)→(Bool→(List Int)→Bool→(List Int)→Option α)→Option α
def g118b{α:Type}(G128:Al S_g128)(G126:Al S_g126)(G109:Al S_g109)(G108:Al S_g108)(G110:Al S_g110)(a:Bool)(b:List Int)(c:Bool)(d:List Int)(e:Bool→(List Int)→Bool→(List Int)→Option α):Option α:=G128 b d (fun h i=>cond (!(a==c)) (G126 i (fun j=>cond (!j) (G109 h [(1:Int),0,0,0,0,0] (fun l n=>G108 d i (fun o=>G110 (!(a==c)) l (fun p=>G110 c o (fun q=>e p l q o))))) (G110 (!(a==c)) h (fun r=>G110 c i (fun s=>e r h s i))))) (G110 (!(a==c)) h (fun t=>G110 c i (fun u=>e t h u i))))
def g118{α:Type}(m:Nat):S_g118 α:=
 g118b (g128 m) (g126 m) (g109 m) (g108 m) (g110 m)
def g118tp:List TP:=[vW,vW]
def g118bp:List BP:=[]
def g118K{α:Type}(G:S_g118 α)(ls:List Lf)(k:KRe α):Option α:=
 G (lf ls 0).bool ((lf ls 1).lst uU) (lf ls 2).bool ((lf ls 3).lst uU)
  (fun a b c d=>k (.tup [(.agg [(.one (.bool a)),(.seq uU 6 b)]),(.agg [(.one (.bool c)),(.seq uU 6 d)])]) [] [])
def g118R{α:Type}(G:S_g118 α):=rowK g118tp g118bp (g118K G)
def g118hd(G128:Al S_g128)(G126:Al S_g126)(G109:Al S_g109)(G108:Al S_g108)(G110:Al S_g110):Hd where
 call:=fun f args Bs k=>cond (Nat.beq f 128) (g128R G128 args Bs k) (cond (Nat.beq f 126) (g126R G126 args Bs k) (cond (Nat.beq f 109) (g109R G109 args Bs k) (cond (Nat.beq f 108) (g108R G108 args Bs k) (cond (Nat.beq f 110) (g110R G110 args Bs k) (none)))))
 loop:=fun id st k=>none
 ro:=fun f=>cond (Nat.beq f 108) [0,1] (cond (Nat.beq f 109) [0,1] (cond (Nat.beq f 126) [0] (cond (Nat.beq f 128) [0,1] ([]))))
def g118h(m:Nat):Hd:=g118hd (g128 m) (g126 m) (g109 m) (g108 m) (g110 m)
theorem g118Main(G128:Al S_g128)(G126:Al S_g126)(G109:Al S_g109)(G108:Al S_g108)(G110:Al S_g110){α:Type}(ls:List Lf)(k:KRe α):
  g118K (g118b G128 G126 G109 G108 G110) ls k=evFun tab (g118hd G128 G126 G109 G108 G110) Tryz.f118 (fT g118tp ls) (fB g118tp g118bp ls) k:=by kernel_rfl
theorem g118Calls(m:Nat):(g118h m).CallsOk Tryz.prog:=(cok_cons (g128Ok m) (cok_cons (g126Ok m) (cok_cons (g109Ok m) (cok_cons (g108Ok m) (cok_cons (g110Ok m) cok_nil)))))
theorem g118Ok(m:Nat):RowOk Tryz.prog 118 (fun{α}=>g118R (g118 m (α:=α))):=
 rwk (g118Calls m) (lo0 (by kernel_rfl))
  (fun _=>g118Main (g128 m) (g126 m) (g109 m) (g108 m) (g110 m))
abbrev S_g78(α:Type):Type:=Bool→(List Int)→Bool→(List Int)→(Bool→(List Int)→Int→Option α)→Option α
def g78b{α:Type}(G109:Al S_g109)(G110:Al S_g110)(G111:Al S_g111)(G108:Al S_g108)(a:Bool)(b:List Int)(c:Bool)(d:List Int)(e:Bool→(List Int)→Int→Option α):Option α:=cond (a==c) (G109 b d (fun h i=>cond (!i) (e false [0,0,0,0,0,0] (3:Int)) (G110 a h (fun j=>e j h (0:Int))))) (G111 b d (fun l=>cond (decide (l≥(0:Int))) (G108 b d (fun n=>G110 a n (fun o=>e o n (0:Int)))) (G108 d b (fun p=>G110 c p (fun q=>e q p (0:Int))))))
def g78{α:Type}(m:Nat):S_g78 α:=
 g78b (g109 m) (g110 m) (g111 m) (g108 m)
def g78tp:List TP:=[vW,vW]
def g78bp:List BP:=[]
def g78K{α:Type}(G:S_g78 α)(ls:List Lf)(k:KRe α):Option α:=
 G (lf ls 0).bool ((lf ls 1).lst uU) (lf ls 2).bool ((lf ls 3).lst uU)
  (fun a b c=>k (.tup [(.agg [(.one (.bool a)),(.seq uU 6 b)]),(.sv (.int .i64 c))]) [] [])
def g78R{α:Type}(G:S_g78 α):=rowK g78tp g78bp (g78K G)
def g78hd(G109:Al S_g109)(G110:Al S_g110)(G111:Al S_g111)(G108:Al S_g108):Hd where
 call:=fun f args Bs k=>cond (Nat.beq f 109) (g109R G109 args Bs k) (cond (Nat.beq f 110) (g110R G110 args Bs k) (cond (Nat.beq f 111) (g111R G111 args Bs k) (cond (Nat.beq f 108) (g108R G108 args Bs k) (none))))
 loop:=fun id st k=>none
 ro:=fun f=>cond (Nat.beq f 108) [0,1] (cond (Nat.beq f 109) [0,1] (cond (Nat.beq f 111) [0,1] ([])))
def g78h(m:Nat):Hd:=g78hd (g109 m) (g110 m) (g111 m) (g108 m)
theorem g78Main(G109:Al S_g109)(G110:Al S_g110)(G111:Al S_g111)(G108:Al S_g108){α:Type}(ls:List Lf)(k:KRe α):
  g78K (g78b G109 G110 G111 G108) ls k=evFun tab (g78hd G109 G110 G111 G108) Tryz.f78 (fT g78tp ls) (fB g78tp g78bp ls) k:=by kernel_rfl
theorem g78Calls(m:Nat):(g78h m).CallsOk Tryz.prog:=(cok_cons (g109Ok m) (cok_cons (g110Ok m) (cok_cons (g111Ok m) (cok_cons (g108Ok m) cok_nil))))
theorem g78Ok(m:Nat):RowOk Tryz.prog 78 (fun{α}=>g78R (g78 m (α:=α))):=
 rwk (g78Calls m) (lo0 (by kernel_rfl))
  (fun _=>g78Main (g109 m) (g110 m) (g111 m) (g108 m))
abbrev S_g98(α:Type):Type:=Bool→(List Int)→Bool→(List Int)→(Bool→(List Int)→Option α)→Option α
def g98b{α:Type}(G118:Al S_g118)(G108:Al S_g108)(G111:Al S_g111)(G80:Al S_g80)(G78:Al S_g78)(a:Bool)(b:List Int)(c:Bool)(d:List Int)(e:Bool→(List Int)→Option α):Option α:=G118 a b c d (fun h i j l=>G108 d l (fun n=>G111 l n (fun o=>cond (decide (o≥(0:Int))) (G80 (1:Int) (fun p q=>G78 h i p q (fun r s t=>e r s))) (e h i))))
def g98{α:Type}(m:Nat):S_g98 α:=
 g98b (g118 m) (g108 m) (g111 m) (g80 m) (g78 m)
def g98tp:List TP:=[vW,vW]
def g98bp:List BP:=[]
def g98K{α:Type}(G:S_g98 α)(ls:List Lf)(k:KRe α):Option α:=
 G (lf ls 0).bool ((lf ls 1).lst uU) (lf ls 2).bool ((lf ls 3).lst uU)
  (fun a b=>k (.vl (.agg [(.one (.bool a)),(.seq uU 6 b)])) [] [])
def g98R{α:Type}(G:S_g98 α):=rowK g98tp g98bp (g98K G)
def g98hd(G118:Al S_g118)(G108:Al S_g108)(G111:Al S_g111)(G80:Al S_g80)(G78:Al S_g78):Hd where
 call:=fun f args Bs k=>cond (Nat.beq f 118) (g118R G118 args Bs k) (cond (Nat.beq f 108) (g108R G108 args Bs k) (cond (Nat.beq f 111) (g111R G111 args Bs k) (cond (Nat.beq f 80) (g80R G80 args Bs k) (cond (Nat.beq f 78) (g78R G78 args Bs k) (none)))))
 loop:=fun id st k=>none
 ro:=fun f=>cond (Nat.beq f 108) [0,1] (cond (Nat.beq f 111) [0,1] ([]))
def g98h(m:Nat):Hd:=g98hd (g118 m) (g108 m) (g111 m) (g80 m) (g78 m)
theorem g98Main(G118:Al S_g118)(G108:Al S_g108)(G111:Al S_g111)(G80:Al S_g80)(G78:Al S_g78){α:Type}(ls:List Lf)(k:KRe α):
  g98K (g98b G118 G108 G111 G80 G78) ls k=evFun tab (g98hd G118 G108 G111 G80 G78) Tryz.f98 (fT g98tp ls) (fB g98tp g98bp ls) k:=by kernel_rfl
theorem g98Calls(m:Nat):(g98h m).CallsOk Tryz.prog:=(cok_cons (g118Ok m) (cok_cons (g108Ok m) (cok_cons (g111Ok m) (cok_cons (g80Ok m) (cok_cons (g78Ok m) cok_nil)))))
theorem g98Ok(m:Nat):RowOk Tryz.prog 98 (fun{α}=>g98R (g98 m (α:=α))):=
 rwk (g98Calls m) (lo0 (by kernel_rfl))
  (fun _=>g98Main (g118 m) (g108 m) (g111 m) (g80 m) (g78 m))
abbrev S_g81(α:Type):Type:=Bool→(List Int)→Bool→(List Int)→(Int→Option α)→Option α
def g81b{α:Type}(G111:Al S_g111)(a:Bool)(b:List Int)(c:Bool)(d:List Int)(e:Int→Option α):Option α:=cond a (cond (!c) (e (-1:Int)) (cond (!a) (cond c (e (1:Int)) (cond a (G111 d b (fun h=>e h)) (G111 b d (fun i=>e i)))) (cond a (G111 d b (fun j=>e j)) (G111 b d (fun l=>e l))))) (cond (!a) (cond c (e (1:Int)) (cond a (G111 d b (fun n=>e n)) (G111 b d (fun o=>e o)))) (cond a (G111 d b (fun p=>e p)) (G111 b d (fun q=>e q))))
def g81{α:Type}(m:Nat):S_g81 α:=
 g81b (g111 m)
def g81tp:List TP:=[(.vl (.sv (.ptr 0 0))),(.vl (.sv (.ptr 1 0)))]
def g81bp:List BP:=[(false,[(.one .bool),(.seq uU 6)]),(false,[(.one .bool),(.seq uU 6)])]
def g81K{α:Type}(G:S_g81 α)(ls:List Lf)(k:KRe α):Option α:=
 G (lf ls 0).bool ((lf ls 1).lst uU) (lf ls 2).bool ((lf ls 3).lst uU)
  (fun a=>k (.vl (.sv (.int .i64 a))) [[(.one (.bool (lf ls 0).bool)),(.seq uU 6 ((lf ls 1).lst uU))],[(.one (.bool (lf ls 2).bool)),(.seq uU 6 ((lf ls 3).lst uU))]] [])
def g81R{α:Type}(G:S_g81 α):=rowK g81tp g81bp (g81K G)
def g81hd(G111:Al S_g111):Hd where
 call:=fun f args Bs k=>cond (Nat.beq f 111) (g111R G111 args Bs k) (none)
 loop:=fun id st k=>none
 ro:=fun f=>cond (Nat.beq f 111) [0,1] ([])
def g81h(m:Nat):Hd:=g81hd (g111 m)
theorem g81Main(G111:Al S_g111){α:Type}(ls:List Lf)(k:KRe α):
  g81K (g81b G111) ls k=evFun tab (g81hd G111) Tryz.f81 (fT g81tp ls) (fB g81tp g81bp ls) k:=by kernel_rfl
theorem g81Calls(m:Nat):(g81h m).CallsOk Tryz.prog:=(cok_cons (g111Ok m) cok_nil)
theorem g81Ok(m:Nat):RowOk Tryz.prog 81 (fun{α}=>g81R (g81 m (α:=α))):=
 rwk (g81Calls m) (lo0 (by kernel_rfl))
  (fun _=>g81Main (g111 m))
abbrev S_g79(α:Type):Type:=Bool→(List Int)→(Bool→Option α)→Option α
def g79b{α:Type}(G110:Al S_g110)(a:Bool)(b:List Int)(c:Bool→Option α):Option α:=G110 (!a) b (fun d=>c d)
def g79{α:Type}(m:Nat):S_g79 α:=
 g79b (g110 m)
def g79tp:List TP:=[vW]
def g79bp:List BP:=[]
def g79K{α:Type}(G:S_g79 α)(ls:List Lf)(k:KRe α):Option α:=
 G (lf ls 0).bool ((lf ls 1).lst uU)
  (fun a=>k (.vl (.agg [(.one (.bool a)),(.seq uU 6 ((lf ls 1).lst uU))])) [] [])
def g79R{α:Type}(G:S_g79 α):=rowK g79tp g79bp (g79K G)
def g79hd(G110:Al S_g110):Hd where
 call:=fun f args Bs k=>cond (Nat.beq f 110) (g110R G110 args Bs k) (none)
 loop:=fun id st k=>none
 ro:=fun f=>[]
def g79h(m:Nat):Hd:=g79hd (g110 m)
theorem g79Main(G110:Al S_g110){α:Type}(ls:List Lf)(k:KRe α):
  g79K (g79b G110) ls k=evFun tab (g79hd G110) Tryz.f79 (fT g79tp ls) (fB g79tp g79bp ls) k:=by kernel_rfl
theorem g79Calls(m:Nat):(g79h m).CallsOk Tryz.prog:=(cok_cons (g110Ok m) cok_nil)
theorem g79Ok(m:Nat):RowOk Tryz.prog 79 (fun{α}=>g79R (g79 m (α:=α))):=
 rwk (g79Calls m) (lo0 (by kernel_rfl))
  (fun _=>g79Main (g110 m))
abbrev S_g119(α:Type):Type:=Bool→(List Int)→Bool→(List Int)→(Bool→(List Int)→Int→Option α)→Option α
abbrev S_g119l2(α:Type):Type:=Int→Bool→(List Int)→Bool→(List Int)→Bool→(List Int)→(Int→(List Int)→Option α)→Int→Int→(List Int)→Option α
def g119l2b{α:Type}(a:Int)(b:Bool)(c:List Int)(d:Bool)(e:List Int)(h:Bool)(i:List Int)(j:Int→(List Int)→Option α)(l:Int→Int→(List Int)→Option α)(n o:Int)(p:List Int):Option α:=cond (decide (o<(6:Int))) (if 0≤a∧a<(6:Nat) then if a.toNat<6 then if 0≤o∧o<(6:Nat) then if o.toNat<6 then let q:Int:=IntKind.wrap .i64 (a+o);if 0≤q∧q<(12:Nat) then if q.toNat<12 then let r:Int:=IntKind.wrap .u64 ((IntKind.wrap .u64 ((IntKind.wrap .u64 ((IntKind.wrap .u64 (List.getD c a.toNat 0))*(IntKind.wrap .u64 (List.getD e o.toNat 0))))+(IntKind.wrap .u64 (List.getD p q.toNat 0))))+n);let s:Int:=IntKind.wrap .i64 (a+o);if 0≤s∧s<(12:Nat) then if s.toNat<12 then l (Int.fdiv r (2^32)) (IntKind.wrap .i64 (o+(1:Int))) (List.set p (s.toNat) (IntKind.wrap .u32 r)) else none else none else none else none else none else none else none else none) (j n p)
def g119l2{α:Type}(a:Int)(b:Bool)(c:List Int)(d:Bool)(e:List Int)(h:Bool)(i:List Int)(j:Int→(List Int)→Option α):Nat→Int→Int→(List Int)→Option α
 |0=>fun _ _ _=>none
 |m+1=>fun l n o=>g119l2b a b c d e h i j (g119l2 a b c d e h i j m) l n o
def g119l2M{α:Type}(m:Nat):S_g119l2 α:=
 fun a b c d e h i j l n o=>g119l2 a b c d e h i j m l n o
def g119l2D:LoopD:={n:=78,low:=[],sl:=[2,3,4,6,7,8,9],bl:=[1000000,1000001,1000002,1000003],tp:=[(.vl (.sv (.ptr 1000000 0))),(.vl (.sv (.ptr 1000001 0))),(.vl (.sv (.ptr 1000002 0))),(.vl (.sv (.ptr 1000003 0))),tI,(.vl (.sv (.int .u64))),tI],bp:=[(true,[(.one .bool),(.seq uU 6)]),(true,[(.one .bool),(.seq uU 6)]),(true,[(.one .bool),(.seq uU 6)]),(true,[(.seq uU 12)])],xs:=[(4,[2,3,4,6,7,8])]}
def g119l2K{α:Type}(L:S_g119l2 α)(ls:List Lf)(k:KEx α):Option α:=
 L (lf ls 0).int (lf ls 3).bool ((lf ls 4).lst uU) (lf ls 5).bool ((lf ls 6).lst uU) (lf ls 7).bool ((lf ls 8).lst uU)
  (fun a b=>k .normal (mkSt 78 [2,3,4,6,7,8] [(.vl (.sv (.ptr 1000000 0))),(.vl (.sv (.ptr 1000001 0))),(.vl (.sv (.ptr 1000002 0))),(.vl (.sv (.ptr 1000003 0))),(.vl (.sv (.int .i64 (lf ls 0).int))),(.vl (.sv (.int .u64 a)))] [1000000,1000001,1000002,1000003] [(true,[(.one (.bool (lf ls 3).bool)),(.seq uU 6 ((lf ls 4).lst uU))]),(true,[(.one (.bool (lf ls 5).bool)),(.seq uU 6 ((lf ls 6).lst uU))]),(true,[(.one (.bool (lf ls 7).bool)),(.seq uU 6 ((lf ls 8).lst uU))]),(true,[(.seq uU 12 b)])]))
  (lf ls 1).int (lf ls 2).int ((lf ls 9).lst uU)
abbrev S_g119l0(α:Type):Type:=Bool→(List Int)→Bool→(List Int)→Bool→(List Int)→((List Int)→Option α)→Int→(List Int)→Option α
def g119l0b{α:Type}(L119l2:Al S_g119l2)(a:Bool)(b:List Int)(c:Bool)(d:List Int)(e:Bool)(h:List Int)(i:(List Int)→Option α)(j:Int→(List Int)→Option α)(l:Int)(n:List Int):Option α:=cond (decide (l<(6:Int))) (L119l2 l a b c d e h (fun o p=>let q:Int:=IntKind.wrap .i64 (l+(6:Int));if 0≤q∧q<(12:Nat) then if q.toNat<12 then j (IntKind.wrap .i64 (l+(1:Int))) (List.set p (q.toNat) (IntKind.wrap .u32 o)) else none else none) (0:Int) (0:Int) n) (i n)
def g119l0{α:Type}(L119l2:Al S_g119l2)(a:Bool)(b:List Int)(c:Bool)(d:List Int)(e:Bool)(h:List Int)(i:(List Int)→Option α):Nat→Int→(List Int)→Option α
 |0=>fun _ _=>none
 |m+1=>fun j l=>g119l0b L119l2 a b c d e h i (g119l0 L119l2 a b c d e h i m) j l
def g119l0M{α:Type}(m:Nat):S_g119l0 α:=
 fun a b c d e h i j l=>g119l0 (g119l2M m) a b c d e h i m j l
def g119l0D:LoopD:={n:=78,low:=[],sl:=[2,3,4,6,7],bl:=[1000000,1000001,1000002,1000003],tp:=[(.vl (.sv (.ptr 1000000 0))),(.vl (.sv (.ptr 1000001 0))),(.vl (.sv (.ptr 1000002 0))),(.vl (.sv (.ptr 1000003 0))),tI],bp:=[(true,[(.one .bool),(.seq uU 6)]),(true,[(.one .bool),(.seq uU 6)]),(true,[(.one .bool),(.seq uU 6)]),(true,[(.seq uU 12)])],xs:=[(2,[2,3,4,6])]}
def g119l0K{α:Type}(L:S_g119l0 α)(ls:List Lf)(k:KEx α):Option α:=
 L (lf ls 1).bool ((lf ls 2).lst uU) (lf ls 3).bool ((lf ls 4).lst uU) (lf ls 5).bool ((lf ls 6).lst uU)
  (fun a=>k .normal (mkSt 78 [2,3,4,6] [(.vl (.sv (.ptr 1000000 0))),(.vl (.sv (.ptr 1000001 0))),(.vl (.sv (.ptr 1000002 0))),(.vl (.sv (.ptr 1000003 0)))] [1000000,1000001,1000002,1000003] [(true,[(.one (.bool (lf ls 1).bool)),(.seq uU 6 ((lf ls 2).lst uU))]),(true,[(.one (.bool (lf ls 3).bool)),(.seq uU 6 ((lf ls 4).lst uU))]),(true,[(.one (.bool (lf ls 5).bool)),(.seq uU 6 ((lf ls 6).lst uU))]),(true,[(.seq uU 12 a)])]))
  (lf ls 0).int ((lf ls 7).lst uU)
abbrev S_g119l4(α:Type):Type:=Bool→(List Int)→Bool→(List Int)→Bool→(List Int)→(List Int)→((List Int)→Option α)→((List Int)→Option α)→Int→(List Int)→Option α
def g119l4b{α:Type}(a:Bool)(b:List Int)(c:Bool)(d:List Int)(e:Bool)(h i:List Int)(j:(List Int)→Option α)(l:(List Int)→Option α)(n:Int→(List Int)→Option α)(o:Int)(p:List Int):Option α:=cond (decide (o<(6:Int))) (if 0≤o∧o<(12:Nat) then if o.toNat<12 then if 0≤o∧o<(6:Nat) then if o.toNat<6 then let q:Int:=IntKind.wrap .i64 (o+(6:Int));if 0≤q∧q<(12:Nat) then if q.toNat<12 then cond ((List.getD i q.toNat 0) !=(0:Int)) (j [0,0,0,0,0,0]) (n (IntKind.wrap .i64 (o+(1:Int))) (List.set p (o.toNat) (List.getD i o.toNat 0))) else none else none else none else none else none else none) (l p)
def g119l4{α:Type}(a:Bool)(b:List Int)(c:Bool)(d:List Int)(e:Bool)(h i:List Int)(j:(List Int)→Option α)(l:(List Int)→Option α):Nat→Int→(List Int)→Option α
 |0=>fun _ _=>none
 |m+1=>fun n o=>g119l4b a b c d e h i j l (g119l4 a b c d e h i j l m) n o
def g119l4M{α:Type}(m:Nat):S_g119l4 α:=
 fun a b c d e h i j l n o=>g119l4 a b c d e h i j l m n o
def g119l4D:LoopD:={n:=78,low:=[],sl:=[2,3,4,6,11,12],bl:=[1000000,1000001,1000002,1000003,1000004],tp:=[(.vl (.sv (.ptr 1000000 0))),(.vl (.sv (.ptr 1000001 0))),(.vl (.sv (.ptr 1000002 0))),(.vl (.sv (.ptr 1000003 0))),(.vl (.sv (.ptr 1000004 0))),tI],bp:=[(true,[(.one .bool),(.seq uU 6)]),(true,[(.one .bool),(.seq uU 6)]),(true,[(.one .bool),(.seq uU 6)]),(true,[(.seq uU 12)]),b6],xs:=[(1,[4,5]),(6,[2,3,4,11])]}
def g119l4K{α:Type}(L:S_g119l4 α)(ls:List Lf)(k:KEx α):Option α:=
 L (lf ls 1).bool ((lf ls 2).lst uU) (lf ls 3).bool ((lf ls 4).lst uU) (lf ls 5).bool ((lf ls 6).lst uU) ((lf ls 7).lst uU)
  (fun a=>k .ret (mkSt 78 [4,5] [(.vl (.sv (.ptr 1000000 0))),(.vl (.sv (.int .i64 (3:Int))))] [1000000] [(true,[(.one (.bool false)),(.seq uU 6 a)])]))
  (fun b=>k .normal (mkSt 78 [2,3,4,11] [(.vl (.sv (.ptr 1000000 0))),(.vl (.sv (.ptr 1000001 0))),(.vl (.sv (.ptr 1000002 0))),(.vl (.sv (.ptr 1000003 0)))] [1000000,1000001,1000002,1000003] [(true,[(.one (.bool (lf ls 1).bool)),(.seq uU 6 ((lf ls 2).lst uU))]),(true,[(.one (.bool (lf ls 3).bool)),(.seq uU 6 ((lf ls 4).lst uU))]),(true,[(.one (.bool (lf ls 5).bool)),(.seq uU 6 ((lf ls 6).lst uU))]),(true,[(.seq uU 6 b)])]))
  (lf ls 0).int ((lf ls 8).lst uU)
def g119b{α:Type}(G110:Al S_g110)(L119l2:Al S_g119l2)(L119l0:Al S_g119l0)(L119l4:Al S_g119l4)(a:Bool)(b:List Int)(c:Bool)(d:List Int)(e:Bool→(List Int)→Int→Option α):Option α:=L119l0 a b c d false [0,0,0,0,0,0] (fun h=>L119l4 a b c d false [0,0,0,0,0,0] h (fun i=>e false i (3:Int)) (fun j=>G110 (!(a==c)) j (fun l=>e l j (0:Int))) (0:Int) [0,0,0,0,0,0]) (0:Int) [0,0,0,0,0,0,0,0,0,0,0,0]
def g119{α:Type}(m:Nat):S_g119 α:=
 g119b (g110 m) (g119l2M m) (g119l0M m) (g119l4M m)
def g119tp:List TP:=[vW,vW]
def g119bp:List BP:=[]
def g119K{α:Type}(G:S_g119 α)(ls:List Lf)(k:KRe α):Option α:=
 G (lf ls 0).bool ((lf ls 1).lst uU) (lf ls 2).bool ((lf ls 3).lst uU)
  (fun a b c=>k (.tup [(.agg [(.one (.bool a)),(.seq uU 6 b)]),(.sv (.int .i64 c))]) [] [])
def g119R{α:Type}(G:S_g119 α):=rowK g119tp g119bp (g119K G)
def g119hd(G110:Al S_g110)(L119l2:Al S_g119l2)(L119l0:Al S_g119l0)(L119l4:Al S_g119l4):Hd where
 call:=fun f args Bs k=>cond (Nat.beq f 110) (g110R G110 args Bs k) (none)
 loop:=fun id st k=>cond (Nat.beq id 2) (loopH g119l2D (g119l2K L119l2) st k) (cond (Nat.beq id 0) (loopH g119l0D (g119l0K L119l0) st k) (cond (Nat.beq id 4) (loopH g119l4D (g119l4K L119l4) st k) (none)))
 ro:=fun f=>[]
def g119h(m:Nat):Hd:=g119hd (g110 m) (g119l2M m) (g119l0M m) (g119l4M m)
theorem g119l2Step(G110:Al S_g110)(L119l2:Al S_g119l2)(L119l0:Al S_g119l0)(L119l4:Al S_g119l4){α:Type}(L:S_g119l2 α)(ls:List Lf)(k:KEx α):
  g119l2K (fun a b c d e h i j l n o=>g119l2b a b c d e h i j (L a b c d e h i j) l n o) ls k=ev tab (g119hd G110 L119l2 L119l0 L119l4) (bodyAt Tryz.f119 2) (atHead g119l2D ls) (loopK g119l2D 2 (loopH g119l2D (g119l2K L)) k):=by kernel_rfl
theorem g119l0Step(G110:Al S_g110)(L119l2:Al S_g119l2)(L119l0:Al S_g119l0)(L119l4:Al S_g119l4){α:Type}(L:S_g119l0 α)(ls:List Lf)(k:KEx α):
  g119l0K (fun a b c d e h i j l=>g119l0b L119l2 a b c d e h i (L a b c d e h i) j l) ls k=ev tab (g119hd G110 L119l2 L119l0 L119l4) (bodyAt Tryz.f119 0) (atHead g119l0D ls) (loopK g119l0D 0 (loopH g119l0D (g119l0K L)) k):=by kernel_rfl
theorem g119l4Step(G110:Al S_g110)(L119l2:Al S_g119l2)(L119l0:Al S_g119l0)(L119l4:Al S_g119l4){α:Type}(L:S_g119l4 α)(ls:List Lf)(k:KEx α):
  g119l4K (fun a b c d e h i j l n o=>g119l4b a b c d e h i j l (L a b c d e h i j l) n o) ls k=ev tab (g119hd G110 L119l2 L119l0 L119l4) (bodyAt Tryz.f119 4) (atHead g119l4D ls) (loopK g119l4D 4 (loopH g119l4D (g119l4K L)) k):=by kernel_rfl
theorem g119Main(G110:Al S_g110)(L119l2:Al S_g119l2)(L119l0:Al S_g119l0)(L119l4:Al S_g119l4){α:Type}(ls:List Lf)(k:KRe α):
  g119K (g119b G110 L119l2 L119l0 L119l4) ls k=evFun tab (g119hd G110 L119l2 L119l0 L119l4) Tryz.f119 (fT g119tp ls) (fB g119tp g119bp ls) k:=by kernel_rfl
theorem g119Calls(m:Nat):(g119h m).CallsOk Tryz.prog:=(cok_cons (g110Ok m) cok_nil)
theorem g119l2Ok(m:Nat)(α:Type)(st:St)(k:KEx α)(r:α)(h:(g119h m).loop 2 st k=some r):
  LoopS Tryz.prog 2 (bodyAt Tryz.f119 2) st k r:=
 lpk (F:=fun n ls k=>g119l2K (fun a b c d e i j l o q s=>g119l2 a b c d e i j l n o q s) ls k) (g119Calls m) (lb0 (by kernel_rfl))
  (fun _ _=>rfl) (fun n ls k=>g119l2Step (g110 m) (g119l2M m) (g119l0M m) (g119l4M m) (fun a b c d e i j l=>g119l2 a b c d e i j l n) ls k) (n:=m) h
theorem g119l0Ok(m:Nat)(α:Type)(st:St)(k:KEx α)(r:α)(h:(g119h m).loop 0 st k=some r):
  LoopS Tryz.prog 0 (bodyAt Tryz.f119 0) st k r:=
 lpk (F:=fun n ls k=>g119l0K (fun a b c d e i j l o=>g119l0 (g119l2M m) a b c d e i j n l o) ls k) (g119Calls m) (loopsOk_of _ (fun p hp=>by
  rw[show loopsOf (bodyAt Tryz.f119 0)=[(2,bodyAt Tryz.f119 2)] by kernel_rfl] at hp
  simp only[List.mem_cons,List.not_mem_nil,or_false] at hp
  rcases hp with rfl
  exact g119l2Ok m))
  (fun _ _=>rfl) (fun n ls k=>g119l0Step (g110 m) (g119l2M m) (g119l0M m) (g119l4M m) (fun a b c d e i j=>g119l0 (g119l2M m) a b c d e i j n) ls k) (n:=m) h
theorem g119l4Ok(m:Nat)(α:Type)(st:St)(k:KEx α)(r:α)(h:(g119h m).loop 4 st k=some r):
  LoopS Tryz.prog 4 (bodyAt Tryz.f119 4) st k r:=
 lpk (F:=fun n ls k=>g119l4K (fun a b c d e i j l o q s=>g119l4 a b c d e i j l o n q s) ls k) (g119Calls m) (lb0 (by kernel_rfl))
  (fun _ _=>rfl) (fun n ls k=>g119l4Step (g110 m) (g119l2M m) (g119l0M m) (g119l4M m) (fun a b c d e i j l o=>g119l4 a b c d e i j l o n) ls k) (n:=m) h
theorem g119Fn(m:Nat):FnOk Tryz.prog 119 g119tp g119bp (fun{α}=>g119K (g119 m (α:=α))):=
 fn_ok (tab:=tab) (h:=g119h m) (fn:=Tryz.f119) (F:=fun{α}=>g119K (g119 m (α:=α))) tabOk (g119Calls m) mixed (by kernel_rfl) (by kernel_rfl) (fun c hc=>by
  rw[bodyOf_some hc]
  exact loopsOk_of _ (fun p hp=>by
  rw[show loopsOf (bodyOf Tryz.f119)=[(0,bodyAt Tryz.f119 0),(4,bodyAt Tryz.f119 4)] by kernel_rfl] at hp
  simp only[List.mem_cons,List.not_mem_nil,or_false] at hp
  rcases hp with rfl|rfl
  ·exact g119l0Ok m
  ·exact g119l4Ok m))
  (fun _=>g119Main (g110 m) (g119l2M m) (g119l0M m) (g119l4M m))
theorem g119Ok(m:Nat):RowOk Tryz.prog 119 (fun{α}=>g119R (g119 m (α:=α))):=row_of (g119Fn m)
abbrev S_g120(α:Type):Type:=Bool→(List Int)→Int→(Bool→(List Int)→Option α)→Option α
abbrev S_g120l0(α:Type):Type:=Int→Bool→(List Int)→Bool→(List Int)→(Bool→(List Int)→Option α)→Int→Bool→(List Int)→Bool→(List Int)→Option α
def g120l0b{α:Type}(G81:Al S_g81)(G118:Al S_g118)(G80:Al S_g80)(G79:Al S_g79)(G78:Al S_g78)(G119:Al S_g119)(a:Int)(b:Bool)(c:List Int)(d:Bool)(e:List Int)(h:Bool→(List Int)→Option α)(i:Int→Bool→(List Int)→Bool→(List Int)→Option α)(j:Int)(l:Bool)(n:List Int)(o:Bool)(p:List Int):Option α:=G81 o p b c (fun q=>cond (decide (q≤(0:Int))) (G118 b c o p (fun r s t u=>G80 (IntKind.wrap .i64 ((IntKind.wrap .i64 ((2:Int)*j))+(1:Int))) (fun v w=>G118 r s v w (fun x y z a0=>cond ((Int.tmod j (2:Int))==(1:Int)) (G79 x y (fun b0=>G78 l n b0 y (fun c0 d0 e0=>G80 (IntKind.wrap .i64 (a*a)) (fun h0 i0=>G119 o p h0 i0 (fun j0 l0 n0=>cond (n0 !=(0:Int)) (h c0 d0) (i (IntKind.wrap .i64 (j+(1:Int))) c0 d0 j0 l0)))))) (G78 l n x y (fun o0 p0 q0=>G80 (IntKind.wrap .i64 (a*a)) (fun r0 s0=>G119 o p r0 s0 (fun t0 u0 v0=>cond (v0 !=(0:Int)) (h o0 p0) (i (IntKind.wrap .i64 (j+(1:Int))) o0 p0 t0 u0))))))))) (h l n))
def g120l0{α:Type}(G81:Al S_g81)(G118:Al S_g118)(G80:Al S_g80)(G79:Al S_g79)(G78:Al S_g78)(G119:Al S_g119)(a:Int)(b:Bool)(c:List Int)(d:Bool)(e:List Int)(h:Bool→(List Int)→Option α):Nat→Int→Bool→(List Int)→Bool→(List Int)→Option α
 |0=>fun _ _ _ _ _=>none
 |m+1=>fun i j l n o=>g120l0b G81 G118 G80 G79 G78 G119 a b c d e h (g120l0 G81 G118 G80 G79 G78 G119 a b c d e h m) i j l n o
def g120l0M{α:Type}(m:Nat):S_g120l0 α:=
 fun a b c d e h i j l n o=>g120l0 (g81 m) (g118 m) (g80 m) (g79 m) (g78 m) (g119 m) a b c d e h m i j l n o
def g120l0D:LoopD:={n:=58,low:=[],sl:=[1,2,4,5,6,7],bl:=[1000000,1000001,1000002,1000003],tp:=[tI,(.vl (.sv (.ptr 1000000 0))),(.vl (.sv (.ptr 1000001 0))),(.vl (.sv (.ptr 1000002 0))),(.vl (.sv (.ptr 1000003 0))),tI],bp:=[(true,[(.one .bool),(.seq uU 6)]),(true,[(.one .bool),(.seq uU 6)]),(true,[(.one .bool),(.seq uU 6)]),(true,[(.one .bool),(.seq uU 6)])],xs:=[(2,[4,5])]}
def g120l0K{α:Type}(L:S_g120l0 α)(ls:List Lf)(k:KEx α):Option α:=
 L (lf ls 0).int (lf ls 2).bool ((lf ls 3).lst uU) (lf ls 4).bool ((lf ls 5).lst uU)
  (fun a b=>k .normal (mkSt 58 [4,5] [(.vl (.sv (.ptr 1000000 0))),(.vl (.sv (.ptr 1000001 0)))] [1000000,1000001] [(true,[(.one (.bool (lf ls 4).bool)),(.seq uU 6 ((lf ls 5).lst uU))]),(true,[(.one (.bool a)),(.seq uU 6 b)])]))
  (lf ls 1).int (lf ls 6).bool ((lf ls 7).lst uU) (lf ls 8).bool ((lf ls 9).lst uU)
def g120b{α:Type}(G80:Al S_g80)(G81:Al S_g81)(G118:Al S_g118)(G79:Al S_g79)(G78:Al S_g78)(G119:Al S_g119)(L120l0:Al S_g120l0)(a:Bool)(b:List Int)(c:Int)(d:Bool→(List Int)→Option α):Option α:=G80 c (fun e h=>L120l0 c a b false [0,0,0,0,0,0] (fun i j=>d i j) (0:Int) false [0,0,0,0,0,0] e h)
def g120{α:Type}(m:Nat):S_g120 α:=
 g120b (g80 m) (g81 m) (g118 m) (g79 m) (g78 m) (g119 m) (g120l0M m)
def g120tp:List TP:=[vW,tI]
def g120bp:List BP:=[]
def g120K{α:Type}(G:S_g120 α)(ls:List Lf)(k:KRe α):Option α:=
 G (lf ls 0).bool ((lf ls 1).lst uU) (lf ls 2).int
  (fun a b=>k (.vl (.agg [(.one (.bool a)),(.seq uU 6 b)])) [] [])
def g120R{α:Type}(G:S_g120 α):=rowK g120tp g120bp (g120K G)
def g120hd(G80:Al S_g80)(G81:Al S_g81)(G118:Al S_g118)(G79:Al S_g79)(G78:Al S_g78)(G119:Al S_g119)(L120l0:Al S_g120l0):Hd where
 call:=fun f args Bs k=>cond (Nat.beq f 80) (g80R G80 args Bs k) (cond (Nat.beq f 81) (g81R G81 args Bs k) (cond (Nat.beq f 118) (g118R G118 args Bs k) (cond (Nat.beq f 79) (g79R G79 args Bs k) (cond (Nat.beq f 78) (g78R G78 args Bs k) (cond (Nat.beq f 119) (g119R G119 args Bs k) (none))))))
 loop:=fun id st k=>cond (Nat.beq id 0) (loopH g120l0D (g120l0K L120l0) st k) (none)
 ro:=fun f=>cond (Nat.beq f 81) [0,1] ([])
def g120h(m:Nat):Hd:=g120hd (g80 m) (g81 m) (g118 m) (g79 m) (g78 m) (g119 m) (g120l0M m)
theorem g120l0Step(G80:Al S_g80)(G81:Al S_g81)(G118:Al S_g118)(G79:Al S_g79)(G78:Al S_g78)(G119:Al S_g119)(L120l0:Al S_g120l0){α:Type}(L:S_g120l0 α)(ls:List Lf)(k:KEx α):
  g120l0K (fun a b c d e h i j l n o=>g120l0b G81 G118 G80 G79 G78 G119 a b c d e h (L a b c d e h) i j l n o) ls k=ev tab (g120hd G80 G81 G118 G79 G78 G119 L120l0) (bodyAt Tryz.f120 0) (atHead g120l0D ls) (loopK g120l0D 0 (loopH g120l0D (g120l0K L)) k):=by kernel_rfl
theorem g120Main(G80:Al S_g80)(G81:Al S_g81)(G118:Al S_g118)(G79:Al S_g79)(G78:Al S_g78)(G119:Al S_g119)(L120l0:Al S_g120l0){α:Type}(ls:List Lf)(k:KRe α):
  g120K (g120b G80 G81 G118 G79 G78 G119 L120l0) ls k=evFun tab (g120hd G80 G81 G118 G79 G78 G119 L120l0) Tryz.f120 (fT g120tp ls) (fB g120tp g120bp ls) k:=by kernel_rfl
theorem g120Calls(m:Nat):(g120h m).CallsOk Tryz.prog:=(cok_cons (g80Ok m) (cok_cons (g81Ok m) (cok_cons (g118Ok m) (cok_cons (g79Ok m) (cok_cons (g78Ok m) (cok_cons (g119Ok m) cok_nil))))))
theorem g120l0Ok(m:Nat)(α:Type)(st:St)(k:KEx α)(r:α)(h:(g120h m).loop 0 st k=some r):
  LoopS Tryz.prog 0 (bodyAt Tryz.f120 0) st k r:=
 lpk (F:=fun n ls k=>g120l0K (fun a b c d e i j l o q s=>g120l0 (g81 m) (g118 m) (g80 m) (g79 m) (g78 m) (g119 m) a b c d e i n j l o q s) ls k) (g120Calls m) (lb0 (by kernel_rfl))
  (fun _ _=>rfl) (fun n ls k=>g120l0Step (g80 m) (g81 m) (g118 m) (g79 m) (g78 m) (g119 m) (g120l0M m) (fun a b c d e i=>g120l0 (g81 m) (g118 m) (g80 m) (g79 m) (g78 m) (g119 m) a b c d e i n) ls k) (n:=m) h
theorem g120Ok(m:Nat):RowOk Tryz.prog 120 (fun{α}=>g120R (g120 m (α:=α))):=
 rwk (g120Calls m) (lo1 (by kernel_rfl) (g120l0Ok m))
  (fun _=>g120Main (g80 m) (g81 m) (g118 m) (g79 m) (g78 m) (g119 m) (g120l0M m))
abbrev S_g106(α:Type):Type:=Int→(List Int)→((List Int)→Option α)→Option α
abbrev S_g106l0(α:Type):Type:=Int→(List Int)→(List Int)→((List Int)→Option α)→Int→(List Int)→Option α
def g106l0b{α:Type}(a:Int)(b c:List Int)(d:(List Int)→Option α)(e:Int→(List Int)→Option α)(h:Int)(i:List Int):Option α:=cond (decide (h<(6:Int))) (if 0≤h∧h<(6:Nat) then if h.toNat<6 then let j:Int:=IntKind.wrap .u64 (List.getD b h.toNat 0);cond (decide ((IntKind.wrap .i64 (h+(1:Int)))<(6:Int))) (let l:Int:=IntKind.wrap .i64 (h+(1:Int));if 0≤l∧l<(6:Nat) then if l.toNat<6 then let n:Int:=IntKind.wrap .i64 (h-(IntKind.wrap .i64 (Int.tdiv a (32:Int))));let o:Int:=IntKind.wrap .u64 (Int.tmod a (32:Int));if o<0 then none else if 0≤n∧n<(6:Nat) then if n.toNat<6 then e (IntKind.wrap .i64 (h+(1:Int))) (List.set i (n.toNat) (IntKind.wrap .u32 (Int.fdiv (IntKind.wrap .u64 (j+(IntKind.wrap .u64 ((IntKind.wrap .u64 (List.getD b l.toNat 0))*2^32)))) (2^(min o.toNat 64))))) else none else none else none else none) (let p:Int:=IntKind.wrap .i64 (h-(IntKind.wrap .i64 (Int.tdiv a (32:Int))));let q:Int:=IntKind.wrap .u64 (Int.tmod a (32:Int));if q<0 then none else if 0≤p∧p<(6:Nat) then if p.toNat<6 then e (IntKind.wrap .i64 (h+(1:Int))) (List.set i (p.toNat) (IntKind.wrap .u32 (Int.fdiv j (2^(min q.toNat 64))))) else none else none) else none else none) (d i)
def g106l0{α:Type}(a:Int)(b c:List Int)(d:(List Int)→Option α):Nat→Int→(List Int)→Option α
 |0=>fun _ _=>none
 |m+1=>fun e h=>g106l0b a b c d (g106l0 a b c d m) e h
def g106l0M{α:Type}(m:Nat):S_g106l0 α:=
 fun a b c d e h=>g106l0 a b c d m e h
def g106l0D:LoopD:={n:=46,low:=[0],sl:=[0,1,4,5,6],bl:=[0,1000001,1000002],tp:=[(.vl (.sv (.ptr 0 0))),tI,(.vl (.sv (.ptr 1000001 0))),(.vl (.sv (.ptr 1000002 0))),tI],bp:=[(false,[(.seq uU 6)]),b6,b6],xs:=[(2,[4,5])]}
def g106l0K{α:Type}(L:S_g106l0 α)(ls:List Lf)(k:KEx α):Option α:=
 L (lf ls 0).int ((lf ls 2).lst uU) ((lf ls 3).lst uU)
  (fun a=>k .normal (mkSt 46 [4,5] [(.vl (.sv (.ptr 1000001 0))),(.vl (.sv (.ptr 1000002 0)))] [0,1000001,1000002] [(false,[(.seq uU 6 ((lf ls 2).lst uU))]),(true,[(.seq uU 6 ((lf ls 3).lst uU))]),(true,[(.seq uU 6 a)])]))
  (lf ls 1).int ((lf ls 4).lst uU)
def g106b{α:Type}(L106l0:Al S_g106l0)(a:Int)(b:List Int)(c:(List Int)→Option α):Option α:=L106l0 a b [0,0,0,0,0,0] (fun d=>c d) (IntKind.wrap .i64 (Int.tdiv a (32:Int))) [0,0,0,0,0,0]
def g106{α:Type}(m:Nat):S_g106 α:=
 g106b (g106l0M m)
def g106tp:List TP:=[(.vl (.sv (.ptr 0 0))),tI]
def g106bp:List BP:=[(false,[(.seq uU 6)])]
def g106K{α:Type}(G:S_g106 α)(ls:List Lf)(k:KRe α):Option α:=
 G (lf ls 0).int ((lf ls 1).lst uU)
  (fun a=>k (.vl (.agg [(.seq uU 6 a)])) [[(.seq uU 6 ((lf ls 1).lst uU))]] [])
def g106R{α:Type}(G:S_g106 α):=rowK g106tp g106bp (g106K G)
def g106hd(L106l0:Al S_g106l0):Hd where
 call:=fun f args Bs k=>none
 loop:=fun id st k=>cond (Nat.beq id 0) (loopH g106l0D (g106l0K L106l0) st k) (none)
 ro:=fun f=>[]
def g106h(m:Nat):Hd:=g106hd (g106l0M m)
theorem g106l0Step(L106l0:Al S_g106l0){α:Type}(L:S_g106l0 α)(ls:List Lf)(k:KEx α):
  g106l0K (fun a b c d e h=>g106l0b a b c d (L a b c d) e h) ls k=ev tab (g106hd L106l0) (bodyAt Tryz.f106 0) (atHead g106l0D ls) (loopK g106l0D 0 (loopH g106l0D (g106l0K L)) k):=by kernel_rfl
theorem g106Main(L106l0:Al S_g106l0){α:Type}(ls:List Lf)(k:KRe α):
  g106K (g106b L106l0) ls k=evFun tab (g106hd L106l0) Tryz.f106 (fT g106tp ls) (fB g106tp g106bp ls) k:=by kernel_rfl
theorem g106Calls(m:Nat):(g106h m).CallsOk Tryz.prog:=cok_nil
theorem g106l0Ok(m:Nat)(α:Type)(st:St)(k:KEx α)(r:α)(h:(g106h m).loop 0 st k=some r):
  LoopS Tryz.prog 0 (bodyAt Tryz.f106 0) st k r:=
 lpk (F:=fun n ls k=>g106l0K (fun a b c d e i=>g106l0 a b c d n e i) ls k) (g106Calls m) (lb0 (by kernel_rfl))
  (fun _ _=>rfl) (fun n ls k=>g106l0Step (g106l0M m) (fun a b c d=>g106l0 a b c d n) ls k) (n:=m) h
theorem g106Ok(m:Nat):RowOk Tryz.prog 106 (fun{α}=>g106R (g106 m (α:=α))):=
 rwk (g106Calls m) (lo1 (by kernel_rfl) (g106l0Ok m))
  (fun _=>g106Main (g106l0M m))
abbrev S_g76(α:Type):Type:=Bool→(List Int)→Int→(Bool→(List Int)→Option α)→Option α
def g76b{α:Type}(G106:Al S_g106)(G107:Al S_g107)(G108:Al S_g108)(G110:Al S_g110)(G109:Al S_g109)(a:Bool)(b:List Int)(c:Int)(d:Bool→(List Int)→Option α):Option α:=cond (c==(0:Int)) (d a b) (G106 c b (fun e=>G106 (IntKind.wrap .i64 (c-(1:Int))) b (fun h=>G107 c e (fun i j=>G108 b i (fun l=>G107 (IntKind.wrap .i64 (c-(1:Int))) [(1:Int),0,0,0,0,0] (fun n o=>let p:Bool:=(Int.tmod (List.getD h 0 0) (2:Int))==(1:Int);cond a (cond (eqLI l n) (G110 a e (fun q=>d q e)) (cond p (G109 e [(1:Int),0,0,0,0,0] (fun r s=>G110 a r (fun t=>d t r))) (G110 a e (fun u=>d u e)))) (cond p (G109 e [(1:Int),0,0,0,0,0] (fun v w=>G110 a v (fun x=>d x v))) (G110 a e (fun y=>d y e)))))))))
def g76{α:Type}(m:Nat):S_g76 α:=
 g76b (g106 m) (g107 m) (g108 m) (g110 m) (g109 m)
def g76tp:List TP:=[vW,tI]
def g76bp:List BP:=[]
def g76K{α:Type}(G:S_g76 α)(ls:List Lf)(k:KRe α):Option α:=
 G (lf ls 0).bool ((lf ls 1).lst uU) (lf ls 2).int
  (fun a b=>k (.vl (.agg [(.one (.bool a)),(.seq uU 6 b)])) [] [])
def g76R{α:Type}(G:S_g76 α):=rowK g76tp g76bp (g76K G)
def g76hd(G106:Al S_g106)(G107:Al S_g107)(G108:Al S_g108)(G110:Al S_g110)(G109:Al S_g109):Hd where
 call:=fun f args Bs k=>cond (Nat.beq f 106) (g106R G106 args Bs k) (cond (Nat.beq f 107) (g107R G107 args Bs k) (cond (Nat.beq f 108) (g108R G108 args Bs k) (cond (Nat.beq f 110) (g110R G110 args Bs k) (cond (Nat.beq f 109) (g109R G109 args Bs k) (none)))))
 loop:=fun id st k=>none
 ro:=fun f=>cond (Nat.beq f 106) [0] (cond (Nat.beq f 107) [0] (cond (Nat.beq f 108) [0,1] (cond (Nat.beq f 109) [0,1] ([]))))
def g76h(m:Nat):Hd:=g76hd (g106 m) (g107 m) (g108 m) (g110 m) (g109 m)
theorem g76Main(G106:Al S_g106)(G107:Al S_g107)(G108:Al S_g108)(G110:Al S_g110)(G109:Al S_g109){α:Type}(ls:List Lf)(k:KRe α):
  g76K (g76b G106 G107 G108 G110 G109) ls k=evFun tab (g76hd G106 G107 G108 G110 G109) Tryz.f76 (fT g76tp ls) (fB g76tp g76bp ls) k:=by kernel_rfl
theorem g76Calls(m:Nat):(g76h m).CallsOk Tryz.prog:=(cok_cons (g106Ok m) (cok_cons (g107Ok m) (cok_cons (g108Ok m) (cok_cons (g110Ok m) (cok_cons (g109Ok m) cok_nil)))))
theorem g76Ok(m:Nat):RowOk Tryz.prog 76 (fun{α}=>g76R (g76 m (α:=α))):=
 rwk (g76Calls m) (lo0 (by kernel_rfl))
  (fun _=>g76Main (g106 m) (g107 m) (g108 m) (g110 m) (g109 m))
abbrev S_g99(α:Type):Type:=Int→(Bool→(List Int)→Option α)→Option α
def g99b{α:Type}(G80:Al S_g80)(G77:Al S_g77)(G120:Al S_g120)(G119:Al S_g119)(G78:Al S_g78)(G76:Al S_g76)(a:Int)(b:Bool→(List Int)→Option α):Option α:=G80 (1:Int) (fun c d=>G77 c d (IntKind.wrap .i64 (a+(16:Int))) (fun e h i=>G80 (16:Int) (fun j l=>G120 e h (5:Int) (fun n o=>G119 j l n o (fun p q r=>G80 (-4:Int) (fun s t=>G120 e h (239:Int) (fun u v=>G119 s t u v (fun w x y=>G78 p q w x (fun z a0 b0=>G76 z a0 (16:Int) (fun c0 d0=>b c0 d0))))))))))
def g99{α:Type}(m:Nat):S_g99 α:=
 g99b (g80 m) (g77 m) (g120 m) (g119 m) (g78 m) (g76 m)
def g99tp:List TP:=[tI]
def g99bp:List BP:=[]
def g99K{α:Type}(G:S_g99 α)(ls:List Lf)(k:KRe α):Option α:=
 G (lf ls 0).int
  (fun a b=>k (.tup [(.agg [(.one (.bool a)),(.seq uU 6 b)]),(.sv (.int .i64 (0:Int)))]) [] [])
def g99R{α:Type}(G:S_g99 α):=rowK g99tp g99bp (g99K G)
def g99hd(G80:Al S_g80)(G77:Al S_g77)(G120:Al S_g120)(G119:Al S_g119)(G78:Al S_g78)(G76:Al S_g76):Hd where
 call:=fun f args Bs k=>cond (Nat.beq f 80) (g80R G80 args Bs k) (cond (Nat.beq f 77) (g77R G77 args Bs k) (cond (Nat.beq f 120) (g120R G120 args Bs k) (cond (Nat.beq f 119) (g119R G119 args Bs k) (cond (Nat.beq f 78) (g78R G78 args Bs k) (cond (Nat.beq f 76) (g76R G76 args Bs k) (none))))))
 loop:=fun id st k=>none
 ro:=fun f=>[]
def g99h(m:Nat):Hd:=g99hd (g80 m) (g77 m) (g120 m) (g119 m) (g78 m) (g76 m)
theorem g99Main(G80:Al S_g80)(G77:Al S_g77)(G120:Al S_g120)(G119:Al S_g119)(G78:Al S_g78)(G76:Al S_g76){α:Type}(ls:List Lf)(k:KRe α):
  g99K (g99b G80 G77 G120 G119 G78 G76) ls k=evFun tab (g99hd G80 G77 G120 G119 G78 G76) Tryz.f99 (fT g99tp ls) (fB g99tp g99bp ls) k:=by kernel_rfl
theorem g99Calls(m:Nat):(g99h m).CallsOk Tryz.prog:=(cok_cons (g80Ok m) (cok_cons (g77Ok m) (cok_cons (g120Ok m) (cok_cons (g119Ok m) (cok_cons (g78Ok m) (cok_cons (g76Ok m) cok_nil))))))
theorem g99Ok(m:Nat):RowOk Tryz.prog 99 (fun{α}=>g99R (g99 m (α:=α))):=
 rwk (g99Calls m) (lo0 (by kernel_rfl))
  (fun _=>g99Main (g80 m) (g77 m) (g120 m) (g119 m) (g78 m) (g76 m))
abbrev S_g121(α:Type):Type:=Bool→(List Int)→(Int→Option α)→Option α
def g121b{α:Type}(a:Bool)(b:List Int)(c:Int→Option α):Option α:=cond a (c (-1:Int)) (cond (eqLI b [0,0,0,0,0,0]) (c (0:Int)) (c (1:Int)))
def g121{α:Type}(m:Nat):S_g121 α:=
 g121b
def g121tp:List TP:=[(.vl (.sv (.ptr 0 0)))]
def g121bp:List BP:=[(false,[(.one .bool),(.seq uU 6)])]
def g121K{α:Type}(G:S_g121 α)(ls:List Lf)(k:KRe α):Option α:=
 G (lf ls 0).bool ((lf ls 1).lst uU)
  (fun a=>k (.vl (.sv (.int .i64 a))) [[(.one (.bool (lf ls 0).bool)),(.seq uU 6 ((lf ls 1).lst uU))]] [])
def g121R{α:Type}(G:S_g121 α):=rowK g121tp g121bp (g121K G)
def g121hd:Hd where
 call:=fun f args Bs k=>none
 loop:=fun id st k=>none
 ro:=fun f=>[]
def g121h(m:Nat):Hd:=g121hd
theorem g121Main{α:Type}(ls:List Lf)(k:KRe α):
  g121K (g121b) ls k=evFun tab (g121hd) Tryz.f121 (fT g121tp ls) (fB g121tp g121bp ls) k:=by kernel_rfl
theorem g121Calls(m:Nat):(g121h m).CallsOk Tryz.prog:=cok_nil
theorem g121Ok(m:Nat):RowOk Tryz.prog 121 (fun{α}=>g121R (g121 m (α:=α))):=
 rwk (g121Calls m) (lo0 (by kernel_rfl))
  (fun _=>g121Main)
abbrev S_g100(α:Type):Type:=Int→(Bool→(List Int)→Option α)→Option α
abbrev S_g100l0(α:Type):Type:=Bool→(List Int)→(Bool→(List Int)→Option α)→Int→Bool→(List Int)→Bool→(List Int)→Option α
def g100l0b{α:Type}(G121:Al S_g121)(G80:Al S_g80)(G118:Al S_g118)(G78:Al S_g78)(a:Bool)(b:List Int)(c:Bool→(List Int)→Option α)(d:Int→Bool→(List Int)→Bool→(List Int)→Option α)(e:Int)(h:Bool)(i:List Int)(j:Bool)(l:List Int):Option α:=G121 h i (fun n=>cond (n !=(0:Int)) (G80 e (fun o p=>G118 h i o p (fun q r s t=>G78 j l q r (fun u v w=>d (IntKind.wrap .i64 (e+(1:Int))) q r u v)))) (c j l))
def g100l0{α:Type}(G121:Al S_g121)(G80:Al S_g80)(G118:Al S_g118)(G78:Al S_g78)(a:Bool)(b:List Int)(c:Bool→(List Int)→Option α):Nat→Int→Bool→(List Int)→Bool→(List Int)→Option α
 |0=>fun _ _ _ _ _=>none
 |m+1=>fun d e h i j=>g100l0b G121 G80 G118 G78 a b c (g100l0 G121 G80 G118 G78 a b c m) d e h i j
def g100l0M{α:Type}(m:Nat):S_g100l0 α:=
 fun a b c d e h i j=>g100l0 (g121 m) (g80 m) (g118 m) (g78 m) a b c m d e h i j
def g100l0D:LoopD:={n:=35,low:=[],sl:=[2,4,6,7],bl:=[1000000,1000001,1000002],tp:=[(.vl (.sv (.ptr 1000000 0))),(.vl (.sv (.ptr 1000001 0))),(.vl (.sv (.ptr 1000002 0))),tI],bp:=[(true,[(.one .bool),(.seq uU 6)]),(true,[(.one .bool),(.seq uU 6)]),(true,[(.one .bool),(.seq uU 6)])],xs:=[(2,[2,6])]}
def g100l0K{α:Type}(L:S_g100l0 α)(ls:List Lf)(k:KEx α):Option α:=
 L (lf ls 1).bool ((lf ls 2).lst uU)
  (fun a b=>k .normal (mkSt 35 [2,6] [(.vl (.sv (.ptr 1000000 0))),(.vl (.sv (.ptr 1000001 0)))] [1000000,1000001] [(true,[(.one (.bool (lf ls 1).bool)),(.seq uU 6 ((lf ls 2).lst uU))]),(true,[(.one (.bool a)),(.seq uU 6 b)])]))
  (lf ls 0).int (lf ls 3).bool ((lf ls 4).lst uU) (lf ls 5).bool ((lf ls 6).lst uU)
def g100b{α:Type}(G80:Al S_g80)(G77:Al S_g77)(G121:Al S_g121)(G118:Al S_g118)(G78:Al S_g78)(G76:Al S_g76)(L100l0:Al S_g100l0)(a:Int)(b:Bool→(List Int)→Option α):Option α:=G80 (1:Int) (fun c d=>G77 c d (IntKind.wrap .i64 (a+(16:Int))) (fun e h i=>L100l0 false [0,0,0,0,0,0] (fun j l=>G76 j l (16:Int) (fun n o=>b n o)) (1:Int) e h e h))
def g100{α:Type}(m:Nat):S_g100 α:=
 g100b (g80 m) (g77 m) (g121 m) (g118 m) (g78 m) (g76 m) (g100l0M m)
def g100tp:List TP:=[tI]
def g100bp:List BP:=[]
def g100K{α:Type}(G:S_g100 α)(ls:List Lf)(k:KRe α):Option α:=
 G (lf ls 0).int
  (fun a b=>k (.tup [(.agg [(.one (.bool a)),(.seq uU 6 b)]),(.sv (.int .i64 (0:Int)))]) [] [])
def g100R{α:Type}(G:S_g100 α):=rowK g100tp g100bp (g100K G)
def g100hd(G80:Al S_g80)(G77:Al S_g77)(G121:Al S_g121)(G118:Al S_g118)(G78:Al S_g78)(G76:Al S_g76)(L100l0:Al S_g100l0):Hd where
 call:=fun f args Bs k=>cond (Nat.beq f 80) (g80R G80 args Bs k) (cond (Nat.beq f 77) (g77R G77 args Bs k) (cond (Nat.beq f 121) (g121R G121 args Bs k) (cond (Nat.beq f 118) (g118R G118 args Bs k) (cond (Nat.beq f 78) (g78R G78 args Bs k) (cond (Nat.beq f 76) (g76R G76 args Bs k) (none))))))
 loop:=fun id st k=>cond (Nat.beq id 0) (loopH g100l0D (g100l0K L100l0) st k) (none)
 ro:=fun f=>cond (Nat.beq f 121) [0] ([])
def g100h(m:Nat):Hd:=g100hd (g80 m) (g77 m) (g121 m) (g118 m) (g78 m) (g76 m) (g100l0M m)
theorem g100l0Step(G80:Al S_g80)(G77:Al S_g77)(G121:Al S_g121)(G118:Al S_g118)(G78:Al S_g78)(G76:Al S_g76)(L100l0:Al S_g100l0){α:Type}(L:S_g100l0 α)(ls:List Lf)(k:KEx α):
  g100l0K (fun a b c d e h i j=>g100l0b G121 G80 G118 G78 a b c (L a b c) d e h i j) ls k=ev tab (g100hd G80 G77 G121 G118 G78 G76 L100l0) (bodyAt Tryz.f100 0) (atHead g100l0D ls) (loopK g100l0D 0 (loopH g100l0D (g100l0K L)) k):=by kernel_rfl
theorem g100Main(G80:Al S_g80)(G77:Al S_g77)(G121:Al S_g121)(G118:Al S_g118)(G78:Al S_g78)(G76:Al S_g76)(L100l0:Al S_g100l0){α:Type}(ls:List Lf)(k:KRe α):
  g100K (g100b G80 G77 G121 G118 G78 G76 L100l0) ls k=evFun tab (g100hd G80 G77 G121 G118 G78 G76 L100l0) Tryz.f100 (fT g100tp ls) (fB g100tp g100bp ls) k:=by kernel_rfl
theorem g100Calls(m:Nat):(g100h m).CallsOk Tryz.prog:=(cok_cons (g80Ok m) (cok_cons (g77Ok m) (cok_cons (g121Ok m) (cok_cons (g118Ok m) (cok_cons (g78Ok m) (cok_cons (g76Ok m) cok_nil))))))
theorem g100l0Ok(m:Nat)(α:Type)(st:St)(k:KEx α)(r:α)(h:(g100h m).loop 0 st k=some r):
  LoopS Tryz.prog 0 (bodyAt Tryz.f100 0) st k r:=
 lpk (F:=fun n ls k=>g100l0K (fun a b c d e i j l=>g100l0 (g121 m) (g80 m) (g118 m) (g78 m) a b c n d e i j l) ls k) (g100Calls m) (lb0 (by kernel_rfl))
  (fun _ _=>rfl) (fun n ls k=>g100l0Step (g80 m) (g77 m) (g121 m) (g118 m) (g78 m) (g76 m) (g100l0M m) (fun a b c=>g100l0 (g121 m) (g80 m) (g118 m) (g78 m) a b c n) ls k) (n:=m) h
theorem g100Ok(m:Nat):RowOk Tryz.prog 100 (fun{α}=>g100R (g100 m (α:=α))):=
 rwk (g100Calls m) (lo1 (by kernel_rfl) (g100l0Ok m))
  (fun _=>g100Main (g80 m) (g77 m) (g121 m) (g118 m) (g78 m) (g76 m) (g100l0M m))
abbrev S_g101(α:Type):Type:=Bool→(List Int)→(Bool→(List Int)→Option α)→Option α
abbrev S_g101l0(α:Type):Type:=Bool→(List Int)→Bool→(List Int)→(Bool→(List Int)→Option α)→Int→Bool→(List Int)→Option α
def g101l0b{α:Type}(G80:Al S_g80)(G77:Al S_g77)(G78:Al S_g78)(G119:Al S_g119)(G81:Al S_g81)(a:Bool)(b:List Int)(c:Bool)(d:List Int)(e:Bool→(List Int)→Option α)(h:Int→Bool→(List Int)→Option α)(i:Int)(j:Bool)(l:List Int):Option α:=cond (decide (i≥(0:Int))) (G80 (1:Int) (fun n o=>G77 n o i (fun p q r=>G78 j l p q (fun s t u=>cond (r !=(0:Int)) (h (IntKind.wrap .i64 (i-(1:Int))) j l) (cond (u !=(0:Int)) (h (IntKind.wrap .i64 (i-(1:Int))) j l) (G119 s t s t (fun v w x=>cond (x==(0:Int)) (G81 v w a b (fun y=>cond (decide (y≤(0:Int))) (h (IntKind.wrap .i64 (i-(1:Int))) s t) (h (IntKind.wrap .i64 (i-(1:Int))) j l))) (h (IntKind.wrap .i64 (i-(1:Int))) j l)))))))) (e j l)
def g101l0{α:Type}(G80:Al S_g80)(G77:Al S_g77)(G78:Al S_g78)(G119:Al S_g119)(G81:Al S_g81)(a:Bool)(b:List Int)(c:Bool)(d:List Int)(e:Bool→(List Int)→Option α):Nat→Int→Bool→(List Int)→Option α
 |0=>fun _ _ _=>none
 |m+1=>fun h i j=>g101l0b G80 G77 G78 G119 G81 a b c d e (g101l0 G80 G77 G78 G119 G81 a b c d e m) h i j
def g101l0M{α:Type}(m:Nat):S_g101l0 α:=
 fun a b c d e h i j=>g101l0 (g80 m) (g77 m) (g78 m) (g119 m) (g81 m) a b c d e m h i j
def g101l0D:LoopD:={n:=54,low:=[],sl:=[1,2,4,5],bl:=[1000000,1000001,1000002],tp:=[(.vl (.sv (.ptr 1000000 0))),(.vl (.sv (.ptr 1000001 0))),(.vl (.sv (.ptr 1000002 0))),tI],bp:=[(true,[(.one .bool),(.seq uU 6)]),(true,[(.one .bool),(.seq uU 6)]),(true,[(.one .bool),(.seq uU 6)])],xs:=[(2,[2,4])]}
def g101l0K{α:Type}(L:S_g101l0 α)(ls:List Lf)(k:KEx α):Option α:=
 L (lf ls 1).bool ((lf ls 2).lst uU) (lf ls 3).bool ((lf ls 4).lst uU)
  (fun a b=>k .normal (mkSt 54 [2,4] [(.vl (.sv (.ptr 1000000 0))),(.vl (.sv (.ptr 1000001 0)))] [1000000,1000001] [(true,[(.one (.bool (lf ls 3).bool)),(.seq uU 6 ((lf ls 4).lst uU))]),(true,[(.one (.bool a)),(.seq uU 6 b)])]))
  (lf ls 0).int (lf ls 5).bool ((lf ls 6).lst uU)
def g101b{α:Type}(G122:Al S_g122)(G80:Al S_g80)(G77:Al S_g77)(G78:Al S_g78)(G119:Al S_g119)(G81:Al S_g81)(L101l0:Al S_g101l0)(a:Bool)(b:List Int)(c:Bool→(List Int)→Option α):Option α:=G122 b (fun d=>L101l0 a b false [0,0,0,0,0,0] (fun e h=>c e h) (IntKind.wrap .i64 (Int.tdiv (IntKind.wrap .i64 (d+(1:Int))) (2:Int))) false [0,0,0,0,0,0])
def g101{α:Type}(m:Nat):S_g101 α:=
 g101b (g122 m) (g80 m) (g77 m) (g78 m) (g119 m) (g81 m) (g101l0M m)
def g101tp:List TP:=[vW]
def g101bp:List BP:=[]
def g101K{α:Type}(G:S_g101 α)(ls:List Lf)(k:KRe α):Option α:=
 G (lf ls 0).bool ((lf ls 1).lst uU)
  (fun a b=>k (.vl (.agg [(.one (.bool a)),(.seq uU 6 b)])) [] [])
def g101R{α:Type}(G:S_g101 α):=rowK g101tp g101bp (g101K G)
def g101hd(G122:Al S_g122)(G80:Al S_g80)(G77:Al S_g77)(G78:Al S_g78)(G119:Al S_g119)(G81:Al S_g81)(L101l0:Al S_g101l0):Hd where
 call:=fun f args Bs k=>cond (Nat.beq f 122) (g122R G122 args Bs k) (cond (Nat.beq f 80) (g80R G80 args Bs k) (cond (Nat.beq f 77) (g77R G77 args Bs k) (cond (Nat.beq f 78) (g78R G78 args Bs k) (cond (Nat.beq f 119) (g119R G119 args Bs k) (cond (Nat.beq f 81) (g81R G81 args Bs k) (none))))))
 loop:=fun id st k=>cond (Nat.beq id 0) (loopH g101l0D (g101l0K L101l0) st k) (none)
 ro:=fun f=>cond (Nat.beq f 81) [0,1] (cond (Nat.beq f 122) [0] ([]))
def g101h(m:Nat):Hd:=g101hd (g122 m) (g80 m) (g77 m) (g78 m) (g119 m) (g81 m) (g101l0M m)
theorem g101l0Step(G122:Al S_g122)(G80:Al S_g80)(G77:Al S_g77)(G78:Al S_g78)(G119:Al S_g119)(G81:Al S_g81)(L101l0:Al S_g101l0){α:Type}(L:S_g101l0 α)(ls:List Lf)(k:KEx α):
  g101l0K (fun a b c d e h i j=>g101l0b G80 G77 G78 G119 G81 a b c d e (L a b c d e) h i j) ls k=ev tab (g101hd G122 G80 G77 G78 G119 G81 L101l0) (bodyAt Tryz.f101 0) (atHead g101l0D ls) (loopK g101l0D 0 (loopH g101l0D (g101l0K L)) k):=by kernel_rfl
theorem g101Main(G122:Al S_g122)(G80:Al S_g80)(G77:Al S_g77)(G78:Al S_g78)(G119:Al S_g119)(G81:Al S_g81)(L101l0:Al S_g101l0){α:Type}(ls:List Lf)(k:KRe α):
  g101K (g101b G122 G80 G77 G78 G119 G81 L101l0) ls k=evFun tab (g101hd G122 G80 G77 G78 G119 G81 L101l0) Tryz.f101 (fT g101tp ls) (fB g101tp g101bp ls) k:=by kernel_rfl
theorem g101Calls(m:Nat):(g101h m).CallsOk Tryz.prog:=(cok_cons (g122Ok m) (cok_cons (g80Ok m) (cok_cons (g77Ok m) (cok_cons (g78Ok m) (cok_cons (g119Ok m) (cok_cons (g81Ok m) cok_nil))))))
theorem g101l0Ok(m:Nat)(α:Type)(st:St)(k:KEx α)(r:α)(h:(g101h m).loop 0 st k=some r):
  LoopS Tryz.prog 0 (bodyAt Tryz.f101 0) st k r:=
 lpk (F:=fun n ls k=>g101l0K (fun a b c d e i j l=>g101l0 (g80 m) (g77 m) (g78 m) (g119 m) (g81 m) a b c d e n i j l) ls k) (g101Calls m) (lb0 (by kernel_rfl))
  (fun _ _=>rfl) (fun n ls k=>g101l0Step (g122 m) (g80 m) (g77 m) (g78 m) (g119 m) (g81 m) (g101l0M m) (fun a b c d e=>g101l0 (g80 m) (g77 m) (g78 m) (g119 m) (g81 m) a b c d e n) ls k) (n:=m) h
theorem g101Ok(m:Nat):RowOk Tryz.prog 101 (fun{α}=>g101R (g101 m (α:=α))):=
 rwk (g101Calls m) (lo1 (by kernel_rfl) (g101l0Ok m))
  (fun _=>g101Main (g122 m) (g80 m) (g77 m) (g78 m) (g119 m) (g81 m) (g101l0M m))
abbrev S_g36(α:Type):Type:=Int→Int→Nat→Nat→Nat→Nat→Nat→Nat→Nat→Ty0→Ty1→Ty0→(Bool→(List Int)→Int→Nat→Nat→Nat→Nat→Nat→Nat→Nat→Ty0→Ty1→Ty0→Option α)→Option α
def g36tp:List TP:=[(.vl (.sv (.ptr 0 0))),tI,tI]
def g36bp:List BP:=[(true,[(.one (.slc 1 0 5)),(.one (.slc 2 0 1)),(.one (.gsl 3 2))]),(false,[(.seqv rN)]),(true,[(.rws mK)]),(true,[(.gro rP)])]
def g36K{α:Type}(G:S_g36 α)(ls:List Lf)(k:KRe α):Option α:=
 G (lf ls 0).int (lf ls 1).int (lf ls 2).nat (lf ls 3).nat (lf ls 4).nat (lf ls 5).nat (lf ls 6).nat (lf ls 7).nat (lf ls 8).nat ((lf ls 9).lst rN) ((lf ls 10).rows mK) ((lf ls 11).lst rP)
  (fun c d e h j l n o p q r s t=>k (.tup [(.agg [(.one (.bool c)),(.seq uU 6 d)]),(.sv (.int .i64 e))]) [[(.one (.slc 1 0 5 h j l)),(.one (.slc 2 0 1 n o p)),(.one (.gsl 4 2))],[(.seq rN q r)],[(.rws mK s none)],[]] [[(.gro rP t)]])
abbrev HA36(A36:Al S_g36):Prop:=RowOk Tryz.prog 36 (fun{α}=>rowK g36tp g36bp (g36K (A36 (α:=α))))
def g36R{α:Type}(G:S_g36 α):=rowK g36tp g36bp (g36K G)
abbrev S_g123(α:Type):Type:=Int→Nat→Nat→Nat→Nat→Nat→Nat→Nat→Ty0→Ty1→Ty0→(Int→Int→Nat→Nat→Nat→Nat→Nat→Nat→Ty1→Ty0→Option α)→Option α
def g123b{α:Type}(G36:Al S_g36)(G80:Al S_g80)(G78:Al S_g78)(G122:Al S_g122)(G77:Al S_g77)(G81:Al S_g81)(a:Int)(b c:Nat)(d e:Nat)(h i j:Nat)(l:Ty0)(n:Ty1)(o:Ty0)(p:Int→Int→Nat→Nat→Nat→Nat→Nat→Nat→Ty1→Ty0→Option α):Option α:=G36 a (0:Int) b c d e h i j l n o (fun q r s t u v w x y z a0 b0 c0=>cond (s !=(0:Int)) (p (0:Int) s t u v w x y b0 c0) (G80 (1:Int) (fun d0 e0=>G78 false r d0 e0 (fun h0 i0 j0=>cond (j0 !=(0:Int)) (p (0:Int) j0 t u v w x y b0 c0) (G122 i0 (fun l0=>G80 (1:Int) (fun n0 o0=>G77 n0 o0 (IntKind.wrap .i64 (l0-(1:Int))) (fun p0 q0 r0=>cond (r0==(0:Int)) (G81 p0 q0 h0 i0 (fun s0=>cond (s0==(0:Int)) (p (IntKind.wrap .i64 (l0-(1:Int))) (0:Int) t u v w x y b0 c0) (p l0 (0:Int) t u v w x y b0 c0))) (p l0 (0:Int) t u v w x y b0 c0)))))))))
def g123(A36:Al S_g36){α:Type}(m:Nat):S_g123 α:=
 g123b A36 (g80 m) (g78 m) (g122 m) (g77 m) (g81 m)
def g123tp:List TP:=[(.vl (.sv (.ptr 0 0))),tI]
def g123bp:List BP:=[(true,[(.one (.slc 1 0 5)),(.one (.slc 2 0 1)),(.one (.gsl 3 2))]),(false,[(.seqv rN)]),(true,[(.rws mK)]),(true,[(.gro rP)])]
def g123K{α:Type}(G:S_g123 α)(ls:List Lf)(k:KRe α):Option α:=
 G (lf ls 0).int (lf ls 1).nat (lf ls 2).nat (lf ls 3).nat (lf ls 4).nat (lf ls 5).nat (lf ls 6).nat (lf ls 7).nat ((lf ls 8).lst rN) ((lf ls 9).rows mK) ((lf ls 10).lst rP)
  (fun c d e h j l n o p q=>k (.tup [(.sv (.int .i64 c)),(.sv (.int .i64 d))]) [[(.one (.slc 1 0 5 e h j)),(.one (.slc 2 0 1 l n o)),(.one (.gsl 4 2))],[(.seq rN (lf ls 7).nat ((lf ls 8).lst rN))],[(.rws mK p none)],[]] [[(.gro rP q)]])
def g123R{α:Type}(G:S_g123 α):=rowK g123tp g123bp (g123K G)
def g123hd(G36:Al S_g36)(G80:Al S_g80)(G78:Al S_g78)(G122:Al S_g122)(G77:Al S_g77)(G81:Al S_g81):Hd where
 call:=fun f args Bs k=>cond (Nat.beq f 36) (g36R G36 args Bs k) (cond (Nat.beq f 80) (g80R G80 args Bs k) (cond (Nat.beq f 78) (g78R G78 args Bs k) (cond (Nat.beq f 122) (g122R G122 args Bs k) (cond (Nat.beq f 77) (g77R G77 args Bs k) (cond (Nat.beq f 81) (g81R G81 args Bs k) (none))))))
 loop:=fun id st k=>none
 ro:=fun f=>cond (Nat.beq f 36) [1] (cond (Nat.beq f 81) [0,1] (cond (Nat.beq f 122) [0] ([])))
def g123h(A36:Al S_g36)(m:Nat):Hd:=g123hd A36 (g80 m) (g78 m) (g122 m) (g77 m) (g81 m)
theorem g123Main(G36:Al S_g36)(G80:Al S_g80)(G78:Al S_g78)(G122:Al S_g122)(G77:Al S_g77)(G81:Al S_g81){α:Type}(ls:List Lf)(k:KRe α):
  g123K (g123b G36 G80 G78 G122 G77 G81) ls k=evFunM tab (g123hd G36 G80 G78 G122 G77 G81) Tryz.f123 3 (fT g123tp ls) (fB g123tp g123bp ls) k:=by kernel_rfl
theorem g123Calls(A36:Al S_g36)(hA36:HA36 A36)(m:Nat):(g123h A36 m).CallsOk Tryz.prog:=(cok_cons hA36 (cok_cons (g80Ok m) (cok_cons (g78Ok m) (cok_cons (g122Ok m) (cok_cons (g77Ok m) (cok_cons (g81Ok m) cok_nil))))))
theorem g123Fn(A36:Al S_g36)(hA36:HA36 A36)(m:Nat):FnOk Tryz.prog 123 g123tp g123bp (fun{α}=>g123K (g123 A36 m (α:=α))):=
 fn_okM (tab:=tab) (h:=g123h A36 m) (fn:=Tryz.f123) (F:=fun{α}=>g123K (g123 A36 m (α:=α))) tabOk (g123Calls A36 hA36 m) mixed (by kernel_rfl) (by kernel_rfl) (fun c hc=>by
  rw[bodyOf_some hc]
  exact loopsOk_of _ (fun p hp=>by rw[show loopsOf (bodyOf Tryz.f123)=[] by kernel_rfl] at hp;cases hp))
  (fun _=>g123Main A36 (g80 m) (g78 m) (g122 m) (g77 m) (g81 m))
theorem g123Ok(A36:Al S_g36)(hA36:HA36 A36)(m:Nat):RowOk Tryz.prog 123 (fun{α}=>g123R (g123 A36 m (α:=α))):=row_of (g123Fn A36 hA36 m)
abbrev S_g124(α:Type):Type:=Bool→(List Int)→Int→(Bool→(List Int)→Int→Option α)→Option α
def g124b{α:Type}(G76:Al S_g76)(a:Bool)(b:List Int)(c:Int)(d:Bool→(List Int)→Int→Option α):Option α:=cond (decide (c>(191:Int))) (d false [0,0,0,0,0,0] (3:Int)) (G76 a b c (fun e h=>d e h (0:Int)))
def g124{α:Type}(m:Nat):S_g124 α:=
 g124b (g76 m)
def g124tp:List TP:=[vW,tI]
def g124bp:List BP:=[]
def g124K{α:Type}(G:S_g124 α)(ls:List Lf)(k:KRe α):Option α:=
 G (lf ls 0).bool ((lf ls 1).lst uU) (lf ls 2).int
  (fun a b c=>k (.tup [(.agg [(.one (.bool a)),(.seq uU 6 b)]),(.sv (.int .i64 c))]) [] [])
def g124R{α:Type}(G:S_g124 α):=rowK g124tp g124bp (g124K G)
def g124hd(G76:Al S_g76):Hd where
 call:=fun f args Bs k=>cond (Nat.beq f 76) (g76R G76 args Bs k) (none)
 loop:=fun id st k=>none
 ro:=fun f=>[]
def g124h(m:Nat):Hd:=g124hd (g76 m)
theorem g124Main(G76:Al S_g76){α:Type}(ls:List Lf)(k:KRe α):
  g124K (g124b G76) ls k=evFun tab (g124hd G76) Tryz.f124 (fT g124tp ls) (fB g124tp g124bp ls) k:=by kernel_rfl
theorem g124Calls(m:Nat):(g124h m).CallsOk Tryz.prog:=(cok_cons (g76Ok m) cok_nil)
theorem g124Ok(m:Nat):RowOk Tryz.prog 124 (fun{α}=>g124R (g124 m (α:=α))):=
 rwk (g124Calls m) (lo0 (by kernel_rfl))
  (fun _=>g124Main (g76 m))
abbrev S_g102(α:Type):Type:=Nat→Int→Nat→Nat→Nat→Nat→Nat→Nat→Nat→Ty0→Ty1→Ty0→(Bool→(List Int)→Int→Nat→Nat→Nat→Nat→Nat→Nat→Ty1→Ty0→Option α)→Option α
def g102b{α:Type}(G123:Al S_g123)(G36:Al S_g36)(G119:Al S_g119)(G124:Al S_g124)(a:Nat)(b:Int)(c d:Nat)(e h:Nat)(i j l:Nat)(n:Ty0)(o:Ty1)(p:Ty0)(q:Bool→(List Int)→Int→Nat→Nat→Nat→Nat→Nat→Nat→Ty1→Ty0→Option α):Option α:=if a<l then G123 (IntKind.wrap .i64 (((List.getD n a []).tail).headD 0)) c d e h i j l n o p (fun r s t u v w x y z a0=>cond (s !=(0:Int)) (q false [0,0,0,0,0,0] s t u v w x y z a0) (if a<l then G123 (IntKind.wrap .i64 (((List.getD n a []).tail.tail).headD 0)) t u v w x y l n z a0 (fun b0 c0 d0 e0 h0 i0 j0 l0 n0 o0=>cond (c0 !=(0:Int)) (q false [0,0,0,0,0,0] c0 d0 e0 h0 i0 j0 l0 n0 o0) (if a<l then G36 (IntKind.wrap .i64 (((List.getD n a []).tail).headD 0)) (IntKind.wrap .i64 ((IntKind.wrap .i64 (b+b0))+(3:Int))) d0 e0 h0 i0 j0 l0 l n n0 o0 (fun p0 q0 r0 s0 t0 u0 v0 w0 x0 y0 z0 a1 b1=>cond (r0 !=(0:Int)) (q false [0,0,0,0,0,0] r0 s0 t0 u0 v0 w0 x0 a1 b1) (if a<l then G36 (IntKind.wrap .i64 (((List.getD n a []).tail.tail).headD 0)) (IntKind.wrap .i64 ((IntKind.wrap .i64 (b+r))+(3:Int))) s0 t0 u0 v0 w0 x0 l n a1 b1 (fun c1 d1 e1 h1 i1 j1 l1 n1 o1 p1 q1 r1 s1=>cond (e1 !=(0:Int)) (q false [0,0,0,0,0,0] e1 h1 i1 j1 l1 n1 o1 r1 s1) (G119 p0 q0 c1 d1 (fun t1 u1 v1=>cond (v1 !=(0:Int)) (q false [0,0,0,0,0,0] v1 h1 i1 j1 l1 n1 o1 r1 s1) (G124 t1 u1 (IntKind.wrap .i64 ((IntKind.wrap .i64 ((IntKind.wrap .i64 (b+r))+b0))+(6:Int))) (fun w1 x1 y1=>q w1 x1 y1 h1 i1 j1 l1 n1 o1 r1 s1))))) else none)) else none)) else none)) else none
def g102(A36:Al S_g36){α:Type}(m:Nat):S_g102 α:=
 g102b (g123 A36 m) A36 (g119 m) (g124 m)
def g102tp:List TP:=[(.vl (.sv (.ptr 0 0))),(.vl (.sv (.el 1 0 5 0))),tI]
def g102bp:List BP:=[(true,[(.one (.slc 1 0 5)),(.one (.slc 2 0 1)),(.one (.gsl 3 2))]),(false,[(.seqv rN)]),(true,[(.rws mK)]),(true,[(.gro rP)])]
def g102K{α:Type}(G:S_g102 α)(ls:List Lf)(k:KRe α):Option α:=
 G (lf ls 0).nat (lf ls 1).int (lf ls 2).nat (lf ls 3).nat (lf ls 4).nat (lf ls 5).nat (lf ls 6).nat (lf ls 7).nat (lf ls 8).nat ((lf ls 9).lst rN) ((lf ls 10).rows mK) ((lf ls 11).lst rP)
  (fun c d e h j l n o p q r=>k (.tup [(.agg [(.one (.bool c)),(.seq uU 6 d)]),(.sv (.int .i64 e))]) [[(.one (.slc 1 0 5 h j l)),(.one (.slc 2 0 1 n o p)),(.one (.gsl 4 2))],[(.seq rN (lf ls 8).nat ((lf ls 9).lst rN))],[(.rws mK q none)],[]] [[(.gro rP r)]])
def g102R{α:Type}(G:S_g102 α):=rowK g102tp g102bp (g102K G)
def g102hd(G123:Al S_g123)(G36:Al S_g36)(G119:Al S_g119)(G124:Al S_g124):Hd where
 call:=fun f args Bs k=>cond (Nat.beq f 123) (g123R G123 args Bs k) (cond (Nat.beq f 36) (g36R G36 args Bs k) (cond (Nat.beq f 119) (g119R G119 args Bs k) (cond (Nat.beq f 124) (g124R G124 args Bs k) (none))))
 loop:=fun id st k=>none
 ro:=fun f=>cond (Nat.beq f 36) [1] (cond (Nat.beq f 123) [1] ([]))
def g102h(A36:Al S_g36)(m:Nat):Hd:=g102hd (g123 A36 m) A36 (g119 m) (g124 m)
theorem g102Main(G123:Al S_g123)(G36:Al S_g36)(G119:Al S_g119)(G124:Al S_g124){α:Type}(ls:List Lf)(k:KRe α):
  g102K (g102b G123 G36 G119 G124) ls k=evFunM tab (g102hd G123 G36 G119 G124) Tryz.f102 3 (fT g102tp ls) (fB g102tp g102bp ls) k:=by kernel_rfl
theorem g102Calls(A36:Al S_g36)(hA36:HA36 A36)(m:Nat):(g102h A36 m).CallsOk Tryz.prog:=(cok_cons (g123Ok A36 hA36 m) (cok_cons hA36 (cok_cons (g119Ok m) (cok_cons (g124Ok m) cok_nil))))
theorem g102Fn(A36:Al S_g36)(hA36:HA36 A36)(m:Nat):FnOk Tryz.prog 102 g102tp g102bp (fun{α}=>g102K (g102 A36 m (α:=α))):=
 fn_okM (tab:=tab) (h:=g102h A36 m) (fn:=Tryz.f102) (F:=fun{α}=>g102K (g102 A36 m (α:=α))) tabOk (g102Calls A36 hA36 m) mixed (by kernel_rfl) (by kernel_rfl) (fun c hc=>by
  rw[bodyOf_some hc]
  exact loopsOk_of _ (fun p hp=>by rw[show loopsOf (bodyOf Tryz.f102)=[] by kernel_rfl] at hp;cases hp))
  (fun _=>g102Main (g123 A36 m) A36 (g119 m) (g124 m))
theorem g102Ok(A36:Al S_g36)(hA36:HA36 A36)(m:Nat):RowOk Tryz.prog 102 (fun{α}=>g102R (g102 A36 m (α:=α))):=row_of (g102Fn A36 hA36 m)
abbrev S_g125(α:Type):Type:=Int→Nat→Nat→Nat→Nat→Nat→Nat→Nat→Ty0→Ty1→Ty0→(Int→Int→Nat→Nat→Nat→Nat→Nat→Nat→Ty1→Ty0→Option α)→Option α
abbrev S_g125l0(α:Type):Type:=Int→Nat→Ty0→(Int→Int→Nat→Nat→Nat→Nat→Nat→Nat→Ty1→Ty0→Option α)→(Nat→Nat→Nat→Nat→Nat→Nat→Ty1→Ty0→Option α)→Int→Nat→Nat→Nat→Nat→Nat→Nat→Ty1→Ty0→Option α
def g125l0b{α:Type}(G36:Al S_g36)(G80:Al S_g80)(G81:Al S_g81)(a:Int)(b:Nat)(c:Ty0)(d:Int→Int→Nat→Nat→Nat→Nat→Nat→Nat→Ty1→Ty0→Option α)(e:Nat→Nat→Nat→Nat→Nat→Nat→Ty1→Ty0→Option α)(h:Int→Nat→Nat→Nat→Nat→Nat→Nat→Ty1→Ty0→Option α)(i:Int)(j l:Nat)(n o:Nat)(p q:Nat)(r:Ty1)(s:Ty0):Option α:=cond (decide (i≤(40:Int))) (G36 a (IntKind.wrap .i64 (i+(2:Int))) j l n o p q b c r s (fun t u v w x y z a0 b0 c0 d0 e0 h0=>cond (v !=(0:Int)) (d (0:Int) v w x y z a0 b0 e0 h0) (G80 (5:Int) (fun i0 j0=>G81 false u i0 j0 (fun l0=>cond (decide (l0≥(0:Int))) (d i (0:Int) w x y z a0 b0 e0 h0) (h (IntKind.wrap .i64 (i+(1:Int))) w x y z a0 b0 e0 h0)))))) (e j l n o p q r s)
def g125l0{α:Type}(G36:Al S_g36)(G80:Al S_g80)(G81:Al S_g81)(a:Int)(b:Nat)(c:Ty0)(d:Int→Int→Nat→Nat→Nat→Nat→Nat→Nat→Ty1→Ty0→Option α)(e:Nat→Nat→Nat→Nat→Nat→Nat→Ty1→Ty0→Option α):Nat→Int→Nat→Nat→Nat→Nat→Nat→Nat→Ty1→Ty0→Option α
 |0=>fun _ _ _ _ _ _ _ _ _=>none
 |m+1=>fun h i j l n o p q r=>g125l0b G36 G80 G81 a b c d e (g125l0 G36 G80 G81 a b c d e m) h i j l n o p q r
def g125l0M(A36:Al S_g36){α:Type}(m:Nat):S_g125l0 α:=
 fun a b c d e h i j l n o p q r=>g125l0 A36 (g80 m) (g81 m) a b c d e m h i j l n o p q r
def g125l0D:LoopD:={n:=30,low:=[0,1,2,3],sl:=[0,1,6],bl:=[0,1,2,3,1000004],tp:=[(.vl (.sv (.ptr 0 0))),tI,tI],bp:=[(true,[(.one (.slc 1 0 5)),(.one (.slc 2 0 1)),(.one (.gsl 1000004 2))]),(false,[(.seqv rN)]),(true,[(.rws mK)]),(true,[]),(true,[(.gro rP)])],xs:=[(1,[4,5]),(2,[])]}
def g125l0K{α:Type}(L:S_g125l0 α)(ls:List Lf)(k:KEx α):Option α:=
 L (lf ls 0).int (lf ls 8).nat ((lf ls 9).lst rN)
  (fun c d e h j l n o p q=>k .ret (mkSt 30 [4,5] [(.vl (.sv (.int .i64 c))),(.vl (.sv (.int .i64 d)))] [0,1,2,3,1000004] [(true,[(.one (.slc 1 0 5 e h j)),(.one (.slc 2 0 1 l n o)),(.one (.gsl 1000004 2))]),(false,[(.seq rN (lf ls 8).nat ((lf ls 9).lst rN))]),(true,[(.rws mK p none)]),(true,[]),(true,[(.gro rP q)])]))
  (fun c d e h j l r s=>k .normal (mkSt 30 [] [] [0,1,2,3,1000004] [(true,[(.one (.slc 1 0 5 c d e)),(.one (.slc 2 0 1 h j l)),(.one (.gsl 1000004 2))]),(false,[(.seq rN (lf ls 8).nat ((lf ls 9).lst rN))]),(true,[(.rws mK r none)]),(true,[]),(true,[(.gro rP s)])]))
  (lf ls 1).int (lf ls 2).nat (lf ls 3).nat (lf ls 4).nat (lf ls 5).nat (lf ls 6).nat (lf ls 7).nat ((lf ls 10).rows mK) ((lf ls 11).lst rP)
def g125b{α:Type}(G36:Al S_g36)(G80:Al S_g80)(G81:Al S_g81)(L125l0:Al S_g125l0)(a:Int)(b c:Nat)(d e:Nat)(h i j:Nat)(l:Ty0)(n:Ty1)(o:Ty0)(p:Int→Int→Nat→Nat→Nat→Nat→Nat→Nat→Ty1→Ty0→Option α):Option α:=L125l0 a j l (fun q r s t u v w x y z=>p q r s t u v w x y z) (fun a0 b0 c0 d0 e0 h0 i0 j0=>p (0:Int) (7:Int) a0 b0 c0 d0 e0 h0 i0 j0) (0:Int) b c d e h i n o
def g125(A36:Al S_g36){α:Type}(m:Nat):S_g125 α:=
 g125b A36 (g80 m) (g81 m) (g125l0M A36 m)
def g125tp:List TP:=[(.vl (.sv (.ptr 0 0))),tI]
def g125bp:List BP:=[(true,[(.one (.slc 1 0 5)),(.one (.slc 2 0 1)),(.one (.gsl 3 2))]),(false,[(.seqv rN)]),(true,[(.rws mK)]),(true,[(.gro rP)])]
def g125K{α:Type}(G:S_g125 α)(ls:List Lf)(k:KRe α):Option α:=
 G (lf ls 0).int (lf ls 1).nat (lf ls 2).nat (lf ls 3).nat (lf ls 4).nat (lf ls 5).nat (lf ls 6).nat (lf ls 7).nat ((lf ls 8).lst rN) ((lf ls 9).rows mK) ((lf ls 10).lst rP)
  (fun c d e h j l n o p q=>k (.tup [(.sv (.int .i64 c)),(.sv (.int .i64 d))]) [[(.one (.slc 1 0 5 e h j)),(.one (.slc 2 0 1 l n o)),(.one (.gsl 4 2))],[(.seq rN (lf ls 7).nat ((lf ls 8).lst rN))],[(.rws mK p none)],[]] [[(.gro rP q)]])
def g125R{α:Type}(G:S_g125 α):=rowK g125tp g125bp (g125K G)
def g125hd(G36:Al S_g36)(G80:Al S_g80)(G81:Al S_g81)(L125l0:Al S_g125l0):Hd where
 call:=fun f args Bs k=>cond (Nat.beq f 36) (g36R G36 args Bs k) (cond (Nat.beq f 80) (g80R G80 args Bs k) (cond (Nat.beq f 81) (g81R G81 args Bs k) (none)))
 loop:=fun id st k=>cond (Nat.beq id 0) (loopH g125l0D (g125l0K L125l0) st k) (none)
 ro:=fun f=>cond (Nat.beq f 36) [1] (cond (Nat.beq f 81) [0,1] ([]))
def g125h(A36:Al S_g36)(m:Nat):Hd:=g125hd A36 (g80 m) (g81 m) (g125l0M A36 m)
theorem g125l0Step(G36:Al S_g36)(G80:Al S_g80)(G81:Al S_g81)(L125l0:Al S_g125l0){α:Type}(L:S_g125l0 α)(ls:List Lf)(k:KEx α):
  g125l0K (fun a b c d e h i j l n o p q r=>g125l0b G36 G80 G81 a b c d e (L a b c d e) h i j l n o p q r) ls k=ev tab (g125hd G36 G80 G81 L125l0) (bodyAt Tryz.f125 0) (atHead g125l0D ls) (loopK g125l0D 0 (loopH g125l0D (g125l0K L)) k):=by kernel_rfl
theorem g125Main(G36:Al S_g36)(G80:Al S_g80)(G81:Al S_g81)(L125l0:Al S_g125l0){α:Type}(ls:List Lf)(k:KRe α):
  g125K (g125b G36 G80 G81 L125l0) ls k=evFunM tab (g125hd G36 G80 G81 L125l0) Tryz.f125 3 (fT g125tp ls) (fB g125tp g125bp ls) k:=by kernel_rfl
theorem g125Calls(A36:Al S_g36)(hA36:HA36 A36)(m:Nat):(g125h A36 m).CallsOk Tryz.prog:=(cok_cons hA36 (cok_cons (g80Ok m) (cok_cons (g81Ok m) cok_nil)))
theorem g125l0Ok(A36:Al S_g36)(hA36:HA36 A36)(m:Nat)(α:Type)(st:St)(k:KEx α)(r:α)(h:(g125h A36 m).loop 0 st k=some r):
  LoopS Tryz.prog 0 (bodyAt Tryz.f125 0) st k r:=
 lpk (F:=fun n ls k=>g125l0K (fun a b c d e i j l o q s t u v=>g125l0 A36 (g80 m) (g81 m) a b c d e n i j l o q s t u v) ls k) (g125Calls A36 hA36 m) (lb0 (by kernel_rfl))
  (fun _ _=>rfl) (fun n ls k=>g125l0Step A36 (g80 m) (g81 m) (g125l0M A36 m) (fun a b c d e=>g125l0 A36 (g80 m) (g81 m) a b c d e n) ls k) (n:=m) h
theorem g125Fn(A36:Al S_g36)(hA36:HA36 A36)(m:Nat):FnOk Tryz.prog 125 g125tp g125bp (fun{α}=>g125K (g125 A36 m (α:=α))):=
 fn_okM (tab:=tab) (h:=g125h A36 m) (fn:=Tryz.f125) (F:=fun{α}=>g125K (g125 A36 m (α:=α))) tabOk (g125Calls A36 hA36 m) mixed (by kernel_rfl) (by kernel_rfl) (fun c hc=>by
  rw[bodyOf_some hc]
  exact loopsOk_of _ (fun p hp=>by
  rw[show loopsOf (bodyOf Tryz.f125)=[(0,bodyAt Tryz.f125 0)] by kernel_rfl] at hp
  simp only[List.mem_cons,List.not_mem_nil,or_false] at hp
  rcases hp with rfl
  exact g125l0Ok A36 hA36 m))
  (fun _=>g125Main A36 (g80 m) (g81 m) (g125l0M A36 m))
theorem g125Ok(A36:Al S_g36)(hA36:HA36 A36)(m:Nat):RowOk Tryz.prog 125 (fun{α}=>g125R (g125 A36 m (α:=α))):=row_of (g125Fn A36 hA36 m)
abbrev S_g103(α:Type):Type:=Nat→Int→Nat→Nat→Nat→Nat→Nat→Nat→Nat→Ty0→Ty1→Ty0→(Bool→(List Int)→Int→Nat→Nat→Nat→Nat→Nat→Nat→Ty1→Ty0→Option α)→Option α
def g103b{α:Type}(G125:Al S_g125)(G123:Al S_g123)(G36:Al S_g36)(G97:Al S_g97)(G98:Al S_g98)(a:Nat)(b:Int)(c d:Nat)(e h:Nat)(i j l:Nat)(n:Ty0)(o:Ty1)(p:Ty0)(q:Bool→(List Int)→Int→Nat→Nat→Nat→Nat→Nat→Nat→Ty1→Ty0→Option α):Option α:=if a<l then G125 (IntKind.wrap .i64 (((List.getD n a []).tail.tail).headD 0)) c d e h i j l n o p (fun r s t u v w x y z a0=>cond (s !=(0:Int)) (q false [0,0,0,0,0,0] s t u v w x y z a0) (if a<l then G123 (IntKind.wrap .i64 (((List.getD n a []).tail).headD 0)) t u v w x y l n z a0 (fun b0 c0 d0 e0 h0 i0 j0 l0 n0 o0=>cond (c0 !=(0:Int)) (q false [0,0,0,0,0,0] c0 d0 e0 h0 i0 j0 l0 n0 o0) (if a<l then G36 (IntKind.wrap .i64 (((List.getD n a []).tail).headD 0)) (IntKind.wrap .i64 ((IntKind.wrap .i64 (b+r))+(3:Int))) d0 e0 h0 i0 j0 l0 l n n0 o0 (fun p0 q0 r0 s0 t0 u0 v0 w0 x0 y0 z0 a1 b1=>cond (r0 !=(0:Int)) (q false [0,0,0,0,0,0] r0 s0 t0 u0 v0 w0 x0 a1 b1) (if a<l then G36 (IntKind.wrap .i64 (((List.getD n a []).tail.tail).headD 0)) (IntKind.wrap .i64 ((IntKind.wrap .i64 ((IntKind.wrap .i64 (b+b0))+(IntKind.wrap .i64 ((2:Int)*r))))+(4:Int))) s0 t0 u0 v0 w0 x0 l n a1 b1 (fun c1 d1 e1 h1 i1 j1 l1 n1 o1 p1 q1 r1 s1=>cond (e1 !=(0:Int)) (q false [0,0,0,0,0,0] e1 h1 i1 j1 l1 n1 o1 r1 s1) (G97 p0 q0 (IntKind.wrap .i64 ((IntKind.wrap .i64 ((IntKind.wrap .i64 (b+b0))+r))+(1:Int))) (fun t1 u1 v1=>cond (v1 !=(0:Int)) (q false [0,0,0,0,0,0] v1 h1 i1 j1 l1 n1 o1 r1 s1) (G98 t1 u1 c1 d1 (fun w1 x1=>q w1 x1 (0:Int) h1 i1 j1 l1 n1 o1 r1 s1))))) else none)) else none)) else none)) else none
def g103(A36:Al S_g36){α:Type}(m:Nat):S_g103 α:=
 g103b (g125 A36 m) (g123 A36 m) A36 (g97 m) (g98 m)
def g103tp:List TP:=[(.vl (.sv (.ptr 0 0))),(.vl (.sv (.el 1 0 5 0))),tI]
def g103bp:List BP:=[(true,[(.one (.slc 1 0 5)),(.one (.slc 2 0 1)),(.one (.gsl 3 2))]),(false,[(.seqv rN)]),(true,[(.rws mK)]),(true,[(.gro rP)])]
def g103K{α:Type}(G:S_g103 α)(ls:List Lf)(k:KRe α):Option α:=
 G (lf ls 0).nat (lf ls 1).int (lf ls 2).nat (lf ls 3).nat (lf ls 4).nat (lf ls 5).nat (lf ls 6).nat (lf ls 7).nat (lf ls 8).nat ((lf ls 9).lst rN) ((lf ls 10).rows mK) ((lf ls 11).lst rP)
  (fun c d e h j l n o p q r=>k (.tup [(.agg [(.one (.bool c)),(.seq uU 6 d)]),(.sv (.int .i64 e))]) [[(.one (.slc 1 0 5 h j l)),(.one (.slc 2 0 1 n o p)),(.one (.gsl 4 2))],[(.seq rN (lf ls 8).nat ((lf ls 9).lst rN))],[(.rws mK q none)],[]] [[(.gro rP r)]])
def g103R{α:Type}(G:S_g103 α):=rowK g103tp g103bp (g103K G)
def g103hd(G125:Al S_g125)(G123:Al S_g123)(G36:Al S_g36)(G97:Al S_g97)(G98:Al S_g98):Hd where
 call:=fun f args Bs k=>cond (Nat.beq f 125) (g125R G125 args Bs k) (cond (Nat.beq f 123) (g123R G123 args Bs k) (cond (Nat.beq f 36) (g36R G36 args Bs k) (cond (Nat.beq f 97) (g97R G97 args Bs k) (cond (Nat.beq f 98) (g98R G98 args Bs k) (none)))))
 loop:=fun id st k=>none
 ro:=fun f=>cond (Nat.beq f 36) [1] (cond (Nat.beq f 123) [1] (cond (Nat.beq f 125) [1] ([])))
def g103h(A36:Al S_g36)(m:Nat):Hd:=g103hd (g125 A36 m) (g123 A36 m) A36 (g97 m) (g98 m)
theorem g103Main(G125:Al S_g125)(G123:Al S_g123)(G36:Al S_g36)(G97:Al S_g97)(G98:Al S_g98){α:Type}(ls:List Lf)(k:KRe α):
  g103K (g103b G125 G123 G36 G97 G98) ls k=evFunM tab (g103hd G125 G123 G36 G97 G98) Tryz.f103 3 (fT g103tp ls) (fB g103tp g103bp ls) k:=by kernel_rfl
theorem g103Calls(A36:Al S_g36)(hA36:HA36 A36)(m:Nat):(g103h A36 m).CallsOk Tryz.prog:=(cok_cons (g125Ok A36 hA36 m) (cok_cons (g123Ok A36 hA36 m) (cok_cons hA36 (cok_cons (g97Ok m) (cok_cons (g98Ok m) cok_nil)))))
theorem g103Fn(A36:Al S_g36)(hA36:HA36 A36)(m:Nat):FnOk Tryz.prog 103 g103tp g103bp (fun{α}=>g103K (g103 A36 m (α:=α))):=
 fn_okM (tab:=tab) (h:=g103h A36 m) (fn:=Tryz.f103) (F:=fun{α}=>g103K (g103 A36 m (α:=α))) tabOk (g103Calls A36 hA36 m) mixed (by kernel_rfl) (by kernel_rfl) (fun c hc=>by
  rw[bodyOf_some hc]
  exact loopsOk_of _ (fun p hp=>by rw[show loopsOf (bodyOf Tryz.f103)=[] by kernel_rfl] at hp;cases hp))
  (fun _=>g103Main (g125 A36 m) (g123 A36 m) A36 (g97 m) (g98 m))
theorem g103Ok(A36:Al S_g36)(hA36:HA36 A36)(m:Nat):RowOk Tryz.prog 103 (fun{α}=>g103R (g103 A36 m (α:=α))):=row_of (g103Fn A36 hA36 m)
abbrev S_g70(α:Type):Type:=Nat→Int→Nat→Nat→Nat→Nat→Nat→Nat→Nat→Ty0→Ty1→Ty0→(Bool→(List Int)→Int→Nat→Nat→Nat→Nat→Nat→Nat→Ty1→Ty0→Option α)→Option α
def g70b{α:Type}(G80:Al S_g80)(G97:Al S_g97)(G98:Al S_g98)(G99:Al S_g99)(G100:Al S_g100)(G36:Al S_g36)(G79:Al S_g79)(G101:Al S_g101)(G76:Al S_g76)(G102:Al S_g102)(G103:Al S_g103)(G81:Al S_g81)(G78:Al S_g78)(a:Nat)(b:Int)(c d:Nat)(e h:Nat)(i j l:Nat)(n:Ty0)(o:Ty1)(p:Ty0)(q:Bool→(List Int)→Int→Nat→Nat→Nat→Nat→Nat→Nat→Ty1→Ty0→Option α):Option α:=if a<l then let r:Int:=(List.getD n a []).headD 0;cond (r==(1:Int)) (if a<l then G80 (((List.getD n a []).tail.tail.tail).headD 0) (fun s t=>G97 s t b (fun u v w=>cond (w !=(0:Int)) (q false [0,0,0,0,0,0] w c d e h i j o p) (if a<l then G80 (((List.getD n a []).tail.tail.tail.tail).headD 0) (fun x y=>G98 u v x y (fun z a0=>q z a0 (0:Int) c d e h i j o p)) else none))) else none) (cond (r==(11:Int)) (G99 b (fun b0 c0=>q b0 c0 (0:Int) c d e h i j o p)) (cond (r==(12:Int)) (G100 b (fun d0 e0=>q d0 e0 (0:Int) c d e h i j o p)) (cond (r==(6:Int)) (if a<l then G36 (IntKind.wrap .i64 (((List.getD n a []).tail).headD 0)) b c d e h i j l n o p (fun h0 i0 j0 l0 n0 o0 p0 q0 r0 s0 t0 u0 v0=>cond (j0 !=(0:Int)) (q false [0,0,0,0,0,0] j0 l0 n0 o0 p0 q0 r0 u0 v0) (if a<l then cond (((List.getD n a []).headD 0)==(6:Int)) (G79 h0 i0 (fun w0=>q w0 i0 (0:Int) l0 n0 o0 p0 q0 r0 u0 v0)) (cond h0 (G79 h0 i0 (fun x0=>q x0 i0 (0:Int) l0 n0 o0 p0 q0 r0 u0 v0)) (q h0 i0 (0:Int) l0 n0 o0 p0 q0 r0 u0 v0)) else none)) else none) (cond (r==(7:Int)) (if a<l then G36 (IntKind.wrap .i64 (((List.getD n a []).tail).headD 0)) b c d e h i j l n o p (fun y0 z0 a1 b1 c1 d1 e1 h1 i1 j1 l1 n1 o1=>cond (a1 !=(0:Int)) (q false [0,0,0,0,0,0] a1 b1 c1 d1 e1 h1 i1 n1 o1) (if a<l then cond (((List.getD n a []).headD 0)==(6:Int)) (G79 y0 z0 (fun p1=>q p1 z0 (0:Int) b1 c1 d1 e1 h1 i1 n1 o1)) (cond y0 (G79 y0 z0 (fun q1=>q q1 z0 (0:Int) b1 c1 d1 e1 h1 i1 n1 o1)) (q y0 z0 (0:Int) b1 c1 d1 e1 h1 i1 n1 o1)) else none)) else none) (cond (r==(10:Int)) (if a<l then G36 (IntKind.wrap .i64 (((List.getD n a []).tail).headD 0)) (IntKind.wrap .i64 ((IntKind.wrap .i64 ((2:Int)*b))+(6:Int))) c d e h i j l n o p (fun r1 s1 t1 u1 v1 w1 x1 y1 z1 a2 b2 c2 d2=>cond (t1 !=(0:Int)) (q false [0,0,0,0,0,0] t1 u1 v1 w1 x1 y1 z1 c2 d2) (cond r1 (q false [0,0,0,0,0,0] t1 u1 v1 w1 x1 y1 z1 c2 d2) (G101 r1 s1 (fun e2 h2=>G76 e2 h2 (3:Int) (fun i2 j2=>q i2 j2 (0:Int) u1 v1 w1 x1 y1 z1 c2 d2))))) else none) (cond (r==(4:Int)) (G102 a b c d e h i j l n o p (fun l2 n2 o2 p2 q2 r2 s2 t2 u2 v2 w2=>q l2 n2 o2 p2 q2 r2 s2 t2 u2 v2 w2)) (cond (r==(5:Int)) (G103 a b c d e h i j l n o p (fun x2 y2 z2 a3 b3 c3 d3 e3 h3 i3 j3=>q x2 y2 z2 a3 b3 c3 d3 e3 h3 i3 j3)) (if a<l then cond (((List.getD n a []).headD 0)==(8:Int)) (if a<l then G36 (IntKind.wrap .i64 (((List.getD n a []).tail).headD 0)) (IntKind.wrap .i64 (b+(0:Int))) c d e h i j l n o p (fun l3 n3 o3 p3 q3 r3 s3 t3 u3 v3 w3 x3 y3=>cond (o3 !=(0:Int)) (q false [0,0,0,0,0,0] o3 p3 q3 r3 s3 t3 u3 x3 y3) (if a<l then G36 (IntKind.wrap .i64 (((List.getD n a []).tail.tail).headD 0)) (IntKind.wrap .i64 (b+(0:Int))) p3 q3 r3 s3 t3 u3 l n x3 y3 (fun z3 a4 b4 c4 d4 e4 h4 i4 j4 l4 n4 o4 p4=>cond (b4 !=(0:Int)) (q false [0,0,0,0,0,0] b4 c4 d4 e4 h4 i4 j4 o4 p4) (if a<l then let q4:Int:=(List.getD n a []).headD 0;cond (q4==(8:Int)) (G81 l3 n3 z3 a4 (fun r4=>if a<l then cond ((decide (r4<(0:Int)))==(((List.getD n a []).headD 0)==(8:Int))) (q l3 n3 (0:Int) c4 d4 e4 h4 i4 j4 o4 p4) (q z3 a4 (0:Int) c4 d4 e4 h4 i4 j4 o4 p4) else none)) (cond (q4==(9:Int)) (G81 l3 n3 z3 a4 (fun s4=>if a<l then cond ((decide (s4<(0:Int)))==(((List.getD n a []).headD 0)==(8:Int))) (q l3 n3 (0:Int) c4 d4 e4 h4 i4 j4 o4 p4) (q z3 a4 (0:Int) c4 d4 e4 h4 i4 j4 o4 p4) else none)) (cond (q4==(3:Int)) (G79 z3 a4 (fun t4=>G78 l3 n3 t4 a4 (fun u4 v4 w4=>cond (w4 !=(0:Int)) (q false [0,0,0,0,0,0] w4 c4 d4 e4 h4 i4 j4 o4 p4) (G76 u4 v4 (2:Int) (fun x4 y4=>q x4 y4 (0:Int) c4 d4 e4 h4 i4 j4 o4 p4))))) (G78 l3 n3 z3 a4 (fun z4 a5 b5=>cond (b5 !=(0:Int)) (q false [0,0,0,0,0,0] b5 c4 d4 e4 h4 i4 j4 o4 p4) (G76 z4 a5 (2:Int) (fun c5 d5=>q c5 d5 (0:Int) c4 d4 e4 h4 i4 j4 o4 p4)))))) else none)) else none)) else none) (if a<l then cond (((List.getD n a []).headD 0)==(9:Int)) (if a<l then G36 (IntKind.wrap .i64 (((List.getD n a []).tail).headD 0)) (IntKind.wrap .i64 (b+(0:Int))) c d e h i j l n o p (fun e5 h5 i5 j5 l5 n5 o5 p5 q5 r5 s5 t5 u5=>cond (i5 !=(0:Int)) (q false [0,0,0,0,0,0] i5 j5 l5 n5 o5 p5 q5 t5 u5) (if a<l then G36 (IntKind.wrap .i64 (((List.getD n a []).tail.tail).headD 0)) (IntKind.wrap .i64 (b+(0:Int))) j5 l5 n5 o5 p5 q5 l n t5 u5 (fun v5 w5 x5 y5 z5 a6 b6 c6 d6 e6 h6 i6 j6=>cond (x5 !=(0:Int)) (q false [0,0,0,0,0,0] x5 y5 z5 a6 b6 c6 d6 i6 j6) (if a<l then let l6:Int:=(List.getD n a []).headD 0;cond (l6==(8:Int)) (G81 e5 h5 v5 w5 (fun n6=>if a<l then cond ((decide (n6<(0:Int)))==(((List.getD n a []).headD 0)==(8:Int))) (q e5 h5 (0:Int) y5 z5 a6 b6 c6 d6 i6 j6) (q v5 w5 (0:Int) y5 z5 a6 b6 c6 d6 i6 j6) else none)) (cond (l6==(9:Int)) (G81 e5 h5 v5 w5 (fun o6=>if a<l then cond ((decide (o6<(0:Int)))==(((List.getD n a []).headD 0)==(8:Int))) (q e5 h5 (0:Int) y5 z5 a6 b6 c6 d6 i6 j6) (q v5 w5 (0:Int) y5 z5 a6 b6 c6 d6 i6 j6) else none)) (cond (l6==(3:Int)) (G79 v5 w5 (fun p6=>G78 e5 h5 p6 w5 (fun q6 r6 s6=>cond (s6 !=(0:Int)) (q false [0,0,0,0,0,0] s6 y5 z5 a6 b6 c6 d6 i6 j6) (G76 q6 r6 (2:Int) (fun t6 u6=>q t6 u6 (0:Int) y5 z5 a6 b6 c6 d6 i6 j6))))) (G78 e5 h5 v5 w5 (fun v6 w6 x6=>cond (x6 !=(0:Int)) (q false [0,0,0,0,0,0] x6 y5 z5 a6 b6 c6 d6 i6 j6) (G76 v6 w6 (2:Int) (fun y6 z6=>q y6 z6 (0:Int) y5 z5 a6 b6 c6 d6 i6 j6)))))) else none)) else none)) else none) (if a<l then G36 (IntKind.wrap .i64 (((List.getD n a []).tail).headD 0)) (IntKind.wrap .i64 (b+(2:Int))) c d e h i j l n o p (fun a7 b7 c7 d7 e7 h7 i7 j7 l7 n7 o7 p7 q7=>cond (c7 !=(0:Int)) (q false [0,0,0,0,0,0] c7 d7 e7 h7 i7 j7 l7 p7 q7) (if a<l then G36 (IntKind.wrap .i64 (((List.getD n a []).tail.tail).headD 0)) (IntKind.wrap .i64 (b+(2:Int))) d7 e7 h7 i7 j7 l7 l n p7 q7 (fun r7 s7 t7 u7 v7 w7 x7 y7 z7 a8 b8 c8 d8=>cond (t7 !=(0:Int)) (q false [0,0,0,0,0,0] t7 u7 v7 w7 x7 y7 z7 c8 d8) (if a<l then let e8:Int:=(List.getD n a []).headD 0;cond (e8==(8:Int)) (G81 a7 b7 r7 s7 (fun h8=>if a<l then cond ((decide (h8<(0:Int)))==(((List.getD n a []).headD 0)==(8:Int))) (q a7 b7 (0:Int) u7 v7 w7 x7 y7 z7 c8 d8) (q r7 s7 (0:Int) u7 v7 w7 x7 y7 z7 c8 d8) else none)) (cond (e8==(9:Int)) (G81 a7 b7 r7 s7 (fun i8=>if a<l then cond ((decide (i8<(0:Int)))==(((List.getD n a []).headD 0)==(8:Int))) (q a7 b7 (0:Int) u7 v7 w7 x7 y7 z7 c8 d8) (q r7 s7 (0:Int) u7 v7 w7 x7 y7 z7 c8 d8) else none)) (cond (e8==(3:Int)) (G79 r7 s7 (fun j8=>G78 a7 b7 j8 s7 (fun l8 n8 o8=>cond (o8 !=(0:Int)) (q false [0,0,0,0,0,0] o8 u7 v7 w7 x7 y7 z7 c8 d8) (G76 l8 n8 (2:Int) (fun p8 q8=>q p8 q8 (0:Int) u7 v7 w7 x7 y7 z7 c8 d8))))) (G78 a7 b7 r7 s7 (fun r8 s8 t8=>cond (t8 !=(0:Int)) (q false [0,0,0,0,0,0] t8 u7 v7 w7 x7 y7 z7 c8 d8) (G76 r8 s8 (2:Int) (fun u8 v8=>q u8 v8 (0:Int) u7 v7 w7 x7 y7 z7 c8 d8)))))) else none)) else none)) else none) else none) else none)))))))) else none
def g70(A36:Al S_g36){α:Type}(m:Nat):S_g70 α:=
 g70b (g80 m) (g97 m) (g98 m) (g99 m) (g100 m) A36 (g79 m) (g101 m) (g76 m) (g102 A36 m) (g103 A36 m) (g81 m) (g78 m)
def g70tp:List TP:=[(.vl (.sv (.ptr 0 0))),(.vl (.sv (.el 1 0 5 0))),tI]
def g70bp:List BP:=[(true,[(.one (.slc 1 0 5)),(.one (.slc 2 0 1)),(.one (.gsl 3 2))]),(false,[(.seqv rN)]),(true,[(.rws mK)]),(true,[(.gro rP)])]
def g70K{α:Type}(G:S_g70 α)(ls:List Lf)(k:KRe α):Option α:=
 G (lf ls 0).nat (lf ls 1).int (lf ls 2).nat (lf ls 3).nat (lf ls 4).nat (lf ls 5).nat (lf ls 6).nat (lf ls 7).nat (lf ls 8).nat ((lf ls 9).lst rN) ((lf ls 10).rows mK) ((lf ls 11).lst rP)
  (fun c d e h j l n o p q r=>k (.tup [(.agg [(.one (.bool c)),(.seq uU 6 d)]),(.sv (.int .i64 e))]) [[(.one (.slc 1 0 5 h j l)),(.one (.slc 2 0 1 n o p)),(.one (.gsl 4 2))],[(.seq rN (lf ls 8).nat ((lf ls 9).lst rN))],[(.rws mK q none)],[]] [[(.gro rP r)]])
def g70R{α:Type}(G:S_g70 α):=rowK g70tp g70bp (g70K G)
def g70hd(G80:Al S_g80)(G97:Al S_g97)(G98:Al S_g98)(G99:Al S_g99)(G100:Al S_g100)(G36:Al S_g36)(G79:Al S_g79)(G101:Al S_g101)(G76:Al S_g76)(G102:Al S_g102)(G103:Al S_g103)(G81:Al S_g81)(G78:Al S_g78):Hd where
 call:=fun f args Bs k=>cond (Nat.beq f 80) (g80R G80 args Bs k) (cond (Nat.beq f 97) (g97R G97 args Bs k) (cond (Nat.beq f 98) (g98R G98 args Bs k) (cond (Nat.beq f 99) (g99R G99 args Bs k) (cond (Nat.beq f 100) (g100R G100 args Bs k) (cond (Nat.beq f 36) (g36R G36 args Bs k) (cond (Nat.beq f 79) (g79R G79 args Bs k) (cond (Nat.beq f 101) (g101R G101 args Bs k) (cond (Nat.beq f 76) (g76R G76 args Bs k) (cond (Nat.beq f 102) (g102R G102 args Bs k) (cond (Nat.beq f 103) (g103R G103 args Bs k) (cond (Nat.beq f 81) (g81R G81 args Bs k) (cond (Nat.beq f 78) (g78R G78 args Bs k) (none)))))))))))))
 loop:=fun id st k=>none
 ro:=fun f=>cond (Nat.beq f 36) [1] (cond (Nat.beq f 81) [0,1] (cond (Nat.beq f 102) [1] (cond (Nat.beq f 103) [1] ([]))))
def g70h(A36:Al S_g36)(m:Nat):Hd:=g70hd (g80 m) (g97 m) (g98 m) (g99 m) (g100 m) A36 (g79 m) (g101 m) (g76 m) (g102 A36 m) (g103 A36 m) (g81 m) (g78 m)
theorem g70Main(G80:Al S_g80)(G97:Al S_g97)(G98:Al S_g98)(G99:Al S_g99)(G100:Al S_g100)(G36:Al S_g36)(G79:Al S_g79)(G101:Al S_g101)(G76:Al S_g76)(G102:Al S_g102)(G103:Al S_g103)(G81:Al S_g81)(G78:Al S_g78){α:Type}(ls:List Lf)(k:KRe α):
  g70K (g70b G80 G97 G98 G99 G100 G36 G79 G101 G76 G102 G103 G81 G78) ls k=evFunM tab (g70hd G80 G97 G98 G99 G100 G36 G79 G101 G76 G102 G103 G81 G78) Tryz.f70 3 (fT g70tp ls) (fB g70tp g70bp ls) k:=by kernel_rfl
theorem g70Calls(A36:Al S_g36)(hA36:HA36 A36)(m:Nat):(g70h A36 m).CallsOk Tryz.prog:=(cok_cons (g80Ok m) (cok_cons (g97Ok m) (cok_cons (g98Ok m) (cok_cons (g99Ok m) (cok_cons (g100Ok m) (cok_cons hA36 (cok_cons (g79Ok m) (cok_cons (g101Ok m) (cok_cons (g76Ok m) (cok_cons (g102Ok A36 hA36 m) (cok_cons (g103Ok A36 hA36 m) (cok_cons (g81Ok m) (cok_cons (g78Ok m) cok_nil)))))))))))))
theorem g70Fn(A36:Al S_g36)(hA36:HA36 A36)(m:Nat):FnOk Tryz.prog 70 g70tp g70bp (fun{α}=>g70K (g70 A36 m (α:=α))):=
 fn_okM (tab:=tab) (h:=g70h A36 m) (fn:=Tryz.f70) (F:=fun{α}=>g70K (g70 A36 m (α:=α))) tabOk (g70Calls A36 hA36 m) mixed (by kernel_rfl) (by kernel_rfl) (fun c hc=>by
  rw[bodyOf_some hc]
  exact loopsOk_of _ (fun p hp=>by rw[show loopsOf (bodyOf Tryz.f70)=[] by kernel_rfl] at hp;cases hp))
  (fun _=>g70Main (g80 m) (g97 m) (g98 m) (g99 m) (g100 m) A36 (g79 m) (g101 m) (g76 m) (g102 A36 m) (g103 A36 m) (g81 m) (g78 m))
theorem g70Ok(A36:Al S_g36)(hA36:HA36 A36)(m:Nat):RowOk Tryz.prog 70 (fun{α}=>g70R (g70 A36 m (α:=α))):=row_of (g70Fn A36 hA36 m)
abbrev S_g36l0(α:Type):Type:=Int→Int→Nat→Nat→Nat→Nat→Nat→Nat→Nat→Ty0→Ty1→Nat→Bool→(List Int)→Ty2→Ty0→(Ty1→Bool→(List Int)→Option α)→(Ty1→Option α)→Int→Option α
def g36l0b{α:Type}(c d:Int)(e h:Nat)(j l:Nat)(n o p:Nat)(q:Ty0)(r:Ty1)(s:Nat)(t:Bool)(u:List Int)(v:Ty2)(w:Ty0)(x:Ty1→Bool→(List Int)→Option α)(y:Ty1→Option α)(z:Int→Option α)(a0:Int):Option α:=cond (decide (a0<((v.length:Nat):Int))) (if 0≤a0∧a0<(v.length:Nat) then if a0.toNat<v.length then cond (((List.getD v (a0.toNat) (pD [.i .i64, .b, .a .u32 6])).1)==d) (if 0≤a0∧a0<(v.length:Nat) then if a0.toNat<v.length then let b0:Ty3:=List.getD v (a0.toNat) (pD [.i .i64, .b, .a .u32 6]);if s<r.length then x (List.set r s v) (b0.2.1) (padI 6 b0.2.2.1) else none else none else none) (z (IntKind.wrap .i64 (a0+(1:Int)))) else none else none) (if s<r.length then y (List.set r s v) else none)
def g36l0{α:Type}(a b:Int)(c d:Nat)(e h:Nat)(i j l:Nat)(n:Ty0)(o:Ty1)(p:Nat)(q:Bool)(r:List Int)(s:Ty2)(t:Ty0)(u:Ty1→Bool→(List Int)→Option α)(v:Ty1→Option α):Nat→Int→Option α
 |0=>fun _=>none
 |m+1=>fun w=>g36l0b a b c d e h i j l n o p q r s t u v (g36l0 a b c d e h i j l n o p q r s t u v m) w
def g36l0M(A36:Al S_g36){α:Type}(m:Nat):S_g36l0 α:=
 fun a b c d e h i j l n o p q r s t u v w=>g36l0 a b c d e h i j l n o p q r s t u v m w
def g36l0D:LoopD:={n:=89,low:=[0,1,2,3],sl:=[0,1,2,6,8,9],bl:=[0,1,2,3,1000004,1000005,1000006],tp:=[(.vl (.sv (.ptr 0 0))),tI,tI,(.vl (.sv (.ptr 1000004 0))),(.vl (.sv (.gsl 1000005 8))),tI],bp:=[(true,[(.one (.slc 1 0 5)),(.one (.slc 2 0 1)),(.one (.gsl 1000006 2))]),(false,[(.seqv rN)]),(true,[(.rwh mK 1000005)]),(true,[]),(true,[(.one .bool),(.seq uU 6)]),(true,[(.gro mK)]),(true,[(.gro rP)])],xs:=[(1,[6,7]),(2,[0,1,2,6])]}
def g36l0K{α:Type}(L:S_g36l0 α)(ls:List Lf)(k:KEx α):Option α:=
 L (lf ls 0).int (lf ls 1).int (lf ls 3).nat (lf ls 4).nat (lf ls 5).nat (lf ls 6).nat (lf ls 7).nat (lf ls 8).nat (lf ls 9).nat ((lf ls 10).lst rN) ((lf ls 11).rows mK) (lf ls 12).nat (lf ls 13).bool ((lf ls 14).lst uU) ((lf ls 15).lst mK) ((lf ls 16).lst rP)
  (fun c d e=>k .ret (mkSt 89 [6,7] [(.vl (.sv (.ptr 1000004 0))),(.vl (.sv (.int .i64 (0:Int))))] [0,1,2,3,1000004,1000005] [(true,[(.one (.slc 1 0 5 (lf ls 3).nat (lf ls 4).nat (lf ls 5).nat)),(.one (.slc 2 0 1 (lf ls 6).nat (lf ls 7).nat (lf ls 8).nat)),(.one (.gsl 1000005 2))]),(false,[(.seq rN (lf ls 9).nat ((lf ls 10).lst rN))]),(true,[(.rws mK c none)]),(true,[]),(true,[(.one (.bool d)),(.seq uU 6 e)]),(true,[(.gro rP ((lf ls 16).lst rP))])]))
  (fun d=>k .normal (mkSt 89 [0,1,2,6] [(.vl (.sv (.ptr 0 0))),(.vl (.sv (.int .i64 (lf ls 0).int))),(.vl (.sv (.int .i64 (lf ls 1).int))),(.vl (.sv (.ptr 1000004 0)))] [0,1,2,3,1000004,1000005] [(true,[(.one (.slc 1 0 5 (lf ls 3).nat (lf ls 4).nat (lf ls 5).nat)),(.one (.slc 2 0 1 (lf ls 6).nat (lf ls 7).nat (lf ls 8).nat)),(.one (.gsl 1000005 2))]),(false,[(.seq rN (lf ls 9).nat ((lf ls 10).lst rN))]),(true,[(.rws mK d none)]),(true,[]),(true,[(.one (.bool (lf ls 13).bool)),(.seq uU 6 ((lf ls 14).lst uU))]),(true,[(.gro rP ((lf ls 16).lst rP))])]))
  (lf ls 2).int
def g36b{α:Type}(G70:Al S_g70)(L36l0:Al S_g36l0)(a b:Int)(c d:Nat)(e h:Nat)(i j l:Nat)(n:Ty0)(o:Ty1)(p:Ty0)(q:Bool→(List Int)→Int→Nat→Nat→Nat→Nat→Nat→Nat→Nat→Ty0→Ty1→Ty0→Option α):Option α:=if 0≤a∧a<(i:Nat) then if(h+a.toNat)<o.length then L36l0 a b c d e h i j l n o (h+a.toNat) false [0,0,0,0,0,0] (List.getD o (h+a.toNat) []) p (fun r s t=>q s t (0:Int) c d e h i j l n r p) (fun u=>cond (decide (b>(160:Int))) (q false [0,0,0,0,0,0] (3:Int) c d e h i j l n u p) (if p.length+1≤67108864 then if 0≤a∧a<(d:Nat) then G70 (c+a.toNat) b c d e h i j l n u (p++[[(IntKind.wrap .i16 a),(IntKind.wrap .i16 b)]]) (fun v w x y z a0 b0 c0 d0 e0 h0=>cond (x !=(0:Int)) (q false [0,0,0,0,0,0] x y z a0 b0 c0 d0 l n e0 h0) (if 0≤a∧a<(c0:Nat) then if(b0+a.toNat)<e0.length then let i0:Ty2:=List.getD e0 (b0+a.toNat) [];if i0.length+1≤67108864 then if 0≤a∧a<(c0:Nat) then if(b0+a.toNat)<e0.length∧(b0+a.toNat)=(b0+a.toNat) then q v w (0:Int) y z a0 b0 c0 d0 l n (List.set e0 (b0+a.toNat) (i0++[(b,v,w,())])) h0 else none else none else none else none else none)) else none else none)) (0:Int) else none else none
noncomputable def g36(m:Nat):Al S_g36:=
 Nat.rec (motive:=fun _=>Al S_g36) (fun{α}=>fun _ _ _ _ _ _ _ _ _ _ _ _ _=>none) (fun m ih {α}=>g36b (g70 ih m) (g36l0M ih m)) m
def g36hd(G70:Al S_g70)(L36l0:Al S_g36l0):Hd where
 call:=fun f args Bs k=>cond (Nat.beq f 70) (g70R G70 args Bs k) (none)
 loop:=fun id st k=>cond (Nat.beq id 0) (loopH g36l0D (g36l0K L36l0) st k) (none)
 ro:=fun f=>cond (Nat.beq f 70) [1] ([])
def g36h(A36:Al S_g36)(m:Nat):Hd:=g36hd (g70 A36 m) (g36l0M A36 m)
theorem g36l0Step(G70:Al S_g70)(L36l0:Al S_g36l0){α:Type}(L:S_g36l0 α)(ls:List Lf)(k:KEx α):
  g36l0K (fun a b c d e h i j l n o p q r s t u v w=>g36l0b a b c d e h i j l n o p q r s t u v (L a b c d e h i j l n o p q r s t u v) w) ls k=ev tab (g36hd G70 L36l0) (bodyAt Tryz.f36 0) (atHead g36l0D ls) (loopK g36l0D 0 (loopH g36l0D (g36l0K L)) k):=by kernel_rfl
theorem g36Main(G70:Al S_g70)(L36l0:Al S_g36l0){α:Type}(ls:List Lf)(k:KRe α):
  g36K (g36b G70 L36l0) ls k=evFunM tab (g36hd G70 L36l0) Tryz.f36 3 (fT g36tp ls) (fB g36tp g36bp ls) k:=by kernel_rfl
theorem g36Calls(A36:Al S_g36)(hA36:HA36 A36)(m:Nat):(g36h A36 m).CallsOk Tryz.prog:=(cok_cons (g70Ok A36 hA36 m) cok_nil)
theorem g36l0Ok(A36:Al S_g36)(hA36:HA36 A36)(m:Nat)(α:Type)(st:St)(k:KEx α)(r:α)(h:(g36h A36 m).loop 0 st k=some r):
  LoopS Tryz.prog 0 (bodyAt Tryz.f36 0) st k r:=
 lpk (F:=fun n ls k=>g36l0K (fun a b c d e i j l o q s t u v w x y z a0=>g36l0 a b c d e i j l o q s t u v w x y z n a0) ls k) (g36Calls A36 hA36 m) (lb0 (by kernel_rfl))
  (fun _ _=>rfl) (fun n ls k=>g36l0Step (g70 A36 m) (g36l0M A36 m) (fun a b c d e i j l o q s t u v w x y z=>g36l0 a b c d e i j l o q s t u v w x y z n) ls k) (n:=m) h
theorem g36FnS(m:Nat)(hA:RowOk Tryz.prog 36 (fun{α}=>g36R (g36 m (α:=α)))):FnOk Tryz.prog 36 g36tp g36bp (fun{α}=>g36K (g36 (m+1) (α:=α))):=
 fn_okM (tab:=tab) (h:=g36h (g36 m) m) (fn:=Tryz.f36) (F:=fun{α}=>g36K (g36 (m+1) (α:=α))) tabOk (g36Calls (g36 m) hA m) mixed (by kernel_rfl) (by kernel_rfl) (fun c hc=>by
  rw[bodyOf_some hc]
  exact loopsOk_of _ (fun p hp=>by
  rw[show loopsOf (bodyOf Tryz.f36)=[(0,bodyAt Tryz.f36 0)] by kernel_rfl] at hp
  simp only[List.mem_cons,List.not_mem_nil,or_false] at hp
  rcases hp with rfl
  exact g36l0Ok (g36 m) hA m))
  (fun _=>g36Main (g70 (g36 m) m) (g36l0M (g36 m) m))
theorem g36Fn:∀m:Nat,FnOk Tryz.prog 36 g36tp g36bp (fun{α}=>g36K (g36 m (α:=α)))
 |0=>fun α ls k r h=>nomatch (show(none:Option α)=some r from h)
 |m+1=>g36FnS m (row_of (g36Fn m))
theorem g36Ok(m:Nat):RowOk Tryz.prog 36 (fun{α}=>g36R (g36 m (α:=α))):=row_of (g36Fn m)
abbrev S_g82(α:Type):Type:=Bool→(List Int)→Int→(Bool→(List Int)→Int→Option α)→Option α
def g82b{α:Type}(G78:Al S_g78)(G80:Al S_g80)(a:Bool)(b:List Int)(c:Int)(d:Bool→(List Int)→Int→Option α):Option α:=G78 a b a b (fun e h i=>cond (i !=(0:Int)) (d false [0,0,0,0,0,0] i) (G80 c (fun j l=>G78 e h j l (fun n o p=>d n o p))))
def g82{α:Type}(m:Nat):S_g82 α:=
 g82b (g78 m) (g80 m)
def g82tp:List TP:=[vW,tI]
def g82bp:List BP:=[]
def g82K{α:Type}(G:S_g82 α)(ls:List Lf)(k:KRe α):Option α:=
 G (lf ls 0).bool ((lf ls 1).lst uU) (lf ls 2).int
  (fun a b c=>k (.tup [(.agg [(.one (.bool a)),(.seq uU 6 b)]),(.sv (.int .i64 c))]) [] [])
def g82R{α:Type}(G:S_g82 α):=rowK g82tp g82bp (g82K G)
def g82hd(G78:Al S_g78)(G80:Al S_g80):Hd where
 call:=fun f args Bs k=>cond (Nat.beq f 78) (g78R G78 args Bs k) (cond (Nat.beq f 80) (g80R G80 args Bs k) (none))
 loop:=fun id st k=>none
 ro:=fun f=>[]
def g82h(m:Nat):Hd:=g82hd (g78 m) (g80 m)
theorem g82Main(G78:Al S_g78)(G80:Al S_g80){α:Type}(ls:List Lf)(k:KRe α):
  g82K (g82b G78 G80) ls k=evFun tab (g82hd G78 G80) Tryz.f82 (fT g82tp ls) (fB g82tp g82bp ls) k:=by kernel_rfl
theorem g82Calls(m:Nat):(g82h m).CallsOk Tryz.prog:=(cok_cons (g78Ok m) (cok_cons (g80Ok m) cok_nil))
theorem g82Ok(m:Nat):RowOk Tryz.prog 82 (fun{α}=>g82R (g82 m (α:=α))):=
 rwk (g82Calls m) (lo0 (by kernel_rfl))
  (fun _=>g82Main (g78 m) (g80 m))
end Go.Proofs.YtlmmgjngihlpeaaGreat.Sx
