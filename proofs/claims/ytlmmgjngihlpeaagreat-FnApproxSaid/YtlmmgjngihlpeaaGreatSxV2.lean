/- Functions. Printed by our own sx.py. -/
import Derived.Test.YtlmmgjngihlpeaaGreatSxV1
namespace Go.Proofs.YtlmmgjngihlpeaaGreat.Sx
open Go
set_option linter.unusedVariables false
set_option maxRecDepth 100000
abbrev S_g128(α:Type):Type:=(List Int)→(List Int)→((List Int)→(List Int)→Option α)→Option α
abbrev S_g128l2(α:Type):Type:=Int→Int→(List Int)→(List Int)→(List Int)→(List Int)→(List Int)→((List Int)→Option α)→Int→(List Int)→Option α
def g128l2b{α:Type}(a b:Int)(c d:List Int)(e h i:List Int)(j:(List Int)→Option α)(l:Int→(List Int)→Option α)(n:Int)(o:List Int):Option α:=cond (decide (n>(0:Int))) (if 0≤n∧n<(6:Nat) then if n.toNat<6 then let p:Int:=IntKind.wrap .i64 (n-(1:Int));if 0≤p∧p<(6:Nat) then if p.toNat<6 then if 0≤n∧n<(6:Nat) then if n.toNat<6 then l (IntKind.wrap .i64 (n-(1:Int))) (List.set o (n.toNat) (ibits .or .u32 (IntKind.wrap .u32 ((List.getD o n.toNat 0)*2^1)) (Int.fdiv (List.getD o p.toNat 0) (2^31)))) else none else none else none else none else none else none) (j o)
def g128l2{α:Type}(a b:Int)(c d:List Int)(e h i:List Int)(j:(List Int)→Option α):Nat→Int→(List Int)→Option α
 |0=>fun _ _=>none
 |m+1=>fun l n=>g128l2b a b c d e h i j (g128l2 a b c d e h i j m) l n
def g128l2M{α:Type}(m:Nat):S_g128l2 α:=
 fun a b c d e h i j l n=>g128l2 a b c d e h i j m l n
def g128l2D:LoopD:={n:=76,low:=[0,1],sl:=[0,1,4,5,6,7,8,9,10],bl:=[0,1,1000002,1000003,1000004,1000005],tp:=[(.vl (.sv (.ptr 0 0))),(.vl (.sv (.ptr 1 0))),(.vl (.sv (.ptr 1000002 0))),(.vl (.sv (.ptr 1000003 0))),(.vl (.sv (.ptr 1000004 0))),(.vl (.sv (.ptr 1000005 0))),tI,(.vl (.sv (.int .u32))),tI],bp:=[(false,[(.seq uU 6)]),(false,[(.seq uU 6)]),b6,b6,b6,b6],xs:=[(4,[0,1,4,5,6,7,8,9])]}
def g128l2K{α:Type}(L:S_g128l2 α)(ls:List Lf)(k:KEx α):Option α:=
 L (lf ls 0).int (lf ls 1).int ((lf ls 3).lst uU) ((lf ls 4).lst uU) ((lf ls 5).lst uU) ((lf ls 6).lst uU) ((lf ls 7).lst uU)
  (fun a=>k .normal (mkSt 76 [0,1,4,5,6,7,8,9] [(.vl (.sv (.ptr 0 0))),(.vl (.sv (.ptr 1 0))),(.vl (.sv (.ptr 1000002 0))),(.vl (.sv (.ptr 1000003 0))),(.vl (.sv (.ptr 1000004 0))),(.vl (.sv (.ptr 1000005 0))),(.vl (.sv (.int .i64 (lf ls 0).int))),(.vl (.sv (.int .u32 (lf ls 1).int)))] [0,1,1000002,1000003,1000004,1000005] [(false,[(.seq uU 6 ((lf ls 3).lst uU))]),(false,[(.seq uU 6 ((lf ls 4).lst uU))]),(true,[(.seq uU 6 ((lf ls 5).lst uU))]),(true,[(.seq uU 6 ((lf ls 6).lst uU))]),(true,[(.seq uU 6 ((lf ls 7).lst uU))]),(true,[(.seq uU 6 a)])]))
  (lf ls 2).int ((lf ls 8).lst uU)
abbrev S_g128l0(α:Type):Type:=(List Int)→(List Int)→(List Int)→(List Int)→((List Int)→(List Int)→Option α)→Int→(List Int)→(List Int)→Option α
def g128l0b{α:Type}(G108:Al S_g108)(G111:Al S_g111)(L128l2:Al S_g128l2)(a b:List Int)(c d:List Int)(e:(List Int)→(List Int)→Option α)(h:Int→(List Int)→(List Int)→Option α)(i:Int)(j l:List Int):Option α:=cond (decide (i≥(0:Int))) (let n:Int:=Int.fdiv (List.getD l 5 0) (2^31);L128l2 i n a b c d j (fun o=>let p:Int:=IntKind.wrap .i64 (Int.tdiv i (32:Int));if 0≤p∧p<(6:Nat) then if p.toNat<6 then let q:Int:=IntKind.wrap .u64 (Int.tmod i (32:Int));if q<0 then none else let r:List Int:=List.set o 0 (ibits .or .u32 (IntKind.wrap .u32 ((List.getD o 0 0)*2^1)) (ibits .and .u32 (Int.fdiv (List.getD a p.toNat 0) (2^(min q.toNat 32))) (1:Int)));cond (n==(1:Int)) (G108 r b (fun s=>let t:Int:=IntKind.wrap .i64 (Int.tdiv i (32:Int));if 0≤t∧t<(6:Nat) then if t.toNat<6 then let u:Int:=IntKind.wrap .u64 (Int.tmod i (32:Int));if u<0 then none else if 0≤t∧t<(6:Nat) then if t.toNat<6 then h (IntKind.wrap .i64 (i-(1:Int))) (List.set j (t.toNat) (ibits .or .u32 (List.getD j t.toNat 0) (IntKind.wrap .u32 ((1:Int)*2^(min u.toNat 32))))) s else none else none else none else none)) (G111 r b (fun v=>cond (decide (v≥(0:Int))) (G108 r b (fun w=>let x:Int:=IntKind.wrap .i64 (Int.tdiv i (32:Int));if 0≤x∧x<(6:Nat) then if x.toNat<6 then let y:Int:=IntKind.wrap .u64 (Int.tmod i (32:Int));if y<0 then none else if 0≤x∧x<(6:Nat) then if x.toNat<6 then h (IntKind.wrap .i64 (i-(1:Int))) (List.set j (x.toNat) (ibits .or .u32 (List.getD j x.toNat 0) (IntKind.wrap .u32 ((1:Int)*2^(min y.toNat 32))))) w else none else none else none else none)) (h (IntKind.wrap .i64 (i-(1:Int))) j r))) else none else none) (5:Int) l) (e j l)
def g128l0{α:Type}(G108:Al S_g108)(G111:Al S_g111)(L128l2:Al S_g128l2)(a b:List Int)(c d:List Int)(e:(List Int)→(List Int)→Option α):Nat→Int→(List Int)→(List Int)→Option α
 |0=>fun _ _ _=>none
 |m+1=>fun h i j=>g128l0b G108 G111 L128l2 a b c d e (g128l0 G108 G111 L128l2 a b c d e m) h i j
def g128l0M{α:Type}(m:Nat):S_g128l0 α:=
 fun a b c d e h i j=>g128l0 (g108 m) (g111 m) (g128l2M m) a b c d e m h i j
def g128l0D:LoopD:={n:=76,low:=[0,1],sl:=[0,1,4,5,6,7,8],bl:=[0,1,1000002,1000003,1000004,1000005],tp:=[(.vl (.sv (.ptr 0 0))),(.vl (.sv (.ptr 1 0))),(.vl (.sv (.ptr 1000002 0))),(.vl (.sv (.ptr 1000003 0))),(.vl (.sv (.ptr 1000004 0))),(.vl (.sv (.ptr 1000005 0))),tI],bp:=[(false,[(.seq uU 6)]),(false,[(.seq uU 6)]),b6,b6,b6,b6],xs:=[(2,[4,5,6,7])]}
def g128l0K{α:Type}(L:S_g128l0 α)(ls:List Lf)(k:KEx α):Option α:=
 L ((lf ls 1).lst uU) ((lf ls 2).lst uU) ((lf ls 3).lst uU) ((lf ls 4).lst uU)
  (fun a b=>k .normal (mkSt 76 [4,5,6,7] [(.vl (.sv (.ptr 1000002 0))),(.vl (.sv (.ptr 1000003 0))),(.vl (.sv (.ptr 1000004 0))),(.vl (.sv (.ptr 1000005 0)))] [0,1,1000002,1000003,1000004,1000005] [(false,[(.seq uU 6 ((lf ls 1).lst uU))]),(false,[(.seq uU 6 ((lf ls 2).lst uU))]),(true,[(.seq uU 6 ((lf ls 3).lst uU))]),(true,[(.seq uU 6 ((lf ls 4).lst uU))]),(true,[(.seq uU 6 a)]),(true,[(.seq uU 6 b)])]))
  (lf ls 0).int ((lf ls 5).lst uU) ((lf ls 6).lst uU)
def g128b{α:Type}(G122:Al S_g122)(G108:Al S_g108)(G111:Al S_g111)(L128l2:Al S_g128l2)(L128l0:Al S_g128l0)(a b:List Int)(c:(List Int)→(List Int)→Option α):Option α:=G122 a (fun d=>L128l0 a b [0,0,0,0,0,0] [0,0,0,0,0,0] (fun e h=>c e h) (IntKind.wrap .i64 (d-(1:Int))) [0,0,0,0,0,0] [0,0,0,0,0,0])
def g128{α:Type}(m:Nat):S_g128 α:=
 g128b (g122 m) (g108 m) (g111 m) (g128l2M m) (g128l0M m)
def g128tp:List TP:=[(.vl (.sv (.ptr 0 0))),(.vl (.sv (.ptr 1 0)))]
def g128bp:List BP:=[(false,[(.seq uU 6)]),(false,[(.seq uU 6)])]
def g128K{α:Type}(G:S_g128 α)(ls:List Lf)(k:KRe α):Option α:=
 G ((lf ls 0).lst uU) ((lf ls 1).lst uU)
  (fun a b=>k (.tup [(.agg [(.seq uU 6 a)]),(.agg [(.seq uU 6 b)])]) [[(.seq uU 6 ((lf ls 0).lst uU))],[(.seq uU 6 ((lf ls 1).lst uU))]] [])
def g128R{α:Type}(G:S_g128 α):=rowK g128tp g128bp (g128K G)
def g128hd(G122:Al S_g122)(G108:Al S_g108)(G111:Al S_g111)(L128l2:Al S_g128l2)(L128l0:Al S_g128l0):Hd where
 call:=fun f args Bs k=>cond (Nat.beq f 122) (g122R G122 args Bs k) (cond (Nat.beq f 108) (g108R G108 args Bs k) (cond (Nat.beq f 111) (g111R G111 args Bs k) (none)))
 loop:=fun id st k=>cond (Nat.beq id 2) (loopH g128l2D (g128l2K L128l2) st k) (cond (Nat.beq id 0) (loopH g128l0D (g128l0K L128l0) st k) (none))
 ro:=fun f=>cond (Nat.beq f 108) [0,1] (cond (Nat.beq f 111) [0,1] (cond (Nat.beq f 122) [0] ([])))
def g128h(m:Nat):Hd:=g128hd (g122 m) (g108 m) (g111 m) (g128l2M m) (g128l0M m)
theorem g128l2Step(G122:Al S_g122)(G108:Al S_g108)(G111:Al S_g111)(L128l2:Al S_g128l2)(L128l0:Al S_g128l0){α:Type}(L:S_g128l2 α)(ls:List Lf)(k:KEx α):
  g128l2K (fun a b c d e h i j l n=>g128l2b a b c d e h i j (L a b c d e h i j) l n) ls k=ev tab (g128hd G122 G108 G111 L128l2 L128l0) (bodyAt Tryz.f128 2) (atHead g128l2D ls) (loopK g128l2D 2 (loopH g128l2D (g128l2K L)) k):=by kernel_rfl
theorem g128l0Step(G122:Al S_g122)(G108:Al S_g108)(G111:Al S_g111)(L128l2:Al S_g128l2)(L128l0:Al S_g128l0){α:Type}(L:S_g128l0 α)(ls:List Lf)(k:KEx α):
  g128l0K (fun a b c d e h i j=>g128l0b G108 G111 L128l2 a b c d e (L a b c d e) h i j) ls k=ev tab (g128hd G122 G108 G111 L128l2 L128l0) (bodyAt Tryz.f128 0) (atHead g128l0D ls) (loopK g128l0D 0 (loopH g128l0D (g128l0K L)) k):=by kernel_rfl
theorem g128Main(G122:Al S_g122)(G108:Al S_g108)(G111:Al S_g111)(L128l2:Al S_g128l2)(L128l0:Al S_g128l0){α:Type}(ls:List Lf)(k:KRe α):
  g128K (g128b G122 G108 G111 L128l2 L128l0) ls k=evFun tab (g128hd G122 G108 G111 L128l2 L128l0) Tryz.f128 (fT g128tp ls) (fB g128tp g128bp ls) k:=by kernel_rfl
theorem g128Calls(m:Nat):(g128h m).CallsOk Tryz.prog:=(cok_cons (g122Ok m) (cok_cons (g108Ok m) (cok_cons (g111Ok m) cok_nil)))
theorem g128l2Ok(m:Nat)(α:Type)(st:St)(k:KEx α)(r:α)(h:(g128h m).loop 2 st k=some r):
  LoopS Tryz.prog 2 (bodyAt Tryz.f128 2) st k r:=
 lpk (F:=fun n ls k=>g128l2K (fun a b c d e i j l o q=>g128l2 a b c d e i j l n o q) ls k) (g128Calls m) (lb0 (by kernel_rfl))
  (fun _ _=>rfl) (fun n ls k=>g128l2Step (g122 m) (g108 m) (g111 m) (g128l2M m) (g128l0M m) (fun a b c d e i j l=>g128l2 a b c d e i j l n) ls k) (n:=m) h
theorem g128l0Ok(m:Nat)(α:Type)(st:St)(k:KEx α)(r:α)(h:(g128h m).loop 0 st k=some r):
  LoopS Tryz.prog 0 (bodyAt Tryz.f128 0) st k r:=
 lpk (F:=fun n ls k=>g128l0K (fun a b c d e i j l=>g128l0 (g108 m) (g111 m) (g128l2M m) a b c d e n i j l) ls k) (g128Calls m) (loopsOk_of _ (fun p hp=>by
  rw[show loopsOf (bodyAt Tryz.f128 0)=[(2,bodyAt Tryz.f128 2)] by kernel_rfl] at hp
  simp only[List.mem_cons,List.not_mem_nil,or_false] at hp
  rcases hp with rfl
  exact g128l2Ok m))
  (fun _ _=>rfl) (fun n ls k=>g128l0Step (g122 m) (g108 m) (g111 m) (g128l2M m) (g128l0M m) (fun a b c d e=>g128l0 (g108 m) (g111 m) (g128l2M m) a b c d e n) ls k) (n:=m) h
theorem g128Ok(m:Nat):RowOk Tryz.prog 128 (fun{α}=>g128R (g128 m (α:=α))):=
 rwk (g128Calls m) (lo1 (by kernel_rfl) (g128l0Ok m))
  (fun _=>g128Main (g122 m) (g108 m) (g111 m) (g128l2M m) (g128l0M m))
abbrev S_g109(α:Type):Type:=(List Int)→(List Int)→((List Int)→Bool→Option α)→Option α
abbrev S_g109l0(α:Type):Type:=(List Int)→(List Int)→(List Int)→(Int→(List Int)→Option α)→Int→Int→(List Int)→Option α
def g109l0b{α:Type}(a b c:List Int)(d:Int→(List Int)→Option α)(e:Int→Int→(List Int)→Option α)(h i:Int)(j:List Int):Option α:=cond (decide (i<(6:Int))) (if 0≤i∧i<(6:Nat) then if i.toNat<6 then if 0≤i∧i<(6:Nat) then if i.toNat<6 then let l:Int:=IntKind.wrap .u64 ((IntKind.wrap .u64 ((IntKind.wrap .u64 (List.getD a i.toNat 0))+(IntKind.wrap .u64 (List.getD b i.toNat 0))))+h);if 0≤i∧i<(6:Nat) then if i.toNat<6 then e (Int.fdiv l (2^32)) (IntKind.wrap .i64 (i+(1:Int))) (List.set j (i.toNat) (IntKind.wrap .u32 l)) else none else none else none else none else none else none) (d h j)
def g109l0{α:Type}(a b c:List Int)(d:Int→(List Int)→Option α):Nat→Int→Int→(List Int)→Option α
 |0=>fun _ _ _=>none
 |m+1=>fun e h i=>g109l0b a b c d (g109l0 a b c d m) e h i
def g109l0M{α:Type}(m:Nat):S_g109l0 α:=
 fun a b c d e h i=>g109l0 a b c d m e h i
def g109l0D:LoopD:={n:=39,low:=[0,1],sl:=[0,1,4,6,7,8],bl:=[0,1,1000002,1000003],tp:=[(.vl (.sv (.ptr 0 0))),(.vl (.sv (.ptr 1 0))),(.vl (.sv (.ptr 1000002 0))),(.vl (.sv (.ptr 1000003 0))),(.vl (.sv (.int .u64))),tI],bp:=[(false,[(.seq uU 6)]),(false,[(.seq uU 6)]),b6,b6],xs:=[(2,[4,6,7])]}
def g109l0K{α:Type}(L:S_g109l0 α)(ls:List Lf)(k:KEx α):Option α:=
 L ((lf ls 2).lst uU) ((lf ls 3).lst uU) ((lf ls 4).lst uU)
  (fun a b=>k .normal (mkSt 39 [4,6,7] [(.vl (.sv (.ptr 1000002 0))),(.vl (.sv (.ptr 1000003 0))),(.vl (.sv (.int .u64 a)))] [0,1,1000002,1000003] [(false,[(.seq uU 6 ((lf ls 2).lst uU))]),(false,[(.seq uU 6 ((lf ls 3).lst uU))]),(true,[(.seq uU 6 ((lf ls 4).lst uU))]),(true,[(.seq uU 6 b)])]))
  (lf ls 0).int (lf ls 1).int ((lf ls 5).lst uU)
def g109b{α:Type}(L109l0:Al S_g109l0)(a b:List Int)(c:(List Int)→Bool→Option α):Option α:=L109l0 a b [0,0,0,0,0,0] (fun d e=>c e (d==(0:Int))) (0:Int) (0:Int) [0,0,0,0,0,0]
def g109{α:Type}(m:Nat):S_g109 α:=
 g109b (g109l0M m)
def g109tp:List TP:=[(.vl (.sv (.ptr 0 0))),(.vl (.sv (.ptr 1 0)))]
def g109bp:List BP:=[(false,[(.seq uU 6)]),(false,[(.seq uU 6)])]
def g109K{α:Type}(G:S_g109 α)(ls:List Lf)(k:KRe α):Option α:=
 G ((lf ls 0).lst uU) ((lf ls 1).lst uU)
  (fun a b=>k (.tup [(.agg [(.seq uU 6 a)]),(.sv (.bool b))]) [[(.seq uU 6 ((lf ls 0).lst uU))],[(.seq uU 6 ((lf ls 1).lst uU))]] [])
def g109R{α:Type}(G:S_g109 α):=rowK g109tp g109bp (g109K G)
def g109hd(L109l0:Al S_g109l0):Hd where
 call:=fun f args Bs k=>none
 loop:=fun id st k=>cond (Nat.beq id 0) (loopH g109l0D (g109l0K L109l0) st k) (none)
 ro:=fun f=>[]
def g109h(m:Nat):Hd:=g109hd (g109l0M m)
theorem g109l0Step(L109l0:Al S_g109l0){α:Type}(L:S_g109l0 α)(ls:List Lf)(k:KEx α):
  g109l0K (fun a b c d e h i=>g109l0b a b c d (L a b c d) e h i) ls k=ev tab (g109hd L109l0) (bodyAt Tryz.f109 0) (atHead g109l0D ls) (loopK g109l0D 0 (loopH g109l0D (g109l0K L)) k):=by kernel_rfl
theorem g109Main(L109l0:Al S_g109l0){α:Type}(ls:List Lf)(k:KRe α):
  g109K (g109b L109l0) ls k=evFun tab (g109hd L109l0) Tryz.f109 (fT g109tp ls) (fB g109tp g109bp ls) k:=by kernel_rfl
theorem g109Calls(m:Nat):(g109h m).CallsOk Tryz.prog:=cok_nil
theorem g109l0Ok(m:Nat)(α:Type)(st:St)(k:KEx α)(r:α)(h:(g109h m).loop 0 st k=some r):
  LoopS Tryz.prog 0 (bodyAt Tryz.f109 0) st k r:=
 lpk (F:=fun n ls k=>g109l0K (fun a b c d e i j=>g109l0 a b c d n e i j) ls k) (g109Calls m) (lb0 (by kernel_rfl))
  (fun _ _=>rfl) (fun n ls k=>g109l0Step (g109l0M m) (fun a b c d=>g109l0 a b c d n) ls k) (n:=m) h
theorem g109Ok(m:Nat):RowOk Tryz.prog 109 (fun{α}=>g109R (g109 m (α:=α))):=
 rwk (g109Calls m) (lo1 (by kernel_rfl) (g109l0Ok m))
  (fun _=>g109Main (g109l0M m))
abbrev S_g118(α:Type):Type:=Bool→(List Int)→Bool→(List Int)→(Bool→(List Int)→Bool→(List Int)→Option α)→Option α
def g118b{α:Type}(G128:Al S_g128)(G126:Al S_g126)(G109:Al S_g109)(G108:Al S_g108)(G110:Al S_g110)(a:Bool)(b:List Int)(c:Bool)(d:List Int)(e:Bool→(List Int)→Bool→(List Int)→Option α):Option α:=G128 b d (fun h i=>cond (!(a==c)) (G126 i (fun j=>cond (!j) (G109 h [(1:Int),0,0,0,0,0] (fun l n=>G108 d i (fun o=>G110 (!(a==c)) l (fun p=>G110 c o (fun q=>e p l q o))))) (G110 (!(a==c)) h (fun r=>G110 c i (fun s=>e r h s i))))) (G110 (!(a==c)) h (fun t=>G110 c i (fun u=>e t h u i))))
def g118{α:Type}(m:Nat):S_g118 α:=
 g118b (g128 m) (g126 m) (g109 m) (g108 m) (g110 m)
def g118tp:List TP:=[vW,vW]
def g118bp:List BP:=[]
def g118K{α:Type}(G:S_g118 α)(ls:List Lf)(k:KRe α):Option α:=
 G (lf ls 0).bool ((lf ls 1).lst uU) (lf ls 2).bool ((lf ls 3).lst uU)
  (fun a b c d=>k (.tup [(.agg [(.one (.bool a)),(.seq uU 6 b)]),(.agg [(.one (.bool c)),(.seq uU 6 d)])]) [] [])
def g118R{α:Type}(G:S_g118 α):=rowK g118tp g118bp (g118K G)
def g118hd(G128:Al S_g128)(G126:Al S_g126)(G109:Al S_g109)(G108:Al S_g108)(G110:Al S_g110):Hd where
 call:=fun f args Bs k=>cond (Nat.beq f 128) (g128R G128 args Bs k) (cond (Nat.beq f 126) (g126R G126 args Bs k) (cond (Nat.beq f 109) (g109R G109 args Bs k) (cond (Nat.beq f 108) (g108R G108 args Bs k) (cond (Nat.beq f 110) (g110R G110 args Bs k) (none)))))
 loop:=fun id st k=>none
 ro:=fun f=>cond (Nat.beq f 108) [0,1] (cond (Nat.beq f 109) [0,1] (cond (Nat.beq f 126) [0] (cond (Nat.beq f 128) [0,1] ([]))))
def g118h(m:Nat):Hd:=g118hd (g128 m) (g126 m) (g109 m) (g108 m) (g110 m)
theorem g118Main(G128:Al S_g128)(G126:Al S_g126)(G109:Al S_g109)(G108:Al S_g108)(G110:Al S_g110){α:Type}(ls:List Lf)(k:KRe α):
  g118K (g118b G128 G126 G109 G108 G110) ls k=evFun tab (g118hd G128 G126 G109 G108 G110) Tryz.f118 (fT g118tp ls) (fB g118tp g118bp ls) k:=by kernel_rfl
theorem g118Calls(m:Nat):(g118h m).CallsOk Tryz.prog:=(cok_cons (g128Ok m) (cok_cons (g126Ok m) (cok_cons (g109Ok m) (cok_cons (g108Ok m) (cok_cons (g110Ok m) cok_nil)))))
theorem g118Ok(m:Nat):RowOk Tryz.prog 118 (fun{α}=>g118R (g118 m (α:=α))):=
 rwk (g118Calls m) (lo0 (by kernel_rfl))
  (fun _=>g118Main (g128 m) (g126 m) (g109 m) (g108 m) (g110 m))
abbrev S_g78(α:Type):Type:=Bool→(List Int)→Bool→(List Int)→(Bool→(List Int)→Int→Option α)→Option α
def g78b{α:Type}(G109:Al S_g109)(G110:Al S_g110)(G111:Al S_g111)(G108:Al S_g108)(a:Bool)(b:List Int)(c:Bool)(d:List Int)(e:Bool→(List Int)→Int→Option α):Option α:=cond (a==c) (G109 b d (fun h i=>cond (!i) (e false [0,0,0,0,0,0] (3:Int)) (G110 a h (fun j=>e j h (0:Int))))) (G111 b d (fun l=>cond (decide (l≥(0:Int))) (G108 b d (fun n=>G110 a n (fun o=>e o n (0:Int)))) (G108 d b (fun p=>G110 c p (fun q=>e q p (0:Int))))))
def g78{α:Type}(m:Nat):S_g78 α:=
 g78b (g109 m) (g110 m) (g111 m) (g108 m)
def g78tp:List TP:=[vW,vW]
def g78bp:List BP:=[]
def g78K{α:Type}(G:S_g78 α)(ls:List Lf)(k:KRe α):Option α:=
 G (lf ls 0).bool ((lf ls 1).lst uU) (lf ls 2).bool ((lf ls 3).lst uU)
  (fun a b c=>k (.tup [(.agg [(.one (.bool a)),(.seq uU 6 b)]),(.sv (.int .i64 c))]) [] [])
def g78R{α:Type}(G:S_g78 α):=rowK g78tp g78bp (g78K G)
def g78hd(G109:Al S_g109)(G110:Al S_g110)(G111:Al S_g111)(G108:Al S_g108):Hd where
 call:=fun f args Bs k=>cond (Nat.beq f 109) (g109R G109 args Bs k) (cond (Nat.beq f 110) (g110R G110 args Bs k) (cond (Nat.beq f 111) (g111R G111 args Bs k) (cond (Nat.beq f 108) (g108R G108 args Bs k) (none))))
 loop:=fun id st k=>none
 ro:=fun f=>cond (Nat.beq f 108) [0,1] (cond (Nat.beq f 109) [0,1] (cond (Nat.beq f 111) [0,1] ([])))
def g78h(m:Nat):Hd:=g78hd (g109 m) (g110 m) (g111 m) (g108 m)
theorem g78Main(G109:Al S_g109)(G110:Al S_g110)(G111:Al S_g111)(G108:Al S_g108){α:Type}(ls:List Lf)(k:KRe α):
  g78K (g78b G109 G110 G111 G108) ls k=evFun tab (g78hd G109 G110 G111 G108) Tryz.f78 (fT g78tp ls) (fB g78tp g78bp ls) k:=by kernel_rfl
theorem g78Calls(m:Nat):(g78h m).CallsOk Tryz.prog:=(cok_cons (g109Ok m) (cok_cons (g110Ok m) (cok_cons (g111Ok m) (cok_cons (g108Ok m) cok_nil))))
theorem g78Ok(m:Nat):RowOk Tryz.prog 78 (fun{α}=>g78R (g78 m (α:=α))):=
 rwk (g78Calls m) (lo0 (by kernel_rfl))
  (fun _=>g78Main (g109 m) (g110 m) (g111 m) (g108 m))
abbrev S_g98(α:Type):Type:=Bool→(List Int)→Bool→(List Int)→(Bool→(List Int)→Option α)→Option α
def g98b{α:Type}(G118:Al S_g118)(G108:Al S_g108)(G111:Al S_g111)(G80:Al S_g80)(G78:Al S_g78)(a:Bool)(b:List Int)(c:Bool)(d:List Int)(e:Bool→(List Int)→Option α):Option α:=G118 a b c d (fun h i j l=>G108 d l (fun n=>G111 l n (fun o=>cond (decide (o≥(0:Int))) (G80 (1:Int) (fun p q=>G78 h i p q (fun r s t=>e r s))) (e h i))))
def g98{α:Type}(m:Nat):S_g98 α:=
 g98b (g118 m) (g108 m) (g111 m) (g80 m) (g78 m)
def g98tp:List TP:=[vW,vW]
def g98bp:List BP:=[]
def g98K{α:Type}(G:S_g98 α)(ls:List Lf)(k:KRe α):Option α:=
 G (lf ls 0).bool ((lf ls 1).lst uU) (lf ls 2).bool ((lf ls 3).lst uU)
  (fun a b=>k (.vl (.agg [(.one (.bool a)),(.seq uU 6 b)])) [] [])
def g98R{α:Type}(G:S_g98 α):=rowK g98tp g98bp (g98K G)
def g98hd(G118:Al S_g118)(G108:Al S_g108)(G111:Al S_g111)(G80:Al S_g80)(G78:Al S_g78):Hd where
 call:=fun f args Bs k=>cond (Nat.beq f 118) (g118R G118 args Bs k) (cond (Nat.beq f 108) (g108R G108 args Bs k) (cond (Nat.beq f 111) (g111R G111 args Bs k) (cond (Nat.beq f 80) (g80R G80 args Bs k) (cond (Nat.beq f 78) (g78R G78 args Bs k) (none)))))
 loop:=fun id st k=>none
 ro:=fun f=>cond (Nat.beq f 108) [0,1] (cond (Nat.beq f 111) [0,1] ([]))
def g98h(m:Nat):Hd:=g98hd (g118 m) (g108 m) (g111 m) (g80 m) (g78 m)
theorem g98Main(G118:Al S_g118)(G108:Al S_g108)(G111:Al S_g111)(G80:Al S_g80)(G78:Al S_g78){α:Type}(ls:List Lf)(k:KRe α):
  g98K (g98b G118 G108 G111 G80 G78) ls k=evFun tab (g98hd G118 G108 G111 G80 G78) Tryz.f98 (fT g98tp ls) (fB g98tp g98bp ls) k:=by kernel_rfl
theorem g98Calls(m:Nat):(g98h m).CallsOk Tryz.prog:=(cok_cons (g118Ok m) (cok_cons (g108Ok m) (cok_cons (g111Ok m) (cok_cons (g80Ok m) (cok_cons (g78Ok m) cok_nil)))))
theorem g98Ok(m:Nat):RowOk Tryz.prog 98 (fun{α}=>g98R (g98 m (α:=α))):=
 rwk (g98Calls m) (lo0 (by kernel_rfl))
  (fun _=>g98Main (g118 m) (g108 m) (g111 m) (g80 m) (g78 m))
abbrev S_g81(α:Type):Type:=Bool→(List Int)→Bool→(List Int)→(Int→Option α)→Option α
def g81b{α:Type}(G111:Al S_g111)(a:Bool)(b:List Int)(c:Bool)(d:List Int)(e:Int→Option α):Option α:=cond a (cond (!c) (e (-1:Int)) (cond (!a) (cond c (e (1:Int)) (cond a (G111 d b (fun h=>e h)) (G111 b d (fun i=>e i)))) (cond a (G111 d b (fun j=>e j)) (G111 b d (fun l=>e l))))) (cond (!a) (cond c (e (1:Int)) (cond a (G111 d b (fun n=>e n)) (G111 b d (fun o=>e o)))) (cond a (G111 d b (fun p=>e p)) (G111 b d (fun q=>e q))))
def g81{α:Type}(m:Nat):S_g81 α:=
 g81b (g111 m)
def g81tp:List TP:=[(.vl (.sv (.ptr 0 0))),(.vl (.sv (.ptr 1 0)))]
def g81bp:List BP:=[(false,[(.one .bool),(.seq uU 6)]),(false,[(.one .bool),(.seq uU 6)])]
def g81K{α:Type}(G:S_g81 α)(ls:List Lf)(k:KRe α):Option α:=
 G (lf ls 0).bool ((lf ls 1).lst uU) (lf ls 2).bool ((lf ls 3).lst uU)
  (fun a=>k (.vl (.sv (.int .i64 a))) [[(.one (.bool (lf ls 0).bool)),(.seq uU 6 ((lf ls 1).lst uU))],[(.one (.bool (lf ls 2).bool)),(.seq uU 6 ((lf ls 3).lst uU))]] [])
def g81R{α:Type}(G:S_g81 α):=rowK g81tp g81bp (g81K G)
def g81hd(G111:Al S_g111):Hd where
 call:=fun f args Bs k=>cond (Nat.beq f 111) (g111R G111 args Bs k) (none)
 loop:=fun id st k=>none
 ro:=fun f=>cond (Nat.beq f 111) [0,1] ([])
def g81h(m:Nat):Hd:=g81hd (g111 m)
theorem g81Main(G111:Al S_g111){α:Type}(ls:List Lf)(k:KRe α):
  g81K (g81b G111) ls k=evFun tab (g81hd G111) Tryz.f81 (fT g81tp ls) (fB g81tp g81bp ls) k:=by kernel_rfl
theorem g81Calls(m:Nat):(g81h m).CallsOk Tryz.prog:=(cok_cons (g111Ok m) cok_nil)
theorem g81Ok(m:Nat):RowOk Tryz.prog 81 (fun{α}=>g81R (g81 m (α:=α))):=
 rwk (g81Calls m) (lo0 (by kernel_rfl))
  (fun _=>g81Main (g111 m))
abbrev S_g79(α:Type):Type:=Bool→(List Int)→(Bool→Option α)→Option α
def g79b{α:Type}(G110:Al S_g110)(a:Bool)(b:List Int)(c:Bool→Option α):Option α:=G110 (!a) b (fun d=>c d)
def g79{α:Type}(m:Nat):S_g79 α:=
 g79b (g110 m)
def g79tp:List TP:=[vW]
def g79bp:List BP:=[]
def g79K{α:Type}(G:S_g79 α)(ls:List Lf)(k:KRe α):Option α:=
 G (lf ls 0).bool ((lf ls 1).lst uU)
  (fun a=>k (.vl (.agg [(.one (.bool a)),(.seq uU 6 ((lf ls 1).lst uU))])) [] [])
def g79R{α:Type}(G:S_g79 α):=rowK g79tp g79bp (g79K G)
def g79hd(G110:Al S_g110):Hd where
 call:=fun f args Bs k=>cond (Nat.beq f 110) (g110R G110 args Bs k) (none)
 loop:=fun id st k=>none
 ro:=fun f=>[]
def g79h(m:Nat):Hd:=g79hd (g110 m)
theorem g79Main(G110:Al S_g110){α:Type}(ls:List Lf)(k:KRe α):
  g79K (g79b G110) ls k=evFun tab (g79hd G110) Tryz.f79 (fT g79tp ls) (fB g79tp g79bp ls) k:=by kernel_rfl
theorem g79Calls(m:Nat):(g79h m).CallsOk Tryz.prog:=(cok_cons (g110Ok m) cok_nil)
theorem g79Ok(m:Nat):RowOk Tryz.prog 79 (fun{α}=>g79R (g79 m (α:=α))):=
 rwk (g79Calls m) (lo0 (by kernel_rfl))
  (fun _=>g79Main (g110 m))
abbrev S_g119(α:Type):Type:=Bool→(List Int)→Bool→(List Int)→(Bool→(List Int)→Int→Option α)→Option α
abbrev S_g119l2(α:Type):Type:=Int→Bool→(List Int)→Bool→(List Int)→Bool→(List Int)→(Int→(List Int)→Option α)→Int→Int→(List Int)→Option α
def g119l2b{α:Type}(a:Int)(b:Bool)(c:List Int)(d:Bool)(e:List Int)(h:Bool)(i:List Int)(j:Int→(List Int)→Option α)(l:Int→Int→(List Int)→Option α)(n o:Int)(p:List Int):Option α:=cond (decide (o<(6:Int))) (if 0≤a∧a<(6:Nat) then if a.toNat<6 then if 0≤o∧o<(6:Nat) then if o.toNat<6 then let q:Int:=IntKind.wrap .i64 (a+o);if 0≤q∧q<(12:Nat) then if q.toNat<12 then let r:Int:=IntKind.wrap .u64 ((IntKind.wrap .u64 ((IntKind.wrap .u64 ((IntKind.wrap .u64 (List.getD c a.toNat 0))*(IntKind.wrap .u64 (List.getD e o.toNat 0))))+(IntKind.wrap .u64 (List.getD p q.toNat 0))))+n);let s:Int:=IntKind.wrap .i64 (a+o);if 0≤s∧s<(12:Nat) then if s.toNat<12 then l (Int.fdiv r (2^32)) (IntKind.wrap .i64 (o+(1:Int))) (List.set p (s.toNat) (IntKind.wrap .u32 r)) else none else none else none else none else none else none else none else none) (j n p)
def g119l2{α:Type}(a:Int)(b:Bool)(c:List Int)(d:Bool)(e:List Int)(h:Bool)(i:List Int)(j:Int→(List Int)→Option α):Nat→Int→Int→(List Int)→Option α
 |0=>fun _ _ _=>none
 |m+1=>fun l n o=>g119l2b a b c d e h i j (g119l2 a b c d e h i j m) l n o
def g119l2M{α:Type}(m:Nat):S_g119l2 α:=
 fun a b c d e h i j l n o=>g119l2 a b c d e h i j m l n o
def g119l2D:LoopD:={n:=78,low:=[],sl:=[2,3,4,6,7,8,9],bl:=[1000000,1000001,1000002,1000003],tp:=[(.vl (.sv (.ptr 1000000 0))),(.vl (.sv (.ptr 1000001 0))),(.vl (.sv (.ptr 1000002 0))),(.vl (.sv (.ptr 1000003 0))),tI,(.vl (.sv (.int .u64))),tI],bp:=[(true,[(.one .bool),(.seq uU 6)]),(true,[(.one .bool),(.seq uU 6)]),(true,[(.one .bool),(.seq uU 6)]),(true,[(.seq uU 12)])],xs:=[(4,[2,3,4,6,7,8])]}
def g119l2K{α:Type}(L:S_g119l2 α)(ls:List Lf)(k:KEx α):Option α:=
 L (lf ls 0).int (lf ls 3).bool ((lf ls 4).lst uU) (lf ls 5).bool ((lf ls 6).lst uU) (lf ls 7).bool ((lf ls 8).lst uU)
  (fun a b=>k .normal (mkSt 78 [2,3,4,6,7,8] [(.vl (.sv (.ptr 1000000 0))),(.vl (.sv (.ptr 1000001 0))),(.vl (.sv (.ptr 1000002 0))),(.vl (.sv (.ptr 1000003 0))),(.vl (.sv (.int .i64 (lf ls 0).int))),(.vl (.sv (.int .u64 a)))] [1000000,1000001,1000002,1000003] [(true,[(.one (.bool (lf ls 3).bool)),(.seq uU 6 ((lf ls 4).lst uU))]),(true,[(.one (.bool (lf ls 5).bool)),(.seq uU 6 ((lf ls 6).lst uU))]),(true,[(.one (.bool (lf ls 7).bool)),(.seq uU 6 ((lf ls 8).lst uU))]),(true,[(.seq uU 12 b)])]))
  (lf ls 1).int (lf ls 2).int ((lf ls 9).lst uU)
abbrev S_g119l0(α:Type):Type:=Bool→(List Int)→Bool→(List Int)→Bool→(List Int)→((List Int)→Option α)→Int→(List Int)→Option α
def g119l0b{α:Type}(L119l2:Al S_g119l2)(a:Bool)(b:List Int)(c:Bool)(d:List Int)(e:Bool)(h:List Int)(i:(List Int)→Option α)(j:Int→(List Int)→Option α)(l:Int)(n:List Int):Option α:=cond (decide (l<(6:Int))) (L119l2 l a b c d e h (fun o p=>let q:Int:=IntKind.wrap .i64 (l+(6:Int));if 0≤q∧q<(12:Nat) then if q.toNat<12 then j (IntKind.wrap .i64 (l+(1:Int))) (List.set p (q.toNat) (IntKind.wrap .u32 o)) else none else none) (0:Int) (0:Int) n) (i n)
def g119l0{α:Type}(L119l2:Al S_g119l2)(a:Bool)(b:List Int)(c:Bool)(d:List Int)(e:Bool)(h:List Int)(i:(List Int)→Option α):Nat→Int→(List Int)→Option α
 |0=>fun _ _=>none
 |m+1=>fun j l=>g119l0b L119l2 a b c d e h i (g119l0 L119l2 a b c d e h i m) j l
def g119l0M{α:Type}(m:Nat):S_g119l0 α:=
 fun a b c d e h i j l=>g119l0 (g119l2M m) a b c d e h i m j l
def g119l0D:LoopD:={n:=78,low:=[],sl:=[2,3,4,6,7],bl:=[1000000,1000001,1000002,1000003],tp:=[(.vl (.sv (.ptr 1000000 0))),(.vl (.sv (.ptr 1000001 0))),(.vl (.sv (.ptr 1000002 0))),(.vl (.sv (.ptr 1000003 0))),tI],bp:=[(true,[(.one .bool),(.seq uU 6)]),(true,[(.one .bool),(.seq uU 6)]),(true,[(.one .bool),(.seq uU 6)]),(true,[(.seq uU 12)])],xs:=[(2,[2,3,4,6])]}
def g119l0K{α:Type}(L:S_g119l0 α)(ls:List Lf)(k:KEx α):Option α:=
 L (lf ls 1).bool ((lf ls 2).lst uU) (lf ls 3).bool ((lf ls 4).lst uU) (lf ls 5).bool ((lf ls 6).lst uU)
  (fun a=>k .normal (mkSt 78 [2,3,4,6] [(.vl (.sv (.ptr 1000000 0))),(.vl (.sv (.ptr 1000001 0))),(.vl (.sv (.ptr 1000002 0))),(.vl (.sv (.ptr 1000003 0)))] [1000000,1000001,1000002,1000003] [(true,[(.one (.bool (lf ls 1).bool)),(.seq uU 6 ((lf ls 2).lst uU))]),(true,[(.one (.bool (lf ls 3).bool)),(.seq uU 6 ((lf ls 4).lst uU))]),(true,[(.one (.bool (lf ls 5).bool)),(.seq uU 6 ((lf ls 6).lst uU))]),(true,[(.seq uU 12 a)])]))
  (lf ls 0).int ((lf ls 7).lst uU)
abbrev S_g119l4(α:Type):Type:=Bool→(List Int)→Bool→(List Int)→Bool→(List Int)→(List Int)→((List Int)→Option α)→((List Int)→Option α)→Int→(List Int)→Option α
def g119l4b{α:Type}(a:Bool)(b:List Int)(c:Bool)(d:List Int)(e:Bool)(h i:List Int)(j:(List Int)→Option α)(l:(List Int)→Option α)(n:Int→(List Int)→Option α)(o:Int)(p:List Int):Option α:=cond (decide (o<(6:Int))) (if 0≤o∧o<(12:Nat) then if o.toNat<12 then if 0≤o∧o<(6:Nat) then if o.toNat<6 then let q:Int:=IntKind.wrap .i64 (o+(6:Int));if 0≤q∧q<(12:Nat) then if q.toNat<12 then cond ((List.getD i q.toNat 0) !=(0:Int)) (j [0,0,0,0,0,0]) (n (IntKind.wrap .i64 (o+(1:Int))) (List.set p (o.toNat) (List.getD i o.toNat 0))) else none else none else none else none else none else none) (l p)
def g119l4{α:Type}(a:Bool)(b:List Int)(c:Bool)(d:List Int)(e:Bool)(h i:List Int)(j:(List Int)→Option α)(l:(List Int)→Option α):Nat→Int→(List Int)→Option α
 |0=>fun _ _=>none
 |m+1=>fun n o=>g119l4b a b c d e h i j l (g119l4 a b c d e h i j l m) n o
def g119l4M{α:Type}(m:Nat):S_g119l4 α:=
 fun a b c d e h i j l n o=>g119l4 a b c d e h i j l m n o
def g119l4D:LoopD:={n:=78,low:=[],sl:=[2,3,4,6,11,12],bl:=[1000000,1000001,1000002,1000003,1000004],tp:=[(.vl (.sv (.ptr 1000000 0))),(.vl (.sv (.ptr 1000001 0))),(.vl (.sv (.ptr 1000002 0))),(.vl (.sv (.ptr 1000003 0))),(.vl (.sv (.ptr 1000004 0))),tI],bp:=[(true,[(.one .bool),(.seq uU 6)]),(true,[(.one .bool),(.seq uU 6)]),(true,[(.one .bool),(.seq uU 6)]),(true,[(.seq uU 12)]),b6],xs:=[(1,[4,5]),(6,[2,3,4,11])]}
def g119l4K{α:Type}(L:S_g119l4 α)(ls:List Lf)(k:KEx α):Option α:=
 L (lf ls 1).bool ((lf ls 2).lst uU) (lf ls 3).bool ((lf ls 4).lst uU) (lf ls 5).bool ((lf ls 6).lst uU) ((lf ls 7).lst uU)
  (fun a=>k .ret (mkSt 78 [4,5] [(.vl (.sv (.ptr 1000000 0))),(.vl (.sv (.int .i64 (3:Int))))] [1000000] [(true,[(.one (.bool false)),(.seq uU 6 a)])]))
  (fun b=>k .normal (mkSt 78 [2,3,4,11] [(.vl (.sv (.ptr 1000000 0))),(.vl (.sv (.ptr 1000001 0))),(.vl (.sv (.ptr 1000002 0))),(.vl (.sv (.ptr 1000003 0)))] [1000000,1000001,1000002,1000003] [(true,[(.one (.bool (lf ls 1).bool)),(.seq uU 6 ((lf ls 2).lst uU))]),(true,[(.one (.bool (lf ls 3).bool)),(.seq uU 6 ((lf ls 4).lst uU))]),(true,[(.one (.bool (lf ls 5).bool)),(.seq uU 6 ((lf ls 6).lst uU))]),(true,[(.seq uU 6 b)])]))
  (lf ls 0).int ((lf ls 8).lst uU)
def g119b{α:Type}(G110:Al S_g110)(L119l2:Al S_g119l2)(L119l0:Al S_g119l0)(L119l4:Al S_g119l4)(a:Bool)(b:List Int)(c:Bool)(d:List Int)(e:Bool→(List Int)→Int→Option α):Option α:=L119l0 a b c d false [0,0,0,0,0,0] (fun h=>L119l4 a b c d false [0,0,0,0,0,0] h (fun i=>e false i (3:Int)) (fun j=>G110 (!(a==c)) j (fun l=>e l j (0:Int))) (0:Int) [0,0,0,0,0,0]) (0:Int) [0,0,0,0,0,0,0,0,0,0,0,0]
def g119{α:Type}(m:Nat):S_g119 α:=
 g119b (g110 m) (g119l2M m) (g119l0M m) (g119l4M m)
def g119tp:List TP:=[vW,vW]
def g119bp:List BP:=[]
def g119K{α:Type}(G:S_g119 α)(ls:List Lf)(k:KRe α):Option α:=
 G (lf ls 0).bool ((lf ls 1).lst uU) (lf ls 2).bool ((lf ls 3).lst uU)
  (fun a b c=>k (.tup [(.agg [(.one (.bool a)),(.seq uU 6 b)]),(.sv (.int .i64 c))]) [] [])
def g119R{α:Type}(G:S_g119 α):=rowK g119tp g119bp (g119K G)
def g119hd(G110:Al S_g110)(L119l2:Al S_g119l2)(L119l0:Al S_g119l0)(L119l4:Al S_g119l4):Hd where
 call:=fun f args Bs k=>cond (Nat.beq f 110) (g110R G110 args Bs k) (none)
 loop:=fun id st k=>cond (Nat.beq id 2) (loopH g119l2D (g119l2K L119l2) st k) (cond (Nat.beq id 0) (loopH g119l0D (g119l0K L119l0) st k) (cond (Nat.beq id 4) (loopH g119l4D (g119l4K L119l4) st k) (none)))
 ro:=fun f=>[]
def g119h(m:Nat):Hd:=g119hd (g110 m) (g119l2M m) (g119l0M m) (g119l4M m)
theorem g119l2Step(G110:Al S_g110)(L119l2:Al S_g119l2)(L119l0:Al S_g119l0)(L119l4:Al S_g119l4){α:Type}(L:S_g119l2 α)(ls:List Lf)(k:KEx α):
  g119l2K (fun a b c d e h i j l n o=>g119l2b a b c d e h i j (L a b c d e h i j) l n o) ls k=ev tab (g119hd G110 L119l2 L119l0 L119l4) (bodyAt Tryz.f119 2) (atHead g119l2D ls) (loopK g119l2D 2 (loopH g119l2D (g119l2K L)) k):=by kernel_rfl
theorem g119l0Step(G110:Al S_g110)(L119l2:Al S_g119l2)(L119l0:Al S_g119l0)(L119l4:Al S_g119l4){α:Type}(L:S_g119l0 α)(ls:List Lf)(k:KEx α):
  g119l0K (fun a b c d e h i j l=>g119l0b L119l2 a b c d e h i (L a b c d e h i) j l) ls k=ev tab (g119hd G110 L119l2 L119l0 L119l4) (bodyAt Tryz.f119 0) (atHead g119l0D ls) (loopK g119l0D 0 (loopH g119l0D (g119l0K L)) k):=by kernel_rfl
theorem g119l4Step(G110:Al S_g110)(L119l2:Al S_g119l2)(L119l0:Al S_g119l0)(L119l4:Al S_g119l4){α:Type}(L:S_g119l4 α)(ls:List Lf)(k:KEx α):
  g119l4K (fun a b c d e h i j l n o=>g119l4b a b c d e h i j l (L a b c d e h i j l) n o) ls k=ev tab (g119hd G110 L119l2 L119l0 L119l4) (bodyAt Tryz.f119 4) (atHead g119l4D ls) (loopK g119l4D 4 (loopH g119l4D (g119l4K L)) k):=by kernel_rfl
theorem g119Main(G110:Al S_g110)(L119l2:Al S_g119l2)(L119l0:Al S_g119l0)(L119l4:Al S_g119l4){α:Type}(ls:List Lf)(k:KRe α):
  g119K (g119b G110 L119l2 L119l0 L119l4) ls k=evFun tab (g119hd G110 L119l2 L119l0 L119l4) Tryz.f119 (fT g119tp ls) (fB g119tp g119bp ls) k:=by kernel_rfl
theorem g119Calls(m:Nat):(g119h m).CallsOk Tryz.prog:=(cok_cons (g110Ok m) cok_nil)
theorem g119l2Ok(m:Nat)(α:Type)(st:St)(k:KEx α)(r:α)(h:(g119h m).loop 2 st k=some r):
  LoopS Tryz.prog 2 (bodyAt Tryz.f119 2) st k r:=
 lpk (F:=fun n ls k=>g119l2K (fun a b c d e i j l o q s=>g119l2 a b c d e i j l n o q s) ls k) (g119Calls m) (lb0 (by kernel_rfl))
  (fun _ _=>rfl) (fun n ls k=>g119l2Step (g110 m) (g119l2M m) (g119l0M m) (g119l4M m) (fun a b c d e i j l=>g119l2 a b c d e i j l n) ls k) (n:=m) h
theorem g119l0Ok(m:Nat)(α:Type)(st:St)(k:KEx α)(r:α)(h:(g119h m).loop 0 st k=some r):
  LoopS Tryz.prog 0 (bodyAt Tryz.f119 0) st k r:=
 lpk (F:=fun n ls k=>g119l0K (fun a b c d e i j l o=>g119l0 (g119l2M m) a b c d e i j n l o) ls k) (g119Calls m) (loopsOk_of _ (fun p hp=>by
  rw[show loopsOf (bodyAt Tryz.f119 0)=[(2,bodyAt Tryz.f119 2)] by kernel_rfl] at hp
  simp only[List.mem_cons,List.not_mem_nil,or_false] at hp
  rcases hp with rfl
  exact g119l2Ok m))
  (fun _ _=>rfl) (fun n ls k=>g119l0Step (g110 m) (g119l2M m) (g119l0M m) (g119l4M m) (fun a b c d e i j=>g119l0 (g119l2M m) a b c d e i j n) ls k) (n:=m) h
theorem g119l4Ok(m:Nat)(α:Type)(st:St)(k:KEx α)(r:α)(h:(g119h m).loop 4 st k=some r):
  LoopS Tryz.prog 4 (bodyAt Tryz.f119 4) st k r:=
 lpk (F:=fun n ls k=>g119l4K (fun a b c d e i j l o q s=>g119l4 a b c d e i j l o n q s) ls k) (g119Calls m) (lb0 (by kernel_rfl))
  (fun _ _=>rfl) (fun n ls k=>g119l4Step (g110 m) (g119l2M m) (g119l0M m) (g119l4M m) (fun a b c d e i j l o=>g119l4 a b c d e i j l o n) ls k) (n:=m) h
theorem g119Fn(m:Nat):FnOk Tryz.prog 119 g119tp g119bp (fun{α}=>g119K (g119 m (α:=α))):=
 fn_ok (tab:=tab) (h:=g119h m) (fn:=Tryz.f119) (F:=fun{α}=>g119K (g119 m (α:=α))) tabOk (g119Calls m) mixed (by kernel_rfl) (by kernel_rfl) (fun c hc=>by
  rw[bodyOf_some hc]
  exact loopsOk_of _ (fun p hp=>by
  rw[show loopsOf (bodyOf Tryz.f119)=[(0,bodyAt Tryz.f119 0),(4,bodyAt Tryz.f119 4)] by kernel_rfl] at hp
  simp only[List.mem_cons,List.not_mem_nil,or_false] at hp
  rcases hp with rfl|rfl
  ·exact g119l0Ok m
  ·exact g119l4Ok m))
  (fun _=>g119Main (g110 m) (g119l2M m) (g119l0M m) (g119l4M m))
theorem g119Ok(m:Nat):RowOk Tryz.prog 119 (fun{α}=>g119R (g119 m (α:=α))):=row_of (g119Fn m)
abbrev S_g120(α:Type):Type:=Bool→(List Int)→Int→(Bool→(List Int)→Option α)→Option α
abbrev S_g120l0(α:Type):Type:=Int→Bool→(List Int)→Bool→(List Int)→(Bool→(List Int)→Option α)→Int→Bool→(List Int)→Bool→(List Int)→Option α
def g120l0b{α:Type}(G81:Al S_g81)(G118:Al S_g118)(G80:Al S_g80)(G79:Al S_g79)(G78:Al S_g78)(G119:Al S_g119)(a:Int)(b:Bool)(c:List Int)(d:Bool)(e:List Int)(h:Bool→(List Int)→Option α)(i:Int→Bool→(List Int)→Bool→(List Int)→Option α)(j:Int)(l:Bool)(n:List Int)(o:Bool)(p:List Int):Option α:=G81 o p b c (fun q=>cond (decide (q≤(0:Int))) (G118 b c o p (fun r s t u=>G80 (IntKind.wrap .i64 ((IntKind.wrap .i64 ((2:Int)*j))+(1:Int))) (fun v w=>G118 r s v w (fun x y z a0=>cond ((Int.tmod j (2:Int))==(1:Int)) (G79 x y (fun b0=>G78 l n b0 y (fun c0 d0 e0=>G80 (IntKind.wrap .i64 (a*a)) (fun h0 i0=>G119 o p h0 i0 (fun j0 l0 n0=>cond (n0 !=(0:Int)) (h c0 d0) (i (IntKind.wrap .i64 (j+(1:Int))) c0 d0 j0 l0)))))) (G78 l n x y (fun o0 p0 q0=>G80 (IntKind.wrap .i64 (a*a)) (fun r0 s0=>G119 o p r0 s0 (fun t0 u0 v0=>cond (v0 !=(0:Int)) (h o0 p0) (i (IntKind.wrap .i64 (j+(1:Int))) o0 p0 t0 u0))))))))) (h l n))
def g120l0{α:Type}(G81:Al S_g81)(G118:Al S_g118)(G80:Al S_g80)(G79:Al S_g79)(G78:Al S_g78)(G119:Al S_g119)(a:Int)(b:Bool)(c:List Int)(d:Bool)(e:List Int)(h:Bool→(List Int)→Option α):Nat→Int→Bool→(List Int)→Bool→(List Int)→Option α
 |0=>fun _ _ _ _ _=>none
 |m+1=>fun i j l n o=>g120l0b G81 G118 G80 G79 G78 G119 a b c d e h (g120l0 G81 G118 G80 G79 G78 G119 a b c d e h m) i j l n o
def g120l0M{α:Type}(m:Nat):S_g120l0 α:=
 fun a b c d e h i j l n o=>g120l0 (g81 m) (g118 m) (g80 m) (g79 m) (g78 m) (g119 m) a b c d e h m i j l n o
def g120l0D:LoopD:={n:=58,low:=[],sl:=[1,2,4,5,6,7],bl:=[1000000,1000001,1000002,1000003],tp:=[tI,(.vl (.sv (.ptr 1000000 0))),(.vl (.sv (.ptr 1000001 0))),(.vl (.sv (.ptr 1000002 0))),(.vl (.sv (.ptr 1000003 0))),tI],bp:=[(true,[(.one .bool),(.seq uU 6)]),(true,[(.one .bool),(.seq uU 6)]),(true,[(.one .bool),(.seq uU 6)]),(true,[(.one .bool),(.seq uU 6)])],xs:=[(2,[4,5])]}
def g120l0K{α:Type}(L:S_g120l0 α)(ls:List Lf)(k:KEx α):Option α:=
 L (lf ls 0).int (lf ls 2).bool ((lf ls 3).lst uU) (lf ls 4).bool ((lf ls 5).lst uU)
  (fun a b=>k .normal (mkSt 58 [4,5] [(.vl (.sv (.ptr 1000000 0))),(.vl (.sv (.ptr 1000001 0)))] [1000000,1000001] [(true,[(.one (.bool (lf ls 4).bool)),(.seq uU 6 ((lf ls 5).lst uU))]),(true,[(.one (.bool a)),(.seq uU 6 b)])]))
  (lf ls 1).int (lf ls 6).bool ((lf ls 7).lst uU) (lf ls 8).bool ((lf ls 9).lst uU)
def g120b{α:Type}(G80:Al S_g80)(G81:Al S_g81)(G118:Al S_g118)(G79:Al S_g79)(G78:Al S_g78)(G119:Al S_g119)(L120l0:Al S_g120l0)(a:Bool)(b:List Int)(c:Int)(d:Bool→(List Int)→Option α):Option α:=G80 c (fun e h=>L120l0 c a b false [0,0,0,0,0,0] (fun i j=>d i j) (0:Int) false [0,0,0,0,0,0] e h)
def g120{α:Type}(m:Nat):S_g120 α:=
 g120b (g80 m) (g81 m) (g118 m) (g79 m) (g78 m) (g119 m) (g120l0M m)
def g120tp:List TP:=[vW,tI]
def g120bp:List BP:=[]
def g120K{α:Type}(G:S_g120 α)(ls:List Lf)(k:KRe α):Option α:=
 G (lf ls 0).bool ((lf ls 1).lst uU) (lf ls 2).int
  (fun a b=>k (.vl (.agg [(.one (.bool a)),(.seq uU 6 b)])) [] [])
def g120R{α:Type}(G:S_g120 α):=rowK g120tp g120bp (g120K G)
def g120hd(G80:Al S_g80)(G81:Al S_g81)(G118:Al S_g118)(G79:Al S_g79)(G78:Al S_g78)(G119:Al S_g119)(L120l0:Al S_g120l0):Hd where
 call:=fun f args Bs k=>cond (Nat.beq f 80) (g80R G80 args Bs k) (cond (Nat.beq f 81) (g81R G81 args Bs k) (cond (Nat.beq f 118) (g118R G118 args Bs k) (cond (Nat.beq f 79) (g79R G79 args Bs k) (cond (Nat.beq f 78) (g78R G78 args Bs k) (cond (Nat.beq f 119) (g119R G119 args Bs k) (none))))))
 loop:=fun id st k=>cond (Nat.beq id 0) (loopH g120l0D (g120l0K L120l0) st k) (none)
 ro:=fun f=>cond (Nat.beq f 81) [0,1] ([])
def g120h(m:Nat):Hd:=g120hd (g80 m) (g81 m) (g118 m) (g79 m) (g78 m) (g119 m) (g120l0M m)
theorem g120l0Step(G80:Al S_g80)(G81:Al S_g81)(G118:Al S_g118)(G79:Al S_g79)(G78:Al S_g78)(G119:Al S_g119)(L120l0:Al S_g120l0){α:Type}(L:S_g120l0 α)(ls:List Lf)(k:KEx α):
  g120l0K (fun a b c d e h i j l n o=>g120l0b G81 G118 G80 G79 G78 G119 a b c d e h (L a b c d e h) i j l n o) ls k=ev tab (g120hd G80 G81 G118 G79 G78 G119 L120l0) (bodyAt Tryz.f120 0) (atHead g120l0D ls) (loopK g120l0D 0 (loopH g120l0D (g120l0K L)) k):=by kernel_rfl
theorem g120Main(G80:Al S_g80)(G81:Al S_g81)(G118:Al S_g118)(G79:Al S_g79)(G78:Al S_g78)(G119:Al S_g119)(L120l0:Al S_g120l0){α:Type}(ls:List Lf)(k:KRe α):
  g120K (g120b G80 G81 G118 G79 G78 G119 L120l0) ls k=evFun tab (g120hd G80 G81 G118 G79 G78 G119 L120l0) Tryz.f120 (fT g120tp ls) (fB g120tp g120bp ls) k:=by kernel_rfl
theorem g120Calls(m:Nat):(g120h m).CallsOk Tryz.prog:=(cok_cons (g80Ok m) (cok_cons (g81Ok m) (cok_cons (g118Ok m) (cok_cons (g79Ok m) (cok_cons (g78Ok m) (cok_cons (g119Ok m) cok_nil))))))
theorem g120l0Ok(m:Nat)(α:Type)(st:St)(k:KEx α)(r:α)(h:(g120h m).loop 0 st k=some r):
  LoopS Tryz.prog 0 (bodyAt Tryz.f120 0) st k r:=
 lpk (F:=fun n ls k=>g120l0K (fun a b c d e i j l o q s=>g120l0 (g81 m) (g118 m) (g80 m) (g79 m) (g78 m) (g119 m) a b c d e i n j l o q s) ls k) (g120Calls m) (lb0 (by kernel_rfl))
  (fun _ _=>rfl) (fun n ls k=>g120l0Step (g80 m) (g81 m) (g118 m) (g79 m) (g78 m) (g119 m) (g120l0M m) (fun a b c d e i=>g120l0 (g81 m) (g118 m) (g80 m) (g79 m) (g78 m) (g119 m) a b c d e i n) ls k) (n:=m) h
theorem g120Ok(m:Nat):RowOk Tryz.prog 120 (fun{α}=>g120R (g120 m (α:=α))):=
 rwk (g120Calls m) (lo1 (by kernel_rfl) (g120l0Ok m))
  (fun _=>g120Main (g80 m) (g81 m) (g118 m) (g79 m) (g78 m) (g119 m) (g120l0M m))
abbrev S_g106(α:Type):Type:=Int→(List Int)→((List Int)→Option α)→Option α
abbrev S_g106l0(α:Type):Type:=Int→(List Int)→(List Int)→((List Int)→Option α)→Int→(List Int)→Option α
def g106l0b{α:Type}(a:Int)(b c:List Int)(d:(List Int)→Option α)(e:Int→(List Int)→Option α)(h:Int)(i:List Int):Option α:=cond (decide (h<(6:Int))) (if 0≤h∧h<(6:Nat) then if h.toNat<6 then let j:Int:=IntKind.wrap .u64 (List.getD b h.toNat 0);cond (decide ((IntKind.wrap .i64 (h+(1:Int)))<(6:Int))) (let l:Int:=IntKind.wrap .i64 (h+(1:Int));if 0≤l∧l<(6:Nat) then if l.toNat<6 then let n:Int:=IntKind.wrap .i64 (h-(IntKind.wrap .i64 (Int.tdiv a (32:Int))));let o:Int:=IntKind.wrap .u64 (Int.tmod a (32:Int));if o<0 then none else if 0≤n∧n<(6:Nat) then if n.toNat<6 then e (IntKind.wrap .i64 (h+(1:Int))) (List.set i (n.toNat) (IntKind.wrap .u32 (Int.fdiv (IntKind.wrap .u64 (j+(IntKind.wrap .u64 ((IntKind.wrap .u64 (List.getD b l.toNat 0))*2^32)))) (2^(min o.toNat 64))))) else none else none else none else none) (let p:Int:=IntKind.wrap .i64 (h-(IntKind.wrap .i64 (Int.tdiv a (32:Int))));let q:Int:=IntKind.wrap .u64 (Int.tmod a (32:Int));if q<0 then none else if 0≤p∧p<(6:Nat) then if p.toNat<6 then e (IntKind.wrap .i64 (h+(1:Int))) (List.set i (p.toNat) (IntKind.wrap .u32 (Int.fdiv j (2^(min q.toNat 64))))) else none else none) else none else none) (d i)
def g106l0{α:Type}(a:Int)(b c:List Int)(d:(List Int)→Option α):Nat→Int→(List Int)→Option α
 |0=>fun _ _=>none
 |m+1=>fun e h=>g106l0b a b c d (g106l0 a b c d m) e h
def g106l0M{α:Type}(m:Nat):S_g106l0 α:=
 fun a b c d e h=>g106l0 a b c d m e h
def g106l0D:LoopD:={n:=46,low:=[0],sl:=[0,1,4,5,6],bl:=[0,1000001,1000002],tp:=[(.vl (.sv (.ptr 0 0))),tI,(.vl (.sv (.ptr 1000001 0))),(.vl (.sv (.ptr 1000002 0))),tI],bp:=[(false,[(.seq uU 6)]),b6,b6],xs:=[(2,[4,5])]}
def g106l0K{α:Type}(L:S_g106l0 α)(ls:List Lf)(k:KEx α):Option α:=
 L (lf ls 0).int ((lf ls 2).lst uU) ((lf ls 3).lst uU)
  (fun a=>k .normal (mkSt 46 [4,5] [(.vl (.sv (.ptr 1000001 0))),(.vl (.sv (.ptr 1000002 0)))] [0,1000001,1000002] [(false,[(.seq uU 6 ((lf ls 2).lst uU))]),(true,[(.seq uU 6 ((lf ls 3).lst uU))]),(true,[(.seq uU 6 a)])]))
  (lf ls 1).int ((lf ls 4).lst uU)
def g106b{α:Type}(L106l0:Al S_g106l0)(a:Int)(b:List Int)(c:(List Int)→Option α):Option α:=L106l0 a b [0,0,0,0,0,0] (fun d=>c d) (IntKind.wrap .i64 (Int.tdiv a (32:Int))) [0,0,0,0,0,0]
def g106{α:Type}(m:Nat):S_g106 α:=
 g106b (g106l0M m)
def g106tp:List TP:=[(.vl (.sv (.ptr 0 0))),tI]
def g106bp:List BP:=[(false,[(.seq uU 6)])]
def g106K{α:Type}(G:S_g106 α)(ls:List Lf)(k:KRe α):Option α:=
 G (lf ls 0).int ((lf ls 1).lst uU)
  (fun a=>k (.vl (.agg [(.seq uU 6 a)])) [[(.seq uU 6 ((lf ls 1).lst uU))]] [])
def g106R{α:Type}(G:S_g106 α):=rowK g106tp g106bp (g106K G)
def g106hd(L106l0:Al S_g106l0):Hd where
 call:=fun f args Bs k=>none
 loop:=fun id st k=>cond (Nat.beq id 0) (loopH g106l0D (g106l0K L106l0) st k) (none)
 ro:=fun f=>[]
def g106h(m:Nat):Hd:=g106hd (g106l0M m)
theorem g106l0Step(L106l0:Al S_g106l0){α:Type}(L:S_g106l0 α)(ls:List Lf)(k:KEx α):
  g106l0K (fun a b c d e h=>g106l0b a b c d (L a b c d) e h) ls k=ev tab (g106hd L106l0) (bodyAt Tryz.f106 0) (atHead g106l0D ls) (loopK g106l0D 0 (loopH g106l0D (g106l0K L)) k):=by kernel_rfl
theorem g106Main(L106l0:Al S_g106l0){α:Type}(ls:List Lf)(k:KRe α):
  g106K (g106b L106l0) ls k=evFun tab (g106hd L106l0) Tryz.f106 (fT g106tp ls) (fB g106tp g106bp ls) k:=by kernel_rfl
theorem g106Calls(m:Nat):(g106h m).CallsOk Tryz.prog:=cok_nil
theorem g106l0Ok(m:Nat)(α:Type)(st:St)(k:KEx α)(r:α)(h:(g106h m).loop 0 st k=some r):
  LoopS Tryz.prog 0 (bodyAt Tryz.f106 0) st k r:=
 lpk (F:=fun n ls k=>g106l0K (fun a b c d e i=>g106l0 a b c d n e i) ls k) (g106Calls m) (lb0 (by kernel_rfl))
  (fun _ _=>rfl) (fun n ls k=>g106l0Step (g106l0M m) (fun a b c d=>g106l0 a b c d n) ls k) (n:=m) h
theorem g106Ok(m:Nat):RowOk Tryz.prog 106 (fun{α}=>g106R (g106 m (α:=α))):=
 rwk (g106Calls m) (lo1 (by kernel_rfl) (g106l0Ok m))
  (fun _=>g106Main (g106l0M m))
abbrev S_g76(α:Type):Type:=Bool→(List Int)→Int→(Bool→(List Int)→Option α)→Option α
def g76b{α:Type}(G106:Al S_g106)(G107:Al S_g107)(G108:Al S_g108)(G110:Al S_g110)(G109:Al S_g109)(a:Bool)(b:List Int)(c:Int)(d:Bool→(List Int)→Option α):Option α:=cond (c==(0:Int)) (d a b) (G106 c b (fun e=>G106 (IntKind.wrap .i64 (c-(1:Int))) b (fun h=>G107 c e (fun i j=>G108 b i (fun l=>G107 (IntKind.wrap .i64 (c-(1:Int))) [(1:Int),0,0,0,0,0] (fun n o=>let p:Bool:=(Int.tmod (List.getD h 0 0) (2:Int))==(1:Int);cond a (cond (eqLI l n) (G110 a e (fun q=>d q e)) (cond p (G109 e [(1:Int),0,0,0,0,0] (fun r s=>G110 a r (fun t=>d t r))) (G110 a e (fun u=>d u e)))) (cond p (G109 e [(1:Int),0,0,0,0,0] (fun v w=>G110 a v (fun x=>d x v))) (G110 a e (fun y=>d y e)))))))))
def g76{α:Type}(m:Nat):S_g76 α:=
 g76b (g106 m) (g107 m) (g108 m) (g110 m) (g109 m)
def g76tp:List TP:=[vW,tI]
def g76bp:List BP:=[]
def g76K{α:Type}(G:S_g76 α)(ls:List Lf)(k:KRe α):Option α:=
 G (lf ls 0).bool ((lf ls 1).lst uU) (lf ls 2).int
  (fun a b=>k (.vl (.agg [(.one (.bool a)),(.seq uU 6 b)])) [] [])
def g76R{α:Type}(G:S_g76 α):=rowK g76tp g76bp (g76K G)
def g76hd(G106:Al S_g106)(G107:Al S_g107)(G108:Al S_g108)(G110:Al S_g110)(G109:Al S_g109):Hd where
 call:=fun f args Bs k=>cond (Nat.beq f 106) (g106R G106 args Bs k) (cond (Nat.beq f 107) (g107R G107 args Bs k) (cond (Nat.beq f 108) (g108R G108 args Bs k) (cond (Nat.beq f 110) (g110R G110 args Bs k) (cond (Nat.beq f 109) (g109R G109 args Bs k) (none)))))
 loop:=fun id st k=>none
 ro:=fun f=>cond (Nat.beq f 106) [0] (cond (Nat.beq f 107) [0] (cond (Nat.beq f 108) [0,1] (cond (Nat.beq f 109) [0,1] ([]))))
def g76h(m:Nat):Hd:=g76hd (g106 m) (g107 m) (g108 m) (g110 m) (g109 m)
theorem g76Main(G106:Al S_g106)(G107:Al S_g107)(G108:Al S_g108)(G110:Al S_g110)(G109:Al S_g109){α:Type}(ls:List Lf)(k:KRe α):
  g76K (g76b G106 G107 G108 G110 G109) ls k=evFun tab (g76hd G106 G107 G108 G110 G109) Tryz.f76 (fT g76tp ls) (fB g76tp g76bp ls) k:=by kernel_rfl
theorem g76Calls(m:Nat):(g76h m).CallsOk Tryz.prog:=(cok_cons (g106Ok m) (cok_cons (g107Ok m) (cok_cons (g108Ok m) (cok_cons (g110Ok m) (cok_cons (g109Ok m) cok_nil)))))
theorem g76Ok(m:Nat):RowOk Tryz.prog 76 (fun{α}=>g76R (g76 m (α:=α))):=
 rwk (g76Calls m) (lo0 (by kernel_rfl))
  (fun _=>g76Main (g106 m) (g107 m) (g108 m) (g110 m) (g109 m))
abbrev S_g99(α:Type):Type:=Int→(Bool→(List Int)→Option α)→Option α
def g99b{α:Type}(G80:Al S_g80)(G77:Al S_g77)(G120:Al S_g120)(G119:Al S_g119)(G78:Al S_g78)(G76:Al S_g76)(a:Int)(b:Bool→(List Int)→Option α):Option α:=G80 (1:Int) (fun c d=>G77 c d (IntKind.wrap .i64 (a+(16:Int))) (fun e h i=>G80 (16:Int) (fun j l=>G120 e h (5:Int) (fun n o=>G119 j l n o (fun p q r=>G80 (-4:Int) (fun s t=>G120 e h (239:Int) (fun u v=>G119 s t u v (fun w x y=>G78 p q w x (fun z a0 b0=>G76 z a0 (16:Int) (fun c0 d0=>b c0 d0))))))))))
def g99{α:Type}(m:Nat):S_g99 α:=
 g99b (g80 m) (g77 m) (g120 m) (g119 m) (g78 m) (g76 m)
def g99tp:List TP:=[tI]
def g99bp:List BP:=[]
def g99K{α:Type}(G:S_g99 α)(ls:List Lf)(k:KRe α):Option α:=
 G (lf ls 0).int
  (fun a b=>k (.tup [(.agg [(.one (.bool a)),(.seq uU 6 b)]),(.sv (.int .i64 (0:Int)))]) [] [])
def g99R{α:Type}(G:S_g99 α):=rowK g99tp g99bp (g99K G)
def g99hd(G80:Al S_g80)(G77:Al S_g77)(G120:Al S_g120)(G119:Al S_g119)(G78:Al S_g78)(G76:Al S_g76):Hd where
 call:=fun f args Bs k=>cond (Nat.beq f 80) (g80R G80 args Bs k) (cond (Nat.beq f 77) (g77R G77 args Bs k) (cond (Nat.beq f 120) (g120R G120 args Bs k) (cond (Nat.beq f 119) (g119R G119 args Bs k) (cond (Nat.beq f 78) (g78R G78 args Bs k) (cond (Nat.beq f 76) (g76R G76 args Bs k) (none))))))
 loop:=fun id st k=>none
 ro:=fun f=>[]
def g99h(m:Nat):Hd:=g99hd (g80 m) (g77 m) (g120 m) (g119 m) (g78 m) (g76 m)
theorem g99Main(G80:Al S_g80)(G77:Al S_g77)(G120:Al S_g120)(G119:Al S_g119)(G78:Al S_g78)(G76:Al S_g76){α:Type}(ls:List Lf)(k:KRe α):
  g99K (g99b G80 G77 G120 G119 G78 G76) ls k=evFun tab (g99hd G80 G77 G120 G119 G78 G76) Tryz.f99 (fT g99tp ls) (fB g99tp g99bp ls) k:=by kernel_rfl
theorem g99Calls(m:Nat):(g99h m).CallsOk Tryz.prog:=(cok_cons (g80Ok m) (cok_cons (g77Ok m) (cok_cons (g120Ok m) (cok_cons (g119Ok m) (cok_cons (g78Ok m) (cok_cons (g76Ok m) cok_nil))))))
theorem g99Ok(m:Nat):RowOk Tryz.prog 99 (fun{α}=>g99R (g99 m (α:=α))):=
 rwk (g99Calls m) (lo0 (by kernel_rfl))
  (fun _=>g99Main (g80 m) (g77 m) (g120 m) (g119 m) (g78 m) (g76 m))
abbrev S_g121(α:Type):Type:=Bool→(List Int)→(Int→Option α)→Option α
def g121b{α:Type}(a:Bool)(b:List Int)(c:Int→Option α):Option α:=cond a (c (-1:Int)) (cond (eqLI b [0,0,0,0,0,0]) (c (0:Int)) (c (1:Int)))
def g121{α:Type}(m:Nat):S_g121 α:=
 g121b
def g121tp:List TP:=[(.vl (.sv (.ptr 0 0)))]
def g121bp:List BP:=[(false,[(.one .bool),(.seq uU 6)])]
def g121K{α:Type}(G:S_g121 α)(ls:List Lf)(k:KRe α):Option α:=
 G (lf ls 0).bool ((lf ls 1).lst uU)
  (fun a=>k (.vl (.sv (.int .i64 a))) [[(.one (.bool (lf ls 0).bool)),(.seq uU 6 ((lf ls 1).lst uU))]] [])
def g121R{α:Type}(G:S_g121 α):=rowK g121tp g121bp (g121K G)
def g121hd:Hd where
 call:=fun f args Bs k=>none
 loop:=fun id st k=>none
 ro:=fun f=>[]
def g121h(m:Nat):Hd:=g121hd
theorem g121Main{α:Type}(ls:List Lf)(k:KRe α):
  g121K (g121b) ls k=evFun tab (g121hd) Tryz.f121 (fT g121tp ls) (fB g121tp g121bp ls) k:=by kernel_rfl
theorem g121Calls(m:Nat):(g121h m).CallsOk Tryz.prog:=cok_nil
theorem g121Ok(m:Nat):RowOk Tryz.prog 121 (fun{α}=>g121R (g121 m (α:=α))):=
 rwk (g121Calls m) (lo0 (by kernel_rfl))
  (fun _=>g121Main)
abbrev S_g100(α:Type):Type:=Int→(Bool→(List Int)→Option α)→Option α
abbrev S_g100l0(α:Type):Type:=Bool→(List Int)→(Bool→(List Int)→Option α)→Int→Bool→(List Int)→Bool→(List Int)→Option α
def g100l0b{α:Type}(G121:Al S_g121)(G80:Al S_g80)(G118:Al S_g118)(G78:Al S_g78)(a:Bool)(b:List Int)(c:Bool→(List Int)→Option α)(d:Int→Bool→(List Int)→Bool→(List Int)→Option α)(e:Int)(h:Bool)(i:List Int)(j:Bool)(l:List Int):Option α:=G121 h i (fun n=>cond (n !=(0:Int)) (G80 e (fun o p=>G118 h i o p (fun q r s t=>G78 j l q r (fun u v w=>d (IntKind.wrap .i64 (e+(1:Int))) q r u v)))) (c j l))
def g100l0{α:Type}(G121:Al S_g121)(G80:Al S_g80)(G118:Al S_g118)(G78:Al S_g78)(a:Bool)(b:List Int)(c:Bool→(List Int)→Option α):Nat→Int→Bool→(List Int)→Bool→(List Int)→Option α
 |0=>fun _ _ _ _ _=>none
 |m+1=>fun d e h i j=>g100l0b G121 G80 G118 G78 a b c (g100l0 G121 G80 G118 G78 a b c m) d e h i j
def g100l0M{α:Type}(m:Nat):S_g100l0 α:=
 fun a b c d e h i j=>g100l0 (g121 m) (g80 m) (g118 m) (g78 m) a b c m d e h i j
def g100l0D:LoopD:={n:=35,low:=[],sl:=[2,4,6,7],bl:=[1000000,1000001,1000002],tp:=[(.vl (.sv (.ptr 1000000 0))),(.vl (.sv (.ptr 1000001 0))),(.vl (.sv (.ptr 1000002 0))),tI],bp:=[(true,[(.one .bool),(.seq uU 6)]),(true,[(.one .bool),(.seq uU 6)]),(true,[(.one .bool),(.seq uU 6)])],xs:=[(2,[2,6])]}
def g100l0K{α:Type}(L:S_g100l0 α)(ls:List Lf)(k:KEx α):Option α:=
 L (lf ls 1).bool ((lf ls 2).lst uU)
  (fun a b=>k .normal (mkSt 35 [2,6] [(.vl (.sv (.ptr 1000000 0))),(.vl (.sv (.ptr 1000001 0)))] [1000000,1000001] [(true,[(.one (.bool (lf ls 1).bool)),(.seq uU 6 ((lf ls 2).lst uU))]),(true,[(.one (.bool a)),(.seq uU 6 b)])]))
  (lf ls 0).int (lf ls 3).bool ((lf ls 4).lst uU) (lf ls 5).bool ((lf ls 6).lst uU)
def g100b{α:Type}(G80:Al S_g80)(G77:Al S_g77)(G121:Al S_g121)(G118:Al S_g118)(G78:Al S_g78)(G76:Al S_g76)(L100l0:Al S_g100l0)(a:Int)(b:Bool→(List Int)→Option α):Option α:=G80 (1:Int) (fun c d=>G77 c d (IntKind.wrap .i64 (a+(16:Int))) (fun e h i=>L100l0 false [0,0,0,0,0,0] (fun j l=>G76 j l (16:Int) (fun n o=>b n o)) (1:Int) e h e h))
def g100{α:Type}(m:Nat):S_g100 α:=
 g100b (g80 m) (g77 m) (g121 m) (g118 m) (g78 m) (g76 m) (g100l0M m)
def g100tp:List TP:=[tI]
def g100bp:List BP:=[]
def g100K{α:Type}(G:S_g100 α)(ls:List Lf)(k:KRe α):Option α:=
 G (lf ls 0).int
  (fun a b=>k (.tup [(.agg [(.one (.bool a)),(.seq uU 6 b)]),(.sv (.int .i64 (0:Int)))]) [] [])
def g100R{α:Type}(G:S_g100 α):=rowK g100tp g100bp (g100K G)
def g100hd(G80:Al S_g80)(G77:Al S_g77)(G121:Al S_g121)(G118:Al S_g118)(G78:Al S_g78)(G76:Al S_g76)(L100l0:Al S_g100l0):Hd where
 call:=fun f args Bs k=>cond (Nat.beq f 80) (g80R G80 args Bs k) (cond (Nat.beq f 77) (g77R G77 args Bs k) (cond (Nat.beq f 121) (g121R G121 args Bs k) (cond (Nat.beq f 118) (g118R G118 args Bs k) (cond (Nat.beq f 78) (g78R G78 args Bs k) (cond (Nat.beq f 76) (g76R G76 args Bs k) (none))))))
 loop:=fun id st k=>cond (Nat.beq id 0) (loopH g100l0D (g100l0K L100l0) st k) (none)
 ro:=fun f=>cond (Nat.beq f 121) [0] ([])
def g100h(m:Nat):Hd:=g100hd (g80 m) (g77 m) (g121 m) (g118 m) (g78 m) (g76 m) (g100l0M m)
theorem g100l0Step(G80:Al S_g80)(G77:Al S_g77)(G121:Al S_g121)(G118:Al S_g118)(G78:Al S_g78)(G76:Al S_g76)(L100l0:Al S_g100l0){α:Type}(L:S_g100l0 α)(ls:List Lf)(k:KEx α):
  g100l0K (fun a b c d e h i j=>g100l0b G121 G80 G118 G78 a b c (L a b c) d e h i j) ls k=ev tab (g100hd G80 G77 G121 G118 G78 G76 L100l0) (bodyAt Tryz.f100 0) (atHead g100l0D ls) (loopK g100l0D 0 (loopH g100l0D (g100l0K L)) k):=by kernel_rfl
theorem g100Main(G80:Al S_g80)(G77:Al S_g77)(G121:Al S_g121)(G118:Al S_g118)(G78:Al S_g78)(G76:Al S_g76)(L100l0:Al S_g100l0){α:Type}(ls:List Lf)(k:KRe α):
  g100K (g100b G80 G77 G121 G118 G78 G76 L100l0) ls k=evFun tab (g100hd G80 G77 G121 G118 G78 G76 L100l0) Tryz.f100 (fT g100tp ls) (fB g100tp g100bp ls) k:=by kernel_rfl
theorem g100Calls(m:Nat):(g100h m).CallsOk Tryz.prog:=(cok_cons (g80Ok m) (cok_cons (g77Ok m) (cok_cons (g121Ok m) (cok_cons (g118Ok m) (cok_cons (g78Ok m) (cok_cons (g76Ok m) cok_nil))))))
theorem g100l0Ok(m:Nat)(α:Type)(st:St)(k:KEx α)(r:α)(h:(g100h m).loop 0 st k=some r):
  LoopS Tryz.prog 0 (bodyAt Tryz.f100 0) st k r:=
 lpk (F:=fun n ls k=>g100l0K (fun a b c d e i j l=>g100l0 (g121 m) (g80 m) (g118 m) (g78 m) a b c n d e i j l) ls k) (g100Calls m) (lb0 (by kernel_rfl))
  (fun _ _=>rfl) (fun n ls k=>g100l0Step (g80 m) (g77 m) (g121 m) (g118 m) (g78 m) (g76 m) (g100l0M m) (fun a b c=>g100l0 (g121 m) (g80 m) (g118 m) (g78 m) a b c n) ls k) (n:=m) h
theorem g100Ok(m:Nat):RowOk Tryz.prog 100 (fun{α}=>g100R (g100 m (α:=α))):=
 rwk (g100Calls m) (lo1 (by kernel_rfl) (g100l0Ok m))
  (fun _=>g100Main (g80 m) (g77 m) (g121 m) (g118 m) (g78 m) (g76 m) (g100l0M m))
abbrev S_g101(α:Type):Type:=Bool→(List Int)→(Bool→(List Int)→Option α)→Option α
abbrev S_g101l0(α:Type):Type:=Bool→(List Int)→Bool→(List Int)→(Bool→(List Int)→Option α)→Int→Bool→(List Int)→Option α
def g101l0b{α:Type}(G80:Al S_g80)(G77:Al S_g77)(G78:Al S_g78)(G119:Al S_g119)(G81:Al S_g81)(a:Bool)(b:List Int)(c:Bool)(d:List Int)(e:Bool→(List Int)→Option α)(h:Int→Bool→(List Int)→Option α)(i:Int)(j:Bool)(l:List Int):Option α:=cond (decide (i≥(0:Int))) (G80 (1:Int) (fun n o=>G77 n o i (fun p q r=>G78 j l p q (fun s t u=>cond (r !=(0:Int)) (h (IntKind.wrap .i64 (i-(1:Int))) j l) (cond (u !=(0:Int)) (h (IntKind.wrap .i64 (i-(1:Int))) j l) (G119 s t s t (fun v w x=>cond (x==(0:Int)) (G81 v w a b (fun y=>cond (decide (y≤(0:Int))) (h (IntKind.wrap .i64 (i-(1:Int))) s t) (h (IntKind.wrap .i64 (i-(1:Int))) j l))) (h (IntKind.wrap .i64 (i-(1:Int))) j l)))))))) (e j l)
def g101l0{α:Type}(G80:Al S_g80)(G77:Al S_g77)(G78:Al S_g78)(G119:Al S_g119)(G81:Al S_g81)(a:Bool)(b:List Int)(c:Bool)(d:List Int)(e:Bool→(List Int)→Option α):Nat→Int→Bool→(List Int)→Option α
 |0=>fun _ _ _=>none
 |m+1=>fun h i j=>g101l0b G80 G77 G78 G119 G81 a b c d e (g101l0 G80 G77 G78 G119 G81 a b c d e m) h i j
def g101l0M{α:Type}(m:Nat):S_g101l0 α:=
 fun a b c d e h i j=>g101l0 (g80 m) (g77 m) (g78 m) (g119 m) (g81 m) a b c d e m h i j
def g101l0D:LoopD:={n:=54,low:=[],sl:=[1,2,4,5],bl:=[1000000,1000001,1000002],tp:=[(.vl (.sv (.ptr 1000000 0))),(.vl (.sv (.ptr 1000001 0))),(.vl (.sv (.ptr 1000002 0))),tI],bp:=[(true,[(.one .bool),(.seq uU 6)]),(true,[(.one .bool),(.seq uU 6)]),(true,[(.one .bool),(.seq uU 6)])],xs:=[(2,[2,4])]}
def g101l0K{α:Type}(L:S_g101l0 α)(ls:List Lf)(k:KEx α):Option α:=
 L (lf ls 1).bool ((lf ls 2).lst uU) (lf ls 3).bool ((lf ls 4).lst uU)
  (fun a b=>k .normal (mkSt 54 [2,4] [(.vl (.sv (.ptr 1000000 0))),(.vl (.sv (.ptr 1000001 0)))] [1000000,1000001] [(true,[(.one (.bool (lf ls 3).bool)),(.seq uU 6 ((lf ls 4).lst uU))]),(true,[(.one (.bool a)),(.seq uU 6 b)])]))
  (lf ls 0).int (lf ls 5).bool ((lf ls 6).lst uU)
def g101b{α:Type}(G122:Al S_g122)(G80:Al S_g80)(G77:Al S_g77)(G78:Al S_g78)(G119:Al S_g119)(G81:Al S_g81)(L101l0:Al S_g101l0)(a:Bool)(b:List Int)(c:Bool→(List Int)→Option α):Option α:=G122 b (fun d=>L101l0 a b false [0,0,0,0,0,0] (fun e h=>c e h) (IntKind.wrap .i64 (Int.tdiv (IntKind.wrap .i64 (d+(1:Int))) (2:Int))) false [0,0,0,0,0,0])
def g101{α:Type}(m:Nat):S_g101 α:=
 g101b (g122 m) (g80 m) (g77 m) (g78 m) (g119 m) (g81 m) (g101l0M m)
def g101tp:List TP:=[vW]
def g101bp:List BP:=[]
def g101K{α:Type}(G:S_g101 α)(ls:List Lf)(k:KRe α):Option α:=
 G (lf ls 0).bool ((lf ls 1).lst uU)
  (fun a b=>k (.vl (.agg [(.one (.bool a)),(.seq uU 6 b)])) [] [])
def g101R{α:Type}(G:S_g101 α):=rowK g101tp g101bp (g101K G)
def g101hd(G122:Al S_g122)(G80:Al S_g80)(G77:Al S_g77)(G78:Al S_g78)(G119:Al S_g119)(G81:Al S_g81)(L101l0:Al S_g101l0):Hd where
 call:=fun f args Bs k=>cond (Nat.beq f 122) (g122R G122 args Bs k) (cond (Nat.beq f 80) (g80R G80 args Bs k) (cond (Nat.beq f 77) (g77R G77 args Bs k) (cond (Nat.beq f 78) (g78R G78 args Bs k) (cond (Nat.beq f 119) (g119R G119 args Bs k) (cond (Nat.beq f 81) (g81R G81 args Bs k) (none))))))
 loop:=fun id st k=>cond (Nat.beq id 0) (loopH g101l0D (g101l0K L101l0) st k) (none)
 ro:=fun f=>cond (Nat.beq f 81) [0,1] (cond (Nat.beq f 122) [0] ([]))
def g101h(m:Nat):Hd:=g101hd (g122 m) (g80 m) (g77 m) (g78 m) (g119 m) (g81 m) (g101l0M m)
theorem g101l0Step(G122:Al S_g122)(G80:Al S_g80)(G77:Al S_g77)(G78:Al S_g78)(G119:Al S_g119)(G81:Al S_g81)(L101l0:Al S_g101l0){α:Type}(L:S_g101l0 α)(ls:List Lf)(k:KEx α):
  g101l0K (fun a b c d e h i j=>g101l0b G80 G77 G78 G119 G81 a b c d e (L a b c d e) h i j) ls k=ev tab (g101hd G122 G80 G77 G78 G119 G81 L101l0) (bodyAt Tryz.f101 0) (atHead g101l0D ls) (loopK g101l0D 0 (loopH g101l0D (g101l0K L)) k):=by kernel_rfl
theorem g101Main(G122:Al S_g122)(G80:Al S_g80)(G77:Al S_g77)(G78:Al S_g78)(G119:Al S_g119)(G81:Al S_g81)(L101l0:Al S_g101l0){α:Type}(ls:List Lf)(k:KRe α):
  g101K (g101b G122 G80 G77 G78 G119 G81 L101l0) ls k=evFun tab (g101hd G122 G80 G77 G78 G119 G81 L101l0) Tryz.f101 (fT g101tp ls) (fB g101tp g101bp ls) k:=by kernel_rfl
theorem g101Calls(m:Nat):(g101h m).CallsOk Tryz.prog:=(cok_cons (g122Ok m) (cok_cons (g80Ok m) (cok_cons (g77Ok m) (cok_cons (g78Ok m) (cok_cons (g119Ok m) (cok_cons (g81Ok m) cok_nil))))))
theorem g101l0Ok(m:Nat)(α:Type)(st:St)(k:KEx α)(r:α)(h:(g101h m).loop 0 st k=some r):
  LoopS Tryz.prog 0 (bodyAt Tryz.f101 0) st k r:=
 lpk (F:=fun n ls k=>g101l0K (fun a b c d e i j l=>g101l0 (g80 m) (g77 m) (g78 m) (g119 m) (g81 m) a b c d e n i j l) ls k) (g101Calls m) (lb0 (by kernel_rfl))
  (fun _ _=>rfl) (fun n ls k=>g101l0Step (g122 m) (g80 m) (g77 m) (g78 m) (g119 m) (g81 m) (g101l0M m) (fun a b c d e=>g101l0 (g80 m) (g77 m) (g78 m) (g119 m) (g81 m) a b c d e n) ls k) (n:=m) h
theorem g101Ok(m:Nat):RowOk Tryz.prog 101 (fun{α}=>g101R (g101 m (α:=α))):=
 rwk (g101Calls m) (lo1 (by kernel_rfl) (g101l0Ok m))
  (fun _=>g101Main (g122 m) (g80 m) (g77 m) (g78 m) (g119 m) (g81 m) (g101l0M m))
abbrev S_g36(α:Type):Type:=Int→Int→Nat→Nat→Nat→Ty0→Ty3→Ty0→(Bool→(List Int)→Int→Nat→Nat→Nat→Ty0→Ty3→Ty0→Option α)→Option α
def g36tp:List TP:=[(.vl (.sv (.ptr 0 0))),tI,tI]
def g36bp:List BP:=[(true,[(.one (.gsl 1 5)),(.one (.slc 2 0 1)),(.one (.gsl 3 2))]),(false,[(.gro rN)]),(true,[(.rws mK)]),(true,[(.gro rP)])]
def g36K{α:Type}(G:S_g36 α)(ls:List Lf)(k:KRe α):Option α:=
 G (lf ls 0).int (lf ls 1).int (lf ls 2).nat (lf ls 3).nat (lf ls 4).nat ((lf ls 5).lst rN) ((lf ls 6).rows mK) ((lf ls 7).lst rP)
  (fun c d e h j l n o p=>k (.tup [(.agg [(.one (.bool c)),(.seq uU 6 d)]),(.sv (.int .i64 e))]) [[(.one (.gsl 1 5)),(.one (.slc 2 0 1 h j l)),(.one (.gsl 4 2))],[(.gro rN n)],[(.rws mK o none)],[]] [[(.gro rP p)]])
abbrev HA36(A36:Al S_g36):Prop:=RowOk Tryz.prog 36 (fun{α}=>rowK g36tp g36bp (g36K (A36 (α:=α))))
def g36R{α:Type}(G:S_g36 α):=rowK g36tp g36bp (g36K G)
abbrev S_g123(α:Type):Type:=Int→Nat→Nat→Nat→Ty0→Ty3→Ty0→(Int→Int→Nat→Nat→Nat→Ty3→Ty0→Option α)→Option α
def g123b{α:Type}(G36:Al S_g36)(G80:Al S_g80)(G78:Al S_g78)(G122:Al S_g122)(G77:Al S_g77)(G81:Al S_g81)(a:Int)(b c d:Nat)(e:Ty0)(h:Ty3)(i:Ty0)(j:Int→Int→Nat→Nat→Nat→Ty3→Ty0→Option α):Option α:=G36 a (0:Int) b c d e h i (fun l n o p q r s t u=>cond (o !=(0:Int)) (j (0:Int) o p q r t u) (G80 (1:Int) (fun v w=>G78 false n v w (fun x y z=>cond (z !=(0:Int)) (j (0:Int) z p q r t u) (G122 y (fun a0=>G80 (1:Int) (fun b0 c0=>G77 b0 c0 (IntKind.wrap .i64 (a0-(1:Int))) (fun d0 e0 h0=>cond (h0==(0:Int)) (G81 d0 e0 x y (fun i0=>cond (i0==(0:Int)) (j (IntKind.wrap .i64 (a0-(1:Int))) (0:Int) p q r t u) (j a0 (0:Int) p q r t u))) (j a0 (0:Int) p q r t u)))))))))
def g123(A36:Al S_g36){α:Type}(m:Nat):S_g123 α:=
 g123b A36 (g80 m) (g78 m) (g122 m) (g77 m) (g81 m)
def g123tp:List TP:=[(.vl (.sv (.ptr 0 0))),tI]
def g123bp:List BP:=[(true,[(.one (.gsl 1 5)),(.one (.slc 2 0 1)),(.one (.gsl 3 2))]),(false,[(.gro rN)]),(true,[(.rws mK)]),(true,[(.gro rP)])]
def g123K{α:Type}(G:S_g123 α)(ls:List Lf)(k:KRe α):Option α:=
 G (lf ls 0).int (lf ls 1).nat (lf ls 2).nat (lf ls 3).nat ((lf ls 4).lst rN) ((lf ls 5).rows mK) ((lf ls 6).lst rP)
  (fun c d e h j l n=>k (.tup [(.sv (.int .i64 c)),(.sv (.int .i64 d))]) [[(.one (.gsl 1 5)),(.one (.slc 2 0 1 e h j)),(.one (.gsl 4 2))],[(.gro rN ((lf ls 4).lst rN))],[(.rws mK l none)],[]] [[(.gro rP n)]])
def g123R{α:Type}(G:S_g123 α):=rowK g123tp g123bp (g123K G)
def g123hd(G36:Al S_g36)(G80:Al S_g80)(G78:Al S_g78)(G122:Al S_g122)(G77:Al S_g77)(G81:Al S_g81):Hd where
 call:=fun f args Bs k=>cond (Nat.beq f 36) (g36R G36 args Bs k) (cond (Nat.beq f 80) (g80R G80 args Bs k) (cond (Nat.beq f 78) (g78R G78 args Bs k) (cond (Nat.beq f 122) (g122R G122 args Bs k) (cond (Nat.beq f 77) (g77R G77 args Bs k) (cond (Nat.beq f 81) (g81R G81 args Bs k) (none))))))
 loop:=fun id st k=>none
 ro:=fun f=>cond (Nat.beq f 36) [1] (cond (Nat.beq f 81) [0,1] (cond (Nat.beq f 122) [0] ([])))
def g123h(A36:Al S_g36)(m:Nat):Hd:=g123hd A36 (g80 m) (g78 m) (g122 m) (g77 m) (g81 m)
theorem g123Main(G36:Al S_g36)(G80:Al S_g80)(G78:Al S_g78)(G122:Al S_g122)(G77:Al S_g77)(G81:Al S_g81){α:Type}(ls:List Lf)(k:KRe α):
  g123K (g123b G36 G80 G78 G122 G77 G81) ls k=evFunM tab (g123hd G36 G80 G78 G122 G77 G81) Tryz.f123 3 (fT g123tp ls) (fB g123tp g123bp ls) k:=by kernel_rfl
theorem g123Calls(A36:Al S_g36)(hA36:HA36 A36)(m:Nat):(g123h A36 m).CallsOk Tryz.prog:=(cok_cons hA36 (cok_cons (g80Ok m) (cok_cons (g78Ok m) (cok_cons (g122Ok m) (cok_cons (g77Ok m) (cok_cons (g81Ok m) cok_nil))))))
theorem g123Fn(A36:Al S_g36)(hA36:HA36 A36)(m:Nat):FnOk Tryz.prog 123 g123tp g123bp (fun{α}=>g123K (g123 A36 m (α:=α))):=
 fn_okM (tab:=tab) (h:=g123h A36 m) (fn:=Tryz.f123) (F:=fun{α}=>g123K (g123 A36 m (α:=α))) tabOk (g123Calls A36 hA36 m) mixed (by kernel_rfl) (by kernel_rfl) (fun c hc=>by
  rw[bodyOf_some hc]
  exact loopsOk_of _ (fun p hp=>by rw[show loopsOf (bodyOf Tryz.f123)=[] by kernel_rfl] at hp;cases hp))
  (fun _=>g123Main A36 (g80 m) (g78 m) (g122 m) (g77 m) (g81 m))
theorem g123Ok(A36:Al S_g36)(hA36:HA36 A36)(m:Nat):RowOk Tryz.prog 123 (fun{α}=>g123R (g123 A36 m (α:=α))):=row_of (g123Fn A36 hA36 m)
abbrev S_g124(α:Type):Type:=Bool→(List Int)→Int→(Bool→(List Int)→Int→Option α)→Option α
def g124b{α:Type}(G76:Al S_g76)(a:Bool)(b:List Int)(c:Int)(d:Bool→(List Int)→Int→Option α):Option α:=cond (decide (c>(191:Int))) (d false [0,0,0,0,0,0] (3:Int)) (G76 a b c (fun e h=>d e h (0:Int)))
def g124{α:Type}(m:Nat):S_g124 α:=
 g124b (g76 m)
def g124tp:List TP:=[vW,tI]
def g124bp:List BP:=[]
def g124K{α:Type}(G:S_g124 α)(ls:List Lf)(k:KRe α):Option α:=
 G (lf ls 0).bool ((lf ls 1).lst uU) (lf ls 2).int
  (fun a b c=>k (.tup [(.agg [(.one (.bool a)),(.seq uU 6 b)]),(.sv (.int .i64 c))]) [] [])
def g124R{α:Type}(G:S_g124 α):=rowK g124tp g124bp (g124K G)
def g124hd(G76:Al S_g76):Hd where
 call:=fun f args Bs k=>cond (Nat.beq f 76) (g76R G76 args Bs k) (none)
 loop:=fun id st k=>none
 ro:=fun f=>[]
def g124h(m:Nat):Hd:=g124hd (g76 m)
theorem g124Main(G76:Al S_g76){α:Type}(ls:List Lf)(k:KRe α):
  g124K (g124b G76) ls k=evFun tab (g124hd G76) Tryz.f124 (fT g124tp ls) (fB g124tp g124bp ls) k:=by kernel_rfl
theorem g124Calls(m:Nat):(g124h m).CallsOk Tryz.prog:=(cok_cons (g76Ok m) cok_nil)
theorem g124Ok(m:Nat):RowOk Tryz.prog 124 (fun{α}=>g124R (g124 m (α:=α))):=
 rwk (g124Calls m) (lo0 (by kernel_rfl))
  (fun _=>g124Main (g76 m))
abbrev S_g102(α:Type):Type:=Nat→Int→Nat→Nat→Nat→Ty0→Ty3→Ty0→(Bool→(List Int)→Int→Nat→Nat→Nat→Ty3→Ty0→Option α)→Option α
def g102b{α:Type}(G123:Al S_g123)(G36:Al S_g36)(G119:Al S_g119)(G124:Al S_g124)(a:Nat)(b:Int)(c d e:Nat)(h:Ty0)(i:Ty3)(j:Ty0)(l:Bool→(List Int)→Int→Nat→Nat→Nat→Ty3→Ty0→Option α):Option α:=if a<h.length then G123 (IntKind.wrap .i64 (((List.getD h a []).tail).headD 0)) c d e h i j (fun n o p q r s t=>cond (o !=(0:Int)) (l false [0,0,0,0,0,0] o p q r s t) (if a<h.length then G123 (IntKind.wrap .i64 (((List.getD h a []).tail.tail).headD 0)) p q r h s t (fun u v w x y z a0=>cond (v !=(0:Int)) (l false [0,0,0,0,0,0] v w x y z a0) (if a<h.length then G36 (IntKind.wrap .i64 (((List.getD h a []).tail).headD 0)) (IntKind.wrap .i64 ((IntKind.wrap .i64 (b+u))+(3:Int))) w x y h z a0 (fun b0 c0 d0 e0 h0 i0 j0 l0 n0=>cond (d0 !=(0:Int)) (l false [0,0,0,0,0,0] d0 e0 h0 i0 l0 n0) (if a<h.length then G36 (IntKind.wrap .i64 (((List.getD h a []).tail.tail).headD 0)) (IntKind.wrap .i64 ((IntKind.wrap .i64 (b+n))+(3:Int))) e0 h0 i0 h l0 n0 (fun o0 p0 q0 r0 s0 t0 u0 v0 w0=>cond (q0 !=(0:Int)) (l false [0,0,0,0,0,0] q0 r0 s0 t0 v0 w0) (G119 b0 c0 o0 p0 (fun x0 y0 z0=>cond (z0 !=(0:Int)) (l false [0,0,0,0,0,0] z0 r0 s0 t0 v0 w0) (G124 x0 y0 (IntKind.wrap .i64 ((IntKind.wrap .i64 ((IntKind.wrap .i64 (b+n))+u))+(6:Int))) (fun a1 b1 c1=>l a1 b1 c1 r0 s0 t0 v0 w0))))) else none)) else none)) else none)) else none
def g102(A36:Al S_g36){α:Type}(m:Nat):S_g102 α:=
 g102b (g123 A36 m) A36 (g119 m) (g124 m)
def g102tp:List TP:=[(.vl (.sv (.ptr 0 0))),(.vl (.sv (.el 1 0 5 0))),tI]
def g102bp:List BP:=[(true,[(.one (.gsl 1 5)),(.one (.slc 2 0 1)),(.one (.gsl 3 2))]),(false,[(.gro rN)]),(true,[(.rws mK)]),(true,[(.gro rP)])]
def g102K{α:Type}(G:S_g102 α)(ls:List Lf)(k:KRe α):Option α:=
 G (lf ls 0).nat (lf ls 1).int (lf ls 2).nat (lf ls 3).nat (lf ls 4).nat ((lf ls 5).lst rN) ((lf ls 6).rows mK) ((lf ls 7).lst rP)
  (fun c d e h j l n o=>k (.tup [(.agg [(.one (.bool c)),(.seq uU 6 d)]),(.sv (.int .i64 e))]) [[(.one (.gsl 1 5)),(.one (.slc 2 0 1 h j l)),(.one (.gsl 4 2))],[(.gro rN ((lf ls 5).lst rN))],[(.rws mK n none)],[]] [[(.gro rP o)]])
def g102R{α:Type}(G:S_g102 α):=rowK g102tp g102bp (g102K G)
def g102hd(G123:Al S_g123)(G36:Al S_g36)(G119:Al S_g119)(G124:Al S_g124):Hd where
 call:=fun f args Bs k=>cond (Nat.beq f 123) (g123R G123 args Bs k) (cond (Nat.beq f 36) (g36R G36 args Bs k) (cond (Nat.beq f 119) (g119R G119 args Bs k) (cond (Nat.beq f 124) (g124R G124 args Bs k) (none))))
 loop:=fun id st k=>none
 ro:=fun f=>cond (Nat.beq f 36) [1] (cond (Nat.beq f 123) [1] ([]))
def g102h(A36:Al S_g36)(m:Nat):Hd:=g102hd (g123 A36 m) A36 (g119 m) (g124 m)
theorem g102Main(G123:Al S_g123)(G36:Al S_g36)(G119:Al S_g119)(G124:Al S_g124){α:Type}(ls:List Lf)(k:KRe α):
  g102K (g102b G123 G36 G119 G124) ls k=evFunM tab (g102hd G123 G36 G119 G124) Tryz.f102 3 (fT g102tp ls) (fB g102tp g102bp ls) k:=by kernel_rfl
theorem g102Calls(A36:Al S_g36)(hA36:HA36 A36)(m:Nat):(g102h A36 m).CallsOk Tryz.prog:=(cok_cons (g123Ok A36 hA36 m) (cok_cons hA36 (cok_cons (g119Ok m) (cok_cons (g124Ok m) cok_nil))))
theorem g102Fn(A36:Al S_g36)(hA36:HA36 A36)(m:Nat):FnOk Tryz.prog 102 g102tp g102bp (fun{α}=>g102K (g102 A36 m (α:=α))):=
 fn_okM (tab:=tab) (h:=g102h A36 m) (fn:=Tryz.f102) (F:=fun{α}=>g102K (g102 A36 m (α:=α))) tabOk (g102Calls A36 hA36 m) mixed (by kernel_rfl) (by kernel_rfl) (fun c hc=>by
  rw[bodyOf_some hc]
  exact loopsOk_of _ (fun p hp=>by rw[show loopsOf (bodyOf Tryz.f102)=[] by kernel_rfl] at hp;cases hp))
  (fun _=>g102Main (g123 A36 m) A36 (g119 m) (g124 m))
theorem g102Ok(A36:Al S_g36)(hA36:HA36 A36)(m:Nat):RowOk Tryz.prog 102 (fun{α}=>g102R (g102 A36 m (α:=α))):=row_of (g102Fn A36 hA36 m)
abbrev S_g125(α:Type):Type:=Int→Nat→Nat→Nat→Ty0→Ty3→Ty0→(Int→Int→Nat→Nat→Nat→Ty3→Ty0→Option α)→Option α
abbrev S_g125l0(α:Type):Type:=Int→Ty0→(Int→Int→Nat→Nat→Nat→Ty3→Ty0→Option α)→(Nat→Nat→Nat→Ty3→Ty0→Option α)→Int→Nat→Nat→Nat→Ty3→Ty0→Option α
def g125l0b{α:Type}(G36:Al S_g36)(G80:Al S_g80)(G81:Al S_g81)(a:Int)(b:Ty0)(c:Int→Int→Nat→Nat→Nat→Ty3→Ty0→Option α)(d:Nat→Nat→Nat→Ty3→Ty0→Option α)(e:Int→Nat→Nat→Nat→Ty3→Ty0→Option α)(h:Int)(i j l:Nat)(n:Ty3)(o:Ty0):Option α:=cond (decide (h≤(40:Int))) (G36 a (IntKind.wrap .i64 (h+(2:Int))) i j l b n o (fun p q r s t u v w x=>cond (r !=(0:Int)) (c (0:Int) r s t u w x) (G80 (5:Int) (fun y z=>G81 false q y z (fun a0=>cond (decide (a0≥(0:Int))) (c h (0:Int) s t u w x) (e (IntKind.wrap .i64 (h+(1:Int))) s t u w x)))))) (d i j l n o)
def g125l0{α:Type}(G36:Al S_g36)(G80:Al S_g80)(G81:Al S_g81)(a:Int)(b:Ty0)(c:Int→Int→Nat→Nat→Nat→Ty3→Ty0→Option α)(d:Nat→Nat→Nat→Ty3→Ty0→Option α):Nat→Int→Nat→Nat→Nat→Ty3→Ty0→Option α
 |0=>fun _ _ _ _ _ _=>none
 |m+1=>fun e h i j l n=>g125l0b G36 G80 G81 a b c d (g125l0 G36 G80 G81 a b c d m) e h i j l n
def g125l0M(A36:Al S_g36){α:Type}(m:Nat):S_g125l0 α:=
 fun a b c d e h i j l n=>g125l0 A36 (g80 m) (g81 m) a b c d m e h i j l n
def g125l0D:LoopD:={n:=30,low:=[0,1,2,3],sl:=[0,1,6],bl:=[0,1,2,3,1000004],tp:=[(.vl (.sv (.ptr 0 0))),tI,tI],bp:=[(true,[(.one (.gsl 1 5)),(.one (.slc 2 0 1)),(.one (.gsl 1000004 2))]),(false,[(.gro rN)]),(true,[(.rws mK)]),(true,[]),(true,[(.gro rP)])],xs:=[(1,[4,5]),(2,[])]}
def g125l0K{α:Type}(L:S_g125l0 α)(ls:List Lf)(k:KEx α):Option α:=
 L (lf ls 0).int ((lf ls 5).lst rN)
  (fun c d e h j l n=>k .ret (mkSt 30 [4,5] [(.vl (.sv (.int .i64 c))),(.vl (.sv (.int .i64 d)))] [0,1,2,3,1000004] [(true,[(.one (.gsl 1 5)),(.one (.slc 2 0 1 e h j)),(.one (.gsl 1000004 2))]),(false,[(.gro rN ((lf ls 5).lst rN))]),(true,[(.rws mK l none)]),(true,[]),(true,[(.gro rP n)])]))
  (fun c d e j o=>k .normal (mkSt 30 [] [] [0,1,2,3,1000004] [(true,[(.one (.gsl 1 5)),(.one (.slc 2 0 1 c d e)),(.one (.gsl 1000004 2))]),(false,[(.gro rN ((lf ls 5).lst rN))]),(true,[(.rws mK j none)]),(true,[]),(true,[(.gro rP o)])]))
  (lf ls 1).int (lf ls 2).nat (lf ls 3).nat (lf ls 4).nat ((lf ls 6).rows mK) ((lf ls 7).lst rP)
def g125b{α:Type}(G36:Al S_g36)(G80:Al S_g80)(G81:Al S_g81)(L125l0:Al S_g125l0)(a:Int)(b c d:Nat)(e:Ty0)(h:Ty3)(i:Ty0)(j:Int→Int→Nat→Nat→Nat→Ty3→Ty0→Option α):Option α:=L125l0 a e (fun l n o p q r s=>j l n o p q r s) (fun t u v w x=>j (0:Int) (7:Int) t u v w x) (0:Int) b c d h i
def g125(A36:Al S_g36){α:Type}(m:Nat):S_g125 α:=
 g125b A36 (g80 m) (g81 m) (g125l0M A36 m)
def g125tp:List TP:=[(.vl (.sv (.ptr 0 0))),tI]
def g125bp:List BP:=[(true,[(.one (.gsl 1 5)),(.one (.slc 2 0 1)),(.one (.gsl 3 2))]),(false,[(.gro rN)]),(true,[(.rws mK)]),(true,[(.gro rP)])]
def g125K{α:Type}(G:S_g125 α)(ls:List Lf)(k:KRe α):Option α:=
 G (lf ls 0).int (lf ls 1).nat (lf ls 2).nat (lf ls 3).nat ((lf ls 4).lst rN) ((lf ls 5).rows mK) ((lf ls 6).lst rP)
  (fun c d e h j l n=>k (.tup [(.sv (.int .i64 c)),(.sv (.int .i64 d))]) [[(.one (.gsl 1 5)),(.one (.slc 2 0 1 e h j)),(.one (.gsl 4 2))],[(.gro rN ((lf ls 4).lst rN))],[(.rws mK l none)],[]] [[(.gro rP n)]])
def g125R{α:Type}(G:S_g125 α):=rowK g125tp g125bp (g125K G)
def g125hd(G36:Al S_g36)(G80:Al S_g80)(G81:Al S_g81)(L125l0:Al S_g125l0):Hd where
 call:=fun f args Bs k=>cond (Nat.beq f 36) (g36R G36 args Bs k) (cond (Nat.beq f 80) (g80R G80 args Bs k) (cond (Nat.beq f 81) (g81R G81 args Bs k) (none)))
 loop:=fun id st k=>cond (Nat.beq id 0) (loopH g125l0D (g125l0K L125l0) st k) (none)
 ro:=fun f=>cond (Nat.beq f 36) [1] (cond (Nat.beq f 81) [0,1] ([]))
def g125h(A36:Al S_g36)(m:Nat):Hd:=g125hd A36 (g80 m) (g81 m) (g125l0M A36 m)
theorem g125l0Step(G36:Al S_g36)(G80:Al S_g80)(G81:Al S_g81)(L125l0:Al S_g125l0){α:Type}(L:S_g125l0 α)(ls:List Lf)(k:KEx α):
  g125l0K (fun a b c d e h i j l n=>g125l0b G36 G80 G81 a b c d (L a b c d) e h i j l n) ls k=ev tab (g125hd G36 G80 G81 L125l0) (bodyAt Tryz.f125 0) (atHead g125l0D ls) (loopK g125l0D 0 (loopH g125l0D (g125l0K L)) k):=by kernel_rfl
theorem g125Main(G36:Al S_g36)(G80:Al S_g80)(G81:Al S_g81)(L125l0:Al S_g125l0){α:Type}(ls:List Lf)(k:KRe α):
  g125K (g125b G36 G80 G81 L125l0) ls k=evFunM tab (g125hd G36 G80 G81 L125l0) Tryz.f125 3 (fT g125tp ls) (fB g125tp g125bp ls) k:=by kernel_rfl
theorem g125Calls(A36:Al S_g36)(hA36:HA36 A36)(m:Nat):(g125h A36 m).CallsOk Tryz.prog:=(cok_cons hA36 (cok_cons (g80Ok m) (cok_cons (g81Ok m) cok_nil)))
theorem g125l0Ok(A36:Al S_g36)(hA36:HA36 A36)(m:Nat)(α:Type)(st:St)(k:KEx α)(r:α)(h:(g125h A36 m).loop 0 st k=some r):
  LoopS Tryz.prog 0 (bodyAt Tryz.f125 0) st k r:=
 lpk (F:=fun n ls k=>g125l0K (fun a b c d e i j l o q=>g125l0 A36 (g80 m) (g81 m) a b c d n e i j l o q) ls k) (g125Calls A36 hA36 m) (lb0 (by kernel_rfl))
  (fun _ _=>rfl) (fun n ls k=>g125l0Step A36 (g80 m) (g81 m) (g125l0M A36 m) (fun a b c d=>g125l0 A36 (g80 m) (g81 m) a b c d n) ls k) (n:=m) h
theorem g125Fn(A36:Al S_g36)(hA36:HA36 A36)(m:Nat):FnOk Tryz.prog 125 g125tp g125bp (fun{α}=>g125K (g125 A36 m (α:=α))):=
 fn_okM (tab:=tab) (h:=g125h A36 m) (fn:=Tryz.f125) (F:=fun{α}=>g125K (g125 A36 m (α:=α))) tabOk (g125Calls A36 hA36 m) mixed (by kernel_rfl) (by kernel_rfl) (fun c hc=>by
  rw[bodyOf_some hc]
  exact loopsOk_of _ (fun p hp=>by
  rw[show loopsOf (bodyOf Tryz.f125)=[(0,bodyAt Tryz.f125 0)] by kernel_rfl] at hp
  simp only[List.mem_cons,List.not_mem_nil,or_false] at hp
  rcases hp with rfl
  exact g125l0Ok A36 hA36 m))
  (fun _=>g125Main A36 (g80 m) (g81 m) (g125l0M A36 m))
theorem g125Ok(A36:Al S_g36)(hA36:HA36 A36)(m:Nat):RowOk Tryz.prog 125 (fun{α}=>g125R (g125 A36 m (α:=α))):=row_of (g125Fn A36 hA36 m)
abbrev S_g103(α:Type):Type:=Nat→Int→Nat→Nat→Nat→Ty0→Ty3→Ty0→(Bool→(List Int)→Int→Nat→Nat→Nat→Ty3→Ty0→Option α)→Option α
def g103b{α:Type}(G125:Al S_g125)(G123:Al S_g123)(G36:Al S_g36)(G97:Al S_g97)(G98:Al S_g98)(a:Nat)(b:Int)(c d e:Nat)(h:Ty0)(i:Ty3)(j:Ty0)(l:Bool→(List Int)→Int→Nat→Nat→Nat→Ty3→Ty0→Option α):Option α:=if a<h.length then G125 (IntKind.wrap .i64 (((List.getD h a []).tail.tail).headD 0)) c d e h i j (fun n o p q r s t=>cond (o !=(0:Int)) (l false [0,0,0,0,0,0] o p q r s t) (if a<h.length then G123 (IntKind.wrap .i64 (((List.getD h a []).tail).headD 0)) p q r h s t (fun u v w x y z a0=>cond (v !=(0:Int)) (l false [0,0,0,0,0,0] v w x y z a0) (if a<h.length then G36 (IntKind.wrap .i64 (((List.getD h a []).tail).headD 0)) (IntKind.wrap .i64 ((IntKind.wrap .i64 (b+n))+(3:Int))) w x y h z a0 (fun b0 c0 d0 e0 h0 i0 j0 l0 n0=>cond (d0 !=(0:Int)) (l false [0,0,0,0,0,0] d0 e0 h0 i0 l0 n0) (if a<h.length then G36 (IntKind.wrap .i64 (((List.getD h a []).tail.tail).headD 0)) (IntKind.wrap .i64 ((IntKind.wrap .i64 ((IntKind.wrap .i64 (b+u))+(IntKind.wrap .i64 ((2:Int)*n))))+(4:Int))) e0 h0 i0 h l0 n0 (fun o0 p0 q0 r0 s0 t0 u0 v0 w0=>cond (q0 !=(0:Int)) (l false [0,0,0,0,0,0] q0 r0 s0 t0 v0 w0) (G97 b0 c0 (IntKind.wrap .i64 ((IntKind.wrap .i64 ((IntKind.wrap .i64 (b+u))+n))+(1:Int))) (fun x0 y0 z0=>cond (z0 !=(0:Int)) (l false [0,0,0,0,0,0] z0 r0 s0 t0 v0 w0) (G98 x0 y0 o0 p0 (fun a1 b1=>l a1 b1 (0:Int) r0 s0 t0 v0 w0))))) else none)) else none)) else none)) else none
def g103(A36:Al S_g36){α:Type}(m:Nat):S_g103 α:=
 g103b (g125 A36 m) (g123 A36 m) A36 (g97 m) (g98 m)
def g103tp:List TP:=[(.vl (.sv (.ptr 0 0))),(.vl (.sv (.el 1 0 5 0))),tI]
def g103bp:List BP:=[(true,[(.one (.gsl 1 5)),(.one (.slc 2 0 1)),(.one (.gsl 3 2))]),(false,[(.gro rN)]),(true,[(.rws mK)]),(true,[(.gro rP)])]
def g103K{α:Type}(G:S_g103 α)(ls:List Lf)(k:KRe α):Option α:=
 G (lf ls 0).nat (lf ls 1).int (lf ls 2).nat (lf ls 3).nat (lf ls 4).nat ((lf ls 5).lst rN) ((lf ls 6).rows mK) ((lf ls 7).lst rP)
  (fun c d e h j l n o=>k (.tup [(.agg [(.one (.bool c)),(.seq uU 6 d)]),(.sv (.int .i64 e))]) [[(.one (.gsl 1 5)),(.one (.slc 2 0 1 h j l)),(.one (.gsl 4 2))],[(.gro rN ((lf ls 5).lst rN))],[(.rws mK n none)],[]] [[(.gro rP o)]])
def g103R{α:Type}(G:S_g103 α):=rowK g103tp g103bp (g103K G)
def g103hd(G125:Al S_g125)(G123:Al S_g123)(G36:Al S_g36)(G97:Al S_g97)(G98:Al S_g98):Hd where
 call:=fun f args Bs k=>cond (Nat.beq f 125) (g125R G125 args Bs k) (cond (Nat.beq f 123) (g123R G123 args Bs k) (cond (Nat.beq f 36) (g36R G36 args Bs k) (cond (Nat.beq f 97) (g97R G97 args Bs k) (cond (Nat.beq f 98) (g98R G98 args Bs k) (none)))))
 loop:=fun id st k=>none
 ro:=fun f=>cond (Nat.beq f 36) [1] (cond (Nat.beq f 123) [1] (cond (Nat.beq f 125) [1] ([])))
def g103h(A36:Al S_g36)(m:Nat):Hd:=g103hd (g125 A36 m) (g123 A36 m) A36 (g97 m) (g98 m)
theorem g103Main(G125:Al S_g125)(G123:Al S_g123)(G36:Al S_g36)(G97:Al S_g97)(G98:Al S_g98){α:Type}(ls:List Lf)(k:KRe α):
  g103K (g103b G125 G123 G36 G97 G98) ls k=evFunM tab (g103hd G125 G123 G36 G97 G98) Tryz.f103 3 (fT g103tp ls) (fB g103tp g103bp ls) k:=by kernel_rfl
theorem g103Calls(A36:Al S_g36)(hA36:HA36 A36)(m:Nat):(g103h A36 m).CallsOk Tryz.prog:=(cok_cons (g125Ok A36 hA36 m) (cok_cons (g123Ok A36 hA36 m) (cok_cons hA36 (cok_cons (g97Ok m) (cok_cons (g98Ok m) cok_nil)))))
theorem g103Fn(A36:Al S_g36)(hA36:HA36 A36)(m:Nat):FnOk Tryz.prog 103 g103tp g103bp (fun{α}=>g103K (g103 A36 m (α:=α))):=
 fn_okM (tab:=tab) (h:=g103h A36 m) (fn:=Tryz.f103) (F:=fun{α}=>g103K (g103 A36 m (α:=α))) tabOk (g103Calls A36 hA36 m) mixed (by kernel_rfl) (by kernel_rfl) (fun c hc=>by
  rw[bodyOf_some hc]
  exact loopsOk_of _ (fun p hp=>by rw[show loopsOf (bodyOf Tryz.f103)=[] by kernel_rfl] at hp;cases hp))
  (fun _=>g103Main (g125 A36 m) (g123 A36 m) A36 (g97 m) (g98 m))
theorem g103Ok(A36:Al S_g36)(hA36:HA36 A36)(m:Nat):RowOk Tryz.prog 103 (fun{α}=>g103R (g103 A36 m (α:=α))):=row_of (g103Fn A36 hA36 m)
abbrev S_g70(α:Type):Type:=Nat→Int→Nat→Nat→Nat→Ty0→Ty3→Ty0→(Bool→(List Int)→Int→Nat→Nat→Nat→Ty3→Ty0→Option α)→Option α
def g70b{α:Type}(G80:Al S_g80)(G97:Al S_g97)(G98:Al S_g98)(G99:Al S_g99)(G100:Al S_g100)(G36:Al S_g36)(G79:Al S_g79)(G101:Al S_g101)(G76:Al S_g76)(G102:Al S_g102)(G103:Al S_g103)(G81:Al S_g81)(G78:Al S_g78)(a:Nat)(b:Int)(c d e:Nat)(h:Ty0)(i:Ty3)(j:Ty0)(l:Bool→(List Int)→Int→Nat→Nat→Nat→Ty3→Ty0→Option α):Option α:=if a<h.length then let n:Int:=(List.getD h a []).headD 0;cond (n==(1:Int)) (if a<h.length then G80 (((List.getD h a []).tail.tail.tail).headD 0) (fun o p=>G97 o p b (fun q r s=>cond (s !=(0:Int)) (l false [0,0,0,0,0,0] s c d e i j) (if a<h.length then G80 (((List.getD h a []).tail.tail.tail.tail).headD 0) (fun t u=>G98 q r t u (fun v w=>l v w (0:Int) c d e i j)) else none))) else none) (cond (n==(11:Int)) (G99 b (fun x y=>l x y (0:Int) c d e i j)) (cond (n==(12:Int)) (G100 b (fun z a0=>l z a0 (0:Int) c d e i j)) (cond (n==(6:Int)) (if a<h.length then G36 (IntKind.wrap .i64 (((List.getD h a []).tail).headD 0)) b c d e h i j (fun b0 c0 d0 e0 h0 i0 j0 l0 n0=>cond (d0 !=(0:Int)) (l false [0,0,0,0,0,0] d0 e0 h0 i0 l0 n0) (if a<h.length then cond (((List.getD h a []).headD 0)==(6:Int)) (G79 b0 c0 (fun o0=>l o0 c0 (0:Int) e0 h0 i0 l0 n0)) (cond b0 (G79 b0 c0 (fun p0=>l p0 c0 (0:Int) e0 h0 i0 l0 n0)) (l b0 c0 (0:Int) e0 h0 i0 l0 n0)) else none)) else none) (cond (n==(7:Int)) (if a<h.length then G36 (IntKind.wrap .i64 (((List.getD h a []).tail).headD 0)) b c d e h i j (fun q0 r0 s0 t0 u0 v0 w0 x0 y0=>cond (s0 !=(0:Int)) (l false [0,0,0,0,0,0] s0 t0 u0 v0 x0 y0) (if a<h.length then cond (((List.getD h a []).headD 0)==(6:Int)) (G79 q0 r0 (fun z0=>l z0 r0 (0:Int) t0 u0 v0 x0 y0)) (cond q0 (G79 q0 r0 (fun a1=>l a1 r0 (0:Int) t0 u0 v0 x0 y0)) (l q0 r0 (0:Int) t0 u0 v0 x0 y0)) else none)) else none) (cond (n==(10:Int)) (if a<h.length then G36 (IntKind.wrap .i64 (((List.getD h a []).tail).headD 0)) (IntKind.wrap .i64 ((IntKind.wrap .i64 ((2:Int)*b))+(6:Int))) c d e h i j (fun b1 c1 d1 e1 h1 i1 j1 l1 n1=>cond (d1 !=(0:Int)) (l false [0,0,0,0,0,0] d1 e1 h1 i1 l1 n1) (cond b1 (l false [0,0,0,0,0,0] d1 e1 h1 i1 l1 n1) (G101 b1 c1 (fun o1 p1=>G76 o1 p1 (3:Int) (fun q1 r1=>l q1 r1 (0:Int) e1 h1 i1 l1 n1))))) else none) (cond (n==(4:Int)) (G102 a b c d e h i j (fun s1 t1 u1 v1 w1 x1 y1 z1=>l s1 t1 u1 v1 w1 x1 y1 z1)) (cond (n==(5:Int)) (G103 a b c d e h i j (fun a2 b2 c2 d2 e2 h2 i2 j2=>l a2 b2 c2 d2 e2 h2 i2 j2)) (if a<h.length then cond (((List.getD h a []).headD 0)==(8:Int)) (if a<h.length then G36 (IntKind.wrap .i64 (((List.getD h a []).tail).headD 0)) (IntKind.wrap .i64 (b+(0:Int))) c d e h i j (fun l2 n2 o2 p2 q2 r2 s2 t2 u2=>cond (o2 !=(0:Int)) (l false [0,0,0,0,0,0] o2 p2 q2 r2 t2 u2) (if a<h.length then G36 (IntKind.wrap .i64 (((List.getD h a []).tail.tail).headD 0)) (IntKind.wrap .i64 (b+(0:Int))) p2 q2 r2 h t2 u2 (fun v2 w2 x2 y2 z2 a3 b3 c3 d3=>cond (x2 !=(0:Int)) (l false [0,0,0,0,0,0] x2 y2 z2 a3 c3 d3) (if a<h.length then let e3:Int:=(List.getD h a []).headD 0;cond (e3==(8:Int)) (G81 l2 n2 v2 w2 (fun h3=>if a<h.length then cond ((decide (h3<(0:Int)))==(((List.getD h a []).headD 0)==(8:Int))) (l l2 n2 (0:Int) y2 z2 a3 c3 d3) (l v2 w2 (0:Int) y2 z2 a3 c3 d3) else none)) (cond (e3==(9:Int)) (G81 l2 n2 v2 w2 (fun i3=>if a<h.length then cond ((decide (i3<(0:Int)))==(((List.getD h a []).headD 0)==(8:Int))) (l l2 n2 (0:Int) y2 z2 a3 c3 d3) (l v2 w2 (0:Int) y2 z2 a3 c3 d3) else none)) (cond (e3==(3:Int)) (G79 v2 w2 (fun j3=>G78 l2 n2 j3 w2 (fun l3 n3 o3=>cond (o3 !=(0:Int)) (l false [0,0,0,0,0,0] o3 y2 z2 a3 c3 d3) (G76 l3 n3 (2:Int) (fun p3 q3=>l p3 q3 (0:Int) y2 z2 a3 c3 d3))))) (G78 l2 n2 v2 w2 (fun r3 s3 t3=>cond (t3 !=(0:Int)) (l false [0,0,0,0,0,0] t3 y2 z2 a3 c3 d3) (G76 r3 s3 (2:Int) (fun u3 v3=>l u3 v3 (0:Int) y2 z2 a3 c3 d3)))))) else none)) else none)) else none) (if a<h.length then cond (((List.getD h a []).headD 0)==(9:Int)) (if a<h.length then G36 (IntKind.wrap .i64 (((List.getD h a []).tail).headD 0)) (IntKind.wrap .i64 (b+(0:Int))) c d e h i j (fun w3 x3 y3 z3 a4 b4 c4 d4 e4=>cond (y3 !=(0:Int)) (l false [0,0,0,0,0,0] y3 z3 a4 b4 d4 e4) (if a<h.length then G36 (IntKind.wrap .i64 (((List.getD h a []).tail.tail).headD 0)) (IntKind.wrap .i64 (b+(0:Int))) z3 a4 b4 h d4 e4 (fun h4 i4 j4 l4 n4 o4 p4 q4 r4=>cond (j4 !=(0:Int)) (l false [0,0,0,0,0,0] j4 l4 n4 o4 q4 r4) (if a<h.length then let s4:Int:=(List.getD h a []).headD 0;cond (s4==(8:Int)) (G81 w3 x3 h4 i4 (fun t4=>if a<h.length then cond ((decide (t4<(0:Int)))==(((List.getD h a []).headD 0)==(8:Int))) (l w3 x3 (0:Int) l4 n4 o4 q4 r4) (l h4 i4 (0:Int) l4 n4 o4 q4 r4) else none)) (cond (s4==(9:Int)) (G81 w3 x3 h4 i4 (fun u4=>if a<h.length then cond ((decide (u4<(0:Int)))==(((List.getD h a []).headD 0)==(8:Int))) (l w3 x3 (0:Int) l4 n4 o4 q4 r4) (l h4 i4 (0:Int) l4 n4 o4 q4 r4) else none)) (cond (s4==(3:Int)) (G79 h4 i4 (fun v4=>G78 w3 x3 v4 i4 (fun w4 x4 y4=>cond (y4 !=(0:Int)) (l false [0,0,0,0,0,0] y4 l4 n4 o4 q4 r4) (G76 w4 x4 (2:Int) (fun z4 a5=>l z4 a5 (0:Int) l4 n4 o4 q4 r4))))) (G78 w3 x3 h4 i4 (fun b5 c5 d5=>cond (d5 !=(0:Int)) (l false [0,0,0,0,0,0] d5 l4 n4 o4 q4 r4) (G76 b5 c5 (2:Int) (fun e5 h5=>l e5 h5 (0:Int) l4 n4 o4 q4 r4)))))) else none)) else none)) else none) (if a<h.length then G36 (IntKind.wrap .i64 (((List.getD h a []).tail).headD 0)) (IntKind.wrap .i64 (b+(2:Int))) c d e h i j (fun i5 j5 l5 n5 o5 p5 q5 r5 s5=>cond (l5 !=(0:Int)) (l false [0,0,0,0,0,0] l5 n5 o5 p5 r5 s5) (if a<h.length then G36 (IntKind.wrap .i64 (((List.getD h a []).tail.tail).headD 0)) (IntKind.wrap .i64 (b+(2:Int))) n5 o5 p5 h r5 s5 (fun t5 u5 v5 w5 x5 y5 z5 a6 b6=>cond (v5 !=(0:Int)) (l false [0,0,0,0,0,0] v5 w5 x5 y5 a6 b6) (if a<h.length then let c6:Int:=(List.getD h a []).headD 0;cond (c6==(8:Int)) (G81 i5 j5 t5 u5 (fun d6=>if a<h.length then cond ((decide (d6<(0:Int)))==(((List.getD h a []).headD 0)==(8:Int))) (l i5 j5 (0:Int) w5 x5 y5 a6 b6) (l t5 u5 (0:Int) w5 x5 y5 a6 b6) else none)) (cond (c6==(9:Int)) (G81 i5 j5 t5 u5 (fun e6=>if a<h.length then cond ((decide (e6<(0:Int)))==(((List.getD h a []).headD 0)==(8:Int))) (l i5 j5 (0:Int) w5 x5 y5 a6 b6) (l t5 u5 (0:Int) w5 x5 y5 a6 b6) else none)) (cond (c6==(3:Int)) (G79 t5 u5 (fun h6=>G78 i5 j5 h6 u5 (fun i6 j6 l6=>cond (l6 !=(0:Int)) (l false [0,0,0,0,0,0] l6 w5 x5 y5 a6 b6) (G76 i6 j6 (2:Int) (fun n6 o6=>l n6 o6 (0:Int) w5 x5 y5 a6 b6))))) (G78 i5 j5 t5 u5 (fun p6 q6 r6=>cond (r6 !=(0:Int)) (l false [0,0,0,0,0,0] r6 w5 x5 y5 a6 b6) (G76 p6 q6 (2:Int) (fun s6 t6=>l s6 t6 (0:Int) w5 x5 y5 a6 b6)))))) else none)) else none)) else none) else none) else none)))))))) else none
def g70(A36:Al S_g36){α:Type}(m:Nat):S_g70 α:=
 g70b (g80 m) (g97 m) (g98 m) (g99 m) (g100 m) A36 (g79 m) (g101 m) (g76 m) (g102 A36 m) (g103 A36 m) (g81 m) (g78 m)
def g70tp:List TP:=[(.vl (.sv (.ptr 0 0))),(.vl (.sv (.el 1 0 5 0))),tI]
def g70bp:List BP:=[(true,[(.one (.gsl 1 5)),(.one (.slc 2 0 1)),(.one (.gsl 3 2))]),(false,[(.gro rN)]),(true,[(.rws mK)]),(true,[(.gro rP)])]
def g70K{α:Type}(G:S_g70 α)(ls:List Lf)(k:KRe α):Option α:=
 G (lf ls 0).nat (lf ls 1).int (lf ls 2).nat (lf ls 3).nat (lf ls 4).nat ((lf ls 5).lst rN) ((lf ls 6).rows mK) ((lf ls 7).lst rP)
  (fun c d e h j l n o=>k (.tup [(.agg [(.one (.bool c)),(.seq uU 6 d)]),(.sv (.int .i64 e))]) [[(.one (.gsl 1 5)),(.one (.slc 2 0 1 h j l)),(.one (.gsl 4 2))],[(.gro rN ((lf ls 5).lst rN))],[(.rws mK n none)],[]] [[(.gro rP o)]])
def g70R{α:Type}(G:S_g70 α):=rowK g70tp g70bp (g70K G)
def g70hd(G80:Al S_g80)(G97:Al S_g97)(G98:Al S_g98)(G99:Al S_g99)(G100:Al S_g100)(G36:Al S_g36)(G79:Al S_g79)(G101:Al S_g101)(G76:Al S_g76)(G102:Al S_g102)(G103:Al S_g103)(G81:Al S_g81)(G78:Al S_g78):Hd where
 call:=fun f args Bs k=>cond (Nat.beq f 80) (g80R G80 args Bs k) (cond (Nat.beq f 97) (g97R G97 args Bs k) (cond (Nat.beq f 98) (g98R G98 args Bs k) (cond (Nat.beq f 99) (g99R G99 args Bs k) (cond (Nat.beq f 100) (g100R G100 args Bs k) (cond (Nat.beq f 36) (g36R G36 args Bs k) (cond (Nat.beq f 79) (g79R G79 args Bs k) (cond (Nat.beq f 101) (g101R G101 args Bs k) (cond (Nat.beq f 76) (g76R G76 args Bs k) (cond (Nat.beq f 102) (g102R G102 args Bs k) (cond (Nat.beq f 103) (g103R G103 args Bs k) (cond (Nat.beq f 81) (g81R G81 args Bs k) (cond (Nat.beq f 78) (g78R G78 args Bs k) (none)))))))))))))
 loop:=fun id st k=>none
 ro:=fun f=>cond (Nat.beq f 36) [1] (cond (Nat.beq f 81) [0,1] (cond (Nat.beq f 102) [1] (cond (Nat.beq f 103) [1] ([]))))
def g70h(A36:Al S_g36)(m:Nat):Hd:=g70hd (g80 m) (g97 m) (g98 m) (g99 m) (g100 m) A36 (g79 m) (g101 m) (g76 m) (g102 A36 m) (g103 A36 m) (g81 m) (g78 m)
theorem g70Main(G80:Al S_g80)(G97:Al S_g97)(G98:Al S_g98)(G99:Al S_g99)(G100:Al S_g100)(G36:Al S_g36)(G79:Al S_g79)(G101:Al S_g101)(G76:Al S_g76)(G102:Al S_g102)(G103:Al S_g103)(G81:Al S_g81)(G78:Al S_g78){α:Type}(ls:List Lf)(k:KRe α):
  g70K (g70b G80 G97 G98 G99 G100 G36 G79 G101 G76 G102 G103 G81 G78) ls k=evFunM tab (g70hd G80 G97 G98 G99 G100 G36 G79 G101 G76 G102 G103 G81 G78) Tryz.f70 3 (fT g70tp ls) (fB g70tp g70bp ls) k:=by kernel_rfl
theorem g70Calls(A36:Al S_g36)(hA36:HA36 A36)(m:Nat):(g70h A36 m).CallsOk Tryz.prog:=(cok_cons (g80Ok m) (cok_cons (g97Ok m) (cok_cons (g98Ok m) (cok_cons (g99Ok m) (cok_cons (g100Ok m) (cok_cons hA36 (cok_cons (g79Ok m) (cok_cons (g101Ok m) (cok_cons (g76Ok m) (cok_cons (g102Ok A36 hA36 m) (cok_cons (g103Ok A36 hA36 m) (cok_cons (g81Ok m) (cok_cons (g78Ok m) cok_nil)))))))))))))
theorem g70Fn(A36:Al S_g36)(hA36:HA36 A36)(m:Nat):FnOk Tryz.prog 70 g70tp g70bp (fun{α}=>g70K (g70 A36 m (α:=α))):=
 fn_okM (tab:=tab) (h:=g70h A36 m) (fn:=Tryz.f70) (F:=fun{α}=>g70K (g70 A36 m (α:=α))) tabOk (g70Calls A36 hA36 m) mixed (by kernel_rfl) (by kernel_rfl) (fun c hc=>by
  rw[bodyOf_some hc]
  exact loopsOk_of _ (fun p hp=>by rw[show loopsOf (bodyOf Tryz.f70)=[] by kernel_rfl] at hp;cases hp))
  (fun _=>g70Main (g80 m) (g97 m) (g98 m) (g99 m) (g100 m) A36 (g79 m) (g101 m) (g76 m) (g102 A36 m) (g103 A36 m) (g81 m) (g78 m))
theorem g70Ok(A36:Al S_g36)(hA36:HA36 A36)(m:Nat):RowOk Tryz.prog 70 (fun{α}=>g70R (g70 A36 m (α:=α))):=row_of (g70Fn A36 hA36 m)
abbrev S_g36l0(α:Type):Type:=Int→Int→Nat→Nat→Nat→Ty0→Ty3→Nat→Bool→(List Int)→Ty4→Ty0→(Ty3→Bool→(List Int)→Option α)→(Ty3→Option α)→Int→Option α
def g36l0b{α:Type}(c d:Int)(e h j:Nat)(l:Ty0)(n:Ty3)(o:Nat)(p:Bool)(q:List Int)(r:Ty4)(s:Ty0)(t:Ty3→Bool→(List Int)→Option α)(u:Ty3→Option α)(v:Int→Option α)(w:Int):Option α:=cond (decide (w<((r.length:Nat):Int))) (if 0≤w∧w<(r.length:Nat) then if w.toNat<r.length then cond (((List.getD r (w.toNat) (pD [.i .i64, .b, .a .u32 6])).1)==d) (if 0≤w∧w<(r.length:Nat) then if w.toNat<r.length then let x:Ty5:=List.getD r (w.toNat) (pD [.i .i64, .b, .a .u32 6]);if o<n.length then t (List.set n o r) (x.2.1) (padI 6 x.2.2.1) else none else none else none) (v (IntKind.wrap .i64 (w+(1:Int)))) else none else none) (if o<n.length then u (List.set n o r) else none)
def g36l0{α:Type}(a b:Int)(c d e:Nat)(h:Ty0)(i:Ty3)(j:Nat)(l:Bool)(n:List Int)(o:Ty4)(p:Ty0)(q:Ty3→Bool→(List Int)→Option α)(r:Ty3→Option α):Nat→Int→Option α
 |0=>fun _=>none
 |m+1=>fun s=>g36l0b a b c d e h i j l n o p q r (g36l0 a b c d e h i j l n o p q r m) s
def g36l0M(A36:Al S_g36){α:Type}(m:Nat):S_g36l0 α:=
 fun a b c d e h i j l n o p q r s=>g36l0 a b c d e h i j l n o p q r m s
def g36l0D:LoopD:={n:=89,low:=[0,1,2,3],sl:=[0,1,2,6,8,9],bl:=[0,1,2,3,1000004,1000005,1000006],tp:=[(.vl (.sv (.ptr 0 0))),tI,tI,(.vl (.sv (.ptr 1000004 0))),(.vl (.sv (.gsl 1000005 8))),tI],bp:=[(true,[(.one (.gsl 1 5)),(.one (.slc 2 0 1)),(.one (.gsl 1000006 2))]),(false,[(.gro rN)]),(true,[(.rwh mK 1000005)]),(true,[]),(true,[(.one .bool),(.seq uU 6)]),(true,[(.gro mK)]),(true,[(.gro rP)])],xs:=[(1,[6,7]),(2,[0,1,2,6])]}
def g36l0K{α:Type}(L:S_g36l0 α)(ls:List Lf)(k:KEx α):Option α:=
 L (lf ls 0).int (lf ls 1).int (lf ls 3).nat (lf ls 4).nat (lf ls 5).nat ((lf ls 6).lst rN) ((lf ls 7).rows mK) (lf ls 8).nat (lf ls 9).bool ((lf ls 10).lst uU) ((lf ls 11).lst mK) ((lf ls 12).lst rP)
  (fun c d e=>k .ret (mkSt 89 [6,7] [(.vl (.sv (.ptr 1000004 0))),(.vl (.sv (.int .i64 (0:Int))))] [0,1,2,3,1000004,1000005] [(true,[(.one (.gsl 1 5)),(.one (.slc 2 0 1 (lf ls 3).nat (lf ls 4).nat (lf ls 5).nat)),(.one (.gsl 1000005 2))]),(false,[(.gro rN ((lf ls 6).lst rN))]),(true,[(.rws mK c none)]),(true,[]),(true,[(.one (.bool d)),(.seq uU 6 e)]),(true,[(.gro rP ((lf ls 12).lst rP))])]))
  (fun d=>k .normal (mkSt 89 [0,1,2,6] [(.vl (.sv (.ptr 0 0))),(.vl (.sv (.int .i64 (lf ls 0).int))),(.vl (.sv (.int .i64 (lf ls 1).int))),(.vl (.sv (.ptr 1000004 0)))] [0,1,2,3,1000004,1000005] [(true,[(.one (.gsl 1 5)),(.one (.slc 2 0 1 (lf ls 3).nat (lf ls 4).nat (lf ls 5).nat)),(.one (.gsl 1000005 2))]),(false,[(.gro rN ((lf ls 6).lst rN))]),(true,[(.rws mK d none)]),(true,[]),(true,[(.one (.bool (lf ls 9).bool)),(.seq uU 6 ((lf ls 10).lst uU))]),(true,[(.gro rP ((lf ls 12).lst rP))])]))
  (lf ls 2).int
def g36b{α:Type}(G70:Al S_g70)(L36l0:Al S_g36l0)(a b:Int)(c d e:Nat)(h:Ty0)(i:Ty3)(j:Ty0)(l:Bool→(List Int)→Int→Nat→Nat→Nat→Ty0→Ty3→Ty0→Option α):Option α:=if 0≤a∧a<(d:Nat) then if(c+a.toNat)<i.length then L36l0 a b c d e h i (c+a.toNat) false [0,0,0,0,0,0] (List.getD i (c+a.toNat) []) j (fun n o p=>l o p (0:Int) c d e h n j) (fun q=>cond (decide (b>(160:Int))) (l false [0,0,0,0,0,0] (3:Int) c d e h q j) (if j.length+1≤67108864 then if 0≤a∧a<(h.length:Nat) then G70 (a.toNat) b c d e h q (j++[[(IntKind.wrap .i16 a),(IntKind.wrap .i16 b)]]) (fun r s t u v w x y=>cond (t !=(0:Int)) (l false [0,0,0,0,0,0] t u v w h x y) (if 0≤a∧a<(v:Nat) then if(u+a.toNat)<x.length then let z:Ty4:=List.getD x (u+a.toNat) [];if z.length+1≤67108864 then if 0≤a∧a<(v:Nat) then if(u+a.toNat)<x.length∧(u+a.toNat)=(u+a.toNat) then l r s (0:Int) u v w h (List.set x (u+a.toNat) (z++[(b,r,s,())])) y else none else none else none else none else none)) else none else none)) (0:Int) else none else none
noncomputable def g36(m:Nat):Al S_g36:=
 Nat.rec (motive:=fun _=>Al S_g36) (fun{α}=>fun _ _ _ _ _ _ _ _ _=>none) (fun m ih {α}=>g36b (g70 ih m) (g36l0M ih m)) m
def g36hd(G70:Al S_g70)(L36l0:Al S_g36l0):Hd where
 call:=fun f args Bs k=>cond (Nat.beq f 70) (g70R G70 args Bs k) (none)
 loop:=fun id st k=>cond (Nat.beq id 0) (loopH g36l0D (g36l0K L36l0) st k) (none)
 ro:=fun f=>cond (Nat.beq f 70) [1] ([])
def g36h(A36:Al S_g36)(m:Nat):Hd:=g36hd (g70 A36 m) (g36l0M A36 m)
theorem g36l0Step(G70:Al S_g70)(L36l0:Al S_g36l0){α:Type}(L:S_g36l0 α)(ls:List Lf)(k:KEx α):
  g36l0K (fun a b c d e h i j l n o p q r s=>g36l0b a b c d e h i j l n o p q r (L a b c d e h i j l n o p q r) s) ls k=ev tab (g36hd G70 L36l0) (bodyAt Tryz.f36 0) (atHead g36l0D ls) (loopK g36l0D 0 (loopH g36l0D (g36l0K L)) k):=by kernel_rfl
theorem g36Main(G70:Al S_g70)(L36l0:Al S_g36l0){α:Type}(ls:List Lf)(k:KRe α):
  g36K (g36b G70 L36l0) ls k=evFunM tab (g36hd G70 L36l0) Tryz.f36 3 (fT g36tp ls) (fB g36tp g36bp ls) k:=by kernel_rfl
theorem g36Calls(A36:Al S_g36)(hA36:HA36 A36)(m:Nat):(g36h A36 m).CallsOk Tryz.prog:=(cok_cons (g70Ok A36 hA36 m) cok_nil)
theorem g36l0Ok(A36:Al S_g36)(hA36:HA36 A36)(m:Nat)(α:Type)(st:St)(k:KEx α)(r:α)(h:(g36h A36 m).loop 0 st k=some r):
  LoopS Tryz.prog 0 (bodyAt Tryz.f36 0) st k r:=
 lpk (F:=fun n ls k=>g36l0K (fun a b c d e i j l o q s t u v w=>g36l0 a b c d e i j l o q s t u v n w) ls k) (g36Calls A36 hA36 m) (lb0 (by kernel_rfl))
  (fun _ _=>rfl) (fun n ls k=>g36l0Step (g70 A36 m) (g36l0M A36 m) (fun a b c d e i j l o q s t u v=>g36l0 a b c d e i j l o q s t u v n) ls k) (n:=m) h
theorem g36FnS(m:Nat)(hA:RowOk Tryz.prog 36 (fun{α}=>g36R (g36 m (α:=α)))):FnOk Tryz.prog 36 g36tp g36bp (fun{α}=>g36K (g36 (m+1) (α:=α))):=
 fn_okM (tab:=tab) (h:=g36h (g36 m) m) (fn:=Tryz.f36) (F:=fun{α}=>g36K (g36 (m+1) (α:=α))) tabOk (g36Calls (g36 m) hA m) mixed (by kernel_rfl) (by kernel_rfl) (fun c hc=>by
  rw[bodyOf_some hc]
  exact loopsOk_of _ (fun p hp=>by
  rw[show loopsOf (bodyOf Tryz.f36)=[(0,bodyAt Tryz.f36 0)] by kernel_rfl] at hp
  simp only[List.mem_cons,List.not_mem_nil,or_false] at hp
  rcases hp with rfl
  exact g36l0Ok (g36 m) hA m))
  (fun _=>g36Main (g70 (g36 m) m) (g36l0M (g36 m) m))
theorem g36Fn:∀m:Nat,FnOk Tryz.prog 36 g36tp g36bp (fun{α}=>g36K (g36 m (α:=α)))
 |0=>fun α ls k r h=>nomatch (show(none:Option α)=some r from h)
 |m+1=>g36FnS m (row_of (g36Fn m))
theorem g36Ok(m:Nat):RowOk Tryz.prog 36 (fun{α}=>g36R (g36 m (α:=α))):=row_of (g36Fn m)
abbrev S_g9(α:Type):Type:=Int→Int→Ty0→(Bool→(List Int)→Int→Option α)→Option α
def g9b{α:Type}(G34:Al S_g34)(G35:Al S_g35)(G36:Al S_g36)(a b:Int)(c:Ty0)(d:Bool→(List Int)→Int→Option α):Option α:=G34 a b c (fun e=>cond (e !=(0:Int)) (d false [0,0,0,0,0,0] e) (G35 c (fun h i j l=>G36 a b 0 h i c j l (fun n o p q r s t u v=>d n o p))))
noncomputable def g9{α:Type}(m:Nat):S_g9 α:=
 g9b (g34 m) (g35 m) (g36 m)
def g9tp:List TP:=[(.vl (.sv (.gsl 0 5))),tI,tI]
def g9bp:List BP:=[(false,[(.gro rN)])]
def g9K{α:Type}(G:S_g9 α)(ls:List Lf)(k:KRe α):Option α:=
 G (lf ls 0).int (lf ls 1).int ((lf ls 2).lst rN)
  (fun a b c=>k (.tup [(.agg [(.one (.bool a)),(.seq uU 6 b)]),(.sv (.int .i64 c))]) [[(.gro rN ((lf ls 2).lst rN))]] [])
def g9R{α:Type}(G:S_g9 α):=rowK g9tp g9bp (g9K G)
def g9hd(G34:Al S_g34)(G35:Al S_g35)(G36:Al S_g36):Hd where
 call:=fun f args Bs k=>cond (Nat.beq f 34) (g34R G34 args Bs k) (cond (Nat.beq f 35) (g35R G35 args Bs k) (cond (Nat.beq f 36) (g36R G36 args Bs k) (none)))
 loop:=fun id st k=>none
 ro:=fun f=>cond (Nat.beq f 34) [0] (cond (Nat.beq f 35) [0] (cond (Nat.beq f 36) [1] ([])))
noncomputable def g9h(m:Nat):Hd:=g9hd (g34 m) (g35 m) (g36 m)
theorem g9Main(G34:Al S_g34)(G35:Al S_g35)(G36:Al S_g36){α:Type}(ls:List Lf)(k:KRe α):
  g9K (g9b G34 G35 G36) ls k=evFun tab (g9hd G34 G35 G36) Tryz.f9 (fT g9tp ls) (fB g9tp g9bp ls) k:=by kernel_rfl
theorem g9Calls(m:Nat):(g9h m).CallsOk Tryz.prog:=(cok_cons (g34Ok m) (cok_cons (g35Ok m) (cok_cons (g36Ok m) cok_nil)))
theorem g9Ok(m:Nat):RowOk Tryz.prog 9 (fun{α}=>g9R (g9 m (α:=α))):=
 rwk (g9Calls m) (lo0 (by kernel_rfl))
  (fun _=>g9Main (g34 m) (g35 m) (g36 m))
abbrev S_g15(α:Type):Type:=Bool→(List Int)→(Bool→Option α)→Option α
def g15b{α:Type}(a:Bool)(b:List Int)(c:Bool→Option α):Option α:=cond (!a) (c true) (c (!(eqLI b [0,0,0,0,0,0])))
def g15{α:Type}(m:Nat):S_g15 α:=
 g15b
def g15tp:List TP:=[vW]
def g15bp:List BP:=[]
def g15K{α:Type}(G:S_g15 α)(ls:List Lf)(k:KRe α):Option α:=
 G (lf ls 0).bool ((lf ls 1).lst uU)
  (fun a=>k (.vl (.sv (.bool a))) [] [])
def g15R{α:Type}(G:S_g15 α):=rowK g15tp g15bp (g15K G)
def g15hd:Hd where
 call:=fun f args Bs k=>none
 loop:=fun id st k=>none
 ro:=fun f=>[]
def g15h(m:Nat):Hd:=g15hd
theorem g15Main{α:Type}(ls:List Lf)(k:KRe α):
  g15K (g15b) ls k=evFun tab (g15hd) Tryz.f15 (fT g15tp ls) (fB g15tp g15bp ls) k:=by kernel_rfl
theorem g15Calls(m:Nat):(g15h m).CallsOk Tryz.prog:=cok_nil
theorem g15Ok(m:Nat):RowOk Tryz.prog 15 (fun{α}=>g15R (g15 m (α:=α))):=
 rwk (g15Calls m) (lo0 (by kernel_rfl))
  (fun _=>g15Main)
abbrev S_g11(α:Type):Type:=Bool→(List Int)→Bool→(List Int)→Int→Int→(Bool→Int→Option α)→Option α
def g11b{α:Type}(G15:Al S_g15)(G40:Al S_g40)(G42:Al S_g42)(G41:Al S_g41)(G43:Al S_g43)(G44:Al S_g44)(G45:Al S_g45)(G46:Al S_g46)(a:Bool)(b:List Int)(c:Bool)(d:List Int)(e h:Int)(i:Bool→Int→Option α):Option α:=G15 a b (fun j=>cond (!j) (i false (1:Int)) (G15 c d (fun l=>cond (!l) (i false (1:Int)) (G40 e (0:Int) (64:Int) (fun n=>cond (!n) (i false (2:Int)) (G40 h (0:Int) (64:Int) (fun o=>cond (!o) (i false (2:Int)) (G42 a b h false (fun p q r=>G41 p q c d r (fun s t u=>cond u (i false (3:Int)) (G43 (fun v=>G44 v h (fun w=>G43 (fun x=>G45 w x (fun y z=>G46 t y (fun a0=>i (decide (a0≤(0:Int))) (0:Int)))))))))))))))))
def g11{α:Type}(m:Nat):S_g11 α:=
 g11b (g15 m) (g40 m) (g42 m) (g41 m) (g43 m) (g44 m) (g45 m) (g46 m)
def g11tp:List TP:=[vW,vW,tI,tI]
def g11bp:List BP:=[]
def g11K{α:Type}(G:S_g11 α)(ls:List Lf)(k:KRe α):Option α:=
 G (lf ls 0).bool ((lf ls 1).lst uU) (lf ls 2).bool ((lf ls 3).lst uU) (lf ls 4).int (lf ls 5).int
  (fun a b=>k (.tup [(.sv (.bool a)),(.sv (.int .i64 b))]) [] [])
def g11R{α:Type}(G:S_g11 α):=rowK g11tp g11bp (g11K G)
def g11hd(G15:Al S_g15)(G40:Al S_g40)(G42:Al S_g42)(G41:Al S_g41)(G43:Al S_g43)(G44:Al S_g44)(G45:Al S_g45)(G46:Al S_g46):Hd where
 call:=fun f args Bs k=>cond (Nat.beq f 15) (g15R G15 args Bs k) (cond (Nat.beq f 40) (g40R G40 args Bs k) (cond (Nat.beq f 42) (g42R G42 args Bs k) (cond (Nat.beq f 41) (g41R G41 args Bs k) (cond (Nat.beq f 43) (g43R G43 args Bs k) (cond (Nat.beq f 44) (g44R G44 args Bs k) (cond (Nat.beq f 45) (g45R G45 args Bs k) (cond (Nat.beq f 46) (g46R G46 args Bs k) (none))))))))
 loop:=fun id st k=>none
 ro:=fun f=>[]
def g11h(m:Nat):Hd:=g11hd (g15 m) (g40 m) (g42 m) (g41 m) (g43 m) (g44 m) (g45 m) (g46 m)
theorem g11Main(G15:Al S_g15)(G40:Al S_g40)(G42:Al S_g42)(G41:Al S_g41)(G43:Al S_g43)(G44:Al S_g44)(G45:Al S_g45)(G46:Al S_g46){α:Type}(ls:List Lf)(k:KRe α):
  g11K (g11b G15 G40 G42 G41 G43 G44 G45 G46) ls k=evFun tab (g11hd G15 G40 G42 G41 G43 G44 G45 G46) Tryz.f11 (fT g11tp ls) (fB g11tp g11bp ls) k:=by kernel_rfl
theorem g11Calls(m:Nat):(g11h m).CallsOk Tryz.prog:=(cok_cons (g15Ok m) (cok_cons (g40Ok m) (cok_cons (g42Ok m) (cok_cons (g41Ok m) (cok_cons (g43Ok m) (cok_cons (g44Ok m) (cok_cons (g45Ok m) (cok_cons (g46Ok m) cok_nil))))))))
theorem g11Ok(m:Nat):RowOk Tryz.prog 11 (fun{α}=>g11R (g11 m (α:=α))):=
 rwk (g11Calls m) (lo0 (by kernel_rfl))
  (fun _=>g11Main (g15 m) (g40 m) (g42 m) (g41 m) (g43 m) (g44 m) (g45 m) (g46 m))
abbrev S_g12(α:Type):Type:=Int→Int→Ty0→(Int→Option α)→(Ty0→Option α)→Option α
def g12b{α:Type}(G31:Al S_g31)(G32:Al S_g32)(G33:Al S_g33)(a b:Int)(c:Ty0)(d:Int→Option α)(e:Ty0→Option α):Option α:=G31 b (64:Int) 0 1 1 c [a] (fun h=>cond (h !=(0:Int)) (d h) (none)) (fun i j=>G32 (IntKind.wrap .i16 a) b false (0:Int) c i j (fun l n o p q r s=>G33 o p c r s (fun t u=>cond t (d u) (e s))))
noncomputable def g12{α:Type}(m:Nat):S_g12 α:=
 g12b (g31 m) (g32 m) (g33 m)
def g12tp:List TP:=[(.vl (.sv (.gsl 0 5))),tI,tI]
def g12bp:List BP:=[(false,[(.gro rN)])]
def g12K{α:Type}(G:S_g12 α)(ls:List Lf)(k:KRe α):Option α:=
 G (lf ls 0).int (lf ls 1).int ((lf ls 2).lst rN)
  (fun a=>k (.tup [(.sv .nils),(.sv (.int .i64 a))]) [[(.gro rN ((lf ls 2).lst rN))]] [])
  (fun b=>k (.tup [(.sv (.gsl 1 2)),(.sv (.int .i64 (0:Int)))]) [[(.gro rN ((lf ls 2).lst rN))]] [[(.gro rP b)]])
def g12R{α:Type}(G:S_g12 α):=rowK g12tp g12bp (g12K G)
def g12hd(G31:Al S_g31)(G32:Al S_g32)(G33:Al S_g33):Hd where
 call:=fun f args Bs k=>cond (Nat.beq f 31) (g31R G31 args Bs k) (cond (Nat.beq f 32) (g32R G32 args Bs k) (cond (Nat.beq f 33) (g33R G33 args Bs k) (none)))
 loop:=fun id st k=>none
 ro:=fun f=>cond (Nat.beq f 31) [0,1] (cond (Nat.beq f 32) [1] (cond (Nat.beq f 33) [1,2,3] ([])))
noncomputable def g12h(m:Nat):Hd:=g12hd (g31 m) (g32 m) (g33 m)
theorem g12Main(G31:Al S_g31)(G32:Al S_g32)(G33:Al S_g33){α:Type}(ls:List Lf)(k:KRe α):
  g12K (g12b G31 G32 G33) ls k=evFun tab (g12hd G31 G32 G33) Tryz.f12 (fT g12tp ls) (fB g12tp g12bp ls) k:=by kernel_rfl
theorem g12Calls(m:Nat):(g12h m).CallsOk Tryz.prog:=(cok_cons (g31Ok m) (cok_cons (g32Ok m) (cok_cons (g33Ok m) cok_nil)))
theorem g12Ok(m:Nat):RowOk Tryz.prog 12 (fun{α}=>g12R (g12 m (α:=α))):=
 rwk (g12Calls m) (lo0 (by kernel_rfl))
  (fun _=>g12Main (g31 m) (g32 m) (g33 m))
abbrev S_g13(α:Type):Type:=Int→Int→Ty0→(Int→Ty0→Option α)→Option α
def g13b{α:Type}(G34:Al S_g34)(G35:Al S_g35)(G36:Al S_g36)(a b:Int)(c:Ty0)(d:Int→Ty0→Option α):Option α:=G34 a b c (fun e=>cond (e !=(0:Int)) (d e []) (G35 c (fun h i j l=>G36 a b 0 h i c j l (fun n o p q r s t u v=>cond (p !=(0:Int)) (d p []) (d (0:Int) v)))))
noncomputable def g13{α:Type}(m:Nat):S_g13 α:=
 g13b (g34 m) (g35 m) (g36 m)
def g13tp:List TP:=[(.vl (.sv (.gsl 0 5))),tI,tI]
def g13bp:List BP:=[(false,[(.gro rN)])]
def g13K{α:Type}(G:S_g13 α)(ls:List Lf)(k:KRe α):Option α:=
 G (lf ls 0).int (lf ls 1).int ((lf ls 2).lst rN)
  (fun a b=>k (.tup [(.sv (.gsl 1 2)),(.sv (.int .i64 a))]) [[(.gro rN ((lf ls 2).lst rN))]] [[(.gro rP b)]])
def g13R{α:Type}(G:S_g13 α):=rowK g13tp g13bp (g13K G)
def g13hd(G34:Al S_g34)(G35:Al S_g35)(G36:Al S_g36):Hd where
 call:=fun f args Bs k=>cond (Nat.beq f 34) (g34R G34 args Bs k) (cond (Nat.beq f 35) (g35R G35 args Bs k) (cond (Nat.beq f 36) (g36R G36 args Bs k) (none)))
 loop:=fun id st k=>none
 ro:=fun f=>cond (Nat.beq f 34) [0] (cond (Nat.beq f 35) [0] (cond (Nat.beq f 36) [1] ([])))
noncomputable def g13h(m:Nat):Hd:=g13hd (g34 m) (g35 m) (g36 m)
theorem g13Main(G34:Al S_g34)(G35:Al S_g35)(G36:Al S_g36){α:Type}(ls:List Lf)(k:KRe α):
  g13K (g13b G34 G35 G36) ls k=evFun tab (g13hd G34 G35 G36) Tryz.f13 (fT g13tp ls) (fB g13tp g13bp ls) k:=by kernel_rfl
theorem g13Calls(m:Nat):(g13h m).CallsOk Tryz.prog:=(cok_cons (g34Ok m) (cok_cons (g35Ok m) (cok_cons (g36Ok m) cok_nil)))
theorem g13Ok(m:Nat):RowOk Tryz.prog 13 (fun{α}=>g13R (g13 m (α:=α))):=
 rwk (g13Calls m) (lo0 (by kernel_rfl))
  (fun _=>g13Main (g34 m) (g35 m) (g36 m))
abbrev S_g14(α:Type):Type:=Ty0→(Bool→Option α)→Option α
abbrev S_g14l0(α:Type):Type:=Int→Ty0→(Option α)→Option α
def g14l0b{α:Type}(a:Int)(b:Ty0)(c d:Option α):Option α:=cond (decide (a<(0:Int))) (none) (c)
def g14l0{α:Type}(a:Int)(b:Ty0)(c:Option α):Nat→Option α
 |0=>none
 |m+1=>g14l0b a b c (g14l0 a b c m)
def g14l0M{α:Type}(m:Nat):S_g14l0 α:=
 fun a b c=>g14l0 a b c m
def g14l0D:LoopD:={n:=26,low:=[0],sl:=[0,1,5],bl:=[0],tp:=[(.vl (.sv .nils)),(.vl (.sv (.gsl 0 2))),tI],bp:=[(false,[(.gro rP)])],xs:=[(2,[])]}
def g14l0K{α:Type}(L:S_g14l0 α)(ls:List Lf)(k:KEx α):Option α:=
 L (lf ls 0).int ((lf ls 1).lst rP)
  (k .normal (mkSt 26 [] [] [0] [(false,[(.gro rP ((lf ls 1).lst rP))])]))
def g14b{α:Type}(L14l0:Al S_g14l0)(a:Ty0)(b:Bool→Option α):Option α:=cond ((0:Int) !=((a.length:Nat):Int)) (b false) (L14l0 (0:Int) a (b true))
def g14{α:Type}(m:Nat):S_g14 α:=
 g14b (g14l0M m)
def g14tp:List TP:=[(.vl (.sv .nils)),(.vl (.sv (.gsl 0 2)))]
def g14bp:List BP:=[(false,[(.gro rP)])]
def g14K{α:Type}(G:S_g14 α)(ls:List Lf)(k:KRe α):Option α:=
 G ((lf ls 0).lst rP)
  (fun a=>k (.vl (.sv (.bool a))) [[(.gro rP ((lf ls 0).lst rP))]] [])
def g14R{α:Type}(G:S_g14 α):=rowK g14tp g14bp (g14K G)
def g14hd(L14l0:Al S_g14l0):Hd where
 call:=fun f args Bs k=>none
 loop:=fun id st k=>cond (Nat.beq id 0) (loopH g14l0D (g14l0K L14l0) st k) (none)
 ro:=fun f=>[]
def g14h(m:Nat):Hd:=g14hd (g14l0M m)
theorem g14l0Step(L14l0:Al S_g14l0){α:Type}(L:S_g14l0 α)(ls:List Lf)(k:KEx α):
  g14l0K (fun a b c=>g14l0b a b c (L a b c)) ls k=ev tab (g14hd L14l0) (bodyAt Tryz.f14 0) (atHead g14l0D ls) (loopK g14l0D 0 (loopH g14l0D (g14l0K L)) k):=by kernel_rfl
theorem g14Main(L14l0:Al S_g14l0){α:Type}(ls:List Lf)(k:KRe α):
  g14K (g14b L14l0) ls k=evFun tab (g14hd L14l0) Tryz.f14 (fT g14tp ls) (fB g14tp g14bp ls) k:=by kernel_rfl
theorem g14Calls(m:Nat):(g14h m).CallsOk Tryz.prog:=cok_nil
theorem g14l0Ok(m:Nat)(α:Type)(st:St)(k:KEx α)(r:α)(h:(g14h m).loop 0 st k=some r):
  LoopS Tryz.prog 0 (bodyAt Tryz.f14 0) st k r:=
 lpk (F:=fun n ls k=>g14l0K (fun a b c=>g14l0 a b c n) ls k) (g14Calls m) (lb0 (by kernel_rfl))
  (fun _ _=>rfl) (fun n ls k=>g14l0Step (g14l0M m) (fun a b c=>g14l0 a b c n) ls k) (n:=m) h
theorem g14Ok(m:Nat):RowOk Tryz.prog 14 (fun{α}=>g14R (g14 m (α:=α))):=
 rwk (g14Calls m) (lo1 (by kernel_rfl) (g14l0Ok m))
  (fun _=>g14Main (g14l0M m))
abbrev S_g48(α:Type):Type:=Int→Int→Bool→Int→Ty0→Ty1→Ty0→(Bool→(List Int)→Bool→Int→Ty1→Ty0→Option α)→Option α
def g48b{α:Type}(G32:Al S_g32)(a b:Int)(c:Bool)(d:Int)(e:Ty0)(h:Ty1)(i:Ty0)(j:Bool→(List Int)→Bool→Int→Ty1→Ty0→Option α):Option α:=G32 (IntKind.wrap .i16 b) a c d e h i (fun l n o p q r s=>j l n o p r s)
noncomputable def g48{α:Type}(m:Nat):S_g48 α:=
 g48b (g32 m)
def g48tp:List TP:=[tI,(.vl (.sv (.ptr 0 0))),(.vl (.sv (.ptr 1 0)))]
def g48bp:List BP:=[(false,[(.one (.ptr 2 0))]),(false,[(.one (.int .i64))]),(true,[(.one .bool),(.one (.gsl 3 5)),(.one (.mpp 4)),(.one (.gsl 5 2)),(.one (.int .i64))]),(false,[(.gro rN)]),(true,[(.mp rP mW)]),(true,[(.gro rP)])]
def g48K{α:Type}(G:S_g48 α)(ls:List Lf)(k:KRe α):Option α:=
 G (lf ls 0).int (lf ls 1).int (lf ls 2).bool (lf ls 3).int ((lf ls 4).lst rN) ((lf ls 5).map rP mW) ((lf ls 6).lst rP)
  (fun c d e h i j=>k (.vl (.agg [(.one (.bool c)),(.seq uU 6 d)])) [[(.one (.ptr 2 0))],[(.one (.int .i64 (lf ls 1).int))],[(.one (.bool e)),(.one (.gsl 3 5)),(.one (.mpp 4)),(.one (.gsl 6 2)),(.one (.int .i64 h))],[(.gro rN ((lf ls 4).lst rN))],[(.mp rP mW i)],[]] [[(.gro rP j)]])
def g48R{α:Type}(G:S_g48 α):=rowK g48tp g48bp (g48K G)
def g48hd(G32:Al S_g32):Hd where
 call:=fun f args Bs k=>cond (Nat.beq f 32) (g32R G32 args Bs k) (none)
 loop:=fun id st k=>none
 ro:=fun f=>cond (Nat.beq f 32) [1] ([])
noncomputable def g48h(m:Nat):Hd:=g48hd (g32 m)
theorem g48Main(G32:Al S_g32){α:Type}(ls:List Lf)(k:KRe α):
  g48K (g48b G32) ls k=evFun tab (g48hd G32) Tryz.f48 (fT g48tp ls) (fB g48tp g48bp ls) k:=by kernel_rfl
theorem g48Calls(m:Nat):(g48h m).CallsOk Tryz.prog:=(cok_cons (g32Ok m) cok_nil)
theorem g48Ok(m:Nat):RowOk Tryz.prog 48 (fun{α}=>g48R (g48 m (α:=α))):=
 rwk (g48Calls m) (lo0 (by kernel_rfl))
  (fun _=>g48Main (g32 m))
end Go.Proofs.YtlmmgjngihlpeaaGreat.Sx
