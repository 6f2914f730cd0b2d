/- Functions. Printed by our own sx.py. -/
import Derived.Test.YtlmmgjngihlpeaaGreatSxV2
namespace Go.Proofs.YtlmmgjngihlpeaaGreat.Sx
open Go
set_option linter.unusedVariables false
set_option maxRecDepth 100000
abbrev S_g58(α:Type):Type:=(List Int)→(List Int)→(Bool→Option α)→Option α
abbrev S_g58l0(α:Type):Type:=(List Int)→(List Int)→(Option α)→(Option α)→Int→Option α
def g58l0b{α:Type}(a b:List Int)(c d:Option α)(e:Int→Option α)(h:Int):Option α:=cond (decide (h<(6:Int))) (if 0≤h∧h<(6:Nat) then if h.toNat<6 then if 0≤h∧h<(6:Nat) then if h.toNat<6 then cond ((List.getD a h.toNat 0) !=(List.getD b h.toNat 0)) (c) (e (IntKind.wrap .i64 (h+(1:Int)))) else none else none else none else none) (d)
def g58l0{α:Type}(a b:List Int)(c d:Option α):Nat→Int→Option α
 |0=>fun _=>none
 |m+1=>fun e=>g58l0b a b c d (g58l0 a b c d m) e
def g58l0M{α:Type}(m:Nat):S_g58l0 α:=
 fun a b c d e=>g58l0 a b c d m e
def g58l0D:LoopD:={n:=17,low:=[],sl:=[2,3,5],bl:=[1000000,1000001],tp:=[(.vl (.sv (.ptr 1000000 0))),(.vl (.sv (.ptr 1000001 0))),tI],bp:=[b6,b6],xs:=[(1,[4]),(2,[])]}
def g58l0K{α:Type}(L:S_g58l0 α)(ls:List Lf)(k:KEx α):Option α:=
 L ((lf ls 1).lst uU) ((lf ls 2).lst uU)
  (k .ret (mkSt 17 [4] [(.vl (.sv (.bool false)))] [] []))
  (k .normal (mkSt 17 [] [] [] []))
  (lf ls 0).int
def g58b{α:Type}(L58l0:Al S_g58l0)(a b:List Int)(c:Bool→Option α):Option α:=L58l0 a b (c false) (c true) (0:Int)
def g58{α:Type}(m:Nat):S_g58 α:=
 g58b (g58l0M m)
def g58tp:List TP:=[(.vl (.agg [(.seq uU 6)])),(.vl (.agg [(.seq uU 6)]))]
def g58bp:List BP:=[]
def g58K{α:Type}(G:S_g58 α)(ls:List Lf)(k:KRe α):Option α:=
 G ((lf ls 0).lst uU) ((lf ls 1).lst uU)
  (fun a=>k (.vl (.sv (.bool a))) [] [])
def g58R{α:Type}(G:S_g58 α):=rowK g58tp g58bp (g58K G)
def g58hd(L58l0:Al S_g58l0):Hd where
 call:=fun f args Bs k=>none
 loop:=fun id st k=>cond (Nat.beq id 0) (loopH g58l0D (g58l0K L58l0) st k) (none)
 ro:=fun f=>[]
def g58h(m:Nat):Hd:=g58hd (g58l0M m)
theorem g58l0Step(L58l0:Al S_g58l0){α:Type}(L:S_g58l0 α)(ls:List Lf)(k:KEx α):
  g58l0K (fun a b c d e=>g58l0b a b c d (L a b c d) e) ls k=ev tab (g58hd L58l0) (bodyAt Tryz.f58 0) (atHead g58l0D ls) (loopK g58l0D 0 (loopH g58l0D (g58l0K L)) k):=by kernel_rfl
theorem g58Main(L58l0:Al S_g58l0){α:Type}(ls:List Lf)(k:KRe α):
  g58K (g58b L58l0) ls k=evFun tab (g58hd L58l0) Tryz.f58 (fT g58tp ls) (fB g58tp g58bp ls) k:=by kernel_rfl
theorem g58Calls(m:Nat):(g58h m).CallsOk Tryz.prog:=cok_nil
theorem g58l0Ok(m:Nat)(α:Type)(st:St)(k:KEx α)(r:α)(h:(g58h m).loop 0 st k=some r):
  LoopS Tryz.prog 0 (bodyAt Tryz.f58 0) st k r:=
 lpk (F:=fun n ls k=>g58l0K (fun a b c d e=>g58l0 a b c d n e) ls k) (g58Calls m) (lb0 (by kernel_rfl))
  (fun _ _=>rfl) (fun n ls k=>g58l0Step (g58l0M m) (fun a b c d=>g58l0 a b c d n) ls k) (n:=m) h
theorem g58Ok(m:Nat):RowOk Tryz.prog 58 (fun{α}=>g58R (g58 m (α:=α))):=
 rwk (g58Calls m) (lo1 (by kernel_rfl) (g58l0Ok m))
  (fun _=>g58Main (g58l0M m))
abbrev S_g22(α:Type):Type:=Bool→(List Int)→Bool→(List Int)→(Bool→Option α)→Option α
def g22b{α:Type}(G58:Al S_g58)(a:Bool)(b:List Int)(c:Bool)(d:List Int)(e:Bool→Option α):Option α:=cond (!(a==c)) (e false) (G58 b d (fun h=>cond (!h) (e false) (e true)))
def g22{α:Type}(m:Nat):S_g22 α:=
 g22b (g58 m)
def g22tp:List TP:=[vW,vW]
def g22bp:List BP:=[]
def g22K{α:Type}(G:S_g22 α)(ls:List Lf)(k:KRe α):Option α:=
 G (lf ls 0).bool ((lf ls 1).lst uU) (lf ls 2).bool ((lf ls 3).lst uU)
  (fun a=>k (.vl (.sv (.bool a))) [] [])
def g22R{α:Type}(G:S_g22 α):=rowK g22tp g22bp (g22K G)
def g22hd(G58:Al S_g58):Hd where
 call:=fun f args Bs k=>cond (Nat.beq f 58) (g58R G58 args Bs k) (none)
 loop:=fun id st k=>none
 ro:=fun f=>[]
def g22h(m:Nat):Hd:=g22hd (g58 m)
theorem g22Main(G58:Al S_g58){α:Type}(ls:List Lf)(k:KRe α):
  g22K (g22b G58) ls k=evFun tab (g22hd G58) Tryz.f22 (fT g22tp ls) (fB g22tp g22bp ls) k:=by kernel_rfl
theorem g22Calls(m:Nat):(g22h m).CallsOk Tryz.prog:=(cok_cons (g58Ok m) cok_nil)
theorem g22Ok(m:Nat):RowOk Tryz.prog 22 (fun{α}=>g22R (g22 m (α:=α))):=
 rwk (g22Calls m) (lo0 (by kernel_rfl))
  (fun _=>g22Main (g58 m))
abbrev S_g23(α:Type):Type:=(List Int)→(Bool→Option α)→Option α
abbrev S_g23l0(α:Type):Type:=Int→(List Int)→(Option α)→Option α
def g23l0b{α:Type}(a:Int)(b:List Int)(c d:Option α):Option α:=cond (decide (a<(0:Int))) (none) (c)
def g23l0{α:Type}(a:Int)(b:List Int)(c:Option α):Nat→Option α
 |0=>none
 |m+1=>g23l0b a b c (g23l0 a b c m)
def g23l0M{α:Type}(m:Nat):S_g23l0 α:=
 fun a b c=>g23l0 a b c m
def g23l0D:LoopD:={n:=26,low:=[0],sl:=[0,1,5],bl:=[0],tp:=[(.vl (.sv .nils)),(.vl (.sv (.gsl 0 1))),tI],bp:=[(false,[(.gro (.int .i8))])],xs:=[(2,[])]}
def g23l0K{α:Type}(L:S_g23l0 α)(ls:List Lf)(k:KEx α):Option α:=
 L (lf ls 0).int ((lf ls 1).lst (.int .i8))
  (k .normal (mkSt 26 [] [] [0] [(false,[(.gro (.int .i8) ((lf ls 1).lst (.int .i8)))])]))
def g23b{α:Type}(L23l0:Al S_g23l0)(a:List Int)(b:Bool→Option α):Option α:=cond ((0:Int) !=((a.length:Nat):Int)) (b false) (L23l0 (0:Int) a (b true))
def g23{α:Type}(m:Nat):S_g23 α:=
 g23b (g23l0M m)
def g23tp:List TP:=[(.vl (.sv .nils)),(.vl (.sv (.gsl 0 1)))]
def g23bp:List BP:=[(false,[(.gro (.int .i8))])]
def g23K{α:Type}(G:S_g23 α)(ls:List Lf)(k:KRe α):Option α:=
 G ((lf ls 0).lst (.int .i8))
  (fun a=>k (.vl (.sv (.bool a))) [[(.gro (.int .i8) ((lf ls 0).lst (.int .i8)))]] [])
def g23R{α:Type}(G:S_g23 α):=rowK g23tp g23bp (g23K G)
def g23hd(L23l0:Al S_g23l0):Hd where
 call:=fun f args Bs k=>none
 loop:=fun id st k=>cond (Nat.beq id 0) (loopH g23l0D (g23l0K L23l0) st k) (none)
 ro:=fun f=>[]
def g23h(m:Nat):Hd:=g23hd (g23l0M m)
theorem g23l0Step(L23l0:Al S_g23l0){α:Type}(L:S_g23l0 α)(ls:List Lf)(k:KEx α):
  g23l0K (fun a b c=>g23l0b a b c (L a b c)) ls k=ev tab (g23hd L23l0) (bodyAt Tryz.f23 0) (atHead g23l0D ls) (loopK g23l0D 0 (loopH g23l0D (g23l0K L)) k):=by kernel_rfl
theorem g23Main(L23l0:Al S_g23l0){α:Type}(ls:List Lf)(k:KRe α):
  g23K (g23b L23l0) ls k=evFun tab (g23hd L23l0) Tryz.f23 (fT g23tp ls) (fB g23tp g23bp ls) k:=by kernel_rfl
theorem g23Calls(m:Nat):(g23h m).CallsOk Tryz.prog:=cok_nil
theorem g23l0Ok(m:Nat)(α:Type)(st:St)(k:KEx α)(r:α)(h:(g23h m).loop 0 st k=some r):
  LoopS Tryz.prog 0 (bodyAt Tryz.f23 0) st k r:=
 lpk (F:=fun n ls k=>g23l0K (fun a b c=>g23l0 a b c n) ls k) (g23Calls m) (lb0 (by kernel_rfl))
  (fun _ _=>rfl) (fun n ls k=>g23l0Step (g23l0M m) (fun a b c=>g23l0 a b c n) ls k) (n:=m) h
theorem g23Ok(m:Nat):RowOk Tryz.prog 23 (fun{α}=>g23R (g23 m (α:=α))):=
 rwk (g23Calls m) (lo1 (by kernel_rfl) (g23l0Ok m))
  (fun _=>g23Main (g23l0M m))
abbrev S_g59(α:Type):Type:=Int→Int→Int→Int→Int→Int→Int→Int→Int→Int→(Bool→Option α)→Option α
def g59b{α:Type}(a b:Int)(c d:Int)(e h:Int)(i j:Int)(l n:Int)(o:Bool→Option α):Option α:=cond (a !=h) (o false) (cond (b !=i) (o false) (cond (c !=j) (o false) (cond (d !=l) (o false) (cond (e !=n) (o false) (o true)))))
def g59{α:Type}(m:Nat):S_g59 α:=
 g59b
def g59tp:List TP:=[(.vl (.agg [(.one (.int .i8)),(.one (.int .i16)),(.one (.int .i16)),(.one (.int .i64)),(.one (.int .i64))])),(.vl (.agg [(.one (.int .i8)),(.one (.int .i16)),(.one (.int .i16)),(.one (.int .i64)),(.one (.int .i64))]))]
def g59bp:List BP:=[]
def g59K{α:Type}(G:S_g59 α)(ls:List Lf)(k:KRe α):Option α:=
 G (lf ls 0).int (lf ls 1).int (lf ls 2).int (lf ls 3).int (lf ls 4).int (lf ls 5).int (lf ls 6).int (lf ls 7).int (lf ls 8).int (lf ls 9).int
  (fun a=>k (.vl (.sv (.bool a))) [] [])
def g59R{α:Type}(G:S_g59 α):=rowK g59tp g59bp (g59K G)
def g59hd:Hd where
 call:=fun f args Bs k=>none
 loop:=fun id st k=>none
 ro:=fun f=>[]
def g59h(m:Nat):Hd:=g59hd
theorem g59Main{α:Type}(ls:List Lf)(k:KRe α):
  g59K (g59b) ls k=evFun tab (g59hd) Tryz.f59 (fT g59tp ls) (fB g59tp g59bp ls) k:=by kernel_rfl
theorem g59Calls(m:Nat):(g59h m).CallsOk Tryz.prog:=cok_nil
theorem g59Ok(m:Nat):RowOk Tryz.prog 59 (fun{α}=>g59R (g59 m (α:=α))):=
 rwk (g59Calls m) (lo0 (by kernel_rfl))
  (fun _=>g59Main)
abbrev S_g24(α:Type):Type:=Nat→Nat→Nat→Nat→Nat→Nat→Nat→Ty0→Nat→Ty0→(Bool→Option α)→Option α
abbrev S_g24l0(α:Type):Type:=Nat→Nat→Nat→Nat→Nat→Nat→Nat→Ty0→Nat→Ty0→(Option α)→(Option α)→Int→Option α
def g24l0b{α:Type}(G59:Al S_g59)(a b:Nat)(c d:Nat)(e h i:Nat)(j:Ty0)(l:Nat)(n:Ty0)(o p:Option α)(q:Int→Option α)(r:Int):Option α:=cond (decide (r<((b:Nat):Int))) (if 0≤r∧r<(b:Nat) then if(a+r.toNat)<i then if 0≤r∧r<(e:Nat) then if(d+r.toNat)<l then G59 ((List.getD j (a+r.toNat) []).headD 0) ((List.getD j (a+r.toNat) []).tail.headD 0) ((List.getD j (a+r.toNat) []).tail.tail.headD 0) ((List.getD j (a+r.toNat) []).tail.tail.tail.headD 0) ((List.getD j (a+r.toNat) []).tail.tail.tail.tail.headD 0) ((List.getD n (d+r.toNat) []).headD 0) ((List.getD n (d+r.toNat) []).tail.headD 0) ((List.getD n (d+r.toNat) []).tail.tail.headD 0) ((List.getD n (d+r.toNat) []).tail.tail.tail.headD 0) ((List.getD n (d+r.toNat) []).tail.tail.tail.tail.headD 0) (fun s=>cond (!s) (o) (q (IntKind.wrap .i64 (r+(1:Int))))) else none else none else none else none) (p)
def g24l0{α:Type}(G59:Al S_g59)(a b:Nat)(c d:Nat)(e h i:Nat)(j:Ty0)(l:Nat)(n:Ty0)(o p:Option α):Nat→Int→Option α
 |0=>fun _=>none
 |m+1=>fun q=>g24l0b G59 a b c d e h i j l n o p (g24l0 G59 a b c d e h i j l n o p m) q
def g24l0M{α:Type}(m:Nat):S_g24l0 α:=
 fun a b c d e h i j l n o p q=>g24l0 (g59 m) a b c d e h i j l n o p m q
def g24l0D:LoopD:={n:=27,low:=[0,1],sl:=[0,1,5],bl:=[0,1],tp:=[(.vl (.sv (.slc 0 0 5))),(.vl (.sv (.slc 1 0 5))),tI],bp:=[(false,[(.seqv rN)]),(false,[(.seqv rN)])],xs:=[(1,[4]),(2,[])]}
def g24l0K{α:Type}(L:S_g24l0 α)(ls:List Lf)(k:KEx α):Option α:=
 L (lf ls 0).nat (lf ls 1).nat (lf ls 2).nat (lf ls 3).nat (lf ls 4).nat (lf ls 5).nat (lf ls 7).nat ((lf ls 8).lst rN) (lf ls 9).nat ((lf ls 10).lst rN)
  (k .ret (mkSt 27 [4] [(.vl (.sv (.bool false)))] [0,1] [(false,[(.seq rN (lf ls 7).nat ((lf ls 8).lst rN))]),(false,[(.seq rN (lf ls 9).nat ((lf ls 10).lst rN))])]))
  (k .normal (mkSt 27 [] [] [0,1] [(false,[(.seq rN (lf ls 7).nat ((lf ls 8).lst rN))]),(false,[(.seq rN (lf ls 9).nat ((lf ls 10).lst rN))])]))
  (lf ls 6).int
def g24b{α:Type}(G59:Al S_g59)(L24l0:Al S_g24l0)(a b:Nat)(c d:Nat)(e h i:Nat)(j:Ty0)(l:Nat)(n:Ty0)(o:Bool→Option α):Option α:=cond (((b:Nat):Int) !=((e:Nat):Int)) (o false) (L24l0 a b c d e h i j l n (o false) (o true) (0:Int))
def g24{α:Type}(m:Nat):S_g24 α:=
 g24b (g59 m) (g24l0M m)
def g24tp:List TP:=[(.vl (.sv (.slc 0 0 5))),(.vl (.sv (.slc 1 0 5)))]
def g24bp:List BP:=[(false,[(.seqv rN)]),(false,[(.seqv rN)])]
def g24K{α:Type}(G:S_g24 α)(ls:List Lf)(k:KRe α):Option α:=
 G (lf ls 0).nat (lf ls 1).nat (lf ls 2).nat (lf ls 3).nat (lf ls 4).nat (lf ls 5).nat (lf ls 6).nat ((lf ls 7).lst rN) (lf ls 8).nat ((lf ls 9).lst rN)
  (fun a=>k (.vl (.sv (.bool a))) [[(.seq rN (lf ls 6).nat ((lf ls 7).lst rN))],[(.seq rN (lf ls 8).nat ((lf ls 9).lst rN))]] [])
def g24R{α:Type}(G:S_g24 α):=rowK g24tp g24bp (g24K G)
def g24hd(G59:Al S_g59)(L24l0:Al S_g24l0):Hd where
 call:=fun f args Bs k=>cond (Nat.beq f 59) (g59R G59 args Bs k) (none)
 loop:=fun id st k=>cond (Nat.beq id 0) (loopH g24l0D (g24l0K L24l0) st k) (none)
 ro:=fun f=>[]
def g24h(m:Nat):Hd:=g24hd (g59 m) (g24l0M m)
theorem g24l0Step(G59:Al S_g59)(L24l0:Al S_g24l0){α:Type}(L:S_g24l0 α)(ls:List Lf)(k:KEx α):
  g24l0K (fun a b c d e h i j l n o p q=>g24l0b G59 a b c d e h i j l n o p (L a b c d e h i j l n o p) q) ls k=ev tab (g24hd G59 L24l0) (bodyAt Tryz.f24 0) (atHead g24l0D ls) (loopK g24l0D 0 (loopH g24l0D (g24l0K L)) k):=by kernel_rfl
theorem g24Main(G59:Al S_g59)(L24l0:Al S_g24l0){α:Type}(ls:List Lf)(k:KRe α):
  g24K (g24b G59 L24l0) ls k=evFun tab (g24hd G59 L24l0) Tryz.f24 (fT g24tp ls) (fB g24tp g24bp ls) k:=by kernel_rfl
theorem g24Calls(m:Nat):(g24h m).CallsOk Tryz.prog:=(cok_cons (g59Ok m) cok_nil)
theorem g24l0Ok(m:Nat)(α:Type)(st:St)(k:KEx α)(r:α)(h:(g24h m).loop 0 st k=some r):
  LoopS Tryz.prog 0 (bodyAt Tryz.f24 0) st k r:=
 lpk (F:=fun n ls k=>g24l0K (fun a b c d e i j l o q s t u=>g24l0 (g59 m) a b c d e i j l o q s t n u) ls k) (g24Calls m) (lb0 (by kernel_rfl))
  (fun _ _=>rfl) (fun n ls k=>g24l0Step (g59 m) (g24l0M m) (fun a b c d e i j l o q s t=>g24l0 (g59 m) a b c d e i j l o q s t n) ls k) (n:=m) h
theorem g24Ok(m:Nat):RowOk Tryz.prog 24 (fun{α}=>g24R (g24 m (α:=α))):=
 rwk (g24Calls m) (lo1 (by kernel_rfl) (g24l0Ok m))
  (fun _=>g24Main (g59 m) (g24l0M m))
abbrev S_g25(α:Type):Type:=Nat→Nat→Nat→Int→Nat→Ty0→(Int→Ty0→Option α)→Option α
abbrev S_g25l0(α:Type):Type:=Nat→Nat→Nat→Nat→(Int→Ty0→Option α)→Int→Int→Ty0→Option α
def g25l0b{α:Type}(a b:Nat)(c d:Nat)(e:Int→Ty0→Option α)(h:Int→Int→Ty0→Option α)(i j:Int)(l:Ty0):Option α:=cond (decide (j<((b:Nat):Int))) (if 0≤j∧j<(b:Nat) then if(a+j.toNat)<d then let n:Ty0:=List.set l (a+j.toNat) [(IntKind.wrap .i8 i),(List.getD l (a+j.toNat) []).tail.headD 0,(List.getD l (a+j.toNat) []).tail.tail.headD 0,(List.getD l (a+j.toNat) []).tail.tail.tail.headD 0,(List.getD l (a+j.toNat) []).tail.tail.tail.tail.headD 0];let o:Int:=IntKind.wrap .i64 (i+(1:Int));if 0≤j∧j<(b:Nat) then if(a+j.toNat)<d then let p:Ty0:=List.set n (a+j.toNat) [(List.getD n (a+j.toNat) []).headD 0,(IntKind.wrap .i16 o),(List.getD n (a+j.toNat) []).tail.tail.headD 0,(List.getD n (a+j.toNat) []).tail.tail.tail.headD 0,(List.getD n (a+j.toNat) []).tail.tail.tail.tail.headD 0];let q:Int:=IntKind.wrap .i64 (o+(1:Int));if 0≤j∧j<(b:Nat) then if(a+j.toNat)<d then let r:Ty0:=List.set p (a+j.toNat) [(List.getD p (a+j.toNat) []).headD 0,(List.getD p (a+j.toNat) []).tail.headD 0,(IntKind.wrap .i16 q),(List.getD p (a+j.toNat) []).tail.tail.tail.headD 0,(List.getD p (a+j.toNat) []).tail.tail.tail.tail.headD 0];let s:Int:=IntKind.wrap .i64 (q+(1:Int));if 0≤j∧j<(b:Nat) then if(a+j.toNat)<d then let t:Ty0:=List.set r (a+j.toNat) [(List.getD r (a+j.toNat) []).headD 0,(List.getD r (a+j.toNat) []).tail.headD 0,(List.getD r (a+j.toNat) []).tail.tail.headD 0,s,(List.getD r (a+j.toNat) []).tail.tail.tail.tail.headD 0];let u:Int:=IntKind.wrap .i64 (s+(1:Int));if 0≤j∧j<(b:Nat) then if(a+j.toNat)<d then h (IntKind.wrap .i64 (u+(1:Int))) (IntKind.wrap .i64 (j+(1:Int))) (List.set t (a+j.toNat) [(List.getD t (a+j.toNat) []).headD 0,(List.getD t (a+j.toNat) []).tail.headD 0,(List.getD t (a+j.toNat) []).tail.tail.headD 0,(List.getD t (a+j.toNat) []).tail.tail.tail.headD 0,u]) else none else none else none else none else none else none else none else none else none else none) (e i l)
def g25l0{α:Type}(a b:Nat)(c d:Nat)(e:Int→Ty0→Option α):Nat→Int→Int→Ty0→Option α
 |0=>fun _ _ _=>none
 |m+1=>fun h i j=>g25l0b a b c d e (g25l0 a b c d e m) h i j
def g25l0M{α:Type}(m:Nat):S_g25l0 α:=
 fun a b c d e h i j=>g25l0 a b c d e m h i j
def g25l0D:LoopD:={n:=51,low:=[0],sl:=[0,1,5],bl:=[0],tp:=[(.vl (.sv (.slc 0 0 5))),tI,tI],bp:=[(true,[(.seqv rN)])],xs:=[(2,[1])]}
def g25l0K{α:Type}(L:S_g25l0 α)(ls:List Lf)(k:KEx α):Option α:=
 L (lf ls 0).nat (lf ls 1).nat (lf ls 2).nat (lf ls 5).nat
  (fun a b=>k .normal (mkSt 51 [1] [(.vl (.sv (.int .i64 a)))] [0] [(true,[(.seq rN (lf ls 5).nat b)])]))
  (lf ls 3).int (lf ls 4).int ((lf ls 6).lst rN)
def g25b{α:Type}(L25l0:Al S_g25l0)(a b c:Nat)(d:Int)(e:Nat)(h:Ty0)(i:Int→Ty0→Option α):Option α:=L25l0 a b c e (fun j l=>i j l) d (0:Int) h
def g25{α:Type}(m:Nat):S_g25 α:=
 g25b (g25l0M m)
def g25tp:List TP:=[(.vl (.sv (.slc 0 0 5))),tI]
def g25bp:List BP:=[(true,[(.seqv rN)])]
def g25K{α:Type}(G:S_g25 α)(ls:List Lf)(k:KRe α):Option α:=
 G (lf ls 0).nat (lf ls 1).nat (lf ls 2).nat (lf ls 3).int (lf ls 4).nat ((lf ls 5).lst rN)
  (fun a b=>k (.vl (.sv (.int .i64 a))) [[(.seq rN (lf ls 4).nat b)]] [])
def g25R{α:Type}(G:S_g25 α):=rowK g25tp g25bp (g25K G)
def g25hd(L25l0:Al S_g25l0):Hd where
 call:=fun f args Bs k=>none
 loop:=fun id st k=>cond (Nat.beq id 0) (loopH g25l0D (g25l0K L25l0) st k) (none)
 ro:=fun f=>[]
def g25h(m:Nat):Hd:=g25hd (g25l0M m)
theorem g25l0Step(L25l0:Al S_g25l0){α:Type}(L:S_g25l0 α)(ls:List Lf)(k:KEx α):
  g25l0K (fun a b c d e h i j=>g25l0b a b c d e (L a b c d e) h i j) ls k=ev tab (g25hd L25l0) (bodyAt Tryz.f25 0) (atHead g25l0D ls) (loopK g25l0D 0 (loopH g25l0D (g25l0K L)) k):=by kernel_rfl
theorem g25Main(L25l0:Al S_g25l0){α:Type}(ls:List Lf)(k:KRe α):
  g25K (g25b L25l0) ls k=evFun tab (g25hd L25l0) Tryz.f25 (fT g25tp ls) (fB g25tp g25bp ls) k:=by kernel_rfl
theorem g25Calls(m:Nat):(g25h m).CallsOk Tryz.prog:=cok_nil
theorem g25l0Ok(m:Nat)(α:Type)(st:St)(k:KEx α)(r:α)(h:(g25h m).loop 0 st k=some r):
  LoopS Tryz.prog 0 (bodyAt Tryz.f25 0) st k r:=
 lpk (F:=fun n ls k=>g25l0K (fun a b c d e i j l=>g25l0 a b c d e n i j l) ls k) (g25Calls m) (lb0 (by kernel_rfl))
  (fun _ _=>rfl) (fun n ls k=>g25l0Step (g25l0M m) (fun a b c d e=>g25l0 a b c d e n) ls k) (n:=m) h
theorem g25Ok(m:Nat):RowOk Tryz.prog 25 (fun{α}=>g25R (g25 m (α:=α))):=
 rwk (g25Calls m) (lo1 (by kernel_rfl) (g25l0Ok m))
  (fun _=>g25Main (g25l0M m))
abbrev S_g26(α:Type):Type:=Int→(Option α)→Option α
abbrev S_g26l0(α:Type):Type:=Int→Int→(Option α)→Option α
def g26l0b{α:Type}(a b:Int)(c d:Option α):Option α:=cond (decide (b<(0:Int))) (none) (c)
def g26l0{α:Type}(a b:Int)(c:Option α):Nat→Option α
 |0=>none
 |m+1=>g26l0b a b c (g26l0 a b c m)
def g26l0M{α:Type}(m:Nat):S_g26l0 α:=
 fun a b c=>g26l0 a b c m
def g26l0D:LoopD:={n:=20,low:=[],sl:=[0,1,5],bl:=[],tp:=[(.vl (.sv .nils)),tI,tI],bp:=[],xs:=[(2,[1])]}
def g26l0K{α:Type}(L:S_g26l0 α)(ls:List Lf)(k:KEx α):Option α:=
 L (lf ls 0).int (lf ls 1).int
  (k .normal (mkSt 20 [1] [(.vl (.sv (.int .i64 (lf ls 0).int)))] [] []))
def g26b{α:Type}(L26l0:Al S_g26l0)(a:Int)(b:Option α):Option α:=L26l0 a (0:Int) (b)
def g26{α:Type}(m:Nat):S_g26 α:=
 g26b (g26l0M m)
def g26tp:List TP:=[(.vl (.sv .nils)),tI]
def g26bp:List BP:=[]
def g26K{α:Type}(G:S_g26 α)(ls:List Lf)(k:KRe α):Option α:=
 G (lf ls 0).int
  (k (.vl (.sv (.int .i64 (lf ls 0).int))) [] [])
def g26R{α:Type}(G:S_g26 α):=rowK g26tp g26bp (g26K G)
def g26hd(L26l0:Al S_g26l0):Hd where
 call:=fun f args Bs k=>none
 loop:=fun id st k=>cond (Nat.beq id 0) (loopH g26l0D (g26l0K L26l0) st k) (none)
 ro:=fun f=>[]
def g26h(m:Nat):Hd:=g26hd (g26l0M m)
theorem g26l0Step(L26l0:Al S_g26l0){α:Type}(L:S_g26l0 α)(ls:List Lf)(k:KEx α):
  g26l0K (fun a b c=>g26l0b a b c (L a b c)) ls k=ev tab (g26hd L26l0) (bodyAt Tryz.f26 0) (atHead g26l0D ls) (loopK g26l0D 0 (loopH g26l0D (g26l0K L)) k):=by kernel_rfl
theorem g26Main(L26l0:Al S_g26l0){α:Type}(ls:List Lf)(k:KRe α):
  g26K (g26b L26l0) ls k=evFun tab (g26hd L26l0) Tryz.f26 (fT g26tp ls) (fB g26tp g26bp ls) k:=by kernel_rfl
theorem g26Calls(m:Nat):(g26h m).CallsOk Tryz.prog:=cok_nil
theorem g26l0Ok(m:Nat)(α:Type)(st:St)(k:KEx α)(r:α)(h:(g26h m).loop 0 st k=some r):
  LoopS Tryz.prog 0 (bodyAt Tryz.f26 0) st k r:=
 lpk (F:=fun n ls k=>g26l0K (fun a b c=>g26l0 a b c n) ls k) (g26Calls m) (lb0 (by kernel_rfl))
  (fun _ _=>rfl) (fun n ls k=>g26l0Step (g26l0M m) (fun a b c=>g26l0 a b c n) ls k) (n:=m) h
theorem g26Ok(m:Nat):RowOk Tryz.prog 26 (fun{α}=>g26R (g26 m (α:=α))):=
 rwk (g26Calls m) (lo1 (by kernel_rfl) (g26l0Ok m))
  (fun _=>g26Main (g26l0M m))
abbrev S_g27(α:Type):Type:=Int→(Option α)→Option α
abbrev S_g27l0(α:Type):Type:=Int→Int→(Option α)→Option α
def g27l0b{α:Type}(a b:Int)(c d:Option α):Option α:=cond (decide (b<(0:Int))) (none) (c)
def g27l0{α:Type}(a b:Int)(c:Option α):Nat→Option α
 |0=>none
 |m+1=>g27l0b a b c (g27l0 a b c m)
def g27l0M{α:Type}(m:Nat):S_g27l0 α:=
 fun a b c=>g27l0 a b c m
def g27l0D:LoopD:={n:=22,low:=[],sl:=[0,1,5],bl:=[],tp:=[(.vl (.sv .nils)),tI,tI],bp:=[],xs:=[(2,[1])]}
def g27l0K{α:Type}(L:S_g27l0 α)(ls:List Lf)(k:KEx α):Option α:=
 L (lf ls 0).int (lf ls 1).int
  (k .normal (mkSt 22 [1] [(.vl (.sv (.int .i64 (lf ls 0).int)))] [] []))
def g27b{α:Type}(L27l0:Al S_g27l0)(a:Int)(b:Option α):Option α:=L27l0 a (0:Int) (b)
def g27{α:Type}(m:Nat):S_g27 α:=
 g27b (g27l0M m)
def g27tp:List TP:=[(.vl (.sv .nils)),tI]
def g27bp:List BP:=[]
def g27K{α:Type}(G:S_g27 α)(ls:List Lf)(k:KRe α):Option α:=
 G (lf ls 0).int
  (k (.vl (.sv (.int .i64 (lf ls 0).int))) [] [])
def g27R{α:Type}(G:S_g27 α):=rowK g27tp g27bp (g27K G)
def g27hd(L27l0:Al S_g27l0):Hd where
 call:=fun f args Bs k=>none
 loop:=fun id st k=>cond (Nat.beq id 0) (loopH g27l0D (g27l0K L27l0) st k) (none)
 ro:=fun f=>[]
def g27h(m:Nat):Hd:=g27hd (g27l0M m)
theorem g27l0Step(L27l0:Al S_g27l0){α:Type}(L:S_g27l0 α)(ls:List Lf)(k:KEx α):
  g27l0K (fun a b c=>g27l0b a b c (L a b c)) ls k=ev tab (g27hd L27l0) (bodyAt Tryz.f27 0) (atHead g27l0D ls) (loopK g27l0D 0 (loopH g27l0D (g27l0K L)) k):=by kernel_rfl
theorem g27Main(L27l0:Al S_g27l0){α:Type}(ls:List Lf)(k:KRe α):
  g27K (g27b L27l0) ls k=evFun tab (g27hd L27l0) Tryz.f27 (fT g27tp ls) (fB g27tp g27bp ls) k:=by kernel_rfl
theorem g27Calls(m:Nat):(g27h m).CallsOk Tryz.prog:=cok_nil
theorem g27l0Ok(m:Nat)(α:Type)(st:St)(k:KEx α)(r:α)(h:(g27h m).loop 0 st k=some r):
  LoopS Tryz.prog 0 (bodyAt Tryz.f27 0) st k r:=
 lpk (F:=fun n ls k=>g27l0K (fun a b c=>g27l0 a b c n) ls k) (g27Calls m) (lb0 (by kernel_rfl))
  (fun _ _=>rfl) (fun n ls k=>g27l0Step (g27l0M m) (fun a b c=>g27l0 a b c n) ls k) (n:=m) h
theorem g27Ok(m:Nat):RowOk Tryz.prog 27 (fun{α}=>g27R (g27 m (α:=α))):=
 rwk (g27Calls m) (lo1 (by kernel_rfl) (g27l0Ok m))
  (fun _=>g27Main (g27l0M m))
abbrev S_g23v1(α:Type):Type:=(List Int)→(List Int)→(Bool→Option α)→Option α
abbrev S_g23v1l0(α:Type):Type:=(List Int)→(List Int)→(Option α)→(Option α)→Int→Option α
def g23v1l0b{α:Type}(a b:List Int)(c d:Option α)(e:Int→Option α)(h:Int):Option α:=cond (decide (h<((a.length:Nat):Int))) (if 0≤h∧h<(a.length:Nat) then if h.toNat<a.length then if 0≤h∧h<(b.length:Nat) then if h.toNat<b.length then cond ((List.getD a h.toNat 0) !=(List.getD b h.toNat 0)) (c) (e (IntKind.wrap .i64 (h+(1:Int)))) else none else none else none else none) (d)
def g23v1l0{α:Type}(a b:List Int)(c d:Option α):Nat→Int→Option α
 |0=>fun _=>none
 |m+1=>fun e=>g23v1l0b a b c d (g23v1l0 a b c d m) e
def g23v1l0M{α:Type}(m:Nat):S_g23v1l0 α:=
 fun a b c d e=>g23v1l0 a b c d m e
def g23v1l0D:LoopD:={n:=26,low:=[0,1],sl:=[0,1,5],bl:=[0,1],tp:=[(.vl (.sv (.gsl 0 1))),(.vl (.sv (.gsl 1 1))),tI],bp:=[(false,[(.gro (.int .i8))]),(false,[(.gro (.int .i8))])],xs:=[(1,[4]),(2,[])]}
def g23v1l0K{α:Type}(L:S_g23v1l0 α)(ls:List Lf)(k:KEx α):Option α:=
 L ((lf ls 1).lst (.int .i8)) ((lf ls 2).lst (.int .i8))
  (k .ret (mkSt 26 [4] [(.vl (.sv (.bool false)))] [0,1] [(false,[(.gro (.int .i8) ((lf ls 1).lst (.int .i8)))]),(false,[(.gro (.int .i8) ((lf ls 2).lst (.int .i8)))])]))
  (k .normal (mkSt 26 [] [] [0,1] [(false,[(.gro (.int .i8) ((lf ls 1).lst (.int .i8)))]),(false,[(.gro (.int .i8) ((lf ls 2).lst (.int .i8)))])]))
  (lf ls 0).int
def g23v1b{α:Type}(L23v1l0:Al S_g23v1l0)(a b:List Int)(c:Bool→Option α):Option α:=cond (((a.length:Nat):Int) !=((b.length:Nat):Int)) (c false) (L23v1l0 a b (c false) (c true) (0:Int))
def g23v1{α:Type}(m:Nat):S_g23v1 α:=
 g23v1b (g23v1l0M m)
def g23v1tp:List TP:=[(.vl (.sv (.gsl 0 1))),(.vl (.sv (.gsl 1 1)))]
def g23v1bp:List BP:=[(false,[(.gro (.int .i8))]),(false,[(.gro (.int .i8))])]
def g23v1K{α:Type}(G:S_g23v1 α)(ls:List Lf)(k:KRe α):Option α:=
 G ((lf ls 0).lst (.int .i8)) ((lf ls 1).lst (.int .i8))
  (fun a=>k (.vl (.sv (.bool a))) [[(.gro (.int .i8) ((lf ls 0).lst (.int .i8)))],[(.gro (.int .i8) ((lf ls 1).lst (.int .i8)))]] [])
def g23v1R{α:Type}(G:S_g23v1 α):=rowK g23v1tp g23v1bp (g23v1K G)
def g23v1hd(L23v1l0:Al S_g23v1l0):Hd where
 call:=fun f args Bs k=>none
 loop:=fun id st k=>cond (Nat.beq id 0) (loopH g23v1l0D (g23v1l0K L23v1l0) st k) (none)
 ro:=fun f=>[]
def g23v1h(m:Nat):Hd:=g23v1hd (g23v1l0M m)
theorem g23v1l0Step(L23v1l0:Al S_g23v1l0){α:Type}(L:S_g23v1l0 α)(ls:List Lf)(k:KEx α):
  g23v1l0K (fun a b c d e=>g23v1l0b a b c d (L a b c d) e) ls k=ev tab (g23v1hd L23v1l0) (bodyAt Tryz.f23 0) (atHead g23v1l0D ls) (loopK g23v1l0D 0 (loopH g23v1l0D (g23v1l0K L)) k):=by kernel_rfl
theorem g23v1Main(L23v1l0:Al S_g23v1l0){α:Type}(ls:List Lf)(k:KRe α):
  g23v1K (g23v1b L23v1l0) ls k=evFun tab (g23v1hd L23v1l0) Tryz.f23 (fT g23v1tp ls) (fB g23v1tp g23v1bp ls) k:=by kernel_rfl
theorem g23v1Calls(m:Nat):(g23v1h m).CallsOk Tryz.prog:=cok_nil
theorem g23v1l0Ok(m:Nat)(α:Type)(st:St)(k:KEx α)(r:α)(h:(g23v1h m).loop 0 st k=some r):
  LoopS Tryz.prog 0 (bodyAt Tryz.f23 0) st k r:=
 lpk (F:=fun n ls k=>g23v1l0K (fun a b c d e=>g23v1l0 a b c d n e) ls k) (g23v1Calls m) (lb0 (by kernel_rfl))
  (fun _ _=>rfl) (fun n ls k=>g23v1l0Step (g23v1l0M m) (fun a b c d=>g23v1l0 a b c d n) ls k) (n:=m) h
theorem g23v1Ok(m:Nat):RowOk Tryz.prog 23 (fun{α}=>g23v1R (g23v1 m (α:=α))):=
 rwk (g23v1Calls m) (lo1 (by kernel_rfl) (g23v1l0Ok m))
  (fun _=>g23v1Main (g23v1l0M m))
abbrev S_g26v1(α:Type):Type:=Int→(List Int)→(Int→(List Int)→Option α)→Option α
abbrev S_g26v1l0(α:Type):Type:=(Int→(List Int)→Option α)→Int→Int→(List Int)→Option α
def g26v1l0b{α:Type}(a:Int→(List Int)→Option α)(b:Int→Int→(List Int)→Option α)(c d:Int)(e:List Int):Option α:=cond (decide (d<((e.length:Nat):Int))) (if 0≤d∧d<(e.length:Nat) then if d.toNat<e.length then b (IntKind.wrap .i64 (c+(1:Int))) (IntKind.wrap .i64 (d+(1:Int))) (List.set e (d.toNat) (IntKind.wrap .i8 c)) else none else none) (a c e)
def g26v1l0{α:Type}(a:Int→(List Int)→Option α):Nat→Int→Int→(List Int)→Option α
 |0=>fun _ _ _=>none
 |m+1=>fun b c d=>g26v1l0b a (g26v1l0 a m) b c d
def g26v1l0M{α:Type}(m:Nat):S_g26v1l0 α:=
 fun a b c d=>g26v1l0 a m b c d
def g26v1l0D:LoopD:={n:=20,low:=[0],sl:=[0,1,5],bl:=[0],tp:=[(.vl (.sv (.gsl 0 1))),tI,tI],bp:=[(true,[(.gro (.int .i8))])],xs:=[(2,[1])]}
def g26v1l0K{α:Type}(L:S_g26v1l0 α)(ls:List Lf)(k:KEx α):Option α:=
 L
  (fun a b=>k .normal (mkSt 20 [1] [(.vl (.sv (.int .i64 a)))] [0] [(true,[(.gro (.int .i8) b)])]))
  (lf ls 0).int (lf ls 1).int ((lf ls 2).lst (.int .i8))
def g26v1b{α:Type}(L26v1l0:Al S_g26v1l0)(a:Int)(b:List Int)(c:Int→(List Int)→Option α):Option α:=L26v1l0 (fun d e=>c d e) a (0:Int) b
def g26v1{α:Type}(m:Nat):S_g26v1 α:=
 g26v1b (g26v1l0M m)
def g26v1tp:List TP:=[(.vl (.sv (.gsl 0 1))),tI]
def g26v1bp:List BP:=[(true,[(.gro (.int .i8))])]
def g26v1K{α:Type}(G:S_g26v1 α)(ls:List Lf)(k:KRe α):Option α:=
 G (lf ls 0).int ((lf ls 1).lst (.int .i8))
  (fun a b=>k (.vl (.sv (.int .i64 a))) [[(.gro (.int .i8) b)]] [])
def g26v1R{α:Type}(G:S_g26v1 α):=rowK g26v1tp g26v1bp (g26v1K G)
def g26v1hd(L26v1l0:Al S_g26v1l0):Hd where
 call:=fun f args Bs k=>none
 loop:=fun id st k=>cond (Nat.beq id 0) (loopH g26v1l0D (g26v1l0K L26v1l0) st k) (none)
 ro:=fun f=>[]
def g26v1h(m:Nat):Hd:=g26v1hd (g26v1l0M m)
theorem g26v1l0Step(L26v1l0:Al S_g26v1l0){α:Type}(L:S_g26v1l0 α)(ls:List Lf)(k:KEx α):
  g26v1l0K (fun a b c d=>g26v1l0b a (L a) b c d) ls k=ev tab (g26v1hd L26v1l0) (bodyAt Tryz.f26 0) (atHead g26v1l0D ls) (loopK g26v1l0D 0 (loopH g26v1l0D (g26v1l0K L)) k):=by kernel_rfl
theorem g26v1Main(L26v1l0:Al S_g26v1l0){α:Type}(ls:List Lf)(k:KRe α):
  g26v1K (g26v1b L26v1l0) ls k=evFun tab (g26v1hd L26v1l0) Tryz.f26 (fT g26v1tp ls) (fB g26v1tp g26v1bp ls) k:=by kernel_rfl
theorem g26v1Calls(m:Nat):(g26v1h m).CallsOk Tryz.prog:=cok_nil
theorem g26v1l0Ok(m:Nat)(α:Type)(st:St)(k:KEx α)(r:α)(h:(g26v1h m).loop 0 st k=some r):
  LoopS Tryz.prog 0 (bodyAt Tryz.f26 0) st k r:=
 lpk (F:=fun n ls k=>g26v1l0K (fun a b c d=>g26v1l0 a n b c d) ls k) (g26v1Calls m) (lb0 (by kernel_rfl))
  (fun _ _=>rfl) (fun n ls k=>g26v1l0Step (g26v1l0M m) (fun a=>g26v1l0 a n) ls k) (n:=m) h
theorem g26v1Ok(m:Nat):RowOk Tryz.prog 26 (fun{α}=>g26v1R (g26v1 m (α:=α))):=
 rwk (g26v1Calls m) (lo1 (by kernel_rfl) (g26v1l0Ok m))
  (fun _=>g26v1Main (g26v1l0M m))
abbrev S_g27v1(α:Type):Type:=Int→(List Int)→(Int→Option α)→Option α
abbrev S_g27v1l0(α:Type):Type:=(List Int)→(Option α)→(Int→Option α)→Int→Int→Option α
def g27v1l0b{α:Type}(a:List Int)(b:Option α)(c:Int→Option α)(d:Int→Int→Option α)(e h:Int):Option α:=cond (decide (h<((a.length:Nat):Int))) (if 0≤h∧h<(a.length:Nat) then if h.toNat<a.length then cond ((List.getD a h.toNat 0) !=(IntKind.wrap .i8 e)) (b) (d (IntKind.wrap .i64 (e+(1:Int))) (IntKind.wrap .i64 (h+(1:Int)))) else none else none) (c e)
def g27v1l0{α:Type}(a:List Int)(b:Option α)(c:Int→Option α):Nat→Int→Int→Option α
 |0=>fun _ _=>none
 |m+1=>fun d e=>g27v1l0b a b c (g27v1l0 a b c m) d e
def g27v1l0M{α:Type}(m:Nat):S_g27v1l0 α:=
 fun a b c d e=>g27v1l0 a b c m d e
def g27v1l0D:LoopD:={n:=22,low:=[0],sl:=[0,1,5],bl:=[0],tp:=[(.vl (.sv (.gsl 0 1))),tI,tI],bp:=[(false,[(.gro (.int .i8))])],xs:=[(1,[4]),(2,[1])]}
def g27v1l0K{α:Type}(L:S_g27v1l0 α)(ls:List Lf)(k:KEx α):Option α:=
 L ((lf ls 2).lst (.int .i8))
  (k .ret (mkSt 22 [4] [(.vl (.sv (.int .i64 (-1:Int))))] [0] [(false,[(.gro (.int .i8) ((lf ls 2).lst (.int .i8)))])]))
  (fun a=>k .normal (mkSt 22 [1] [(.vl (.sv (.int .i64 a)))] [0] [(false,[(.gro (.int .i8) ((lf ls 2).lst (.int .i8)))])]))
  (lf ls 0).int (lf ls 1).int
def g27v1b{α:Type}(L27v1l0:Al S_g27v1l0)(a:Int)(b:List Int)(c:Int→Option α):Option α:=L27v1l0 b (c (-1:Int)) (fun d=>c d) a (0:Int)
def g27v1{α:Type}(m:Nat):S_g27v1 α:=
 g27v1b (g27v1l0M m)
def g27v1tp:List TP:=[(.vl (.sv (.gsl 0 1))),tI]
def g27v1bp:List BP:=[(false,[(.gro (.int .i8))])]
def g27v1K{α:Type}(G:S_g27v1 α)(ls:List Lf)(k:KRe α):Option α:=
 G (lf ls 0).int ((lf ls 1).lst (.int .i8))
  (fun a=>k (.vl (.sv (.int .i64 a))) [[(.gro (.int .i8) ((lf ls 1).lst (.int .i8)))]] [])
def g27v1R{α:Type}(G:S_g27v1 α):=rowK g27v1tp g27v1bp (g27v1K G)
def g27v1hd(L27v1l0:Al S_g27v1l0):Hd where
 call:=fun f args Bs k=>none
 loop:=fun id st k=>cond (Nat.beq id 0) (loopH g27v1l0D (g27v1l0K L27v1l0) st k) (none)
 ro:=fun f=>[]
def g27v1h(m:Nat):Hd:=g27v1hd (g27v1l0M m)
theorem g27v1l0Step(L27v1l0:Al S_g27v1l0){α:Type}(L:S_g27v1l0 α)(ls:List Lf)(k:KEx α):
  g27v1l0K (fun a b c d e=>g27v1l0b a b c (L a b c) d e) ls k=ev tab (g27v1hd L27v1l0) (bodyAt Tryz.f27 0) (atHead g27v1l0D ls) (loopK g27v1l0D 0 (loopH g27v1l0D (g27v1l0K L)) k):=by kernel_rfl
theorem g27v1Main(L27v1l0:Al S_g27v1l0){α:Type}(ls:List Lf)(k:KRe α):
  g27v1K (g27v1b L27v1l0) ls k=evFun tab (g27v1hd L27v1l0) Tryz.f27 (fT g27v1tp ls) (fB g27v1tp g27v1bp ls) k:=by kernel_rfl
theorem g27v1Calls(m:Nat):(g27v1h m).CallsOk Tryz.prog:=cok_nil
theorem g27v1l0Ok(m:Nat)(α:Type)(st:St)(k:KEx α)(r:α)(h:(g27v1h m).loop 0 st k=some r):
  LoopS Tryz.prog 0 (bodyAt Tryz.f27 0) st k r:=
 lpk (F:=fun n ls k=>g27v1l0K (fun a b c d e=>g27v1l0 a b c n d e) ls k) (g27v1Calls m) (lb0 (by kernel_rfl))
  (fun _ _=>rfl) (fun n ls k=>g27v1l0Step (g27v1l0M m) (fun a b c=>g27v1l0 a b c n) ls k) (n:=m) h
theorem g27v1Ok(m:Nat):RowOk Tryz.prog 27 (fun{α}=>g27v1R (g27v1 m (α:=α))):=
 rwk (g27v1Calls m) (lo1 (by kernel_rfl) (g27v1l0Ok m))
  (fun _=>g27v1Main (g27v1l0M m))
abbrev S_g4(α:Type):Type:=Nat→Nat→Nat→Int→Int→Nat→Ty0→(Bool→Option α)→Option α
def g4b{α:Type}(G20:Al S_g20)(G21:Al S_g21)(G17:Al S_g17)(G16:Al S_g16)(G22:Al S_g22)(G23:Al S_g23)(G24:Al S_g24)(G25:Al S_g25)(G26:Al S_g26)(G27:Al S_g27)(G23v1:Al S_g23v1)(G26v1:Al S_g26v1)(G27v1:Al S_g27v1)(a b c:Nat)(d e:Int)(h:Nat)(i:Ty0)(j:Bool→Option α):Option α:=G20 a b c (1048576:Int) h i (fun l=>cond (decide (l<(0:Int))) (j true) (G21 a b c h i (fun n=>G17 0 b b d e b n (fun o p q r=>G21 a b c h i (fun s=>G16 0 b b d e b s (fun t u=>G22 false t o p (fun v=>cond (!v) (j false) (G23 r (fun w=>cond (!w) (j false) (cond (u !=q) (j false) (G21 a b c h i (fun x=>G24 0 b b 0 b b b s b x (fun y=>cond (!y) (j false) (G25 0 b b (1:Int) b s (fun z a0=>cond (decide (z<(0:Int))) (j false) (G22 false t o p (fun b0=>cond (!b0) (j false) (G23 r (fun c0=>cond (!c0) (j false) (cond (u !=q) (j false) (G26 (1:Int) (G27 (1:Int) (G21 a b c h i (fun d0=>G16 0 b b d e b d0 (fun e0 h0=>G22 false e0 o p (fun i0=>cond (!i0) (j false) (G23 r (fun j0=>cond (!j0) (j false) (cond (h0 !=q) (j false) (G27 (1:Int) (j true))))))) (fun l0 n0 o0=>G22 l0 n0 o p (fun p0=>cond (!p0) (j false) (G23v1 o0 r (fun q0=>cond (!q0) (j false) (cond ((0:Int) !=q) (j false) (G27 (1:Int) (j true)))))))))))))))))))))))))) (fun r0 s0 t0=>G22 r0 s0 o p (fun u0=>cond (!u0) (j false) (G23v1 t0 r (fun v0=>cond (!v0) (j false) (cond ((0:Int) !=q) (j false) (G21 a b c h i (fun w0=>G24 0 b b 0 b b b s b w0 (fun x0=>cond (!x0) (j false) (G25 0 b b (1:Int) b s (fun y0 z0=>cond (decide (y0<(0:Int))) (j false) (G22 r0 s0 o p (fun a1=>cond (!a1) (j false) (G23v1 t0 r (fun b1=>cond (!b1) (j false) (cond ((0:Int) !=q) (j false) (G26v1 (1:Int) t0 (fun c1 d1=>G27v1 (1:Int) d1 (fun e1=>cond (decide (e1<(0:Int))) (j false) (cond (e1 !=c1) (j false) (G21 a b c h i (fun h1=>G16 0 b b d e b h1 (fun i1 j1=>G22 false i1 o p (fun l1=>cond (!l1) (j false) (G23 r (fun n1=>cond (!n1) (j false) (cond (j1 !=q) (j false) (G27v1 (1:Int) d1 (fun o1=>cond (decide (o1<(0:Int))) (j false) (cond (o1 !=c1) (j false) (j true))))))))) (fun p1 q1 r1=>G22 p1 q1 o p (fun s1=>cond (!s1) (j false) (G23v1 r1 r (fun t1=>cond (!t1) (j false) (cond ((0:Int) !=q) (j false) (G27v1 (1:Int) d1 (fun u1=>cond (decide (u1<(0:Int))) (j false) (cond (u1 !=c1) (j false) (j true)))))))))))))))))))))))))))))))))))
noncomputable def g4{α:Type}(m:Nat):S_g4 α:=
 g4b (g20 m) (g21 m) (g17 m) (g16 m) (g22 m) (g23 m) (g24 m) (g25 m) (g26 m) (g27 m) (g23v1 m) (g26v1 m) (g27v1 m)
def g4tp:List TP:=[(.vl (.sv (.sla 0 0 5))),tI,tI]
def g4bp:List BP:=[(false,[(.seqv rN)])]
def g4K{α:Type}(G:S_g4 α)(ls:List Lf)(k:KRe α):Option α:=
 G (lf ls 0).nat (lf ls 1).nat (lf ls 2).nat (lf ls 3).int (lf ls 4).int (lf ls 5).nat ((lf ls 6).lst rN)
  (fun a=>k (.vl (.sv (.bool a))) [[(.seq rN (lf ls 5).nat ((lf ls 6).lst rN))]] [])
def g4hd(G20:Al S_g20)(G21:Al S_g21)(G17:Al S_g17)(G16:Al S_g16)(G22:Al S_g22)(G23:Al S_g23)(G24:Al S_g24)(G25:Al S_g25)(G26:Al S_g26)(G27:Al S_g27)(G23v1:Al S_g23v1)(G26v1:Al S_g26v1)(G27v1:Al S_g27v1):Hd where
 call:=fun f args Bs k=>cond (Nat.beq f 20) (g20R G20 args Bs k) (cond (Nat.beq f 21) (g21R G21 args Bs k) (cond (Nat.beq f 17) (g17R G17 args Bs k) (cond (Nat.beq f 16) (g16R G16 args Bs k) (cond (Nat.beq f 22) (g22R G22 args Bs k) (cond (Nat.beq f 23) (rowE g23tp g23bp (g23K G23) (g23v1R G23v1) args Bs k) (cond (Nat.beq f 24) (g24R G24 args Bs k) (cond (Nat.beq f 25) (g25R G25 args Bs k) (cond (Nat.beq f 26) (rowE g26tp g26bp (g26K G26) (g26v1R G26v1) args Bs k) (cond (Nat.beq f 27) (rowE g27tp g27bp (g27K G27) (g27v1R G27v1) args Bs k) (none))))))))))
 loop:=fun id st k=>none
 ro:=fun f=>cond (Nat.beq f 16) [0] (cond (Nat.beq f 17) [0] (cond (Nat.beq f 20) [0] (cond (Nat.beq f 21) [0] (cond (Nat.beq f 23) [0,1] (cond (Nat.beq f 24) [0,1] (cond (Nat.beq f 27) [0] ([])))))))
noncomputable def g4h(m:Nat):Hd:=g4hd (g20 m) (g21 m) (g17 m) (g16 m) (g22 m) (g23 m) (g24 m) (g25 m) (g26 m) (g27 m) (g23v1 m) (g26v1 m) (g27v1 m)
theorem g4Main(G20:Al S_g20)(G21:Al S_g21)(G17:Al S_g17)(G16:Al S_g16)(G22:Al S_g22)(G23:Al S_g23)(G24:Al S_g24)(G25:Al S_g25)(G26:Al S_g26)(G27:Al S_g27)(G23v1:Al S_g23v1)(G26v1:Al S_g26v1)(G27v1:Al S_g27v1){α:Type}(ls:List Lf)(k:KRe α):
  g4K (g4b G20 G21 G17 G16 G22 G23 G24 G25 G26 G27 G23v1 G26v1 G27v1) ls k=evFun tab (g4hd G20 G21 G17 G16 G22 G23 G24 G25 G26 G27 G23v1 G26v1 G27v1) Tryz.f4 (fT g4tp ls) (fB g4tp g4bp ls) k:=by kernel_rfl
theorem g4Calls(m:Nat):(g4h m).CallsOk Tryz.prog:=(cok_cons (g20Ok m) (cok_cons (g21Ok m) (cok_cons (g17Ok m) (cok_cons (g16Ok m) (cok_cons (g22Ok m) (cok_cons (row_else (g23Ok m) (g23v1Ok m)) (cok_cons (g24Ok m) (cok_cons (g25Ok m) (cok_cons (row_else (g26Ok m) (g26v1Ok m)) (cok_cons (row_else (g27Ok m) (g27v1Ok m)) cok_nil))))))))))
theorem g4Fn(m:Nat):FnOk Tryz.prog 4 g4tp g4bp (fun{α}=>g4K (g4 m (α:=α))):=
 fnk (g4Calls m) (lo0 (by kernel_rfl))
  (fun _=>g4Main (g20 m) (g21 m) (g17 m) (g16 m) (g22 m) (g23 m) (g24 m) (g25 m) (g26 m) (g27 m) (g23v1 m) (g26v1 m) (g27v1 m))
end Go.Proofs.YtlmmgjngihlpeaaGreat.Sx
