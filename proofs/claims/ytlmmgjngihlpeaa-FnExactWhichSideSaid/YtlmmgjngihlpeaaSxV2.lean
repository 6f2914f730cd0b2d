/- Functions. Printed by our own sx.py. -/
import Derived.Test.YtlmmgjngihlpeaaSxV1
namespace Go.Proofs.Ytlmmgjngihlpeaa.Sx
open Go
set_option linter.unusedVariables false
set_option maxRecDepth 100000
abbrev S_g128(α:Type):Type:=Int→Int→Int→(Bool→Option α)→Option α
def g128b{α:Type}(G68:Al S_g68)(a b c:Int)(d:Bool→Option α):Option α:=cond (a==(1:Int)) (G68 b (-1000000000:Int) (1000000000:Int) (fun e=>cond e (G68 c (1:Int) (1000000000:Int) (fun h=>d h)) (d false))) (cond (b==(0:Int)) (d (c==(0:Int))) (d false))
def g128{α:Type}(m:Nat):S_g128 α:=
 g128b (g68 m)
def g128tp:List TP:=[(.vl (.sv (.int .i8))),tI,tI]
def g128bp:List BP:=[]
def g128K{α:Type}(G:S_g128 α)(ls:List Lf)(k:KRe α):Option α:=
 G (lf ls 0).int (lf ls 1).int (lf ls 2).int
  (fun a=>k (.vl (.sv (.bool a))) [] [])
def g128R{α:Type}(G:S_g128 α):=rowK g128tp g128bp (g128K G)
def g128hd(G68:Al S_g68):Hd where
 call:=fun f args Bs k=>cond (Nat.beq f 68) (g68R G68 args Bs k) (none)
 loop:=fun id st k=>none
 ro:=fun f=>[]
def g128h(m:Nat):Hd:=g128hd (g68 m)
theorem g128Main(G68:Al S_g68){α:Type}(ls:List Lf)(k:KRe α):
  g128K (g128b G68) ls k=evFun tab (g128hd G68) Try.f128 (fT g128tp ls) (fB g128tp g128bp ls) k:=by kernel_rfl
theorem g128Calls(m:Nat):(g128h m).CallsOk Try.prog:=(cok_cons (g68Ok m) cok_nil)
theorem g128Ok(m:Nat):RowOk Try.prog 128 (fun{α}=>g128R (g128 m (α:=α))):=
 rwk (g128Calls m) (lo0 (by kernel_rfl))
  (fun _=>g128Main (g68 m))
abbrev S_g129(α:Type):Type:=Int→Int→Bool→(Bool→Option α)→Option α
def g129b{α:Type}(a b:Int)(c:Bool)(d:Bool→Option α):Option α:=cond (!c) (d (a==(0:Int))) (cond (decide (a≥(0:Int))) (d (decide ((IntKind.wrap .i64 a)<b))) (d false))
def g129{α:Type}(m:Nat):S_g129 α:=
 g129b
def g129tp:List TP:=[(.vl (.sv (.int .i16))),tI,(.vl (.sv .bool))]
def g129bp:List BP:=[]
def g129K{α:Type}(G:S_g129 α)(ls:List Lf)(k:KRe α):Option α:=
 G (lf ls 0).int (lf ls 1).int (lf ls 2).bool
  (fun a=>k (.vl (.sv (.bool a))) [] [])
def g129R{α:Type}(G:S_g129 α):=rowK g129tp g129bp (g129K G)
def g129hd:Hd where
 call:=fun f args Bs k=>none
 loop:=fun id st k=>none
 ro:=fun f=>[]
def g129h(m:Nat):Hd:=g129hd
theorem g129Main{α:Type}(ls:List Lf)(k:KRe α):
  g129K (g129b) ls k=evFun tab (g129hd) Try.f129 (fT g129tp ls) (fB g129tp g129bp ls) k:=by kernel_rfl
theorem g129Calls(m:Nat):(g129h m).CallsOk Try.prog:=cok_nil
theorem g129Ok(m:Nat):RowOk Try.prog 129 (fun{α}=>g129R (g129 m (α:=α))):=
 rwk (g129Calls m) (lo0 (by kernel_rfl))
  (fun _=>g129Main)
abbrev S_g113(α:Type):Type:=Nat→Nat→Nat→Nat→Ty0→(Bool→Option α)→Option α
abbrev S_g113l0(α:Type):Type:=Nat→Nat→Nat→Int→Nat→Ty0→(Option α)→(Option α)→Int→Option α
def g113l0b{α:Type}(G127:Al S_g127)(G128:Al S_g128)(G129:Al S_g129)(a b c:Nat)(d:Int)(e:Nat)(h:Ty0)(i j:Option α)(l:Int→Option α)(n:Int):Option α:=cond (decide (n<d)) (if 0≤n∧n<(b:Nat) then if(a+n.toNat)<e then let o:Int:=(List.getD h (a+n.toNat) []).headD 0;G127 o (fun p q r=>cond (decide (o<(1:Int))) (i) (cond (decide (o>(12:Int))) (i) (G128 o ((List.getD h (a+n.toNat) []).tail.tail.tail.headD 0) ((List.getD h (a+n.toNat) []).tail.tail.tail.tail.headD 0) (fun s=>cond (!s) (i) (G129 ((List.getD h (a+n.toNat) []).tail.headD 0) n p (fun t=>cond (!t) (i) (G129 ((List.getD h (a+n.toNat) []).tail.tail.headD 0) n q (fun u=>cond (!u) (i) (l (IntKind.wrap .i64 (n+(1:Int)))))))))))) else none else none) (j)
def g113l0{α:Type}(G127:Al S_g127)(G128:Al S_g128)(G129:Al S_g129)(a b c:Nat)(d:Int)(e:Nat)(h:Ty0)(i j:Option α):Nat→Int→Option α
 |0=>fun _=>none
 |m+1=>fun l=>g113l0b G127 G128 G129 a b c d e h i j (g113l0 G127 G128 G129 a b c d e h i j m) l
def g113l0M{α:Type}(m:Nat):S_g113l0 α:=
 fun a b c d e h i j l=>g113l0 (g127 m) (g128 m) (g129 m) a b c d e h i j m l
def g113l0D:LoopD:={n:=65,low:=[0],sl:=[16,17,18],bl:=[0],tp:=[(.vl (.sv (.slc 0 0 5))),tI,tI],bp:=[(false,[(.seqv rN)])],xs:=[(1,[2]),(2,[])]}
def g113l0K{α:Type}(L:S_g113l0 α)(ls:List Lf)(k:KEx α):Option α:=
 L (lf ls 0).nat (lf ls 1).nat (lf ls 2).nat (lf ls 3).int (lf ls 5).nat ((lf ls 6).lst rN)
  (k .ret (mkSt 65 [2] [(.vl (.sv (.bool false)))] [0] [(false,[(.seq rN (lf ls 5).nat ((lf ls 6).lst rN))])]))
  (k .normal (mkSt 65 [] [] [0] [(false,[(.seq rN (lf ls 5).nat ((lf ls 6).lst rN))])]))
  (lf ls 4).int
def g113b{α:Type}(G127:Al S_g127)(G128:Al S_g128)(G129:Al S_g129)(L113l0:Al S_g113l0)(a b:Nat)(c d:Nat)(e:Ty0)(h:Bool→Option α):Option α:=cond (decide (((b:Nat):Int)<(1:Int))) (h false) (cond (decide (((b:Nat):Int)>(40:Int))) (h false) (L113l0 a b c ((b:Nat):Int) d e (h false) (h true) (0:Int)))
def g113{α:Type}(m:Nat):S_g113 α:=
 g113b (g127 m) (g128 m) (g129 m) (g113l0M m)
def g113tp:List TP:=[(.vl (.sv (.slc 0 0 5)))]
def g113bp:List BP:=[(false,[(.seqv rN)])]
def g113K{α:Type}(G:S_g113 α)(ls:List Lf)(k:KRe α):Option α:=
 G (lf ls 0).nat (lf ls 1).nat (lf ls 2).nat (lf ls 3).nat ((lf ls 4).lst rN)
  (fun a=>k (.vl (.sv (.bool a))) [[(.seq rN (lf ls 3).nat ((lf ls 4).lst rN))]] [])
def g113R{α:Type}(G:S_g113 α):=rowK g113tp g113bp (g113K G)
def g113hd(G127:Al S_g127)(G128:Al S_g128)(G129:Al S_g129)(L113l0:Al S_g113l0):Hd where
 call:=fun f args Bs k=>cond (Nat.beq f 127) (g127R G127 args Bs k) (cond (Nat.beq f 128) (g128R G128 args Bs k) (cond (Nat.beq f 129) (g129R G129 args Bs k) (none)))
 loop:=fun id st k=>cond (Nat.beq id 0) (loopH g113l0D (g113l0K L113l0) st k) (none)
 ro:=fun f=>[]
def g113h(m:Nat):Hd:=g113hd (g127 m) (g128 m) (g129 m) (g113l0M m)
theorem g113l0Step(G127:Al S_g127)(G128:Al S_g128)(G129:Al S_g129)(L113l0:Al S_g113l0){α:Type}(L:S_g113l0 α)(ls:List Lf)(k:KEx α):
  g113l0K (fun a b c d e h i j l=>g113l0b G127 G128 G129 a b c d e h i j (L a b c d e h i j) l) ls k=ev tab (g113hd G127 G128 G129 L113l0) (bodyAt Try.f113 0) (atHead g113l0D ls) (loopK g113l0D 0 (loopH g113l0D (g113l0K L)) k):=by kernel_rfl
theorem g113Main(G127:Al S_g127)(G128:Al S_g128)(G129:Al S_g129)(L113l0:Al S_g113l0){α:Type}(ls:List Lf)(k:KRe α):
  g113K (g113b G127 G128 G129 L113l0) ls k=evFun tab (g113hd G127 G128 G129 L113l0) Try.f113 (fT g113tp ls) (fB g113tp g113bp ls) k:=by kernel_rfl
theorem g113Calls(m:Nat):(g113h m).CallsOk Try.prog:=(cok_cons (g127Ok m) (cok_cons (g128Ok m) (cok_cons (g129Ok m) cok_nil)))
theorem g113l0Ok(m:Nat)(α:Type)(st:St)(k:KEx α)(r:α)(h:(g113h m).loop 0 st k=some r):
  LoopS Try.prog 0 (bodyAt Try.f113 0) st k r:=
 lpk (F:=fun n ls k=>g113l0K (fun a b c d e i j l o=>g113l0 (g127 m) (g128 m) (g129 m) a b c d e i j l n o) ls k) (g113Calls m) (lb0 (by kernel_rfl))
  (fun _ _=>rfl) (fun n ls k=>g113l0Step (g127 m) (g128 m) (g129 m) (g113l0M m) (fun a b c d e i j l=>g113l0 (g127 m) (g128 m) (g129 m) a b c d e i j l n) ls k) (n:=m) h
theorem g113Ok(m:Nat):RowOk Try.prog 113 (fun{α}=>g113R (g113 m (α:=α))):=
 rwk (g113Calls m) (lo1 (by kernel_rfl) (g113l0Ok m))
  (fun _=>g113Main (g127 m) (g128 m) (g129 m) (g113l0M m))
abbrev S_g115(α:Type):Type:=Nat→Nat→Nat→Nat→Ty0→(Ty4→Ty0→Option α)→Option α
def g115b{α:Type}(a b:Nat)(c d:Nat)(e:Ty0)(h:Ty4→Ty0→Option α):Option α:=h [] []
def g115{α:Type}(m:Nat):S_g115 α:=
 g115b
def g115tp:List TP:=[(.vl (.sv (.slc 0 0 5)))]
def g115bp:List BP:=[(false,[(.seqv rN)])]
def g115K{α:Type}(G:S_g115 α)(ls:List Lf)(k:KRe α):Option α:=
 G (lf ls 0).nat (lf ls 1).nat (lf ls 2).nat (lf ls 3).nat ((lf ls 4).lst rN)
  (fun c d=>k (.vl (.sv (.ptr 1 0))) [[(.seq rN (lf ls 3).nat ((lf ls 4).lst rN))]] [[(.one (.bool false)),(.one (.slc 0 0 5 (lf ls 0).nat (lf ls 1).nat (lf ls 2).nat)),(.one (.mpp 2)),(.one (.gsl 3 2)),(.one (.int .i64 (0:Int)))],[(.mp rP mW c)],[(.gro rP d)]])
def g115R{α:Type}(G:S_g115 α):=rowK g115tp g115bp (g115K G)
def g115hd:Hd where
 call:=fun f args Bs k=>none
 loop:=fun id st k=>none
 ro:=fun f=>[]
def g115h(m:Nat):Hd:=g115hd
theorem g115Main{α:Type}(ls:List Lf)(k:KRe α):
  g115K (g115b) ls k=evFun tab (g115hd) Try.f115 (fT g115tp ls) (fB g115tp g115bp ls) k:=by kernel_rfl
theorem g115Calls(m:Nat):(g115h m).CallsOk Try.prog:=cok_nil
theorem g115Ok(m:Nat):RowOk Try.prog 115 (fun{α}=>g115R (g115 m (α:=α))):=
 rwk (g115Calls m) (lo0 (by kernel_rfl))
  (fun _=>g115Main)
abbrev S_g81(α:Type):Type:=Bool→Nat→Nat→Nat→Int→Nat→Ty0→Ty4→Ty0→(Bool→Int→Option α)→Option α
def g81b{α:Type}(a:Bool)(b c d:Nat)(e:Int)(h:Nat)(i:Ty0)(j:Ty4)(l:Ty0)(n:Bool→Int→Option α):Option α:=cond (e==(0:Int)) (cond a (n true (3:Int)) (n (e !=(0:Int)) e)) (n (e !=(0:Int)) e)
def g81{α:Type}(m:Nat):S_g81 α:=
 g81b
def g81tp:List TP:=[(.vl (.sv (.ptr 0 0)))]
def g81bp:List BP:=[bA,(false,[(.seqv rN)]),(false,[(.mp rP mW)]),(false,[(.gro rP)])]
def g81K{α:Type}(G:S_g81 α)(ls:List Lf)(k:KRe α):Option α:=
 G (lf ls 0).bool (lf ls 1).nat (lf ls 2).nat (lf ls 3).nat (lf ls 4).int (lf ls 5).nat ((lf ls 6).lst rN) ((lf ls 7).map rP mW) ((lf ls 8).lst rP)
  (fun c d=>k (.vl (.sv (.bool c))) [[(.one (.bool (lf ls 0).bool)),(.one (.slc 1 0 5 (lf ls 1).nat (lf ls 2).nat (lf ls 3).nat)),(.one (.mpp 2)),(.one (.gsl 3 2)),(.one (.int .i64 d))],[(.seq rN (lf ls 5).nat ((lf ls 6).lst rN))],[(.mp rP mW ((lf ls 7).map rP mW))],[(.gro rP ((lf ls 8).lst rP))]] [])
def g81R{α:Type}(G:S_g81 α):=rowK g81tp g81bp (g81K G)
def g81hd:Hd where
 call:=fun f args Bs k=>none
 loop:=fun id st k=>none
 ro:=fun f=>[]
def g81h(m:Nat):Hd:=g81hd
theorem g81Main{α:Type}(ls:List Lf)(k:KRe α):
  g81K (g81b) ls k=evFun tab (g81hd) Try.f81 (fT g81tp ls) (fB g81tp g81bp ls) k:=by kernel_rfl
theorem g81Calls(m:Nat):(g81h m).CallsOk Try.prog:=cok_nil
theorem g81Ok(m:Nat):RowOk Try.prog 81 (fun{α}=>g81R (g81 m (α:=α))):=
 rwk (g81Calls m) (lo0 (by kernel_rfl))
  (fun _=>g81Main)
abbrev S_g69v1(α:Type):Type:=Bool→(List Int)→Int→Bool→Nat→Nat→Nat→Int→Nat→Ty0→Ty4→Ty0→(Bool→(List Int)→Bool→Option α)→Option α
def g69v1b{α:Type}(G107:Al S_g107)(G108:Al S_g108)(G64:Al S_g64)(a:Bool)(b:List Int)(c:Int)(d:Bool)(e h i:Nat)(j:Int)(l:Nat)(n:Ty0)(o:Ty4)(p:Ty0)(q:Bool→(List Int)→Bool→Option α):Option α:=cond (decide (c>(191:Int))) (q false [0,0,0,0,0,0] true) (G107 b (fun r=>cond (decide ((IntKind.wrap .i64 (r+c))>(192:Int))) (q false [0,0,0,0,0,0] true) (G108 b c (fun s=>G64 a s (fun t=>q t s d)))))
def g69v1{α:Type}(m:Nat):S_g69v1 α:=
 g69v1b (g107 m) (g108 m) (g64 m)
def g69v1tp:List TP:=[(.vl (.sv (.ptr 0 0))),vW,tI]
def g69v1bp:List BP:=[bA,(false,[(.seqv rN)]),(false,[(.mp rP mW)]),(false,[(.gro rP)])]
def g69v1K{α:Type}(G:S_g69v1 α)(ls:List Lf)(k:KRe α):Option α:=
 G (lf ls 0).bool ((lf ls 1).lst uU) (lf ls 2).int (lf ls 3).bool (lf ls 4).nat (lf ls 5).nat (lf ls 6).nat (lf ls 7).int (lf ls 8).nat ((lf ls 9).lst rN) ((lf ls 10).map rP mW) ((lf ls 11).lst rP)
  (fun c d e=>k (.vl (.agg [(.one (.bool c)),(.seq uU 6 d)])) [[(.one (.bool e)),(.one (.slc 1 0 5 (lf ls 4).nat (lf ls 5).nat (lf ls 6).nat)),(.one (.mpp 2)),(.one (.gsl 3 2)),(.one (.int .i64 (lf ls 7).int))],[(.seq rN (lf ls 8).nat ((lf ls 9).lst rN))],[(.mp rP mW ((lf ls 10).map rP mW))],[(.gro rP ((lf ls 11).lst rP))]] [])
def g69v1R{α:Type}(G:S_g69v1 α):=rowK g69v1tp g69v1bp (g69v1K G)
def g69v1hd(G107:Al S_g107)(G108:Al S_g108)(G64:Al S_g64):Hd where
 call:=fun f args Bs k=>cond (Nat.beq f 107) (g107R G107 args Bs k) (cond (Nat.beq f 108) (g108R G108 args Bs k) (cond (Nat.beq f 64) (g64R G64 args Bs k) (none)))
 loop:=fun id st k=>none
 ro:=fun f=>[]
def g69v1h(m:Nat):Hd:=g69v1hd (g107 m) (g108 m) (g64 m)
theorem g69v1Main(G107:Al S_g107)(G108:Al S_g108)(G64:Al S_g64){α:Type}(ls:List Lf)(k:KRe α):
  g69v1K (g69v1b G107 G108 G64) ls k=evFun tab (g69v1hd G107 G108 G64) Try.f69 (fT g69v1tp ls) (fB g69v1tp g69v1bp ls) k:=by kernel_rfl
theorem g69v1Calls(m:Nat):(g69v1h m).CallsOk Try.prog:=(cok_cons (g107Ok m) (cok_cons (g108Ok m) (cok_cons (g64Ok m) cok_nil)))
theorem g69v1Ok(m:Nat):RowOk Try.prog 69 (fun{α}=>g69v1R (g69v1 m (α:=α))):=
 rwk (g69v1Calls m) (lo0 (by kernel_rfl))
  (fun _=>g69v1Main (g107 m) (g108 m) (g64 m))
abbrev S_g62v1(α:Type):Type:=Bool→(List Int)→Bool→(List Int)→Bool→Nat→Nat→Nat→Int→Nat→Ty0→Ty4→Ty0→(Bool→(List Int)→Bool→Option α)→Option α
def g62v1b{α:Type}(G97:Al S_g97)(G64:Al S_g64)(G89:Al S_g89)(G99:Al S_g99)(a:Bool)(b:List Int)(c:Bool)(d:List Int)(e:Bool)(h i j:Nat)(l:Int)(n:Nat)(o:Ty0)(p:Ty4)(q:Ty0)(r:Bool→(List Int)→Bool→Option α):Option α:=cond (a==c) (G97 b d (fun s t=>cond e (G64 a s (fun u=>r u s true)) (G64 a s (fun v=>r v s t)))) (G89 b d (fun w=>cond (decide (w<(0:Int))) (G99 d b (fun x=>G64 c x (fun y=>r y x e))) (G99 b d (fun z=>G64 a z (fun a0=>r a0 z e)))))
def g62v1{α:Type}(m:Nat):S_g62v1 α:=
 g62v1b (g97 m) (g64 m) (g89 m) (g99 m)
def g62v1tp:List TP:=[(.vl (.sv (.ptr 0 0))),vW,vW]
def g62v1bp:List BP:=[bA,(false,[(.seqv rN)]),(false,[(.mp rP mW)]),(false,[(.gro rP)])]
def g62v1K{α:Type}(G:S_g62v1 α)(ls:List Lf)(k:KRe α):Option α:=
 G (lf ls 0).bool ((lf ls 1).lst uU) (lf ls 2).bool ((lf ls 3).lst uU) (lf ls 4).bool (lf ls 5).nat (lf ls 6).nat (lf ls 7).nat (lf ls 8).int (lf ls 9).nat ((lf ls 10).lst rN) ((lf ls 11).map rP mW) ((lf ls 12).lst rP)
  (fun c d e=>k (.vl (.agg [(.one (.bool c)),(.seq uU 6 d)])) [[(.one (.bool e)),(.one (.slc 1 0 5 (lf ls 5).nat (lf ls 6).nat (lf ls 7).nat)),(.one (.mpp 2)),(.one (.gsl 3 2)),(.one (.int .i64 (lf ls 8).int))],[(.seq rN (lf ls 9).nat ((lf ls 10).lst rN))],[(.mp rP mW ((lf ls 11).map rP mW))],[(.gro rP ((lf ls 12).lst rP))]] [])
def g62v1R{α:Type}(G:S_g62v1 α):=rowK g62v1tp g62v1bp (g62v1K G)
def g62v1hd(G97:Al S_g97)(G64:Al S_g64)(G89:Al S_g89)(G99:Al S_g99):Hd where
 call:=fun f args Bs k=>cond (Nat.beq f 97) (g97R G97 args Bs k) (cond (Nat.beq f 64) (g64R G64 args Bs k) (cond (Nat.beq f 89) (g89R G89 args Bs k) (cond (Nat.beq f 99) (g99R G99 args Bs k) (none))))
 loop:=fun id st k=>none
 ro:=fun f=>[]
def g62v1h(m:Nat):Hd:=g62v1hd (g97 m) (g64 m) (g89 m) (g99 m)
theorem g62v1Main(G97:Al S_g97)(G64:Al S_g64)(G89:Al S_g89)(G99:Al S_g99){α:Type}(ls:List Lf)(k:KRe α):
  g62v1K (g62v1b G97 G64 G89 G99) ls k=evFun tab (g62v1hd G97 G64 G89 G99) Try.f62 (fT g62v1tp ls) (fB g62v1tp g62v1bp ls) k:=by kernel_rfl
theorem g62v1Calls(m:Nat):(g62v1h m).CallsOk Try.prog:=(cok_cons (g97Ok m) (cok_cons (g64Ok m) (cok_cons (g89Ok m) (cok_cons (g99Ok m) cok_nil))))
theorem g62v1Ok(m:Nat):RowOk Try.prog 62 (fun{α}=>g62v1R (g62v1 m (α:=α))):=
 rwk (g62v1Calls m) (lo0 (by kernel_rfl))
  (fun _=>g62v1Main (g97 m) (g64 m) (g89 m) (g99 m))
abbrev S_g57v1(α:Type):Type:=Bool→(List Int)→Bool→(List Int)→Bool→Nat→Nat→Nat→Int→Nat→Ty0→Ty4→Ty0→(Bool→(List Int)→Bool→Option α)→Option α
def g57v1b{α:Type}(G55:Al S_g55)(G99:Al S_g99)(G89:Al S_g89)(G19:Al S_g19)(G62v1:Al S_g62v1)(a:Bool)(b:List Int)(c:Bool)(d:List Int)(e:Bool)(h i j:Nat)(l:Int)(n:Nat)(o:Ty0)(p:Ty4)(q:Ty0)(r:Bool→(List Int)→Bool→Option α):Option α:=G55 a b c d (fun s t u v=>G99 d v (fun w=>G89 v w (fun x=>cond (decide (x<(0:Int))) (r s t e) (G19 (1:Int) (fun y z=>G62v1 s t y z e h i j l n o p q (fun a0 b0 c0=>r a0 b0 c0))))))
def g57v1{α:Type}(m:Nat):S_g57v1 α:=
 g57v1b (g55 m) (g99 m) (g89 m) (g19 m) (g62v1 m)
def g57v1tp:List TP:=[(.vl (.sv (.ptr 0 0))),vW,vW]
def g57v1bp:List BP:=[bA,(false,[(.seqv rN)]),(false,[(.mp rP mW)]),(false,[(.gro rP)])]
def g57v1K{α:Type}(G:S_g57v1 α)(ls:List Lf)(k:KRe α):Option α:=
 G (lf ls 0).bool ((lf ls 1).lst uU) (lf ls 2).bool ((lf ls 3).lst uU) (lf ls 4).bool (lf ls 5).nat (lf ls 6).nat (lf ls 7).nat (lf ls 8).int (lf ls 9).nat ((lf ls 10).lst rN) ((lf ls 11).map rP mW) ((lf ls 12).lst rP)
  (fun c d e=>k (.vl (.agg [(.one (.bool c)),(.seq uU 6 d)])) [[(.one (.bool e)),(.one (.slc 1 0 5 (lf ls 5).nat (lf ls 6).nat (lf ls 7).nat)),(.one (.mpp 2)),(.one (.gsl 3 2)),(.one (.int .i64 (lf ls 8).int))],[(.seq rN (lf ls 9).nat ((lf ls 10).lst rN))],[(.mp rP mW ((lf ls 11).map rP mW))],[(.gro rP ((lf ls 12).lst rP))]] [])
def g57v1R{α:Type}(G:S_g57v1 α):=rowK g57v1tp g57v1bp (g57v1K G)
def g57v1hd(G55:Al S_g55)(G99:Al S_g99)(G89:Al S_g89)(G19:Al S_g19)(G62v1:Al S_g62v1):Hd where
 call:=fun f args Bs k=>cond (Nat.beq f 55) (g55R G55 args Bs k) (cond (Nat.beq f 99) (g99R G99 args Bs k) (cond (Nat.beq f 89) (g89R G89 args Bs k) (cond (Nat.beq f 19) (g19R G19 args Bs k) (cond (Nat.beq f 62) (g62v1R G62v1 args Bs k) (none)))))
 loop:=fun id st k=>none
 ro:=fun f=>cond (Nat.beq f 62) [1,2,3] ([])
def g57v1h(m:Nat):Hd:=g57v1hd (g55 m) (g99 m) (g89 m) (g19 m) (g62v1 m)
theorem g57v1Main(G55:Al S_g55)(G99:Al S_g99)(G89:Al S_g89)(G19:Al S_g19)(G62v1:Al S_g62v1){α:Type}(ls:List Lf)(k:KRe α):
  g57v1K (g57v1b G55 G99 G89 G19 G62v1) ls k=evFun tab (g57v1hd G55 G99 G89 G19 G62v1) Try.f57 (fT g57v1tp ls) (fB g57v1tp g57v1bp ls) k:=by kernel_rfl
theorem g57v1Calls(m:Nat):(g57v1h m).CallsOk Try.prog:=(cok_cons (g55Ok m) (cok_cons (g99Ok m) (cok_cons (g89Ok m) (cok_cons (g19Ok m) (cok_cons (g62v1Ok m) cok_nil)))))
theorem g57v1Ok(m:Nat):RowOk Try.prog 57 (fun{α}=>g57v1R (g57v1 m (α:=α))):=
 rwk (g57v1Calls m) (lo0 (by kernel_rfl))
  (fun _=>g57v1Main (g55 m) (g99 m) (g89 m) (g19 m) (g62v1 m))
abbrev S_g86(α:Type):Type:=Int→Int→Bool→Nat→Nat→Nat→Int→Nat→Ty0→Ty4→Ty0→(Bool→(List Int)→Bool→Nat→Nat→Nat→Int→Nat→Ty0→Ty4→Ty0→Option α)→Option α
def g86tp:List TP:=[(.vl (.sv (.ptr 0 0))),(.vl (.sv (.int .i16))),tI]
def g86bp:List BP:=[bA,(false,[(.seqv rN)]),(true,[(.mp rP mW)]),(true,[(.gro rP)])]
def g86K{α:Type}(G:S_g86 α)(ls:List Lf)(k:KRe α):Option α:=
 G (lf ls 0).int (lf ls 1).int (lf ls 2).bool (lf ls 3).nat (lf ls 4).nat (lf ls 5).nat (lf ls 6).int (lf ls 7).nat ((lf ls 8).lst rN) ((lf ls 9).map rP mW) ((lf ls 10).lst rP)
  (fun c d e h i j l n o p q=>k (.vl (.agg [(.one (.bool c)),(.seq uU 6 d)])) [[(.one (.bool e)),(.one (.slc 1 0 5 h i j)),(.one (.mpp 2)),(.one (.gsl 4 2)),(.one (.int .i64 l))],[(.seq rN n o)],[(.mp rP mW p)],[]] [[(.gro rP q)]])
abbrev HA86(A86:Al S_g86):Prop:=RowOk Try.prog 86 (fun{α}=>rowK g86tp g86bp (g86K (A86 (α:=α))))
def g86R{α:Type}(G:S_g86 α):=rowK g86tp g86bp (g86K G)
abbrev S_g138(α:Type):Type:=Int→Int→Int→Int→Int→Int→Bool→Nat→Nat→Nat→Int→Nat→Ty0→Ty4→Ty0→(Bool→(List Int)→Bool→(List Int)→Bool→Nat→Nat→Nat→Int→Ty4→Ty0→Option α)→Option α
def g138b{α:Type}(G86:Al S_g86)(a b:Int)(c d:Int)(e h:Int)(i:Bool)(j l n:Nat)(o:Int)(p:Nat)(q:Ty0)(r:Ty4)(s:Ty0)(t:Bool→(List Int)→Bool→(List Int)→Bool→Nat→Nat→Nat→Int→Ty4→Ty0→Option α):Option α:=G86 b h i j l n o p q r s (fun u v w x y z a0 b0 c0 d0 e0=>G86 c h w x y z a0 p q d0 e0 (fun h0 i0 j0 l0 n0 o0 p0 q0 r0 s0 t0=>t u v h0 i0 j0 l0 n0 o0 p0 s0 t0))
def g138(A86:Al S_g86){α:Type}(m:Nat):S_g138 α:=
 g138b A86
def g138tp:List TP:=[(.vl (.sv (.ptr 0 0))),(.vl (.agg [(.one (.int .i8)),(.one (.int .i16)),(.one (.int .i16)),(.one (.int .i64)),(.one (.int .i64))])),tI]
def g138bp:List BP:=[bA,(false,[(.seqv rN)]),(true,[(.mp rP mW)]),(true,[(.gro rP)])]
def g138K{α:Type}(G:S_g138 α)(ls:List Lf)(k:KRe α):Option α:=
 G (lf ls 0).int (lf ls 1).int (lf ls 2).int (lf ls 3).int (lf ls 4).int (lf ls 5).int (lf ls 6).bool (lf ls 7).nat (lf ls 8).nat (lf ls 9).nat (lf ls 10).int (lf ls 11).nat ((lf ls 12).lst rN) ((lf ls 13).map rP mW) ((lf ls 14).lst rP)
  (fun c d e h i j l n o p q=>k (.tup [(.agg [(.one (.bool c)),(.seq uU 6 d)]),(.agg [(.one (.bool e)),(.seq uU 6 h)])]) [[(.one (.bool i)),(.one (.slc 1 0 5 j l n)),(.one (.mpp 2)),(.one (.gsl 4 2)),(.one (.int .i64 o))],[(.seq rN (lf ls 11).nat ((lf ls 12).lst rN))],[(.mp rP mW p)],[]] [[(.gro rP q)]])
def g138R{α:Type}(G:S_g138 α):=rowK g138tp g138bp (g138K G)
def g138hd(G86:Al S_g86):Hd where
 call:=fun f args Bs k=>cond (Nat.beq f 86) (g86R G86 args Bs k) (none)
 loop:=fun id st k=>none
 ro:=fun f=>cond (Nat.beq f 86) [1] ([])
def g138h(A86:Al S_g86)(m:Nat):Hd:=g138hd A86
theorem g138Main(G86:Al S_g86){α:Type}(ls:List Lf)(k:KRe α):
  g138K (g138b G86) ls k=evFunM tab (g138hd G86) Try.f138 3 (fT g138tp ls) (fB g138tp g138bp ls) k:=by kernel_rfl
theorem g138Calls(A86:Al S_g86)(hA86:HA86 A86)(m:Nat):(g138h A86 m).CallsOk Try.prog:=(cok_cons hA86 cok_nil)
theorem g138Fn(A86:Al S_g86)(hA86:HA86 A86)(m:Nat):FnOk Try.prog 138 g138tp g138bp (fun{α}=>g138K (g138 A86 m (α:=α))):=
 fn_okM (tab:=tab) (h:=g138h A86 m) (fn:=Try.f138) (F:=fun{α}=>g138K (g138 A86 m (α:=α))) tabOk (g138Calls A86 hA86 m) mixed (by kernel_rfl) (by kernel_rfl) (fun c hc=>by
  rw[bodyOf_some hc]
  exact loopsOk_of _ (fun p hp=>by rw[show loopsOf (bodyOf Try.f138)=[] by kernel_rfl] at hp;cases hp))
  (fun _=>g138Main A86)
theorem g138Ok(A86:Al S_g86)(hA86:HA86 A86)(m:Nat):RowOk Try.prog 138 (fun{α}=>g138R (g138 A86 m (α:=α))):=row_of (g138Fn A86 hA86 m)
abbrev S_g70v1(α:Type):Type:=Bool→(List Int)→Int→Bool→Nat→Nat→Nat→Int→Nat→Ty0→Ty4→Ty0→(Bool→(List Int)→Bool→Option α)→Option α
def g70v1b{α:Type}(G109:Al S_g109)(G98:Al S_g98)(G108:Al S_g108)(G99:Al S_g99)(G89:Al S_g89)(G97:Al S_g97)(G64:Al S_g64)(a:Bool)(b:List Int)(c:Int)(d:Bool)(e h i:Nat)(j:Int)(l:Nat)(n:Ty0)(o:Ty4)(p:Ty0)(q:Bool→(List Int)→Bool→Option α):Option α:=cond (decide (c>(191:Int))) (q false [0,0,0,0,0,0] true) (G109 b c (fun r=>cond (c==(0:Int)) (q a b d) (G98 (fun s=>G108 s (IntKind.wrap .i64 (c-(1:Int))) (fun t=>G108 r c (fun u=>G99 b u (fun v=>G89 v t (fun w=>cond (decide (w>(0:Int))) (G98 (fun x=>G97 r x (fun y z=>G64 a y (fun a0=>q a0 y d)))) (cond (w==(0:Int)) (cond (!a) (G98 (fun b0=>G97 r b0 (fun c0 d0=>G64 a c0 (fun e0=>q e0 c0 d)))) (G64 a r (fun h0=>q h0 r d))) (G64 a r (fun i0=>q i0 r d)))))))))))
def g70v1{α:Type}(m:Nat):S_g70v1 α:=
 g70v1b (g109 m) (g98 m) (g108 m) (g99 m) (g89 m) (g97 m) (g64 m)
def g70v1tp:List TP:=[(.vl (.sv (.ptr 0 0))),vW,tI]
def g70v1bp:List BP:=[bA,(false,[(.seqv rN)]),(false,[(.mp rP mW)]),(false,[(.gro rP)])]
def g70v1K{α:Type}(G:S_g70v1 α)(ls:List Lf)(k:KRe α):Option α:=
 G (lf ls 0).bool ((lf ls 1).lst uU) (lf ls 2).int (lf ls 3).bool (lf ls 4).nat (lf ls 5).nat (lf ls 6).nat (lf ls 7).int (lf ls 8).nat ((lf ls 9).lst rN) ((lf ls 10).map rP mW) ((lf ls 11).lst rP)
  (fun c d e=>k (.vl (.agg [(.one (.bool c)),(.seq uU 6 d)])) [[(.one (.bool e)),(.one (.slc 1 0 5 (lf ls 4).nat (lf ls 5).nat (lf ls 6).nat)),(.one (.mpp 2)),(.one (.gsl 3 2)),(.one (.int .i64 (lf ls 7).int))],[(.seq rN (lf ls 8).nat ((lf ls 9).lst rN))],[(.mp rP mW ((lf ls 10).map rP mW))],[(.gro rP ((lf ls 11).lst rP))]] [])
def g70v1R{α:Type}(G:S_g70v1 α):=rowK g70v1tp g70v1bp (g70v1K G)
def g70v1hd(G109:Al S_g109)(G98:Al S_g98)(G108:Al S_g108)(G99:Al S_g99)(G89:Al S_g89)(G97:Al S_g97)(G64:Al S_g64):Hd where
 call:=fun f args Bs k=>cond (Nat.beq f 109) (g109R G109 args Bs k) (cond (Nat.beq f 98) (g98R G98 args Bs k) (cond (Nat.beq f 108) (g108R G108 args Bs k) (cond (Nat.beq f 99) (g99R G99 args Bs k) (cond (Nat.beq f 89) (g89R G89 args Bs k) (cond (Nat.beq f 97) (g97R G97 args Bs k) (cond (Nat.beq f 64) (g64R G64 args Bs k) (none)))))))
 loop:=fun id st k=>none
 ro:=fun f=>[]
def g70v1h(m:Nat):Hd:=g70v1hd (g109 m) (g98 m) (g108 m) (g99 m) (g89 m) (g97 m) (g64 m)
theorem g70v1Main(G109:Al S_g109)(G98:Al S_g98)(G108:Al S_g108)(G99:Al S_g99)(G89:Al S_g89)(G97:Al S_g97)(G64:Al S_g64){α:Type}(ls:List Lf)(k:KRe α):
  g70v1K (g70v1b G109 G98 G108 G99 G89 G97 G64) ls k=evFun tab (g70v1hd G109 G98 G108 G99 G89 G97 G64) Try.f70 (fT g70v1tp ls) (fB g70v1tp g70v1bp ls) k:=by kernel_rfl
theorem g70v1Calls(m:Nat):(g70v1h m).CallsOk Try.prog:=(cok_cons (g109Ok m) (cok_cons (g98Ok m) (cok_cons (g108Ok m) (cok_cons (g99Ok m) (cok_cons (g89Ok m) (cok_cons (g97Ok m) (cok_cons (g64Ok m) cok_nil)))))))
theorem g70v1Ok(m:Nat):RowOk Try.prog 70 (fun{α}=>g70v1R (g70v1 m (α:=α))):=
 rwk (g70v1Calls m) (lo0 (by kernel_rfl))
  (fun _=>g70v1Main (g109 m) (g98 m) (g108 m) (g99 m) (g89 m) (g97 m) (g64 m))
abbrev S_g63v1(α:Type):Type:=Bool→(List Int)→Bool→(List Int)→Bool→Nat→Nat→Nat→Int→Nat→Ty0→Ty4→Ty0→(Bool→(List Int)→Bool→Option α)→Option α
def g63v1b{α:Type}(G104:Al S_g104)(G62v1:Al S_g62v1)(a:Bool)(b:List Int)(c:Bool)(d:List Int)(e:Bool)(h i j:Nat)(l:Int)(n:Nat)(o:Ty0)(p:Ty4)(q:Ty0)(r:Bool→(List Int)→Bool→Option α):Option α:=G104 c d (fun s=>G62v1 a b s d e h i j l n o p q (fun t u v=>r t u v))
def g63v1{α:Type}(m:Nat):S_g63v1 α:=
 g63v1b (g104 m) (g62v1 m)
def g63v1tp:List TP:=[(.vl (.sv (.ptr 0 0))),vW,vW]
def g63v1bp:List BP:=[bA,(false,[(.seqv rN)]),(false,[(.mp rP mW)]),(false,[(.gro rP)])]
def g63v1K{α:Type}(G:S_g63v1 α)(ls:List Lf)(k:KRe α):Option α:=
 G (lf ls 0).bool ((lf ls 1).lst uU) (lf ls 2).bool ((lf ls 3).lst uU) (lf ls 4).bool (lf ls 5).nat (lf ls 6).nat (lf ls 7).nat (lf ls 8).int (lf ls 9).nat ((lf ls 10).lst rN) ((lf ls 11).map rP mW) ((lf ls 12).lst rP)
  (fun c d e=>k (.vl (.agg [(.one (.bool c)),(.seq uU 6 d)])) [[(.one (.bool e)),(.one (.slc 1 0 5 (lf ls 5).nat (lf ls 6).nat (lf ls 7).nat)),(.one (.mpp 2)),(.one (.gsl 3 2)),(.one (.int .i64 (lf ls 8).int))],[(.seq rN (lf ls 9).nat ((lf ls 10).lst rN))],[(.mp rP mW ((lf ls 11).map rP mW))],[(.gro rP ((lf ls 12).lst rP))]] [])
def g63v1R{α:Type}(G:S_g63v1 α):=rowK g63v1tp g63v1bp (g63v1K G)
def g63v1hd(G104:Al S_g104)(G62v1:Al S_g62v1):Hd where
 call:=fun f args Bs k=>cond (Nat.beq f 104) (g104R G104 args Bs k) (cond (Nat.beq f 62) (g62v1R G62v1 args Bs k) (none))
 loop:=fun id st k=>none
 ro:=fun f=>cond (Nat.beq f 62) [1,2,3] ([])
def g63v1h(m:Nat):Hd:=g63v1hd (g104 m) (g62v1 m)
theorem g63v1Main(G104:Al S_g104)(G62v1:Al S_g62v1){α:Type}(ls:List Lf)(k:KRe α):
  g63v1K (g63v1b G104 G62v1) ls k=evFun tab (g63v1hd G104 G62v1) Try.f63 (fT g63v1tp ls) (fB g63v1tp g63v1bp ls) k:=by kernel_rfl
theorem g63v1Calls(m:Nat):(g63v1h m).CallsOk Try.prog:=(cok_cons (g104Ok m) (cok_cons (g62v1Ok m) cok_nil))
theorem g63v1Ok(m:Nat):RowOk Try.prog 63 (fun{α}=>g63v1R (g63v1 m (α:=α))):=
 rwk (g63v1Calls m) (lo0 (by kernel_rfl))
  (fun _=>g63v1Main (g104 m) (g62v1 m))
abbrev S_g73(α:Type):Type:=Bool→(List Int)→Bool→(List Int)→(Int→Option α)→Option α
def g73b{α:Type}(G89:Al S_g89)(a:Bool)(b:List Int)(c:Bool)(d:List Int)(e:Int→Option α):Option α:=cond (!(a==c)) (cond a (e (-1:Int)) (cond (!(a==c)) (e (1:Int)) (cond a (G89 d b (fun h=>e h)) (G89 b d (fun i=>e i))))) (cond (!(a==c)) (e (1:Int)) (cond a (G89 d b (fun j=>e j)) (G89 b d (fun l=>e l))))
def g73{α:Type}(m:Nat):S_g73 α:=
 g73b (g89 m)
def g73tp:List TP:=[vW,vW]
def g73bp:List BP:=[]
def g73K{α:Type}(G:S_g73 α)(ls:List Lf)(k:KRe α):Option α:=
 G (lf ls 0).bool ((lf ls 1).lst uU) (lf ls 2).bool ((lf ls 3).lst uU)
  (fun a=>k (.vl (.sv (.int .i64 a))) [] [])
def g73R{α:Type}(G:S_g73 α):=rowK g73tp g73bp (g73K G)
def g73hd(G89:Al S_g89):Hd where
 call:=fun f args Bs k=>cond (Nat.beq f 89) (g89R G89 args Bs k) (none)
 loop:=fun id st k=>none
 ro:=fun f=>[]
def g73h(m:Nat):Hd:=g73hd (g89 m)
theorem g73Main(G89:Al S_g89){α:Type}(ls:List Lf)(k:KRe α):
  g73K (g73b G89) ls k=evFun tab (g73hd G89) Try.f73 (fT g73tp ls) (fB g73tp g73bp ls) k:=by kernel_rfl
theorem g73Calls(m:Nat):(g73h m).CallsOk Try.prog:=(cok_cons (g89Ok m) cok_nil)
theorem g73Ok(m:Nat):RowOk Try.prog 73 (fun{α}=>g73R (g73 m (α:=α))):=
 rwk (g73Calls m) (lo0 (by kernel_rfl))
  (fun _=>g73Main (g89 m))
abbrev S_g84(α:Type):Type:=Int→Bool→Nat→Nat→Nat→Int→Nat→Ty0→Ty4→Ty0→(Int→Bool→Nat→Nat→Nat→Int→Ty4→Ty0→Option α)→Option α
def g84b{α:Type}(G86:Al S_g86)(G107:Al S_g107)(a:Int)(b:Bool)(c d e:Nat)(h:Int)(i:Nat)(j:Ty0)(l:Ty4)(n:Ty0)(o:Int→Bool→Nat→Nat→Nat→Int→Ty4→Ty0→Option α):Option α:=G86 a (0:Int) b c d e h i j l n (fun p q r s t u v w x y z=>G107 q (fun a0=>o a0 r s t u v y z))
def g84(A86:Al S_g86){α:Type}(m:Nat):S_g84 α:=
 g84b A86 (g107 m)
def g84tp:List TP:=[(.vl (.sv (.ptr 0 0))),(.vl (.sv (.int .i16)))]
def g84bp:List BP:=[bA,(false,[(.seqv rN)]),(true,[(.mp rP mW)]),(true,[(.gro rP)])]
def g84K{α:Type}(G:S_g84 α)(ls:List Lf)(k:KRe α):Option α:=
 G (lf ls 0).int (lf ls 1).bool (lf ls 2).nat (lf ls 3).nat (lf ls 4).nat (lf ls 5).int (lf ls 6).nat ((lf ls 7).lst rN) ((lf ls 8).map rP mW) ((lf ls 9).lst rP)
  (fun c d e h i j l n=>k (.vl (.sv (.int .i64 c))) [[(.one (.bool d)),(.one (.slc 1 0 5 e h i)),(.one (.mpp 2)),(.one (.gsl 4 2)),(.one (.int .i64 j))],[(.seq rN (lf ls 6).nat ((lf ls 7).lst rN))],[(.mp rP mW l)],[]] [[(.gro rP n)]])
def g84R{α:Type}(G:S_g84 α):=rowK g84tp g84bp (g84K G)
def g84hd(G86:Al S_g86)(G107:Al S_g107):Hd where
 call:=fun f args Bs k=>cond (Nat.beq f 86) (g86R G86 args Bs k) (cond (Nat.beq f 107) (g107R G107 args Bs k) (none))
 loop:=fun id st k=>none
 ro:=fun f=>cond (Nat.beq f 86) [1] ([])
def g84h(A86:Al S_g86)(m:Nat):Hd:=g84hd A86 (g107 m)
theorem g84Main(G86:Al S_g86)(G107:Al S_g107){α:Type}(ls:List Lf)(k:KRe α):
  g84K (g84b G86 G107) ls k=evFunM tab (g84hd G86 G107) Try.f84 3 (fT g84tp ls) (fB g84tp g84bp ls) k:=by kernel_rfl
theorem g84Calls(A86:Al S_g86)(hA86:HA86 A86)(m:Nat):(g84h A86 m).CallsOk Try.prog:=(cok_cons hA86 (cok_cons (g107Ok m) cok_nil))
theorem g84Fn(A86:Al S_g86)(hA86:HA86 A86)(m:Nat):FnOk Try.prog 84 g84tp g84bp (fun{α}=>g84K (g84 A86 m (α:=α))):=
 fn_okM (tab:=tab) (h:=g84h A86 m) (fn:=Try.f84) (F:=fun{α}=>g84K (g84 A86 m (α:=α))) tabOk (g84Calls A86 hA86 m) mixed (by kernel_rfl) (by kernel_rfl) (fun c hc=>by
  rw[bodyOf_some hc]
  exact loopsOk_of _ (fun p hp=>by rw[show loopsOf (bodyOf Try.f84)=[] by kernel_rfl] at hp;cases hp))
  (fun _=>g84Main A86 (g107 m))
theorem g84Ok(A86:Al S_g86)(hA86:HA86 A86)(m:Nat):RowOk Try.prog 84 (fun{α}=>g84R (g84 A86 m (α:=α))):=row_of (g84Fn A86 hA86 m)
abbrev S_g61v1(α:Type):Type:=Bool→(List Int)→Bool→(List Int)→Bool→Nat→Nat→Nat→Int→Nat→Ty0→Ty4→Ty0→(Bool→(List Int)→Bool→Option α)→Option α
def g61v1b{α:Type}(G103:Al S_g103)(G64:Al S_g64)(a:Bool)(b:List Int)(c:Bool)(d:List Int)(e:Bool)(h i j:Nat)(l:Int)(n:Nat)(o:Ty0)(p:Ty4)(q:Ty0)(r:Bool→(List Int)→Bool→Option α):Option α:=G103 b d (fun s t=>cond e (G64 (!(a==c)) s (fun u=>r u s true)) (G64 (!(a==c)) s (fun v=>r v s t)))
def g61v1{α:Type}(m:Nat):S_g61v1 α:=
 g61v1b (g103 m) (g64 m)
def g61v1tp:List TP:=[(.vl (.sv (.ptr 0 0))),vW,vW]
def g61v1bp:List BP:=[bA,(false,[(.seqv rN)]),(false,[(.mp rP mW)]),(false,[(.gro rP)])]
def g61v1K{α:Type}(G:S_g61v1 α)(ls:List Lf)(k:KRe α):Option α:=
 G (lf ls 0).bool ((lf ls 1).lst uU) (lf ls 2).bool ((lf ls 3).lst uU) (lf ls 4).bool (lf ls 5).nat (lf ls 6).nat (lf ls 7).nat (lf ls 8).int (lf ls 9).nat ((lf ls 10).lst rN) ((lf ls 11).map rP mW) ((lf ls 12).lst rP)
  (fun c d e=>k (.vl (.agg [(.one (.bool c)),(.seq uU 6 d)])) [[(.one (.bool e)),(.one (.slc 1 0 5 (lf ls 5).nat (lf ls 6).nat (lf ls 7).nat)),(.one (.mpp 2)),(.one (.gsl 3 2)),(.one (.int .i64 (lf ls 8).int))],[(.seq rN (lf ls 9).nat ((lf ls 10).lst rN))],[(.mp rP mW ((lf ls 11).map rP mW))],[(.gro rP ((lf ls 12).lst rP))]] [])
def g61v1R{α:Type}(G:S_g61v1 α):=rowK g61v1tp g61v1bp (g61v1K G)
def g61v1hd(G103:Al S_g103)(G64:Al S_g64):Hd where
 call:=fun f args Bs k=>cond (Nat.beq f 103) (g103R G103 args Bs k) (cond (Nat.beq f 64) (g64R G64 args Bs k) (none))
 loop:=fun id st k=>none
 ro:=fun f=>[]
def g61v1h(m:Nat):Hd:=g61v1hd (g103 m) (g64 m)
theorem g61v1Main(G103:Al S_g103)(G64:Al S_g64){α:Type}(ls:List Lf)(k:KRe α):
  g61v1K (g61v1b G103 G64) ls k=evFun tab (g61v1hd G103 G64) Try.f61 (fT g61v1tp ls) (fB g61v1tp g61v1bp ls) k:=by kernel_rfl
theorem g61v1Calls(m:Nat):(g61v1h m).CallsOk Try.prog:=(cok_cons (g103Ok m) (cok_cons (g64Ok m) cok_nil))
theorem g61v1Ok(m:Nat):RowOk Try.prog 61 (fun{α}=>g61v1R (g61v1 m (α:=α))):=
 rwk (g61v1Calls m) (lo0 (by kernel_rfl))
  (fun _=>g61v1Main (g103 m) (g64 m))
abbrev S_g139(α:Type):Type:=Int→Int→Int→Int→Int→Int→Bool→Nat→Nat→Nat→Int→Nat→Ty0→Ty4→Ty0→(Bool→(List Int)→Bool→Nat→Nat→Nat→Int→Ty4→Ty0→Option α)→Option α
def g139b{α:Type}(G84:Al S_g84)(G86:Al S_g86)(G81:Al S_g81)(G61v1:Al S_g61v1)(G70v1:Al S_g70v1)(a b:Int)(c d:Int)(e h:Int)(i:Bool)(j l n:Nat)(o:Int)(p:Nat)(q:Ty0)(r:Ty4)(s:Ty0)(t:Bool→(List Int)→Bool→Nat→Nat→Nat→Int→Ty4→Ty0→Option α):Option α:=G84 b i j l n o p q r s (fun u v w x y z a0 b0=>G84 c v w x y z p q a0 b0 (fun c0 d0 e0 h0 i0 j0 l0 n0=>G86 b (IntKind.wrap .i64 ((IntKind.wrap .i64 (h+c0))+(3:Int))) d0 e0 h0 i0 j0 p q l0 n0 (fun o0 p0 q0 r0 s0 t0 u0 v0 w0 x0 y0=>G86 c (IntKind.wrap .i64 ((IntKind.wrap .i64 (h+u))+(3:Int))) q0 r0 s0 t0 u0 p q x0 y0 (fun z0 a1 b1 c1 d1 e1 h1 i1 j1 l1 n1=>G81 b1 c1 d1 e1 h1 p q l1 n1 (fun o1 p1=>cond o1 (t false [0,0,0,0,0,0] b1 c1 d1 e1 p1 l1 n1) (G61v1 o0 p0 z0 a1 b1 c1 d1 e1 p1 p q l1 n1 (fun q1 r1 s1=>G70v1 q1 r1 (IntKind.wrap .i64 ((IntKind.wrap .i64 ((IntKind.wrap .i64 (h+u))+c0))+(6:Int))) s1 c1 d1 e1 p1 p q l1 n1 (fun t1 u1 v1=>t t1 u1 v1 c1 d1 e1 p1 l1 n1))))))))
def g139(A86:Al S_g86){α:Type}(m:Nat):S_g139 α:=
 g139b (g84 A86 m) A86 (g81 m) (g61v1 m) (g70v1 m)
def g139tp:List TP:=[(.vl (.sv (.ptr 0 0))),(.vl (.agg [(.one (.int .i8)),(.one (.int .i16)),(.one (.int .i16)),(.one (.int .i64)),(.one (.int .i64))])),tI]
def g139bp:List BP:=[bA,(false,[(.seqv rN)]),(true,[(.mp rP mW)]),(true,[(.gro rP)])]
def g139K{α:Type}(G:S_g139 α)(ls:List Lf)(k:KRe α):Option α:=
 G (lf ls 0).int (lf ls 1).int (lf ls 2).int (lf ls 3).int (lf ls 4).int (lf ls 5).int (lf ls 6).bool (lf ls 7).nat (lf ls 8).nat (lf ls 9).nat (lf ls 10).int (lf ls 11).nat ((lf ls 12).lst rN) ((lf ls 13).map rP mW) ((lf ls 14).lst rP)
  (fun c d e h i j l n o=>k (.vl (.agg [(.one (.bool c)),(.seq uU 6 d)])) [[(.one (.bool e)),(.one (.slc 1 0 5 h i j)),(.one (.mpp 2)),(.one (.gsl 4 2)),(.one (.int .i64 l))],[(.seq rN (lf ls 11).nat ((lf ls 12).lst rN))],[(.mp rP mW n)],[]] [[(.gro rP o)]])
def g139R{α:Type}(G:S_g139 α):=rowK g139tp g139bp (g139K G)
def g139hd(G84:Al S_g84)(G86:Al S_g86)(G81:Al S_g81)(G61v1:Al S_g61v1)(G70v1:Al S_g70v1):Hd where
 call:=fun f args Bs k=>cond (Nat.beq f 84) (g84R G84 args Bs k) (cond (Nat.beq f 86) (g86R G86 args Bs k) (cond (Nat.beq f 81) (g81R G81 args Bs k) (cond (Nat.beq f 61) (g61v1R G61v1 args Bs k) (cond (Nat.beq f 70) (g70v1R G70v1 args Bs k) (none)))))
 loop:=fun id st k=>none
 ro:=fun f=>cond (Nat.beq f 61) [1,2,3] (cond (Nat.beq f 70) [1,2,3] (cond (Nat.beq f 81) [1,2,3] (cond (Nat.beq f 84) [1] (cond (Nat.beq f 86) [1] ([])))))
def g139h(A86:Al S_g86)(m:Nat):Hd:=g139hd (g84 A86 m) A86 (g81 m) (g61v1 m) (g70v1 m)
theorem g139Main(G84:Al S_g84)(G86:Al S_g86)(G81:Al S_g81)(G61v1:Al S_g61v1)(G70v1:Al S_g70v1){α:Type}(ls:List Lf)(k:KRe α):
  g139K (g139b G84 G86 G81 G61v1 G70v1) ls k=evFunM tab (g139hd G84 G86 G81 G61v1 G70v1) Try.f139 3 (fT g139tp ls) (fB g139tp g139bp ls) k:=by kernel_rfl
theorem g139Calls(A86:Al S_g86)(hA86:HA86 A86)(m:Nat):(g139h A86 m).CallsOk Try.prog:=(cok_cons (g84Ok A86 hA86 m) (cok_cons hA86 (cok_cons (g81Ok m) (cok_cons (g61v1Ok m) (cok_cons (g70v1Ok m) cok_nil)))))
theorem g139Fn(A86:Al S_g86)(hA86:HA86 A86)(m:Nat):FnOk Try.prog 139 g139tp g139bp (fun{α}=>g139K (g139 A86 m (α:=α))):=
 fn_okM (tab:=tab) (h:=g139h A86 m) (fn:=Try.f139) (F:=fun{α}=>g139K (g139 A86 m (α:=α))) tabOk (g139Calls A86 hA86 m) mixed (by kernel_rfl) (by kernel_rfl) (fun c hc=>by
  rw[bodyOf_some hc]
  exact loopsOk_of _ (fun p hp=>by rw[show loopsOf (bodyOf Try.f139)=[] by kernel_rfl] at hp;cases hp))
  (fun _=>g139Main (g84 A86 m) A86 (g81 m) (g61v1 m) (g70v1 m))
theorem g139Ok(A86:Al S_g86)(hA86:HA86 A86)(m:Nat):RowOk Try.prog 139 (fun{α}=>g139R (g139 A86 m (α:=α))):=row_of (g139Fn A86 hA86 m)
abbrev S_g80(α:Type):Type:=Int→Bool→Nat→Nat→Nat→Int→Nat→Ty0→Ty4→Ty0→(Int→Bool→Nat→Nat→Nat→Int→Ty4→Ty0→Option α)→Option α
abbrev S_g80l0(α:Type):Type:=Int→Nat→Ty0→(Int→Bool→Nat→Nat→Nat→Int→Ty4→Ty0→Option α)→(Bool→Nat→Nat→Nat→Int→Ty4→Ty0→Option α)→Int→Bool→Nat→Nat→Nat→Int→Ty4→Ty0→Option α
def g80l0b{α:Type}(G86:Al S_g86)(G81:Al S_g81)(G89:Al S_g89)(a:Int)(b:Nat)(c:Ty0)(d:Int→Bool→Nat→Nat→Nat→Int→Ty4→Ty0→Option α)(e:Bool→Nat→Nat→Nat→Int→Ty4→Ty0→Option α)(h:Int→Bool→Nat→Nat→Nat→Int→Ty4→Ty0→Option α)(i:Int)(j:Bool)(l n o:Nat)(p:Int)(q:Ty4)(r:Ty0):Option α:=cond (decide (i≤(40:Int))) (G86 a (IntKind.wrap .i64 (i+(2:Int))) j l n o p b c q r (fun s t u v w x y z a0 b0 c0=>G81 u v w x y b c b0 c0 (fun d0 e0=>cond d0 (d (0:Int) u v w x e0 b0 c0) (G89 t [(5:Int),0,0,0,0,0] (fun h0=>cond (decide (h0≥(0:Int))) (d i u v w x e0 b0 c0) (h (IntKind.wrap .i64 (i+(1:Int))) u v w x e0 b0 c0)))))) (e j l n o p q r)
def g80l0{α:Type}(G86:Al S_g86)(G81:Al S_g81)(G89:Al S_g89)(a:Int)(b:Nat)(c:Ty0)(d:Int→Bool→Nat→Nat→Nat→Int→Ty4→Ty0→Option α)(e:Bool→Nat→Nat→Nat→Int→Ty4→Ty0→Option α):Nat→Int→Bool→Nat→Nat→Nat→Int→Ty4→Ty0→Option α
 |0=>fun _ _ _ _ _ _ _ _=>none
 |m+1=>fun h i j l n o p q=>g80l0b G86 G81 G89 a b c d e (g80l0 G86 G81 G89 a b c d e m) h i j l n o p q
def g80l0M(A86:Al S_g86){α:Type}(m:Nat):S_g80l0 α:=
 fun a b c d e h i j l n o p q=>g80l0 A86 (g81 m) (g89 m) a b c d e m h i j l n o p q
def g80l0D:LoopD:={n:=27,low:=[0,1,2,3],sl:=[0,1,5],bl:=[0,1,2,3,1000004],tp:=[(.vl (.sv (.ptr 0 0))),(.vl (.sv (.int .i16))),tI],bp:=[(true,[(.one .bool),(.one (.slc 1 0 5)),(.one (.mpp 2)),(.one (.gsl 1000004 2)),(.one (.int .i64))]),(false,[(.seqv rN)]),(true,[(.mp rP mW)]),(true,[]),(true,[(.gro rP)])],xs:=[(1,[4]),(2,[0])]}
def g80l0K{α:Type}(L:S_g80l0 α)(ls:List Lf)(k:KEx α):Option α:=
 L (lf ls 0).int (lf ls 7).nat ((lf ls 8).lst rN)
  (fun c d e h i j l n=>k .ret (mkSt 27 [4] [(.vl (.sv (.int .i64 c)))] [0,1,2,3,1000004] [(true,[(.one (.bool d)),(.one (.slc 1 0 5 e h i)),(.one (.mpp 2)),(.one (.gsl 1000004 2)),(.one (.int .i64 j))]),(false,[(.seq rN (lf ls 7).nat ((lf ls 8).lst rN))]),(true,[(.mp rP mW l)]),(true,[]),(true,[(.gro rP n)])]))
  (fun c d e h i o l=>k .normal (mkSt 27 [0] [(.vl (.sv (.ptr 0 0)))] [0,1,2,3,1000004] [(true,[(.one (.bool c)),(.one (.slc 1 0 5 d e h)),(.one (.mpp 2)),(.one (.gsl 1000004 2)),(.one (.int .i64 i))]),(false,[(.seq rN (lf ls 7).nat ((lf ls 8).lst rN))]),(true,[(.mp rP mW o)]),(true,[]),(true,[(.gro rP l)])]))
  (lf ls 1).int (lf ls 2).bool (lf ls 3).nat (lf ls 4).nat (lf ls 5).nat (lf ls 6).int ((lf ls 9).map rP mW) ((lf ls 10).lst rP)
def g80b{α:Type}(G86:Al S_g86)(G81:Al S_g81)(G89:Al S_g89)(L80l0:Al S_g80l0)(a:Int)(b:Bool)(c d e:Nat)(h:Int)(i:Nat)(j:Ty0)(l:Ty4)(n:Ty0)(o:Int→Bool→Nat→Nat→Nat→Int→Ty4→Ty0→Option α):Option α:=L80l0 a i j (fun p q r s t u v w=>o p q r s t u v w) (fun x y z a0 b0 c0 d0=>o (0:Int) x y z a0 (7:Int) c0 d0) (0:Int) b c d e h l n
def g80(A86:Al S_g86){α:Type}(m:Nat):S_g80 α:=
 g80b A86 (g81 m) (g89 m) (g80l0M A86 m)
def g80tp:List TP:=[(.vl (.sv (.ptr 0 0))),(.vl (.sv (.int .i16)))]
def g80bp:List BP:=[bA,(false,[(.seqv rN)]),(true,[(.mp rP mW)]),(true,[(.gro rP)])]
def g80K{α:Type}(G:S_g80 α)(ls:List Lf)(k:KRe α):Option α:=
 G (lf ls 0).int (lf ls 1).bool (lf ls 2).nat (lf ls 3).nat (lf ls 4).nat (lf ls 5).int (lf ls 6).nat ((lf ls 7).lst rN) ((lf ls 8).map rP mW) ((lf ls 9).lst rP)
  (fun c d e h i j l n=>k (.vl (.sv (.int .i64 c))) [[(.one (.bool d)),(.one (.slc 1 0 5 e h i)),(.one (.mpp 2)),(.one (.gsl 4 2)),(.one (.int .i64 j))],[(.seq rN (lf ls 6).nat ((lf ls 7).lst rN))],[(.mp rP mW l)],[]] [[(.gro rP n)]])
def g80R{α:Type}(G:S_g80 α):=rowK g80tp g80bp (g80K G)
def g80hd(G86:Al S_g86)(G81:Al S_g81)(G89:Al S_g89)(L80l0:Al S_g80l0):Hd where
 call:=fun f args Bs k=>cond (Nat.beq f 86) (g86R G86 args Bs k) (cond (Nat.beq f 81) (g81R G81 args Bs k) (cond (Nat.beq f 89) (g89R G89 args Bs k) (none)))
 loop:=fun id st k=>cond (Nat.beq id 0) (loopH g80l0D (g80l0K L80l0) st k) (none)
 ro:=fun f=>cond (Nat.beq f 81) [1,2,3] (cond (Nat.beq f 86) [1] ([]))
def g80h(A86:Al S_g86)(m:Nat):Hd:=g80hd A86 (g81 m) (g89 m) (g80l0M A86 m)
theorem g80l0Step(G86:Al S_g86)(G81:Al S_g81)(G89:Al S_g89)(L80l0:Al S_g80l0){α:Type}(L:S_g80l0 α)(ls:List Lf)(k:KEx α):
  g80l0K (fun a b c d e h i j l n o p q=>g80l0b G86 G81 G89 a b c d e (L a b c d e) h i j l n o p q) ls k=ev tab (g80hd G86 G81 G89 L80l0) (bodyAt Try.f80 0) (atHead g80l0D ls) (loopK g80l0D 0 (loopH g80l0D (g80l0K L)) k):=by kernel_rfl
theorem g80Main(G86:Al S_g86)(G81:Al S_g81)(G89:Al S_g89)(L80l0:Al S_g80l0){α:Type}(ls:List Lf)(k:KRe α):
  g80K (g80b G86 G81 G89 L80l0) ls k=evFunM tab (g80hd G86 G81 G89 L80l0) Try.f80 3 (fT g80tp ls) (fB g80tp g80bp ls) k:=by kernel_rfl
theorem g80Calls(A86:Al S_g86)(hA86:HA86 A86)(m:Nat):(g80h A86 m).CallsOk Try.prog:=(cok_cons hA86 (cok_cons (g81Ok m) (cok_cons (g89Ok m) cok_nil)))
theorem g80l0Ok(A86:Al S_g86)(hA86:HA86 A86)(m:Nat)(α:Type)(st:St)(k:KEx α)(r:α)(h:(g80h A86 m).loop 0 st k=some r):
  LoopS Try.prog 0 (bodyAt Try.f80 0) st k r:=
 lpk (F:=fun n ls k=>g80l0K (fun a b c d e i j l o q s t u=>g80l0 A86 (g81 m) (g89 m) a b c d e n i j l o q s t u) ls k) (g80Calls A86 hA86 m) (lb0 (by kernel_rfl))
  (fun _ _=>rfl) (fun n ls k=>g80l0Step A86 (g81 m) (g89 m) (g80l0M A86 m) (fun a b c d e=>g80l0 A86 (g81 m) (g89 m) a b c d e n) ls k) (n:=m) h
theorem g80Fn(A86:Al S_g86)(hA86:HA86 A86)(m:Nat):FnOk Try.prog 80 g80tp g80bp (fun{α}=>g80K (g80 A86 m (α:=α))):=
 fn_okM (tab:=tab) (h:=g80h A86 m) (fn:=Try.f80) (F:=fun{α}=>g80K (g80 A86 m (α:=α))) tabOk (g80Calls A86 hA86 m) mixed (by kernel_rfl) (by kernel_rfl) (fun c hc=>by
  rw[bodyOf_some hc]
  exact loopsOk_of _ (fun p hp=>by
  rw[show loopsOf (bodyOf Try.f80)=[(0,bodyAt Try.f80 0)] by kernel_rfl] at hp
  simp only[List.mem_cons,List.not_mem_nil,or_false] at hp
  rcases hp with rfl
  exact g80l0Ok A86 hA86 m))
  (fun _=>g80Main A86 (g81 m) (g89 m) (g80l0M A86 m))
theorem g80Ok(A86:Al S_g86)(hA86:HA86 A86)(m:Nat):RowOk Try.prog 80 (fun{α}=>g80R (g80 A86 m (α:=α))):=row_of (g80Fn A86 hA86 m)
abbrev S_g54(α:Type):Type:=Bool→(List Int)→(Int→Option α)→Option α
def g54b{α:Type}(a:Bool)(b:List Int)(c:Int→Option α):Option α:=cond a (c (-1:Int)) (cond (eqLI b [0,0,0,0,0,0]) (c (0:Int)) (c (1:Int)))
def g54{α:Type}(m:Nat):S_g54 α:=
 g54b
def g54tp:List TP:=[vW]
def g54bp:List BP:=[]
def g54K{α:Type}(G:S_g54 α)(ls:List Lf)(k:KRe α):Option α:=
 G (lf ls 0).bool ((lf ls 1).lst uU)
  (fun a=>k (.vl (.sv (.int .i64 a))) [] [])
def g54R{α:Type}(G:S_g54 α):=rowK g54tp g54bp (g54K G)
def g54hd:Hd where
 call:=fun f args Bs k=>none
 loop:=fun id st k=>none
 ro:=fun f=>[]
def g54h(m:Nat):Hd:=g54hd
theorem g54Main{α:Type}(ls:List Lf)(k:KRe α):
  g54K (g54b) ls k=evFun tab (g54hd) Try.f54 (fT g54tp ls) (fB g54tp g54bp ls) k:=by kernel_rfl
theorem g54Calls(m:Nat):(g54h m).CallsOk Try.prog:=cok_nil
theorem g54Ok(m:Nat):RowOk Try.prog 54 (fun{α}=>g54R (g54 m (α:=α))):=
 rwk (g54Calls m) (lo0 (by kernel_rfl))
  (fun _=>g54Main)
abbrev S_g140(α:Type):Type:=Int→Int→Int→Int→Int→Int→Bool→Nat→Nat→Nat→Int→Nat→Ty0→Ty4→Ty0→(Bool→(List Int)→Bool→Nat→Nat→Nat→Int→Ty4→Ty0→Option α)→Option α
def g140b{α:Type}(G80:Al S_g80)(G81:Al S_g81)(G84:Al S_g84)(G86:Al S_g86)(G69v1:Al S_g69v1)(G54:Al S_g54)(G57v1:Al S_g57v1)(a b:Int)(c d:Int)(e h:Int)(i:Bool)(j l n:Nat)(o:Int)(p:Nat)(q:Ty0)(r:Ty4)(s:Ty0)(t:Bool→(List Int)→Bool→Nat→Nat→Nat→Int→Ty4→Ty0→Option α):Option α:=G80 c i j l n o p q r s (fun u v w x y z a0 b0=>G81 v w x y z p q a0 b0 (fun c0 d0=>cond c0 (t false [0,0,0,0,0,0] v w x y d0 a0 b0) (G84 b v w x y d0 p q a0 b0 (fun e0 h0 i0 j0 l0 n0 o0 p0=>G86 b (IntKind.wrap .i64 ((IntKind.wrap .i64 (h+u))+(3:Int))) h0 i0 j0 l0 n0 p q o0 p0 (fun q0 r0 s0 t0 u0 v0 w0 x0 y0 z0 a1=>G86 c (IntKind.wrap .i64 ((IntKind.wrap .i64 ((IntKind.wrap .i64 (h+e0))+(IntKind.wrap .i64 ((2:Int)*u))))+(4:Int))) s0 t0 u0 v0 w0 p q z0 a1 (fun b1 c1 d1 e1 h1 i1 j1 l1 n1 o1 p1=>G81 d1 e1 h1 i1 j1 p q o1 p1 (fun q1 r1=>cond q1 (t false [0,0,0,0,0,0] d1 e1 h1 i1 r1 o1 p1) (G69v1 q0 r0 (IntKind.wrap .i64 ((IntKind.wrap .i64 ((IntKind.wrap .i64 (h+e0))+u))+(1:Int))) d1 e1 h1 i1 r1 p q o1 p1 (fun s1 t1 u1=>G81 u1 e1 h1 i1 r1 p q o1 p1 (fun v1 w1=>cond v1 (t false [0,0,0,0,0,0] u1 e1 h1 i1 w1 o1 p1) (G54 b1 c1 (fun x1=>cond (x1==(0:Int)) (t false [0,0,0,0,0,0] u1 e1 h1 i1 w1 o1 p1) (G57v1 s1 t1 b1 c1 u1 e1 h1 i1 w1 p q o1 p1 (fun y1 z1 a2=>t y1 z1 a2 e1 h1 i1 w1 o1 p1))))))))))))))
def g140(A86:Al S_g86){α:Type}(m:Nat):S_g140 α:=
 g140b (g80 A86 m) (g81 m) (g84 A86 m) A86 (g69v1 m) (g54 m) (g57v1 m)
def g140tp:List TP:=[(.vl (.sv (.ptr 0 0))),(.vl (.agg [(.one (.int .i8)),(.one (.int .i16)),(.one (.int .i16)),(.one (.int .i64)),(.one (.int .i64))])),tI]
def g140bp:List BP:=[bA,(false,[(.seqv rN)]),(true,[(.mp rP mW)]),(true,[(.gro rP)])]
def g140K{α:Type}(G:S_g140 α)(ls:List Lf)(k:KRe α):Option α:=
 G (lf ls 0).int (lf ls 1).int (lf ls 2).int (lf ls 3).int (lf ls 4).int (lf ls 5).int (lf ls 6).bool (lf ls 7).nat (lf ls 8).nat (lf ls 9).nat (lf ls 10).int (lf ls 11).nat ((lf ls 12).lst rN) ((lf ls 13).map rP mW) ((lf ls 14).lst rP)
  (fun c d e h i j l n o=>k (.vl (.agg [(.one (.bool c)),(.seq uU 6 d)])) [[(.one (.bool e)),(.one (.slc 1 0 5 h i j)),(.one (.mpp 2)),(.one (.gsl 4 2)),(.one (.int .i64 l))],[(.seq rN (lf ls 11).nat ((lf ls 12).lst rN))],[(.mp rP mW n)],[]] [[(.gro rP o)]])
def g140R{α:Type}(G:S_g140 α):=rowK g140tp g140bp (g140K G)
def g140hd(G80:Al S_g80)(G81:Al S_g81)(G84:Al S_g84)(G86:Al S_g86)(G69v1:Al S_g69v1)(G54:Al S_g54)(G57v1:Al S_g57v1):Hd where
 call:=fun f args Bs k=>cond (Nat.beq f 80) (g80R G80 args Bs k) (cond (Nat.beq f 81) (g81R G81 args Bs k) (cond (Nat.beq f 84) (g84R G84 args Bs k) (cond (Nat.beq f 86) (g86R G86 args Bs k) (cond (Nat.beq f 69) (g69v1R G69v1 args Bs k) (cond (Nat.beq f 54) (g54R G54 args Bs k) (cond (Nat.beq f 57) (g57v1R G57v1 args Bs k) (none)))))))
 loop:=fun id st k=>none
 ro:=fun f=>cond (Nat.beq f 57) [1,2,3] (cond (Nat.beq f 69) [1,2,3] (cond (Nat.beq f 80) [1] (cond (Nat.beq f 81) [1,2,3] (cond (Nat.beq f 84) [1] (cond (Nat.beq f 86) [1] ([]))))))
def g140h(A86:Al S_g86)(m:Nat):Hd:=g140hd (g80 A86 m) (g81 m) (g84 A86 m) A86 (g69v1 m) (g54 m) (g57v1 m)
theorem g140Main(G80:Al S_g80)(G81:Al S_g81)(G84:Al S_g84)(G86:Al S_g86)(G69v1:Al S_g69v1)(G54:Al S_g54)(G57v1:Al S_g57v1){α:Type}(ls:List Lf)(k:KRe α):
  g140K (g140b G80 G81 G84 G86 G69v1 G54 G57v1) ls k=evFunM tab (g140hd G80 G81 G84 G86 G69v1 G54 G57v1) Try.f140 3 (fT g140tp ls) (fB g140tp g140bp ls) k:=by kernel_rfl
theorem g140Calls(A86:Al S_g86)(hA86:HA86 A86)(m:Nat):(g140h A86 m).CallsOk Try.prog:=(cok_cons (g80Ok A86 hA86 m) (cok_cons (g81Ok m) (cok_cons (g84Ok A86 hA86 m) (cok_cons hA86 (cok_cons (g69v1Ok m) (cok_cons (g54Ok m) (cok_cons (g57v1Ok m) cok_nil)))))))
theorem g140Fn(A86:Al S_g86)(hA86:HA86 A86)(m:Nat):FnOk Try.prog 140 g140tp g140bp (fun{α}=>g140K (g140 A86 m (α:=α))):=
 fn_okM (tab:=tab) (h:=g140h A86 m) (fn:=Try.f140) (F:=fun{α}=>g140K (g140 A86 m (α:=α))) tabOk (g140Calls A86 hA86 m) mixed (by kernel_rfl) (by kernel_rfl) (fun c hc=>by
  rw[bodyOf_some hc]
  exact loopsOk_of _ (fun p hp=>by rw[show loopsOf (bodyOf Try.f140)=[] by kernel_rfl] at hp;cases hp))
  (fun _=>g140Main (g80 A86 m) (g81 m) (g84 A86 m) A86 (g69v1 m) (g54 m) (g57v1 m))
theorem g140Ok(A86:Al S_g86)(hA86:HA86 A86)(m:Nat):RowOk Try.prog 140 (fun{α}=>g140R (g140 A86 m (α:=α))):=row_of (g140Fn A86 hA86 m)
abbrev S_g72(α:Type):Type:=(List Int)→((List Int)→Option α)→Option α
abbrev S_g72l0(α:Type):Type:=(List Int)→(List Int)→((List Int)→Option α)→Int→(List Int)→Option α
def g72l0b{α:Type}(G98:Al S_g98)(G108:Al S_g108)(G97:Al S_g97)(G103:Al S_g103)(G89:Al S_g89)(a b:List Int)(c:(List Int)→Option α)(d:Int→(List Int)→Option α)(e:Int)(h:List Int):Option α:=cond (decide (e≥(0:Int))) (G98 (fun i=>G108 i e (fun j=>G97 h j (fun l n=>G103 l l (fun o p=>cond (!p) (G89 o a (fun q=>cond (decide (q≤(0:Int))) (d (IntKind.wrap .i64 (e-(1:Int))) l) (d (IntKind.wrap .i64 (e-(1:Int))) h))) (d (IntKind.wrap .i64 (e-(1:Int))) h)))))) (c h)
def g72l0{α:Type}(G98:Al S_g98)(G108:Al S_g108)(G97:Al S_g97)(G103:Al S_g103)(G89:Al S_g89)(a b:List Int)(c:(List Int)→Option α):Nat→Int→(List Int)→Option α
 |0=>fun _ _=>none
 |m+1=>fun d e=>g72l0b G98 G108 G97 G103 G89 a b c (g72l0 G98 G108 G97 G103 G89 a b c m) d e
def g72l0M{α:Type}(m:Nat):S_g72l0 α:=
 fun a b c d e=>g72l0 (g98 m) (g108 m) (g97 m) (g103 m) (g89 m) a b c m d e
def g72l0D:LoopD:={n:=42,low:=[],sl:=[1,2,3,4],bl:=[1000000,1000001,1000002],tp:=[(.vl (.sv (.ptr 1000000 0))),(.vl (.sv (.ptr 1000001 0))),(.vl (.sv (.ptr 1000002 0))),tI],bp:=[b6,b6,b6],xs:=[(2,[2,3])]}
def g72l0K{α:Type}(L:S_g72l0 α)(ls:List Lf)(k:KEx α):Option α:=
 L ((lf ls 1).lst uU) ((lf ls 2).lst uU)
  (fun a=>k .normal (mkSt 42 [2,3] [(.vl (.sv (.ptr 1000000 0))),(.vl (.sv (.ptr 1000001 0)))] [1000000,1000001] [(true,[(.seq uU 6 ((lf ls 2).lst uU))]),(true,[(.seq uU 6 a)])]))
  (lf ls 0).int ((lf ls 3).lst uU)
def g72b{α:Type}(G107:Al S_g107)(G98:Al S_g98)(G108:Al S_g108)(G97:Al S_g97)(G103:Al S_g103)(G89:Al S_g89)(L72l0:Al S_g72l0)(a:List Int)(b:(List Int)→Option α):Option α:=G107 a (fun c=>L72l0 a [0,0,0,0,0,0] (fun d=>b d) (IntKind.wrap .i64 (Int.tdiv (IntKind.wrap .i64 (c+(1:Int))) (2:Int))) [0,0,0,0,0,0])
def g72{α:Type}(m:Nat):S_g72 α:=
 g72b (g107 m) (g98 m) (g108 m) (g97 m) (g103 m) (g89 m) (g72l0M m)
def g72tp:List TP:=[(.vl (.agg [(.seq uU 6)]))]
def g72bp:List BP:=[]
def g72K{α:Type}(G:S_g72 α)(ls:List Lf)(k:KRe α):Option α:=
 G ((lf ls 0).lst uU)
  (fun a=>k (.vl (.agg [(.seq uU 6 a)])) [] [])
def g72R{α:Type}(G:S_g72 α):=rowK g72tp g72bp (g72K G)
def g72hd(G107:Al S_g107)(G98:Al S_g98)(G108:Al S_g108)(G97:Al S_g97)(G103:Al S_g103)(G89:Al S_g89)(L72l0:Al S_g72l0):Hd where
 call:=fun f args Bs k=>cond (Nat.beq f 107) (g107R G107 args Bs k) (cond (Nat.beq f 98) (g98R G98 args Bs k) (cond (Nat.beq f 108) (g108R G108 args Bs k) (cond (Nat.beq f 97) (g97R G97 args Bs k) (cond (Nat.beq f 103) (g103R G103 args Bs k) (cond (Nat.beq f 89) (g89R G89 args Bs k) (none))))))
 loop:=fun id st k=>cond (Nat.beq id 0) (loopH g72l0D (g72l0K L72l0) st k) (none)
 ro:=fun f=>[]
def g72h(m:Nat):Hd:=g72hd (g107 m) (g98 m) (g108 m) (g97 m) (g103 m) (g89 m) (g72l0M m)
theorem g72l0Step(G107:Al S_g107)(G98:Al S_g98)(G108:Al S_g108)(G97:Al S_g97)(G103:Al S_g103)(G89:Al S_g89)(L72l0:Al S_g72l0){α:Type}(L:S_g72l0 α)(ls:List Lf)(k:KEx α):
  g72l0K (fun a b c d e=>g72l0b G98 G108 G97 G103 G89 a b c (L a b c) d e) ls k=ev tab (g72hd G107 G98 G108 G97 G103 G89 L72l0) (bodyAt Try.f72 0) (atHead g72l0D ls) (loopK g72l0D 0 (loopH g72l0D (g72l0K L)) k):=by kernel_rfl
theorem g72Main(G107:Al S_g107)(G98:Al S_g98)(G108:Al S_g108)(G97:Al S_g97)(G103:Al S_g103)(G89:Al S_g89)(L72l0:Al S_g72l0){α:Type}(ls:List Lf)(k:KRe α):
  g72K (g72b G107 G98 G108 G97 G103 G89 L72l0) ls k=evFun tab (g72hd G107 G98 G108 G97 G103 G89 L72l0) Try.f72 (fT g72tp ls) (fB g72tp g72bp ls) k:=by kernel_rfl
theorem g72Calls(m:Nat):(g72h m).CallsOk Try.prog:=(cok_cons (g107Ok m) (cok_cons (g98Ok m) (cok_cons (g108Ok m) (cok_cons (g97Ok m) (cok_cons (g103Ok m) (cok_cons (g89Ok m) cok_nil))))))
theorem g72l0Ok(m:Nat)(α:Type)(st:St)(k:KEx α)(r:α)(h:(g72h m).loop 0 st k=some r):
  LoopS Try.prog 0 (bodyAt Try.f72 0) st k r:=
 lpk (F:=fun n ls k=>g72l0K (fun a b c d e=>g72l0 (g98 m) (g108 m) (g97 m) (g103 m) (g89 m) a b c n d e) ls k) (g72Calls m) (lb0 (by kernel_rfl))
  (fun _ _=>rfl) (fun n ls k=>g72l0Step (g107 m) (g98 m) (g108 m) (g97 m) (g103 m) (g89 m) (g72l0M m) (fun a b c=>g72l0 (g98 m) (g108 m) (g97 m) (g103 m) (g89 m) a b c n) ls k) (n:=m) h
theorem g72Ok(m:Nat):RowOk Try.prog 72 (fun{α}=>g72R (g72 m (α:=α))):=
 rwk (g72Calls m) (lo1 (by kernel_rfl) (g72l0Ok m))
  (fun _=>g72Main (g107 m) (g98 m) (g108 m) (g97 m) (g103 m) (g89 m) (g72l0M m))
abbrev S_g149(α:Type):Type:=Int→Int→Bool→Nat→Nat→Nat→Int→Nat→Ty0→Ty4→Ty0→(Bool→(List Int)→Bool→Option α)→Option α
abbrev S_g149l0(α:Type):Type:=Int→Nat→Nat→Nat→Int→Nat→Ty0→Ty4→Ty0→Bool→(List Int)→(Bool→Bool→(List Int)→Option α)→Int→Bool→(List Int)→Bool→(List Int)→Option α
def g149l0b{α:Type}(G122:Al S_g122)(G64:Al S_g64)(G62v1:Al S_g62v1)(a:Int)(b c d:Nat)(e:Int)(h:Nat)(i:Ty0)(j:Ty4)(l:Ty0)(n:Bool)(o:List Int)(p:Bool→Bool→(List Int)→Option α)(q:Int→Bool→(List Int)→Bool→(List Int)→Option α)(r:Int)(s:Bool)(t:List Int)(u:Bool)(v:List Int):Option α:=cond (!(eqLI t [0,0,0,0,0,0])) (G122 t (IntKind.wrap .u32 ((IntKind.wrap .u32 ((2:Int)*r))+(1:Int))) (fun w x=>G64 ((Int.tmod r (2:Int))==(1:Int)) w (fun y=>G62v1 u v y w s b c d e h i j l (fun z a0 b0=>G122 t (IntKind.wrap .u32 (a*a)) (fun c0 d0=>q (IntKind.wrap .u32 (r+(1:Int))) b0 c0 z a0))))) (p s u v)
def g149l0{α:Type}(G122:Al S_g122)(G64:Al S_g64)(G62v1:Al S_g62v1)(a:Int)(b c d:Nat)(e:Int)(h:Nat)(i:Ty0)(j:Ty4)(l:Ty0)(n:Bool)(o:List Int)(p:Bool→Bool→(List Int)→Option α):Nat→Int→Bool→(List Int)→Bool→(List Int)→Option α
 |0=>fun _ _ _ _ _=>none
 |m+1=>fun q r s t u=>g149l0b G122 G64 G62v1 a b c d e h i j l n o p (g149l0 G122 G64 G62v1 a b c d e h i j l n o p m) q r s t u
def g149l0M{α:Type}(m:Nat):S_g149l0 α:=
 fun a b c d e h i j l n o p q r s t u=>g149l0 (g122 m) (g64 m) (g62v1 m) a b c d e h i j l n o p m q r s t u
def g149l0D:LoopD:={n:=55,low:=[0,1,2,3],sl:=[0,1,6,7,9,10],bl:=[0,1,2,3,1000004,1000005,1000006],tp:=[(.vl (.sv (.ptr 0 0))),(.vl (.sv (.int .u32))),(.vl (.sv (.ptr 1000004 0))),(.vl (.sv (.ptr 1000005 0))),(.vl (.sv (.ptr 1000006 0))),(.vl (.sv (.int .u32)))],bp:=[bA,(false,[(.seqv rN)]),(false,[(.mp rP mW)]),(false,[(.gro rP)]),(true,[(.one .bool),(.seq uU 6)]),b6,(true,[(.one .bool),(.seq uU 6)])],xs:=[(2,[6,9])]}
def g149l0K{α:Type}(L:S_g149l0 α)(ls:List Lf)(k:KEx α):Option α:=
 L (lf ls 0).int (lf ls 3).nat (lf ls 4).nat (lf ls 5).nat (lf ls 6).int (lf ls 7).nat ((lf ls 8).lst rN) ((lf ls 9).map rP mW) ((lf ls 10).lst rP) (lf ls 11).bool ((lf ls 12).lst uU)
  (fun c d e=>k .normal (mkSt 55 [6,9] [(.vl (.sv (.ptr 1000004 0))),(.vl (.sv (.ptr 1000005 0)))] [0,1,2,3,1000004,1000005] [(true,[(.one (.bool c)),(.one (.slc 1 0 5 (lf ls 3).nat (lf ls 4).nat (lf ls 5).nat)),(.one (.mpp 2)),(.one (.gsl 3 2)),(.one (.int .i64 (lf ls 6).int))]),(false,[(.seq rN (lf ls 7).nat ((lf ls 8).lst rN))]),(false,[(.mp rP mW ((lf ls 9).map rP mW))]),(false,[(.gro rP ((lf ls 10).lst rP))]),(true,[(.one (.bool (lf ls 11).bool)),(.seq uU 6 ((lf ls 12).lst uU))]),(true,[(.one (.bool d)),(.seq uU 6 e)])]))
  (lf ls 1).int (lf ls 2).bool ((lf ls 13).lst uU) (lf ls 14).bool ((lf ls 15).lst uU)
def g149b{α:Type}(G98:Al S_g98)(G108:Al S_g108)(G122:Al S_g122)(G64:Al S_g64)(G62v1:Al S_g62v1)(L149l0:Al S_g149l0)(a b:Int)(c:Bool)(d e h:Nat)(i:Int)(j:Nat)(l:Ty0)(n:Ty4)(o:Ty0)(p:Bool→(List Int)→Bool→Option α):Option α:=G98 (fun q=>G108 q (IntKind.wrap .i64 (b+(16:Int))) (fun r=>G122 r a (fun s t=>L149l0 a d e h i j l n o false [0,0,0,0,0,0] (fun u v w=>p v w u) (0:Int) c s false [0,0,0,0,0,0])))
def g149{α:Type}(m:Nat):S_g149 α:=
 g149b (g98 m) (g108 m) (g122 m) (g64 m) (g62v1 m) (g149l0M m)
def g149tp:List TP:=[(.vl (.sv (.ptr 0 0))),(.vl (.sv (.int .u32))),tI]
def g149bp:List BP:=[bA,(false,[(.seqv rN)]),(false,[(.mp rP mW)]),(false,[(.gro rP)])]
def g149K{α:Type}(G:S_g149 α)(ls:List Lf)(k:KRe α):Option α:=
 G (lf ls 0).int (lf ls 1).int (lf ls 2).bool (lf ls 3).nat (lf ls 4).nat (lf ls 5).nat (lf ls 6).int (lf ls 7).nat ((lf ls 8).lst rN) ((lf ls 9).map rP mW) ((lf ls 10).lst rP)
  (fun c d e=>k (.vl (.agg [(.one (.bool c)),(.seq uU 6 d)])) [[(.one (.bool e)),(.one (.slc 1 0 5 (lf ls 3).nat (lf ls 4).nat (lf ls 5).nat)),(.one (.mpp 2)),(.one (.gsl 3 2)),(.one (.int .i64 (lf ls 6).int))],[(.seq rN (lf ls 7).nat ((lf ls 8).lst rN))],[(.mp rP mW ((lf ls 9).map rP mW))],[(.gro rP ((lf ls 10).lst rP))]] [])
def g149R{α:Type}(G:S_g149 α):=rowK g149tp g149bp (g149K G)
def g149hd(G98:Al S_g98)(G108:Al S_g108)(G122:Al S_g122)(G64:Al S_g64)(G62v1:Al S_g62v1)(L149l0:Al S_g149l0):Hd where
 call:=fun f args Bs k=>cond (Nat.beq f 98) (g98R G98 args Bs k) (cond (Nat.beq f 108) (g108R G108 args Bs k) (cond (Nat.beq f 122) (g122R G122 args Bs k) (cond (Nat.beq f 64) (g64R G64 args Bs k) (cond (Nat.beq f 62) (g62v1R G62v1 args Bs k) (none)))))
 loop:=fun id st k=>cond (Nat.beq id 0) (loopH g149l0D (g149l0K L149l0) st k) (none)
 ro:=fun f=>cond (Nat.beq f 62) [1,2,3] ([])
def g149h(m:Nat):Hd:=g149hd (g98 m) (g108 m) (g122 m) (g64 m) (g62v1 m) (g149l0M m)
theorem g149l0Step(G98:Al S_g98)(G108:Al S_g108)(G122:Al S_g122)(G64:Al S_g64)(G62v1:Al S_g62v1)(L149l0:Al S_g149l0){α:Type}(L:S_g149l0 α)(ls:List Lf)(k:KEx α):
  g149l0K (fun a b c d e h i j l n o p q r s t u=>g149l0b G122 G64 G62v1 a b c d e h i j l n o p (L a b c d e h i j l n o p) q r s t u) ls k=ev tab (g149hd G98 G108 G122 G64 G62v1 L149l0) (bodyAt Try.f149 0) (atHead g149l0D ls) (loopK g149l0D 0 (loopH g149l0D (g149l0K L)) k):=by kernel_rfl
theorem g149Main(G98:Al S_g98)(G108:Al S_g108)(G122:Al S_g122)(G64:Al S_g64)(G62v1:Al S_g62v1)(L149l0:Al S_g149l0){α:Type}(ls:List Lf)(k:KRe α):
  g149K (g149b G98 G108 G122 G64 G62v1 L149l0) ls k=evFun tab (g149hd G98 G108 G122 G64 G62v1 L149l0) Try.f149 (fT g149tp ls) (fB g149tp g149bp ls) k:=by kernel_rfl
theorem g149Calls(m:Nat):(g149h m).CallsOk Try.prog:=(cok_cons (g98Ok m) (cok_cons (g108Ok m) (cok_cons (g122Ok m) (cok_cons (g64Ok m) (cok_cons (g62v1Ok m) cok_nil)))))
theorem g149l0Ok(m:Nat)(α:Type)(st:St)(k:KEx α)(r:α)(h:(g149h m).loop 0 st k=some r):
  LoopS Try.prog 0 (bodyAt Try.f149 0) st k r:=
 lpk (F:=fun n ls k=>g149l0K (fun a b c d e i j l o q s t u v w x y=>g149l0 (g122 m) (g64 m) (g62v1 m) a b c d e i j l o q s t n u v w x y) ls k) (g149Calls m) (lb0 (by kernel_rfl))
  (fun _ _=>rfl) (fun n ls k=>g149l0Step (g98 m) (g108 m) (g122 m) (g64 m) (g62v1 m) (g149l0M m) (fun a b c d e i j l o q s t=>g149l0 (g122 m) (g64 m) (g62v1 m) a b c d e i j l o q s t n) ls k) (n:=m) h
theorem g149Ok(m:Nat):RowOk Try.prog 149 (fun{α}=>g149R (g149 m (α:=α))):=
 rwk (g149Calls m) (lo1 (by kernel_rfl) (g149l0Ok m))
  (fun _=>g149Main (g98 m) (g108 m) (g122 m) (g64 m) (g62v1 m) (g149l0M m))
abbrev S_g141(α:Type):Type:=Int→Bool→Nat→Nat→Nat→Int→Nat→Ty0→Ty4→Ty0→(Bool→(List Int)→Bool→Option α)→Option α
def g141b{α:Type}(G19:Al S_g19)(G149:Al S_g149)(G61v1:Al S_g61v1)(G63v1:Al S_g63v1)(G70v1:Al S_g70v1)(a:Int)(b:Bool)(c d e:Nat)(h:Int)(i:Nat)(j:Ty0)(l:Ty4)(n:Ty0)(o:Bool→(List Int)→Bool→Option α):Option α:=G19 (16:Int) (fun p q=>G149 (5:Int) a b c d e h i j l n (fun r s t=>G61v1 p q r s t c d e h i j l n (fun u v w=>G19 (4:Int) (fun x y=>G149 (239:Int) a w c d e h i j l n (fun z a0 b0=>G61v1 x y z a0 b0 c d e h i j l n (fun c0 d0 e0=>G63v1 u v c0 d0 e0 c d e h i j l n (fun h0 i0 j0=>G70v1 h0 i0 (16:Int) j0 c d e h i j l n (fun l0 n0 o0=>o l0 n0 o0))))))))
def g141{α:Type}(m:Nat):S_g141 α:=
 g141b (g19 m) (g149 m) (g61v1 m) (g63v1 m) (g70v1 m)
def g141tp:List TP:=[(.vl (.sv (.ptr 0 0))),tI]
def g141bp:List BP:=[bA,(false,[(.seqv rN)]),(false,[(.mp rP mW)]),(false,[(.gro rP)])]
def g141K{α:Type}(G:S_g141 α)(ls:List Lf)(k:KRe α):Option α:=
 G (lf ls 0).int (lf ls 1).bool (lf ls 2).nat (lf ls 3).nat (lf ls 4).nat (lf ls 5).int (lf ls 6).nat ((lf ls 7).lst rN) ((lf ls 8).map rP mW) ((lf ls 9).lst rP)
  (fun c d e=>k (.vl (.agg [(.one (.bool c)),(.seq uU 6 d)])) [[(.one (.bool e)),(.one (.slc 1 0 5 (lf ls 2).nat (lf ls 3).nat (lf ls 4).nat)),(.one (.mpp 2)),(.one (.gsl 3 2)),(.one (.int .i64 (lf ls 5).int))],[(.seq rN (lf ls 6).nat ((lf ls 7).lst rN))],[(.mp rP mW ((lf ls 8).map rP mW))],[(.gro rP ((lf ls 9).lst rP))]] [])
def g141R{α:Type}(G:S_g141 α):=rowK g141tp g141bp (g141K G)
def g141hd(G19:Al S_g19)(G149:Al S_g149)(G61v1:Al S_g61v1)(G63v1:Al S_g63v1)(G70v1:Al S_g70v1):Hd where
 call:=fun f args Bs k=>cond (Nat.beq f 19) (g19R G19 args Bs k) (cond (Nat.beq f 149) (g149R G149 args Bs k) (cond (Nat.beq f 61) (g61v1R G61v1 args Bs k) (cond (Nat.beq f 63) (g63v1R G63v1 args Bs k) (cond (Nat.beq f 70) (g70v1R G70v1 args Bs k) (none)))))
 loop:=fun id st k=>none
 ro:=fun f=>cond (Nat.beq f 61) [1,2,3] (cond (Nat.beq f 63) [1,2,3] (cond (Nat.beq f 70) [1,2,3] (cond (Nat.beq f 149) [1,2,3] ([]))))
def g141h(m:Nat):Hd:=g141hd (g19 m) (g149 m) (g61v1 m) (g63v1 m) (g70v1 m)
theorem g141Main(G19:Al S_g19)(G149:Al S_g149)(G61v1:Al S_g61v1)(G63v1:Al S_g63v1)(G70v1:Al S_g70v1){α:Type}(ls:List Lf)(k:KRe α):
  g141K (g141b G19 G149 G61v1 G63v1 G70v1) ls k=evFun tab (g141hd G19 G149 G61v1 G63v1 G70v1) Try.f141 (fT g141tp ls) (fB g141tp g141bp ls) k:=by kernel_rfl
theorem g141Calls(m:Nat):(g141h m).CallsOk Try.prog:=(cok_cons (g19Ok m) (cok_cons (g149Ok m) (cok_cons (g61v1Ok m) (cok_cons (g63v1Ok m) (cok_cons (g70v1Ok m) cok_nil)))))
theorem g141Ok(m:Nat):RowOk Try.prog 141 (fun{α}=>g141R (g141 m (α:=α))):=
 rwk (g141Calls m) (lo0 (by kernel_rfl))
  (fun _=>g141Main (g19 m) (g149 m) (g61v1 m) (g63v1 m) (g70v1 m))
abbrev S_g142(α:Type):Type:=Int→Bool→Nat→Nat→Nat→Int→Nat→Ty0→Ty4→Ty0→(Bool→(List Int)→Bool→Option α)→Option α
abbrev S_g142l0(α:Type):Type:=Nat→Nat→Nat→Int→Nat→Ty0→Ty4→Ty0→Bool→(List Int)→(Bool→Bool→(List Int)→Option α)→Int→Bool→(List Int)→Bool→(List Int)→Option α
def g142l0b{α:Type}(G64:Al S_g64)(G62v1:Al S_g62v1)(G122:Al S_g122)(a b c:Nat)(d:Int)(e:Nat)(h:Ty0)(i:Ty4)(j:Ty0)(l:Bool)(n:List Int)(o:Bool→Bool→(List Int)→Option α)(p:Int→Bool→(List Int)→Bool→(List Int)→Option α)(q:Int)(r:Bool)(s:List Int)(t:Bool)(u:List Int):Option α:=cond (!(eqLI s [0,0,0,0,0,0])) (G64 false s (fun v=>G62v1 t u v s r a b c d e h i j (fun w x y=>G122 s q (fun z a0=>p (IntKind.wrap .u32 (q+(1:Int))) y z w x)))) (o r t u)
def g142l0{α:Type}(G64:Al S_g64)(G62v1:Al S_g62v1)(G122:Al S_g122)(a b c:Nat)(d:Int)(e:Nat)(h:Ty0)(i:Ty4)(j:Ty0)(l:Bool)(n:List Int)(o:Bool→Bool→(List Int)→Option α):Nat→Int→Bool→(List Int)→Bool→(List Int)→Option α
 |0=>fun _ _ _ _ _=>none
 |m+1=>fun p q r s t=>g142l0b G64 G62v1 G122 a b c d e h i j l n o (g142l0 G64 G62v1 G122 a b c d e h i j l n o m) p q r s t
def g142l0M{α:Type}(m:Nat):S_g142l0 α:=
 fun a b c d e h i j l n o p q r s t=>g142l0 (g64 m) (g62v1 m) (g122 m) a b c d e h i j l n o m p q r s t
def g142l0D:LoopD:={n:=36,low:=[0,1,2,3],sl:=[0,4,5,6,7],bl:=[0,1,2,3,1000004,1000005,1000006],tp:=[(.vl (.sv (.ptr 0 0))),(.vl (.sv (.ptr 1000004 0))),(.vl (.sv (.ptr 1000005 0))),(.vl (.sv (.ptr 1000006 0))),(.vl (.sv (.int .u32)))],bp:=[bA,(false,[(.seqv rN)]),(false,[(.mp rP mW)]),(false,[(.gro rP)]),(true,[(.one .bool),(.seq uU 6)]),b6,(true,[(.one .bool),(.seq uU 6)])],xs:=[(2,[0,4,6])]}
def g142l0K{α:Type}(L:S_g142l0 α)(ls:List Lf)(k:KEx α):Option α:=
 L (lf ls 2).nat (lf ls 3).nat (lf ls 4).nat (lf ls 5).int (lf ls 6).nat ((lf ls 7).lst rN) ((lf ls 8).map rP mW) ((lf ls 9).lst rP) (lf ls 10).bool ((lf ls 11).lst uU)
  (fun c d e=>k .normal (mkSt 36 [0,4,6] [(.vl (.sv (.ptr 0 0))),(.vl (.sv (.ptr 1000004 0))),(.vl (.sv (.ptr 1000005 0)))] [0,1,2,3,1000004,1000005] [(true,[(.one (.bool c)),(.one (.slc 1 0 5 (lf ls 2).nat (lf ls 3).nat (lf ls 4).nat)),(.one (.mpp 2)),(.one (.gsl 3 2)),(.one (.int .i64 (lf ls 5).int))]),(false,[(.seq rN (lf ls 6).nat ((lf ls 7).lst rN))]),(false,[(.mp rP mW ((lf ls 8).map rP mW))]),(false,[(.gro rP ((lf ls 9).lst rP))]),(true,[(.one (.bool (lf ls 10).bool)),(.seq uU 6 ((lf ls 11).lst uU))]),(true,[(.one (.bool d)),(.seq uU 6 e)])]))
  (lf ls 0).int (lf ls 1).bool ((lf ls 12).lst uU) (lf ls 13).bool ((lf ls 14).lst uU)
def g142b{α:Type}(G98:Al S_g98)(G108:Al S_g108)(G64:Al S_g64)(G62v1:Al S_g62v1)(G122:Al S_g122)(G70v1:Al S_g70v1)(L142l0:Al S_g142l0)(a:Int)(b:Bool)(c d e:Nat)(h:Int)(i:Nat)(j:Ty0)(l:Ty4)(n:Ty0)(o:Bool→(List Int)→Bool→Option α):Option α:=G98 (fun p=>G108 p (IntKind.wrap .i64 (a+(16:Int))) (fun q=>L142l0 c d e h i j l n false [0,0,0,0,0,0] (fun r s t=>G70v1 s t (16:Int) r c d e h i j l n (fun u v w=>o u v w)) (1:Int) b q false [0,0,0,0,0,0]))
def g142{α:Type}(m:Nat):S_g142 α:=
 g142b (g98 m) (g108 m) (g64 m) (g62v1 m) (g122 m) (g70v1 m) (g142l0M m)
def g142tp:List TP:=[(.vl (.sv (.ptr 0 0))),tI]
def g142bp:List BP:=[bA,(false,[(.seqv rN)]),(false,[(.mp rP mW)]),(false,[(.gro rP)])]
def g142K{α:Type}(G:S_g142 α)(ls:List Lf)(k:KRe α):Option α:=
 G (lf ls 0).int (lf ls 1).bool (lf ls 2).nat (lf ls 3).nat (lf ls 4).nat (lf ls 5).int (lf ls 6).nat ((lf ls 7).lst rN) ((lf ls 8).map rP mW) ((lf ls 9).lst rP)
  (fun c d e=>k (.vl (.agg [(.one (.bool c)),(.seq uU 6 d)])) [[(.one (.bool e)),(.one (.slc 1 0 5 (lf ls 2).nat (lf ls 3).nat (lf ls 4).nat)),(.one (.mpp 2)),(.one (.gsl 3 2)),(.one (.int .i64 (lf ls 5).int))],[(.seq rN (lf ls 6).nat ((lf ls 7).lst rN))],[(.mp rP mW ((lf ls 8).map rP mW))],[(.gro rP ((lf ls 9).lst rP))]] [])
def g142R{α:Type}(G:S_g142 α):=rowK g142tp g142bp (g142K G)
def g142hd(G98:Al S_g98)(G108:Al S_g108)(G64:Al S_g64)(G62v1:Al S_g62v1)(G122:Al S_g122)(G70v1:Al S_g70v1)(L142l0:Al S_g142l0):Hd where
 call:=fun f args Bs k=>cond (Nat.beq f 98) (g98R G98 args Bs k) (cond (Nat.beq f 108) (g108R G108 args Bs k) (cond (Nat.beq f 64) (g64R G64 args Bs k) (cond (Nat.beq f 62) (g62v1R G62v1 args Bs k) (cond (Nat.beq f 122) (g122R G122 args Bs k) (cond (Nat.beq f 70) (g70v1R G70v1 args Bs k) (none))))))
 loop:=fun id st k=>cond (Nat.beq id 0) (loopH g142l0D (g142l0K L142l0) st k) (none)
 ro:=fun f=>cond (Nat.beq f 62) [1,2,3] (cond (Nat.beq f 70) [1,2,3] ([]))
def g142h(m:Nat):Hd:=g142hd (g98 m) (g108 m) (g64 m) (g62v1 m) (g122 m) (g70v1 m) (g142l0M m)
theorem g142l0Step(G98:Al S_g98)(G108:Al S_g108)(G64:Al S_g64)(G62v1:Al S_g62v1)(G122:Al S_g122)(G70v1:Al S_g70v1)(L142l0:Al S_g142l0){α:Type}(L:S_g142l0 α)(ls:List Lf)(k:KEx α):
  g142l0K (fun a b c d e h i j l n o p q r s t=>g142l0b G64 G62v1 G122 a b c d e h i j l n o (L a b c d e h i j l n o) p q r s t) ls k=ev tab (g142hd G98 G108 G64 G62v1 G122 G70v1 L142l0) (bodyAt Try.f142 0) (atHead g142l0D ls) (loopK g142l0D 0 (loopH g142l0D (g142l0K L)) k):=by kernel_rfl
theorem g142Main(G98:Al S_g98)(G108:Al S_g108)(G64:Al S_g64)(G62v1:Al S_g62v1)(G122:Al S_g122)(G70v1:Al S_g70v1)(L142l0:Al S_g142l0){α:Type}(ls:List Lf)(k:KRe α):
  g142K (g142b G98 G108 G64 G62v1 G122 G70v1 L142l0) ls k=evFun tab (g142hd G98 G108 G64 G62v1 G122 G70v1 L142l0) Try.f142 (fT g142tp ls) (fB g142tp g142bp ls) k:=by kernel_rfl
theorem g142Calls(m:Nat):(g142h m).CallsOk Try.prog:=(cok_cons (g98Ok m) (cok_cons (g108Ok m) (cok_cons (g64Ok m) (cok_cons (g62v1Ok m) (cok_cons (g122Ok m) (cok_cons (g70v1Ok m) cok_nil))))))
theorem g142l0Ok(m:Nat)(α:Type)(st:St)(k:KEx α)(r:α)(h:(g142h m).loop 0 st k=some r):
  LoopS Try.prog 0 (bodyAt Try.f142 0) st k r:=
 lpk (F:=fun n ls k=>g142l0K (fun a b c d e i j l o q s t u v w x=>g142l0 (g64 m) (g62v1 m) (g122 m) a b c d e i j l o q s n t u v w x) ls k) (g142Calls m) (lb0 (by kernel_rfl))
  (fun _ _=>rfl) (fun n ls k=>g142l0Step (g98 m) (g108 m) (g64 m) (g62v1 m) (g122 m) (g70v1 m) (g142l0M m) (fun a b c d e i j l o q s=>g142l0 (g64 m) (g62v1 m) (g122 m) a b c d e i j l o q s n) ls k) (n:=m) h
theorem g142Ok(m:Nat):RowOk Try.prog 142 (fun{α}=>g142R (g142 m (α:=α))):=
 rwk (g142Calls m) (lo1 (by kernel_rfl) (g142l0Ok m))
  (fun _=>g142Main (g98 m) (g108 m) (g64 m) (g62v1 m) (g122 m) (g70v1 m) (g142l0M m))
abbrev S_g119(α:Type):Type:=Int→Int→Int→Int→Int→Int→Bool→Nat→Nat→Nat→Int→Nat→Ty0→Ty4→Ty0→(Bool→(List Int)→Bool→Nat→Nat→Nat→Int→Ty4→Ty0→Option α)→Option α
def g119b{α:Type}(G19:Al S_g19)(G69v1:Al S_g69v1)(G57v1:Al S_g57v1)(G138:Al S_g138)(G62v1:Al S_g62v1)(G70v1:Al S_g70v1)(G63v1:Al S_g63v1)(G86:Al S_g86)(G104:Al S_g104)(G64:Al S_g64)(G73:Al S_g73)(G139:Al S_g139)(G140:Al S_g140)(G72:Al S_g72)(G141:Al S_g141)(G142:Al S_g142)(a b:Int)(c d:Int)(e h:Int)(i:Bool)(j l n:Nat)(o:Int)(p:Nat)(q:Ty0)(r:Ty4)(s:Ty0)(t:Bool→(List Int)→Bool→Nat→Nat→Nat→Int→Ty4→Ty0→Option α):Option α:=cond (a==(1:Int)) (G19 d (fun u v=>G69v1 u v h i j l n o p q r s (fun w x y=>G19 e (fun z a0=>G57v1 w x z a0 y j l n o p q r s (fun b0 c0 d0=>t b0 c0 d0 j l n o r s))))) (cond (a==(2:Int)) (G138 a b c d e (IntKind.wrap .i64 (h+(2:Int))) i j l n o p q r s (fun e0 h0 i0 j0 l0 n0 o0 p0 q0 r0 s0=>G62v1 e0 h0 i0 j0 l0 n0 o0 p0 q0 p q r0 s0 (fun t0 u0 v0=>G70v1 t0 u0 (2:Int) v0 n0 o0 p0 q0 p q r0 s0 (fun w0 x0 y0=>t w0 x0 y0 n0 o0 p0 q0 r0 s0)))) (cond (a==(3:Int)) (G138 a b c d e (IntKind.wrap .i64 (h+(2:Int))) i j l n o p q r s (fun z0 a1 b1 c1 d1 e1 h1 i1 j1 l1 n1=>G63v1 z0 a1 b1 c1 d1 e1 h1 i1 j1 p q l1 n1 (fun o1 p1 q1=>G70v1 o1 p1 (2:Int) q1 e1 h1 i1 j1 p q l1 n1 (fun r1 s1 t1=>t r1 s1 t1 e1 h1 i1 j1 l1 n1)))) (cond (a==(6:Int)) (G86 b h i j l n o p q r s (fun u1 v1 w1 x1 y1 z1 a2 b2 c2 d2 e2=>G104 u1 v1 (fun h2=>t h2 v1 w1 x1 y1 z1 a2 d2 e2))) (cond (a==(7:Int)) (G86 b h i j l n o p q r s (fun i2 j2 l2 n2 o2 p2 q2 r2 s2 t2 u2=>G64 false j2 (fun v2=>t v2 j2 l2 n2 o2 p2 q2 t2 u2))) (cond (a==(8:Int)) (G138 a b c d e h i j l n o p q r s (fun w2 x2 y2 z2 a3 b3 c3 d3 e3 h3 i3=>G73 w2 x2 y2 z2 (fun j3=>cond ((decide (j3≤(0:Int)))==(a==(8:Int))) (t w2 x2 a3 b3 c3 d3 e3 h3 i3) (t y2 z2 a3 b3 c3 d3 e3 h3 i3)))) (cond (a==(9:Int)) (G138 a b c d e h i j l n o p q r s (fun l3 n3 o3 p3 q3 r3 s3 t3 u3 v3 w3=>G73 l3 n3 o3 p3 (fun x3=>cond ((decide (x3≤(0:Int)))==(a==(8:Int))) (t l3 n3 q3 r3 s3 t3 u3 v3 w3) (t o3 p3 q3 r3 s3 t3 u3 v3 w3)))) (cond (a==(4:Int)) (G139 a b c d e h i j l n o p q r s (fun y3 z3 a4 b4 c4 d4 e4 h4 i4=>t y3 z3 a4 b4 c4 d4 e4 h4 i4)) (cond (a==(5:Int)) (G140 a b c d e h i j l n o p q r s (fun j4 l4 n4 o4 p4 q4 r4 s4 t4=>t j4 l4 n4 o4 p4 q4 r4 s4 t4)) (cond (a==(10:Int)) (G86 b (IntKind.wrap .i64 ((IntKind.wrap .i64 ((2:Int)*h))+(6:Int))) i j l n o p q r s (fun u4 v4 w4 x4 y4 z4 a5 b5 c5 d5 e5=>cond u4 (t false [0,0,0,0,0,0] w4 x4 y4 z4 a5 d5 e5) (G72 v4 (fun h5=>G64 false h5 (fun i5=>G70v1 i5 h5 (3:Int) w4 x4 y4 z4 a5 p q d5 e5 (fun j5 l5 n5=>t j5 l5 n5 x4 y4 z4 a5 d5 e5)))))) (cond (a==(11:Int)) (G141 h i j l n o p q r s (fun o5 p5 q5=>t o5 p5 q5 j l n o r s)) (G142 h i j l n o p q r s (fun r5 s5 t5=>t r5 s5 t5 j l n o r s))))))))))))
def g119(A86:Al S_g86){α:Type}(m:Nat):S_g119 α:=
 g119b (g19 m) (g69v1 m) (g57v1 m) (g138 A86 m) (g62v1 m) (g70v1 m) (g63v1 m) A86 (g104 m) (g64 m) (g73 m) (g139 A86 m) (g140 A86 m) (g72 m) (g141 m) (g142 m)
def g119tp:List TP:=[(.vl (.sv (.ptr 0 0))),(.vl (.agg [(.one (.int .i8)),(.one (.int .i16)),(.one (.int .i16)),(.one (.int .i64)),(.one (.int .i64))])),tI]
def g119bp:List BP:=[bA,(false,[(.seqv rN)]),(true,[(.mp rP mW)]),(true,[(.gro rP)])]
def g119K{α:Type}(G:S_g119 α)(ls:List Lf)(k:KRe α):Option α:=
 G (lf ls 0).int (lf ls 1).int (lf ls 2).int (lf ls 3).int (lf ls 4).int (lf ls 5).int (lf ls 6).bool (lf ls 7).nat (lf ls 8).nat (lf ls 9).nat (lf ls 10).int (lf ls 11).nat ((lf ls 12).lst rN) ((lf ls 13).map rP mW) ((lf ls 14).lst rP)
  (fun c d e h i j l n o=>k (.vl (.agg [(.one (.bool c)),(.seq uU 6 d)])) [[(.one (.bool e)),(.one (.slc 1 0 5 h i j)),(.one (.mpp 2)),(.one (.gsl 4 2)),(.one (.int .i64 l))],[(.seq rN (lf ls 11).nat ((lf ls 12).lst rN))],[(.mp rP mW n)],[]] [[(.gro rP o)]])
def g119R{α:Type}(G:S_g119 α):=rowK g119tp g119bp (g119K G)
def g119hd(G19:Al S_g19)(G69v1:Al S_g69v1)(G57v1:Al S_g57v1)(G138:Al S_g138)(G62v1:Al S_g62v1)(G70v1:Al S_g70v1)(G63v1:Al S_g63v1)(G86:Al S_g86)(G104:Al S_g104)(G64:Al S_g64)(G73:Al S_g73)(G139:Al S_g139)(G140:Al S_g140)(G72:Al S_g72)(G141:Al S_g141)(G142:Al S_g142):Hd where
 call:=fun f args Bs k=>cond (Nat.beq f 19) (g19R G19 args Bs k) (cond (Nat.beq f 69) (g69v1R G69v1 args Bs k) (cond (Nat.beq f 57) (g57v1R G57v1 args Bs k) (cond (Nat.beq f 138) (g138R G138 args Bs k) (cond (Nat.beq f 62) (g62v1R G62v1 args Bs k) (cond (Nat.beq f 70) (g70v1R G70v1 args Bs k) (cond (Nat.beq f 63) (g63v1R G63v1 args Bs k) (cond (Nat.beq f 86) (g86R G86 args Bs k) (cond (Nat.beq f 104) (g104R G104 args Bs k) (cond (Nat.beq f 64) (g64R G64 args Bs k) (cond (Nat.beq f 73) (g73R G73 args Bs k) (cond (Nat.beq f 139) (g139R G139 args Bs k) (cond (Nat.beq f 140) (g140R G140 args Bs k) (cond (Nat.beq f 72) (g72R G72 args Bs k) (cond (Nat.beq f 141) (g141R G141 args Bs k) (cond (Nat.beq f 142) (g142R G142 args Bs k) (none))))))))))))))))
 loop:=fun id st k=>none
 ro:=fun f=>cond (Nat.beq f 57) [1,2,3] (cond (Nat.beq f 62) [1,2,3] (cond (Nat.beq f 63) [1,2,3] (cond (Nat.beq f 69) [1,2,3] (cond (Nat.beq f 70) [1,2,3] (cond (Nat.beq f 86) [1] (cond (Nat.beq f 138) [1] (cond (Nat.beq f 139) [1] (cond (Nat.beq f 140) [1] (cond (Nat.beq f 141) [1,2,3] (cond (Nat.beq f 142) [1,2,3] ([])))))))))))
def g119h(A86:Al S_g86)(m:Nat):Hd:=g119hd (g19 m) (g69v1 m) (g57v1 m) (g138 A86 m) (g62v1 m) (g70v1 m) (g63v1 m) A86 (g104 m) (g64 m) (g73 m) (g139 A86 m) (g140 A86 m) (g72 m) (g141 m) (g142 m)
theorem g119Main(G19:Al S_g19)(G69v1:Al S_g69v1)(G57v1:Al S_g57v1)(G138:Al S_g138)(G62v1:Al S_g62v1)(G70v1:Al S_g70v1)(G63v1:Al S_g63v1)(G86:Al S_g86)(G104:Al S_g104)(G64:Al S_g64)(G73:Al S_g73)(G139:Al S_g139)(G140:Al S_g140)(G72:Al S_g72)(G141:Al S_g141)(G142:Al S_g142){α:Type}(ls:List Lf)(k:KRe α):
  g119K (g119b G19 G69v1 G57v1 G138 G62v1 G70v1 G63v1 G86 G104 G64 G73 G139 G140 G72 G141 G142) ls k=evFunM tab (g119hd G19 G69v1 G57v1 G138 G62v1 G70v1 G63v1 G86 G104 G64 G73 G139 G140 G72 G141 G142) Try.f119 3 (fT g119tp ls) (fB g119tp g119bp ls) k:=by kernel_rfl
theorem g119Calls(A86:Al S_g86)(hA86:HA86 A86)(m:Nat):(g119h A86 m).CallsOk Try.prog:=(cok_cons (g19Ok m) (cok_cons (g69v1Ok m) (cok_cons (g57v1Ok m) (cok_cons (g138Ok A86 hA86 m) (cok_cons (g62v1Ok m) (cok_cons (g70v1Ok m) (cok_cons (g63v1Ok m) (cok_cons hA86 (cok_cons (g104Ok m) (cok_cons (g64Ok m) (cok_cons (g73Ok m) (cok_cons (g139Ok A86 hA86 m) (cok_cons (g140Ok A86 hA86 m) (cok_cons (g72Ok m) (cok_cons (g141Ok m) (cok_cons (g142Ok m) cok_nil))))))))))))))))
theorem g119Fn(A86:Al S_g86)(hA86:HA86 A86)(m:Nat):FnOk Try.prog 119 g119tp g119bp (fun{α}=>g119K (g119 A86 m (α:=α))):=
 fn_okM (tab:=tab) (h:=g119h A86 m) (fn:=Try.f119) (F:=fun{α}=>g119K (g119 A86 m (α:=α))) tabOk (g119Calls A86 hA86 m) mixed (by kernel_rfl) (by kernel_rfl) (fun c hc=>by
  rw[bodyOf_some hc]
  exact loopsOk_of _ (fun p hp=>by rw[show loopsOf (bodyOf Try.f119)=[] by kernel_rfl] at hp;cases hp))
  (fun _=>g119Main (g19 m) (g69v1 m) (g57v1 m) (g138 A86 m) (g62v1 m) (g70v1 m) (g63v1 m) A86 (g104 m) (g64 m) (g73 m) (g139 A86 m) (g140 A86 m) (g72 m) (g141 m) (g142 m))
theorem g119Ok(A86:Al S_g86)(hA86:HA86 A86)(m:Nat):RowOk Try.prog 119 (fun{α}=>g119R (g119 A86 m (α:=α))):=row_of (g119Fn A86 hA86 m)
def g86b{α:Type}(G81:Al S_g81)(G119:Al S_g119)(c d:Int)(e:Bool)(h i j:Nat)(l:Int)(n:Nat)(o:Ty0)(p:Ty4)(q:Ty0)(r:Bool→(List Int)→Bool→Nat→Nat→Nat→Int→Nat→Ty0→Ty4→Ty0→Option α):Option α:=G81 e h i j l n o p q (fun s t=>cond s (r false [0,0,0,0,0,0] e h i j t n o p q) (cond (decide (d>(160:Int))) (r false [0,0,0,0,0,0] e h i j (3:Int) n o p q) (let u:Int:=IntKind.wrap .i16 d;let v:Ty5:=mval [.i16, .i16] mW p [c,u];cond (mhas [.i16, .i16] p [c,u]) (r (v.1) (padI 6 v.2.1) e h i j t n o p q) (if q.length+1≤67108864 then if 0≤c∧c<(i:Nat) then if(h+c.toNat)<n then G119 ((List.getD o (h+c.toNat) []).headD 0) ((List.getD o (h+c.toNat) []).tail.headD 0) ((List.getD o (h+c.toNat) []).tail.tail.headD 0) ((List.getD o (h+c.toNat) []).tail.tail.tail.headD 0) ((List.getD o (h+c.toNat) []).tail.tail.tail.tail.headD 0) d e h i j t n o p (q++[[c,u]]) (fun w x y z a0 b0 c0 d0 e0=>G81 y z a0 b0 c0 n o d0 e0 (fun h0 i0=>cond h0 (r false [0,0,0,0,0,0] y z a0 b0 i0 n o d0 e0) (r w x y z a0 b0 i0 n o (mput [.i16, .i16] d0 [c,u] (w,x,())) e0))) else none else none else none))))
noncomputable def g86(m:Nat):Al S_g86:=
 Nat.rec (motive:=fun _=>Al S_g86) (fun{α}=>fun _ _ _ _ _ _ _ _ _ _ _ _=>none) (fun m ih {α}=>g86b (g81 m) (g119 ih m)) m
def g86hd(G81:Al S_g81)(G119:Al S_g119):Hd where
 call:=fun f args Bs k=>cond (Nat.beq f 81) (g81R G81 args Bs k) (cond (Nat.beq f 119) (g119R G119 args Bs k) (none))
 loop:=fun id st k=>none
 ro:=fun f=>cond (Nat.beq f 81) [1,2,3] (cond (Nat.beq f 119) [1] ([]))
def g86h(A86:Al S_g86)(m:Nat):Hd:=g86hd (g81 m) (g119 A86 m)
theorem g86Main(G81:Al S_g81)(G119:Al S_g119){α:Type}(ls:List Lf)(k:KRe α):
  g86K (g86b G81 G119) ls k=evFunM tab (g86hd G81 G119) Try.f86 3 (fT g86tp ls) (fB g86tp g86bp ls) k:=by kernel_rfl
theorem g86Calls(A86:Al S_g86)(hA86:HA86 A86)(m:Nat):(g86h A86 m).CallsOk Try.prog:=(cok_cons (g81Ok m) (cok_cons (g119Ok A86 hA86 m) cok_nil))
theorem g86FnS(m:Nat)(hA:RowOk Try.prog 86 (fun{α}=>g86R (g86 m (α:=α)))):FnOk Try.prog 86 g86tp g86bp (fun{α}=>g86K (g86 (m+1) (α:=α))):=
 fn_okM (tab:=tab) (h:=g86h (g86 m) m) (fn:=Try.f86) (F:=fun{α}=>g86K (g86 (m+1) (α:=α))) tabOk (g86Calls (g86 m) hA m) mixed (by kernel_rfl) (by kernel_rfl) (fun c hc=>by
  rw[bodyOf_some hc]
  exact loopsOk_of _ (fun p hp=>by rw[show loopsOf (bodyOf Try.f86)=[] by kernel_rfl] at hp;cases hp))
  (fun _=>g86Main (g81 m) (g119 (g86 m) m))
theorem g86Fn:∀m:Nat,FnOk Try.prog 86 g86tp g86bp (fun{α}=>g86K (g86 m (α:=α)))
 |0=>fun α ls k r h=>nomatch (show(none:Option α)=some r from h)
 |m+1=>g86FnS m (row_of (g86Fn m))
theorem g86Ok(m:Nat):RowOk Try.prog 86 (fun{α}=>g86R (g86 m (α:=α))):=row_of (g86Fn m)
abbrev S_g82(α:Type):Type:=Int→Int→Int→Int→Int→Int→Int→Int→Int→Int→(Bool→Option α)→Option α
def g82b{α:Type}(a b:Int)(c d:Int)(e h:Int)(i j:Int)(l n:Int)(o:Bool→Option α):Option α:=cond (a !=h) (o false) (cond (b !=i) (o false) (cond (c !=j) (o false) (cond (d !=l) (o false) (cond (e !=n) (o false) (o true)))))
def g82{α:Type}(m:Nat):S_g82 α:=
 g82b
def g82tp:List TP:=[(.vl (.agg [(.one (.int .i8)),(.one (.int .i16)),(.one (.int .i16)),(.one (.int .i64)),(.one (.int .i64))])),(.vl (.agg [(.one (.int .i8)),(.one (.int .i16)),(.one (.int .i16)),(.one (.int .i64)),(.one (.int .i64))]))]
def g82bp:List BP:=[]
def g82K{α:Type}(G:S_g82 α)(ls:List Lf)(k:KRe α):Option α:=
 G (lf ls 0).int (lf ls 1).int (lf ls 2).int (lf ls 3).int (lf ls 4).int (lf ls 5).int (lf ls 6).int (lf ls 7).int (lf ls 8).int (lf ls 9).int
  (fun a=>k (.vl (.sv (.bool a))) [] [])
def g82R{α:Type}(G:S_g82 α):=rowK g82tp g82bp (g82K G)
def g82hd:Hd where
 call:=fun f args Bs k=>none
 loop:=fun id st k=>none
 ro:=fun f=>[]
def g82h(m:Nat):Hd:=g82hd
theorem g82Main{α:Type}(ls:List Lf)(k:KRe α):
  g82K (g82b) ls k=evFun tab (g82hd) Try.f82 (fT g82tp ls) (fB g82tp g82bp ls) k:=by kernel_rfl
theorem g82Calls(m:Nat):(g82h m).CallsOk Try.prog:=cok_nil
theorem g82Ok(m:Nat):RowOk Try.prog 82 (fun{α}=>g82R (g82 m (α:=α))):=
 rwk (g82Calls m) (lo0 (by kernel_rfl))
  (fun _=>g82Main)
abbrev S_g34(α:Type):Type:=Nat→Nat→Nat→Nat→Nat→Nat→Nat→Ty0→Nat→Ty0→(Bool→Option α)→Option α
abbrev S_g34l0(α:Type):Type:=Nat→Nat→Nat→Nat→Nat→Nat→Nat→Ty0→Nat→Ty0→(Option α)→(Option α)→Int→Option α
def g34l0b{α:Type}(G82:Al S_g82)(a b:Nat)(c d:Nat)(e h i:Nat)(j:Ty0)(l:Nat)(n:Ty0)(o p:Option α)(q:Int→Option α)(r:Int):Option α:=cond (decide (r<((b:Nat):Int))) (if 0≤r∧r<(b:Nat) then if(a+r.toNat)<i then if 0≤r∧r<(e:Nat) then if(d+r.toNat)<l then G82 ((List.getD j (a+r.toNat) []).headD 0) ((List.getD j (a+r.toNat) []).tail.headD 0) ((List.getD j (a+r.toNat) []).tail.tail.headD 0) ((List.getD j (a+r.toNat) []).tail.tail.tail.headD 0) ((List.getD j (a+r.toNat) []).tail.tail.tail.tail.headD 0) ((List.getD n (d+r.toNat) []).headD 0) ((List.getD n (d+r.toNat) []).tail.headD 0) ((List.getD n (d+r.toNat) []).tail.tail.headD 0) ((List.getD n (d+r.toNat) []).tail.tail.tail.headD 0) ((List.getD n (d+r.toNat) []).tail.tail.tail.tail.headD 0) (fun s=>cond (!s) (o) (q (IntKind.wrap .i64 (r+(1:Int))))) else none else none else none else none) (p)
def g34l0{α:Type}(G82:Al S_g82)(a b:Nat)(c d:Nat)(e h i:Nat)(j:Ty0)(l:Nat)(n:Ty0)(o p:Option α):Nat→Int→Option α
 |0=>fun _=>none
 |m+1=>fun q=>g34l0b G82 a b c d e h i j l n o p (g34l0 G82 a b c d e h i j l n o p m) q
def g34l0M{α:Type}(m:Nat):S_g34l0 α:=
 fun a b c d e h i j l n o p q=>g34l0 (g82 m) a b c d e h i j l n o p m q
def g34l0D:LoopD:={n:=27,low:=[0,1],sl:=[0,1,5],bl:=[0,1],tp:=[(.vl (.sv (.slc 0 0 5))),(.vl (.sv (.slc 1 0 5))),tI],bp:=[(false,[(.seqv rN)]),(false,[(.seqv rN)])],xs:=[(1,[4]),(2,[])]}
def g34l0K{α:Type}(L:S_g34l0 α)(ls:List Lf)(k:KEx α):Option α:=
 L (lf ls 0).nat (lf ls 1).nat (lf ls 2).nat (lf ls 3).nat (lf ls 4).nat (lf ls 5).nat (lf ls 7).nat ((lf ls 8).lst rN) (lf ls 9).nat ((lf ls 10).lst rN)
  (k .ret (mkSt 27 [4] [(.vl (.sv (.bool false)))] [0,1] [(false,[(.seq rN (lf ls 7).nat ((lf ls 8).lst rN))]),(false,[(.seq rN (lf ls 9).nat ((lf ls 10).lst rN))])]))
  (k .normal (mkSt 27 [] [] [0,1] [(false,[(.seq rN (lf ls 7).nat ((lf ls 8).lst rN))]),(false,[(.seq rN (lf ls 9).nat ((lf ls 10).lst rN))])]))
  (lf ls 6).int
def g34b{α:Type}(G82:Al S_g82)(L34l0:Al S_g34l0)(a b:Nat)(c d:Nat)(e h i:Nat)(j:Ty0)(l:Nat)(n:Ty0)(o:Bool→Option α):Option α:=cond (((b:Nat):Int) !=((e:Nat):Int)) (o false) (L34l0 a b c d e h i j l n (o false) (o true) (0:Int))
def g34{α:Type}(m:Nat):S_g34 α:=
 g34b (g82 m) (g34l0M m)
def g34tp:List TP:=[(.vl (.sv (.slc 0 0 5))),(.vl (.sv (.slc 1 0 5)))]
def g34bp:List BP:=[(false,[(.seqv rN)]),(false,[(.seqv rN)])]
def g34K{α:Type}(G:S_g34 α)(ls:List Lf)(k:KRe α):Option α:=
 G (lf ls 0).nat (lf ls 1).nat (lf ls 2).nat (lf ls 3).nat (lf ls 4).nat (lf ls 5).nat (lf ls 6).nat ((lf ls 7).lst rN) (lf ls 8).nat ((lf ls 9).lst rN)
  (fun a=>k (.vl (.sv (.bool a))) [[(.seq rN (lf ls 6).nat ((lf ls 7).lst rN))],[(.seq rN (lf ls 8).nat ((lf ls 9).lst rN))]] [])
def g34R{α:Type}(G:S_g34 α):=rowK g34tp g34bp (g34K G)
def g34hd(G82:Al S_g82)(L34l0:Al S_g34l0):Hd where
 call:=fun f args Bs k=>cond (Nat.beq f 82) (g82R G82 args Bs k) (none)
 loop:=fun id st k=>cond (Nat.beq id 0) (loopH g34l0D (g34l0K L34l0) st k) (none)
 ro:=fun f=>[]
def g34h(m:Nat):Hd:=g34hd (g82 m) (g34l0M m)
theorem g34l0Step(G82:Al S_g82)(L34l0:Al S_g34l0){α:Type}(L:S_g34l0 α)(ls:List Lf)(k:KEx α):
  g34l0K (fun a b c d e h i j l n o p q=>g34l0b G82 a b c d e h i j l n o p (L a b c d e h i j l n o p) q) ls k=ev tab (g34hd G82 L34l0) (bodyAt Try.f34 0) (atHead g34l0D ls) (loopK g34l0D 0 (loopH g34l0D (g34l0K L)) k):=by kernel_rfl
theorem g34Main(G82:Al S_g82)(L34l0:Al S_g34l0){α:Type}(ls:List Lf)(k:KRe α):
  g34K (g34b G82 L34l0) ls k=evFun tab (g34hd G82 L34l0) Try.f34 (fT g34tp ls) (fB g34tp g34bp ls) k:=by kernel_rfl
theorem g34Calls(m:Nat):(g34h m).CallsOk Try.prog:=(cok_cons (g82Ok m) cok_nil)
theorem g34l0Ok(m:Nat)(α:Type)(st:St)(k:KEx α)(r:α)(h:(g34h m).loop 0 st k=some r):
  LoopS Try.prog 0 (bodyAt Try.f34 0) st k r:=
 lpk (F:=fun n ls k=>g34l0K (fun a b c d e i j l o q s t u=>g34l0 (g82 m) a b c d e i j l o q s t n u) ls k) (g34Calls m) (lb0 (by kernel_rfl))
  (fun _ _=>rfl) (fun n ls k=>g34l0Step (g82 m) (g34l0M m) (fun a b c d e i j l o q s t=>g34l0 (g82 m) a b c d e i j l o q s t n) ls k) (n:=m) h
theorem g34Ok(m:Nat):RowOk Try.prog 34 (fun{α}=>g34R (g34 m (α:=α))):=
 rwk (g34Calls m) (lo1 (by kernel_rfl) (g34l0Ok m))
  (fun _=>g34Main (g82 m) (g34l0M m))
abbrev S_g88(α:Type):Type:=Bool→(List Int)→Int→(Bool→Option α)→Option α
def g88b{α:Type}(G110:Al S_g110)(G66:Al S_g66)(a:Bool)(b:List Int)(c:Int)(d:Bool→Option α):Option α:=G110 c (fun e h=>G66 false b e h (fun i=>d (decide (i≥(0:Int)))))
def g88{α:Type}(m:Nat):S_g88 α:=
 g88b (g110 m) (g66 m)
def g88tp:List TP:=[vW,tI]
def g88bp:List BP:=[]
def g88K{α:Type}(G:S_g88 α)(ls:List Lf)(k:KRe α):Option α:=
 G (lf ls 0).bool ((lf ls 1).lst uU) (lf ls 2).int
  (fun a=>k (.vl (.sv (.bool a))) [] [])
def g88R{α:Type}(G:S_g88 α):=rowK g88tp g88bp (g88K G)
def g88hd(G110:Al S_g110)(G66:Al S_g66):Hd where
 call:=fun f args Bs k=>cond (Nat.beq f 110) (g110R G110 args Bs k) (cond (Nat.beq f 66) (g66R G66 args Bs k) (none))
 loop:=fun id st k=>none
 ro:=fun f=>cond (Nat.beq f 66) [0,1] ([])
def g88h(m:Nat):Hd:=g88hd (g110 m) (g66 m)
theorem g88Main(G110:Al S_g110)(G66:Al S_g66){α:Type}(ls:List Lf)(k:KRe α):
  g88K (g88b G110 G66) ls k=evFun tab (g88hd G110 G66) Try.f88 (fT g88tp ls) (fB g88tp g88bp ls) k:=by kernel_rfl
theorem g88Calls(m:Nat):(g88h m).CallsOk Try.prog:=(cok_cons (g110Ok m) (cok_cons (g66Ok m) cok_nil))
theorem g88Ok(m:Nat):RowOk Try.prog 88 (fun{α}=>g88R (g88 m (α:=α))):=
 rwk (g88Calls m) (lo0 (by kernel_rfl))
  (fun _=>g88Main (g110 m) (g66 m))
end Go.Proofs.Ytlmmgjngihlpeaa.Sx
