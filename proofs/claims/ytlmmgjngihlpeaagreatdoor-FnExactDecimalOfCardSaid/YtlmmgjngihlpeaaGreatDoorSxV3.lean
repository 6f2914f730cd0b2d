/- Functions. Printed by our own sx.py. -/
import Derived.Test.YtlmmgjngihlpeaaGreatDoorSxV2
namespace Go.Proofs.YtlmmgjngihlpeaaGreatDoor.Sx
open Go
set_option linter.unusedVariables false
set_option maxRecDepth 100000
abbrev S_g165(α:Type):Type:=Int→(Int→Option α)→Option α
def g165b{α:Type}(G189:Al S_g189)(G188:Al S_g188)(G190:Al S_g190)(a:Int)(b:Int→Option α):Option α:=G189 a (fun c=>G188 c (fun d=>if 0≤d∧d<(20:Nat) then if d.toNat<pow10L.length then G190 (decide (a≥(List.getD pow10L (d.toNat) 0))) (fun e=>b (IntKind.wrap .i64 (d+e))) else none else none))
def g165{α:Type}(m:Nat):S_g165 α:=
 g165b (g189 m) (g188 m) (g190 m)
def g165tp:List TP:=[(.vl (.sv (.int .u64)))]
def g165bp:List BP:=[]
def g165K{α:Type}(G:S_g165 α)(ls:List Lf)(k:KRe α):Option α:=
 G (lf ls 0).int
  (fun a=>k (.vl (.sv (.int .i64 a))) [] [])
def g165R{α:Type}(G:S_g165 α):=rowK g165tp g165bp (g165K G)
def g165hd(G189:Al S_g189)(G188:Al S_g188)(G190:Al S_g190):Hd where
 call:=fun f args Bs k=>cond (Nat.beq f 189) (g189R G189 args Bs k) (cond (Nat.beq f 188) (g188R G188 args Bs k) (cond (Nat.beq f 190) (g190R G190 args Bs k) (none)))
 loop:=fun id st k=>none
 ro:=fun f=>[]
def g165h(m:Nat):Hd:=g165hd (g189 m) (g188 m) (g190 m)
theorem g165Main(G189:Al S_g189)(G188:Al S_g188)(G190:Al S_g190){α:Type}(ls:List Lf)(k:KRe α):
  g165K (g165b G189 G188 G190) ls k=evFun tab (g165hd G189 G188 G190) Tryz.f165 (fT g165tp ls) (fB g165tp g165bp ls) k:=by kernel_rfl
theorem g165Calls(m:Nat):(g165h m).CallsOk Tryz.prog:=(cok_cons (g189Ok m) (cok_cons (g188Ok m) (cok_cons (g190Ok m) cok_nil)))
theorem g165Ok(m:Nat):RowOk Tryz.prog 165 (fun{α}=>g165R (g165 m (α:=α))):=
 rwk (g165Calls m) (lo0 (by kernel_rfl))
  (fun _=>g165Main (g189 m) (g188 m) (g190 m))
abbrev S_g166(α:Type):Type:=Nat→Nat→Nat→Int→(List Int)→((List Int)→Option α)→Option α
abbrev S_g166l0(α:Type):Type:=Nat→Nat→Nat→(Int→Int→(List Int)→Option α)→Int→Int→(List Int)→Option α
def g166l0b{α:Type}(a b c:Nat)(d:Int→Int→(List Int)→Option α)(e:Int→Int→(List Int)→Option α)(h i:Int)(j:List Int):Option α:=cond (decide (i≥(8:Int))) (let l:Int:=IntKind.wrap .u32 (Int.tmod h (100000000:Int));let n:Int:=IntKind.wrap .u32 (Int.tdiv l (10000:Int));let o:Int:=Int.tmod l (10000:Int);let p:Int:=IntKind.wrap .u32 ((IntKind.wrap .u32 (Int.tdiv o (100:Int)))*(2:Int));let q:Int:=IntKind.wrap .u32 ((Int.tmod o (100:Int))*(2:Int));let r:Int:=IntKind.wrap .u32 ((IntKind.wrap .u32 (Int.tdiv n (100:Int)))*(2:Int));let s:Int:=IntKind.wrap .u32 ((Int.tmod n (100:Int))*(2:Int));let t:Int:=IntKind.wrap .i64 (i-(1:Int));let u:Int:=IntKind.wrap .i64 (i-(2:Int));let v:Int:=IntKind.wrap .u32 (q+(1:Int));if 0≤v∧v<strC2.size then if 0≤q∧q<strC2.size then if 0≤t∧t<(b:Nat) then if(a+t.toNat)<24 then if 0≤u∧u<(b:Nat) then if(a+u.toNat)<24 then let w:Int:=IntKind.wrap .i64 (i-(3:Int));let x:Int:=IntKind.wrap .i64 (i-(4:Int));let y:Int:=IntKind.wrap .u32 (p+(1:Int));if 0≤y∧y<strC2.size then if 0≤p∧p<strC2.size then if 0≤w∧w<(b:Nat) then if(a+w.toNat)<24 then if 0≤x∧x<(b:Nat) then if(a+x.toNat)<24 then let z:Int:=IntKind.wrap .i64 (i-(5:Int));let a0:Int:=IntKind.wrap .i64 (i-(6:Int));let b0:Int:=IntKind.wrap .u32 (s+(1:Int));if 0≤b0∧b0<strC2.size then if 0≤s∧s<strC2.size then if 0≤z∧z<(b:Nat) then if(a+z.toNat)<24 then if 0≤a0∧a0<(b:Nat) then if(a+a0.toNat)<24 then let c0:Int:=IntKind.wrap .i64 (i-(7:Int));let d0:Int:=IntKind.wrap .i64 (i-(8:Int));let e0:Int:=IntKind.wrap .u32 (r+(1:Int));if 0≤e0∧e0<strC2.size then if 0≤r∧r<strC2.size then if 0≤c0∧c0<(b:Nat) then if(a+c0.toNat)<24 then if 0≤d0∧d0<(b:Nat) then if(a+d0.toNat)<24 then e (IntKind.wrap .u64 (Int.tdiv h (100000000:Int))) (IntKind.wrap .i64 (i-(8:Int))) (List.set (List.set (List.set (List.set (List.set (List.set (List.set (List.set j (a+t.toNat) (byteAt strC2 v.toNat)) (a+u.toNat) (byteAt strC2 q.toNat)) (a+w.toNat) (byteAt strC2 y.toNat)) (a+x.toNat) (byteAt strC2 p.toNat)) (a+z.toNat) (byteAt strC2 b0.toNat)) (a+a0.toNat) (byteAt strC2 s.toNat)) (a+c0.toNat) (byteAt strC2 e0.toNat)) (a+d0.toNat) (byteAt strC2 r.toNat)) else none else none else none else none else none else none else none else none else none else none else none else none else none else none else none else none else none else none else none else none else none else none else none else none) (d h i j)
def g166l0{α:Type}(a b c:Nat)(d:Int→Int→(List Int)→Option α):Nat→Int→Int→(List Int)→Option α
 |0=>fun _ _ _=>none
 |m+1=>fun e h i=>g166l0b a b c d (g166l0 a b c d m) e h i
def g166l0M{α:Type}(m:Nat):S_g166l0 α:=
 fun a b c d e h i=>g166l0 a b c d m e h i
def g166l0D:LoopD:={n:=167,low:=[0],sl:=[0,1,4],bl:=[0],tp:=[(.vl (.sv (.slc 0 0 1))),(.vl (.sv (.int .u64))),tI],bp:=[(true,[(.seq (.int .u8) 24)])],xs:=[(2,[0,1,4])]}
def g166l0K{α:Type}(L:S_g166l0 α)(ls:List Lf)(k:KEx α):Option α:=
 L (lf ls 0).nat (lf ls 1).nat (lf ls 2).nat
  (fun a b c=>k .normal (mkSt 167 [0,1,4] [(.vl (.sv (.slc 0 0 1 (lf ls 0).nat (lf ls 1).nat (lf ls 2).nat))),(.vl (.sv (.int .u64 a))),(.vl (.sv (.int .i64 b)))] [0] [(true,[(.seq (.int .u8) 24 c)])]))
  (lf ls 3).int (lf ls 4).int ((lf ls 5).lst (.int .u8))
def g166b{α:Type}(L166l0:Al S_g166l0)(a b c:Nat)(d:Int)(e:List Int)(h:(List Int)→Option α):Option α:=L166l0 a b c (fun i j l=>let n:Int:=IntKind.wrap .u32 i;cond (decide (j≥(4:Int))) (let o:Int:=Int.tmod n (10000:Int);let p:Int:=IntKind.wrap .u32 (Int.tdiv n (10000:Int));let q:Int:=IntKind.wrap .u32 ((IntKind.wrap .u32 (Int.tdiv o (100:Int)))*(2:Int));let r:Int:=IntKind.wrap .u32 ((Int.tmod o (100:Int))*(2:Int));let s:Int:=IntKind.wrap .i64 (j-(1:Int));let t:Int:=IntKind.wrap .i64 (j-(2:Int));let u:Int:=IntKind.wrap .u32 (r+(1:Int));if 0≤u∧u<strC2.size then if 0≤r∧r<strC2.size then if 0≤s∧s<(b:Nat) then if(a+s.toNat)<24 then if 0≤t∧t<(b:Nat) then if(a+t.toNat)<24 then let v:Int:=IntKind.wrap .i64 (j-(3:Int));let w:Int:=IntKind.wrap .i64 (j-(4:Int));let x:Int:=IntKind.wrap .u32 (q+(1:Int));if 0≤x∧x<strC2.size then if 0≤q∧q<strC2.size then if 0≤v∧v<(b:Nat) then if(a+v.toNat)<24 then if 0≤w∧w<(b:Nat) then if(a+w.toNat)<24 then let y:List Int:=List.set (List.set (List.set (List.set l (a+s.toNat) (byteAt strC2 u.toNat)) (a+t.toNat) (byteAt strC2 r.toNat)) (a+v.toNat) (byteAt strC2 x.toNat)) (a+w.toNat) (byteAt strC2 q.toNat);let z:Int:=IntKind.wrap .i64 (j-(4:Int));cond (decide (z≥(2:Int))) (let a0:Int:=IntKind.wrap .u32 ((Int.tmod p (100:Int))*(2:Int));let b0:Int:=IntKind.wrap .i64 (z-(1:Int));let c0:Int:=IntKind.wrap .i64 (z-(2:Int));let d0:Int:=IntKind.wrap .u32 (a0+(1:Int));if 0≤d0∧d0<strC2.size then if 0≤a0∧a0<strC2.size then if 0≤b0∧b0<(b:Nat) then if(a+b0.toNat)<24 then if 0≤c0∧c0<(b:Nat) then if(a+c0.toNat)<24 then let e0:List Int:=List.set (List.set y (a+b0.toNat) (byteAt strC2 d0.toNat)) (a+c0.toNat) (byteAt strC2 a0.toNat);cond (decide ((IntKind.wrap .i64 (z-(2:Int)))>(0:Int))) (if 0≤(0:Int)∧(0:Int)<(b:Nat) then if(a+0)<24 then h (List.set e0 (a+0) (IntKind.wrap .u8 (IntKind.wrap .u32 ((48:Int)+(IntKind.wrap .u32 (Int.tdiv p (100:Int))))))) else none else none) (h e0) else none else none else none else none else none else none) (cond (decide (z>(0:Int))) (if 0≤(0:Int)∧(0:Int)<(b:Nat) then if(a+0)<24 then h (List.set y (a+0) (IntKind.wrap .u8 (IntKind.wrap .u32 ((48:Int)+p)))) else none else none) (h y)) else none else none else none else none else none else none else none else none else none else none else none else none) (cond (decide (j≥(2:Int))) (let h0:Int:=IntKind.wrap .u32 ((Int.tmod n (100:Int))*(2:Int));let i0:Int:=IntKind.wrap .i64 (j-(1:Int));let j0:Int:=IntKind.wrap .i64 (j-(2:Int));let l0:Int:=IntKind.wrap .u32 (h0+(1:Int));if 0≤l0∧l0<strC2.size then if 0≤h0∧h0<strC2.size then if 0≤i0∧i0<(b:Nat) then if(a+i0.toNat)<24 then if 0≤j0∧j0<(b:Nat) then if(a+j0.toNat)<24 then let n0:List Int:=List.set (List.set l (a+i0.toNat) (byteAt strC2 l0.toNat)) (a+j0.toNat) (byteAt strC2 h0.toNat);cond (decide ((IntKind.wrap .i64 (j-(2:Int)))>(0:Int))) (if 0≤(0:Int)∧(0:Int)<(b:Nat) then if(a+0)<24 then h (List.set n0 (a+0) (IntKind.wrap .u8 (IntKind.wrap .u32 ((48:Int)+(IntKind.wrap .u32 (Int.tdiv n (100:Int))))))) else none else none) (h n0) else none else none else none else none else none else none) (cond (decide (j>(0:Int))) (if 0≤(0:Int)∧(0:Int)<(b:Nat) then if(a+0)<24 then h (List.set l (a+0) (IntKind.wrap .u8 (IntKind.wrap .u32 ((48:Int)+n)))) else none else none) (h l)))) d ((b:Nat):Int) e
def g166{α:Type}(m:Nat):S_g166 α:=
 g166b (g166l0M m)
def g166tp:List TP:=[(.vl (.sv (.slc 0 0 1))),(.vl (.sv (.int .u64)))]
def g166bp:List BP:=[(true,[(.seq (.int .u8) 24)])]
def g166K{α:Type}(G:S_g166 α)(ls:List Lf)(k:KRe α):Option α:=
 G (lf ls 0).nat (lf ls 1).nat (lf ls 2).nat (lf ls 3).int ((lf ls 4).lst (.int .u8))
  (fun a=>k (.tup []) [[(.seq (.int .u8) 24 a)]] [])
def g166R{α:Type}(G:S_g166 α):=rowK g166tp g166bp (g166K G)
def g166hd(L166l0:Al S_g166l0):Hd where
 call:=fun f args Bs k=>none
 loop:=fun id st k=>cond (Nat.beq id 0) (loopH g166l0D (g166l0K L166l0) st k) (none)
 ro:=fun f=>[]
def g166h(m:Nat):Hd:=g166hd (g166l0M m)
theorem g166l0Step(L166l0:Al S_g166l0){α:Type}(L:S_g166l0 α)(ls:List Lf)(k:KEx α):
  g166l0K (fun a b c d e h i=>g166l0b a b c d (L a b c d) e h i) ls k=ev tab (g166hd L166l0) (bodyAt Tryz.f166 0) (atHead g166l0D ls) (loopK g166l0D 0 (loopH g166l0D (g166l0K L)) k):=by kernel_rfl
theorem g166Main(L166l0:Al S_g166l0){α:Type}(ls:List Lf)(k:KRe α):
  g166K (g166b L166l0) ls k=evFun tab (g166hd L166l0) Tryz.f166 (fT g166tp ls) (fB g166tp g166bp ls) k:=by kernel_rfl
theorem g166Calls(m:Nat):(g166h m).CallsOk Tryz.prog:=cok_nil
theorem g166l0Ok(m:Nat)(α:Type)(st:St)(k:KEx α)(r:α)(h:(g166h m).loop 0 st k=some r):
  LoopS Tryz.prog 0 (bodyAt Tryz.f166 0) st k r:=
 lpk (F:=fun n ls k=>g166l0K (fun a b c d e i j=>g166l0 a b c d n e i j) ls k) (g166Calls m) (lb0 (by kernel_rfl))
  (fun _ _=>rfl) (fun n ls k=>g166l0Step (g166l0M m) (fun a b c d=>g166l0 a b c d n) ls k) (n:=m) h
theorem g166Ok(m:Nat):RowOk Tryz.prog 166 (fun{α}=>g166R (g166 m (α:=α))):=
 rwk (g166Calls m) (lo1 (by kernel_rfl) (g166l0Ok m))
  (fun _=>g166Main (g166l0M m))
abbrev S_g125(α:Type):Type:=Int→Int→(ByteArray→Option α)→Option α
def g125b{α:Type}(G164:Al S_g164)(G165:Al S_g165)(G166:Al S_g166)(a b:Int)(c:ByteArray→Option α):Option α:=cond (b==(10:Int)) (cond (decide ((0:Int)≤a)) (cond (decide (a<(100:Int))) (G164 a (fun d=>c d)) (let e:Int:=IntKind.wrap .u64 a;cond (decide (a<(0:Int))) (let h:Int:=IntKind.wrap .u64 (0-e);G165 h (fun i=>let j:Int:=IntKind.wrap .i64 ((1:Int)+i);if 0≤(1:Int)∧(1:Int)≤j∧j≤((24:Nat):Int) then G166 1 ((Int.toNat j)-1) 23 h (List.replicate 24 0) (fun l=>cond (decide (a<(0:Int))) (let n:Int:=IntKind.wrap .i64 ((1:Int)+i);if 0≤(0:Int)∧(0:Int)≤n∧n≤((24:Nat):Int) then let o:Nat:=(Int.toNat n)-0;if 0+o≤24 then c (bytesS (List.take o (List.drop 0 (List.set l 0 (45:Int))))) else none else none) (let p:Int:=IntKind.wrap .i64 ((1:Int)+i);if 0≤(1:Int)∧(1:Int)≤p∧p≤((24:Nat):Int) then let q:Nat:=(Int.toNat p)-1;if 1+q≤24 then c (bytesS (List.take q (List.drop 1 l))) else none else none)) else none)) (G165 e (fun r=>let s:Int:=IntKind.wrap .i64 ((1:Int)+r);if 0≤(1:Int)∧(1:Int)≤s∧s≤((24:Nat):Int) then G166 1 ((Int.toNat s)-1) 23 e (List.replicate 24 0) (fun t=>cond (decide (a<(0:Int))) (let u:Int:=IntKind.wrap .i64 ((1:Int)+r);if 0≤(0:Int)∧(0:Int)≤u∧u≤((24:Nat):Int) then let v:Nat:=(Int.toNat u)-0;if 0+v≤24 then c (bytesS (List.take v (List.drop 0 (List.set t 0 (45:Int))))) else none else none) (let w:Int:=IntKind.wrap .i64 ((1:Int)+r);if 0≤(1:Int)∧(1:Int)≤w∧w≤((24:Nat):Int) then let x:Nat:=(Int.toNat w)-1;if 1+x≤24 then c (bytesS (List.take x (List.drop 1 t))) else none else none)) else none)))) (let y:Int:=IntKind.wrap .u64 a;cond (decide (a<(0:Int))) (let z:Int:=IntKind.wrap .u64 (0-y);G165 z (fun a0=>let b0:Int:=IntKind.wrap .i64 ((1:Int)+a0);if 0≤(1:Int)∧(1:Int)≤b0∧b0≤((24:Nat):Int) then G166 1 ((Int.toNat b0)-1) 23 z (List.replicate 24 0) (fun c0=>cond (decide (a<(0:Int))) (let d0:Int:=IntKind.wrap .i64 ((1:Int)+a0);if 0≤(0:Int)∧(0:Int)≤d0∧d0≤((24:Nat):Int) then let e0:Nat:=(Int.toNat d0)-0;if 0+e0≤24 then c (bytesS (List.take e0 (List.drop 0 (List.set c0 0 (45:Int))))) else none else none) (let h0:Int:=IntKind.wrap .i64 ((1:Int)+a0);if 0≤(1:Int)∧(1:Int)≤h0∧h0≤((24:Nat):Int) then let i0:Nat:=(Int.toNat h0)-1;if 1+i0≤24 then c (bytesS (List.take i0 (List.drop 1 c0))) else none else none)) else none)) (G165 y (fun j0=>let l0:Int:=IntKind.wrap .i64 ((1:Int)+j0);if 0≤(1:Int)∧(1:Int)≤l0∧l0≤((24:Nat):Int) then G166 1 ((Int.toNat l0)-1) 23 y (List.replicate 24 0) (fun n0=>cond (decide (a<(0:Int))) (let o0:Int:=IntKind.wrap .i64 ((1:Int)+j0);if 0≤(0:Int)∧(0:Int)≤o0∧o0≤((24:Nat):Int) then let p0:Nat:=(Int.toNat o0)-0;if 0+p0≤24 then c (bytesS (List.take p0 (List.drop 0 (List.set n0 0 (45:Int))))) else none else none) (let q0:Int:=IntKind.wrap .i64 ((1:Int)+j0);if 0≤(1:Int)∧(1:Int)≤q0∧q0≤((24:Nat):Int) then let r0:Nat:=(Int.toNat q0)-1;if 1+r0≤24 then c (bytesS (List.take r0 (List.drop 1 n0))) else none else none)) else none)))) (none)
def g125{α:Type}(m:Nat):S_g125 α:=
 g125b (g164 m) (g165 m) (g166 m)
def g125tp:List TP:=[tI,tI]
def g125bp:List BP:=[]
def g125K{α:Type}(G:S_g125 α)(ls:List Lf)(k:KRe α):Option α:=
 G (lf ls 0).int (lf ls 1).int
  (fun a=>k (.vl (.sv (.str a))) [] [])
def g125R{α:Type}(G:S_g125 α):=rowK g125tp g125bp (g125K G)
def g125hd(G164:Al S_g164)(G165:Al S_g165)(G166:Al S_g166):Hd where
 call:=fun f args Bs k=>cond (Nat.beq f 164) (g164R G164 args Bs k) (cond (Nat.beq f 165) (g165R G165 args Bs k) (cond (Nat.beq f 166) (g166R G166 args Bs k) (none)))
 loop:=fun id st k=>none
 ro:=fun f=>[]
def g125h(m:Nat):Hd:=g125hd (g164 m) (g165 m) (g166 m)
theorem g125Main(G164:Al S_g164)(G165:Al S_g165)(G166:Al S_g166){α:Type}(ls:List Lf)(k:KRe α):
  g125K (g125b G164 G165 G166) ls k=evFun tab (g125hd G164 G165 G166) Tryz.f125 (fT g125tp ls) (fB g125tp g125bp ls) k:=by kernel_rfl
theorem g125Calls(m:Nat):(g125h m).CallsOk Tryz.prog:=(cok_cons (g164Ok m) (cok_cons (g165Ok m) (cok_cons (g166Ok m) cok_nil)))
theorem g125Ok(m:Nat):RowOk Tryz.prog 125 (fun{α}=>g125R (g125 m (α:=α))):=
 rwk (g125Calls m) (lo0 (by kernel_rfl))
  (fun _=>g125Main (g164 m) (g165 m) (g166 m))
abbrev S_g83(α:Type):Type:=Int→(ByteArray→Option α)→Option α
def g83b{α:Type}(G125:Al S_g125)(a:Int)(b:ByteArray→Option α):Option α:=G125 a (10:Int) (fun c=>b c)
def g83{α:Type}(m:Nat):S_g83 α:=
 g83b (g125 m)
def g83tp:List TP:=[tI]
def g83bp:List BP:=[]
def g83K{α:Type}(G:S_g83 α)(ls:List Lf)(k:KRe α):Option α:=
 G (lf ls 0).int
  (fun a=>k (.vl (.sv (.str a))) [] [])
def g83R{α:Type}(G:S_g83 α):=rowK g83tp g83bp (g83K G)
def g83hd(G125:Al S_g125):Hd where
 call:=fun f args Bs k=>cond (Nat.beq f 125) (g125R G125 args Bs k) (none)
 loop:=fun id st k=>none
 ro:=fun f=>[]
def g83h(m:Nat):Hd:=g83hd (g125 m)
theorem g83Main(G125:Al S_g125){α:Type}(ls:List Lf)(k:KRe α):
  g83K (g83b G125) ls k=evFun tab (g83hd G125) Tryz.f83 (fT g83tp ls) (fB g83tp g83bp ls) k:=by kernel_rfl
theorem g83Calls(m:Nat):(g83h m).CallsOk Tryz.prog:=(cok_cons (g125Ok m) cok_nil)
theorem g83Ok(m:Nat):RowOk Tryz.prog 83 (fun{α}=>g83R (g83 m (α:=α))):=
 rwk (g83Calls m) (lo0 (by kernel_rfl))
  (fun _=>g83Main (g125 m))
abbrev S_g39(α:Type):Type:=Int→(ByteArray→Option α)→Option α
def g39b{α:Type}(G83:Al S_g83)(a:Int)(b:ByteArray→Option α):Option α:=G83 a (fun c=>b c)
def g39{α:Type}(m:Nat):S_g39 α:=
 g39b (g83 m)
def g39tp:List TP:=[tI]
def g39bp:List BP:=[]
def g39K{α:Type}(G:S_g39 α)(ls:List Lf)(k:KRe α):Option α:=
 G (lf ls 0).int
  (fun a=>k (.vl (.sv (.str a))) [] [])
def g39R{α:Type}(G:S_g39 α):=rowK g39tp g39bp (g39K G)
def g39hd(G83:Al S_g83):Hd where
 call:=fun f args Bs k=>cond (Nat.beq f 83) (g83R G83 args Bs k) (none)
 loop:=fun id st k=>none
 ro:=fun f=>[]
def g39h(m:Nat):Hd:=g39hd (g83 m)
theorem g39Main(G83:Al S_g83){α:Type}(ls:List Lf)(k:KRe α):
  g39K (g39b G83) ls k=evFun tab (g39hd G83) Tryz.f39 (fT g39tp ls) (fB g39tp g39bp ls) k:=by kernel_rfl
theorem g39Calls(m:Nat):(g39h m).CallsOk Tryz.prog:=(cok_cons (g83Ok m) cok_nil)
theorem g39Ok(m:Nat):RowOk Tryz.prog 39 (fun{α}=>g39R (g39 m (α:=α))):=
 rwk (g39Calls m) (lo0 (by kernel_rfl))
  (fun _=>g39Main (g83 m))
abbrev S_g147(α:Type):Type:=Int→Int→(Int→Int→Option α)→Option α
def g147b{α:Type}(a b:Int)(c:Int→Int→Option α):Option α:=let d:Int:=ibits .and .u64 a (4294967295:Int);let e:Int:=Int.fdiv a (2^32);let h:Int:=ibits .and .u64 b (4294967295:Int);let i:Int:=Int.fdiv b (2^32);let j:Int:=IntKind.wrap .u64 ((IntKind.wrap .u64 (e*h))+(Int.fdiv (IntKind.wrap .u64 (d*h)) (2^32)));c (IntKind.wrap .u64 ((IntKind.wrap .u64 ((IntKind.wrap .u64 (e*i))+(Int.fdiv j (2^32))))+(Int.fdiv (IntKind.wrap .u64 ((ibits .and .u64 j (4294967295:Int))+(IntKind.wrap .u64 (d*i)))) (2^32)))) (IntKind.wrap .u64 (a*b))
def g147{α:Type}(m:Nat):S_g147 α:=
 g147b
def g147tp:List TP:=[(.vl (.sv (.int .u64))),(.vl (.sv (.int .u64)))]
def g147bp:List BP:=[]
def g147K{α:Type}(G:S_g147 α)(ls:List Lf)(k:KRe α):Option α:=
 G (lf ls 0).int (lf ls 1).int
  (fun a b=>k (.tup [(.sv (.int .u64 a)),(.sv (.int .u64 b))]) [] [])
def g147R{α:Type}(G:S_g147 α):=rowK g147tp g147bp (g147K G)
def g147hd:Hd where
 call:=fun f args Bs k=>none
 loop:=fun id st k=>none
 ro:=fun f=>[]
def g147h(m:Nat):Hd:=g147hd
theorem g147Main{α:Type}(ls:List Lf)(k:KRe α):
  g147K (g147b) ls k=evFun tab (g147hd) Tryz.f147 (fT g147tp ls) (fB g147tp g147bp ls) k:=by kernel_rfl
theorem g147Calls(m:Nat):(g147h m).CallsOk Tryz.prog:=cok_nil
theorem g147Ok(m:Nat):RowOk Tryz.prog 147 (fun{α}=>g147R (g147 m (α:=α))):=
 rwk (g147Calls m) (lo0 (by kernel_rfl))
  (fun _=>g147Main)
abbrev S_g105(α:Type):Type:=Int→Int→(Int→Int→Option α)→Option α
def g105b{α:Type}(G147:Al S_g147)(a b:Int)(c:Int→Int→Option α):Option α:=G147 a b (fun d e=>c d e)
def g105{α:Type}(m:Nat):S_g105 α:=
 g105b (g147 m)
def g105tp:List TP:=[(.vl (.sv (.int .u64))),(.vl (.sv (.int .u64)))]
def g105bp:List BP:=[]
def g105K{α:Type}(G:S_g105 α)(ls:List Lf)(k:KRe α):Option α:=
 G (lf ls 0).int (lf ls 1).int
  (fun a b=>k (.tup [(.sv (.int .u64 a)),(.sv (.int .u64 b))]) [] [])
def g105R{α:Type}(G:S_g105 α):=rowK g105tp g105bp (g105K G)
def g105hd(G147:Al S_g147):Hd where
 call:=fun f args Bs k=>cond (Nat.beq f 147) (g147R G147 args Bs k) (none)
 loop:=fun id st k=>none
 ro:=fun f=>[]
def g105h(m:Nat):Hd:=g105hd (g147 m)
theorem g105Main(G147:Al S_g147){α:Type}(ls:List Lf)(k:KRe α):
  g105K (g105b G147) ls k=evFun tab (g105hd G147) Tryz.f105 (fT g105tp ls) (fB g105tp g105bp ls) k:=by kernel_rfl
theorem g105Calls(m:Nat):(g105h m).CallsOk Tryz.prog:=(cok_cons (g147Ok m) cok_nil)
theorem g105Ok(m:Nat):RowOk Tryz.prog 105 (fun{α}=>g105R (g105 m (α:=α))):=
 rwk (g105Calls m) (lo0 (by kernel_rfl))
  (fun _=>g105Main (g147 m))
abbrev S_g148(α:Type):Type:=ByteArray→ByteArray→(Bool→Option α)→Option α
def g148b{α:Type}(a:ByteArray)(b:ByteArray)(c:Bool→Option α):Option α:=cond (decide (((a.size:Nat):Int)≥((b.size:Nat):Int))) (if 0≤(0:Int)∧(0:Int)≤((b.size:Nat):Int)∧((b.size:Nat):Int)≤((a.size:Nat):Int) then c (bytesEq (ByteArray.extract a 0 (Int.toNat ((b.size:Nat):Int))) b) else none) (c false)
def g148{α:Type}(m:Nat):S_g148 α:=
 g148b
def g148tp:List TP:=[(.vl (.sv .str)),(.vl (.sv .str))]
def g148bp:List BP:=[]
def g148K{α:Type}(G:S_g148 α)(ls:List Lf)(k:KRe α):Option α:=
 G (lf ls 0).str (lf ls 1).str
  (fun a=>k (.vl (.sv (.bool a))) [] [])
def g148R{α:Type}(G:S_g148 α):=rowK g148tp g148bp (g148K G)
def g148hd:Hd where
 call:=fun f args Bs k=>none
 loop:=fun id st k=>none
 ro:=fun f=>[]
def g148h(m:Nat):Hd:=g148hd
theorem g148Main{α:Type}(ls:List Lf)(k:KRe α):
  g148K (g148b) ls k=evFun tab (g148hd) Tryz.f148 (fT g148tp ls) (fB g148tp g148bp ls) k:=by kernel_rfl
theorem g148Calls(m:Nat):(g148h m).CallsOk Tryz.prog:=cok_nil
theorem g148Ok(m:Nat):RowOk Tryz.prog 148 (fun{α}=>g148R (g148 m (α:=α))):=
 rwk (g148Calls m) (lo0 (by kernel_rfl))
  (fun _=>g148Main)
abbrev S_g106(α:Type):Type:=ByteArray→ByteArray→(Bool→Option α)→Option α
def g106b{α:Type}(G148:Al S_g148)(a:ByteArray)(b:ByteArray)(c:Bool→Option α):Option α:=G148 a b (fun d=>c d)
def g106{α:Type}(m:Nat):S_g106 α:=
 g106b (g148 m)
def g106tp:List TP:=[(.vl (.sv .str)),(.vl (.sv .str))]
def g106bp:List BP:=[]
def g106K{α:Type}(G:S_g106 α)(ls:List Lf)(k:KRe α):Option α:=
 G (lf ls 0).str (lf ls 1).str
  (fun a=>k (.vl (.sv (.bool a))) [] [])
def g106R{α:Type}(G:S_g106 α):=rowK g106tp g106bp (g106K G)
def g106hd(G148:Al S_g148):Hd where
 call:=fun f args Bs k=>cond (Nat.beq f 148) (g148R G148 args Bs k) (none)
 loop:=fun id st k=>none
 ro:=fun f=>[]
def g106h(m:Nat):Hd:=g106hd (g148 m)
theorem g106Main(G148:Al S_g148){α:Type}(ls:List Lf)(k:KRe α):
  g106K (g106b G148) ls k=evFun tab (g106hd G148) Tryz.f106 (fT g106tp ls) (fB g106tp g106bp ls) k:=by kernel_rfl
theorem g106Calls(m:Nat):(g106h m).CallsOk Tryz.prog:=(cok_cons (g148Ok m) cok_nil)
theorem g106Ok(m:Nat):RowOk Tryz.prog 106 (fun{α}=>g106R (g106 m (α:=α))):=
 rwk (g106Calls m) (lo0 (by kernel_rfl))
  (fun _=>g106Main (g148 m))
end Go.Proofs.YtlmmgjngihlpeaaGreatDoor.Sx
