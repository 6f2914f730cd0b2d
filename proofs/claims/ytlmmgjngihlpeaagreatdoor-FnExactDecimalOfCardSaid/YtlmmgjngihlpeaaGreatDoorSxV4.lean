/- Functions. Printed by our own sx.py. -/
import Derived.Test.YtlmmgjngihlpeaaGreatDoorSxV3
namespace Go.Proofs.YtlmmgjngihlpeaaGreatDoor.Sx
open Go
set_option linter.unusedVariables false
set_option maxRecDepth 100000
abbrev S_g66(α:Type):Type:=ByteArray→Int→(ByteArray→Option α)→Option α
def g66r1{α:Type}(a:ByteArray)(c:ByteArray→Option α)(h:Int)(G106:Al S_g106):Option α:=cond (decide (h≤(64:Int))) (G106 strC5 a (fun j=>cond j (if 0≤(0:Int)∧(0:Int)≤h∧h≤((strC5.size:Nat):Int) then c (ByteArray.extract strC5 0 (Int.toNat h)) else none) (cond (decide (h≤(128:Int))) (G106 strC6 a (fun j=>cond j (if 0≤(0:Int)∧(0:Int)≤h∧h≤((strC6.size:Nat):Int) then c (ByteArray.extract strC6 0 (Int.toNat h)) else none) (cond (decide (h≤(64:Int))) (G106 strC7 a (fun j=>cond j (if 0≤(0:Int)∧(0:Int)≤h∧h≤((strC7.size:Nat):Int) then c (ByteArray.extract strC7 0 (Int.toNat h)) else none) (cond (decide (h>(8192:Int))) (if((a.size:Nat):Int)=0 then none else cond ((IntKind.wrap .i64 ((IntKind.wrap .i64 (Int.tdiv (8192:Int) ((a.size:Nat):Int)))*((a.size:Nat):Int)))==(0:Int)) (none) (none)) (none)))) (cond (decide (h>(8192:Int))) (if((a.size:Nat):Int)=0 then none else cond ((IntKind.wrap .i64 ((IntKind.wrap .i64 (Int.tdiv (8192:Int) ((a.size:Nat):Int)))*((a.size:Nat):Int)))==(0:Int)) (none) (none)) (none))))) (cond (decide (h≤(64:Int))) (G106 strC7 a (fun j=>cond j (if 0≤(0:Int)∧(0:Int)≤h∧h≤((strC7.size:Nat):Int) then c (ByteArray.extract strC7 0 (Int.toNat h)) else none) (cond (decide (h>(8192:Int))) (if((a.size:Nat):Int)=0 then none else cond ((IntKind.wrap .i64 ((IntKind.wrap .i64 (Int.tdiv (8192:Int) ((a.size:Nat):Int)))*((a.size:Nat):Int)))==(0:Int)) (none) (none)) (none)))) (cond (decide (h>(8192:Int))) (if((a.size:Nat):Int)=0 then none else cond ((IntKind.wrap .i64 ((IntKind.wrap .i64 (Int.tdiv (8192:Int) ((a.size:Nat):Int)))*((a.size:Nat):Int)))==(0:Int)) (none) (none)) (none)))))) (cond (decide (h≤(128:Int))) (G106 strC6 a (fun j=>cond j (if 0≤(0:Int)∧(0:Int)≤h∧h≤((strC6.size:Nat):Int) then c (ByteArray.extract strC6 0 (Int.toNat h)) else none) (cond (decide (h≤(64:Int))) (G106 strC7 a (fun j=>cond j (if 0≤(0:Int)∧(0:Int)≤h∧h≤((strC7.size:Nat):Int) then c (ByteArray.extract strC7 0 (Int.toNat h)) else none) (cond (decide (h>(8192:Int))) (if((a.size:Nat):Int)=0 then none else cond ((IntKind.wrap .i64 ((IntKind.wrap .i64 (Int.tdiv (8192:Int) ((a.size:Nat):Int)))*((a.size:Nat):Int)))==(0:Int)) (none) (none)) (none)))) (cond (decide (h>(8192:Int))) (if((a.size:Nat):Int)=0 then none else cond ((IntKind.wrap .i64 ((IntKind.wrap .i64 (Int.tdiv (8192:Int) ((a.size:Nat):Int)))*((a.size:Nat):Int)))==(0:Int)) (none) (none)) (none))))) (cond (decide (h≤(64:Int))) (G106 strC7 a (fun j=>cond j (if 0≤(0:Int)∧(0:Int)≤h∧h≤((strC7.size:Nat):Int) then c (ByteArray.extract strC7 0 (Int.toNat h)) else none) (cond (decide (h>(8192:Int))) (if((a.size:Nat):Int)=0 then none else cond ((IntKind.wrap .i64 ((IntKind.wrap .i64 (Int.tdiv (8192:Int) ((a.size:Nat):Int)))*((a.size:Nat):Int)))==(0:Int)) (none) (none)) (none)))) (cond (decide (h>(8192:Int))) (if((a.size:Nat):Int)=0 then none else cond ((IntKind.wrap .i64 ((IntKind.wrap .i64 (Int.tdiv (8192:Int) ((a.size:Nat):Int)))*((a.size:Nat):Int)))==(0:Int)) (none) (none)) (none))))
def g66r2{α:Type}(a:ByteArray)(c:ByteArray→Option α)(h:Int)(G106:Al S_g106):Option α:=cond (decide (h≤(128:Int))) (G106 strC3 a (fun j=>cond j (if 0≤(0:Int)∧(0:Int)≤h∧h≤((strC3.size:Nat):Int) then c (ByteArray.extract strC3 0 (Int.toNat h)) else none) (cond (decide (h≤(128:Int))) (G106 strC4 a (fun j=>cond j (if 0≤(0:Int)∧(0:Int)≤h∧h≤((strC4.size:Nat):Int) then c (ByteArray.extract strC4 0 (Int.toNat h)) else none) (g66r1 a c h G106))) (g66r1 a c h G106)))) (cond (decide (h≤(128:Int))) (G106 strC4 a (fun j=>cond j (if 0≤(0:Int)∧(0:Int)≤h∧h≤((strC4.size:Nat):Int) then c (ByteArray.extract strC4 0 (Int.toNat h)) else none) (g66r1 a c h G106))) (g66r1 a c h G106))
def g66b{α:Type}(G105:Al S_g105)(G106:Al S_g106)(a:ByteArray)(b:Int)(c:ByteArray→Option α):Option α:=cond (b==(0:Int)) (c (⟨#[]⟩:ByteArray)) (cond (b==(1:Int)) (c a) (cond (decide (b<(0:Int))) (none) (G105 (IntKind.wrap .u64 ((a.size:Nat):Int)) (IntKind.wrap .u64 b) (fun d e=>cond (decide (d>(0:Int))) (none) (cond (decide (e>(9223372036854775807:Int))) (none) (let h:Int:=IntKind.wrap .i64 e;cond (((a.size:Nat):Int)==(0:Int)) (c (⟨#[]⟩:ByteArray)) (if 0≤(0:Int)∧(0:Int)<a.size then let i:Int:=byteAt a (0:Int).toNat;cond (i==(32:Int)) (g66r2 a c h G106) (cond (i==(45:Int)) (g66r2 a c h G106) (cond (i==(48:Int)) (g66r2 a c h G106) (cond (i==(61:Int)) (g66r2 a c h G106) (cond (i==(9:Int)) (g66r2 a c h G106) (cond (decide (h>(8192:Int))) (if((a.size:Nat):Int)=0 then none else cond ((IntKind.wrap .i64 ((IntKind.wrap .i64 (Int.tdiv (8192:Int) ((a.size:Nat):Int)))*((a.size:Nat):Int)))==(0:Int)) (none) (none)) (none)))))) else none)))))))
def g66{α:Type}(m:Nat):S_g66 α:=
 g66b (g105 m) (g106 m)
def g66tp:List TP:=[(.vl (.sv .str)),tI]
def g66bp:List BP:=[]
def g66K{α:Type}(G:S_g66 α)(ls:List Lf)(k:KRe α):Option α:=
 G (lf ls 0).str (lf ls 1).int
  (fun a=>k (.vl (.sv (.str a))) [] [])
def g66R{α:Type}(G:S_g66 α):=rowK g66tp g66bp (g66K G)
def g66hd(G105:Al S_g105)(G106:Al S_g106):Hd where
 call:=fun f args Bs k=>cond (Nat.beq f 105) (g105R G105 args Bs k) (cond (Nat.beq f 106) (g106R G106 args Bs k) (none))
 loop:=fun id st k=>none
 ro:=fun f=>[]
def g66h(m:Nat):Hd:=g66hd (g105 m) (g106 m)
theorem g66Main(G105:Al S_g105)(G106:Al S_g106){α:Type}(ls:List Lf)(k:KRe α):
  g66K (g66b G105 G106) ls k=evFun tab (g66hd G105 G106) Tryz.f66 (fT g66tp ls) (fB g66tp g66bp ls) k:=by kernel_rfl
theorem g66Calls(m:Nat):(g66h m).CallsOk Tryz.prog:=(cok_cons (g105Ok m) (cok_cons (g106Ok m) cok_nil))
theorem g66l3Ok(m:Nat)(α:Type)(st:St)(k:KEx α)(r:α)(h:(g66h m).loop 3 st k=some r):
  LoopS Tryz.prog 3 (bodyAt Tryz.f66 3) st k r:=
 nomatch (show(none:Option α)=some r from h)
theorem g66Ok(m:Nat):RowOk Tryz.prog 66 (fun{α}=>g66R (g66 m (α:=α))):=
 rwk (g66Calls m) (lo1 (by kernel_rfl) (g66l3Ok m))
  (fun _=>g66Main (g105 m) (g106 m))
end Go.Proofs.YtlmmgjngihlpeaaGreatDoor.Sx
