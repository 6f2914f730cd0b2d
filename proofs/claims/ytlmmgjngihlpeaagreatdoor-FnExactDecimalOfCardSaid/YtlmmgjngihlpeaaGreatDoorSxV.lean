/- Functions. Printed by our own sx.py. -/
import Derived.Test.YtlmmgjngihlpeaaGreatDoorSxV4
namespace Go.Proofs.YtlmmgjngihlpeaaGreatDoor.Sx
open Go
set_option linter.unusedVariables false
set_option maxRecDepth 100000
abbrev S_g64(α:Type):Type:=Bool→(List Int)→(ByteArray→Option α)→Option α
abbrev S_g64l0(α:Type):Type:=Bool→(List Int)→(ByteArray→Option α)→ByteArray→(List Int)→Option α
def g64l0b{α:Type}(G104:Al S_g104)(G39:Al S_g39)(G66:Al S_g66)(a:Bool)(b:List Int)(c:ByteArray→Option α)(d:ByteArray→(List Int)→Option α)(e:ByteArray)(h:List Int):Option α:=G104 h (1000000000:Int) (fun i j=>G39 (IntKind.wrap .i64 j) (fun l=>cond (eqLI i [0,0,0,0,0,0]) (if l.size+e.size≤9223372036854775807 then c (l++e) else none) (G66 (⟨#[48]⟩:ByteArray) (IntKind.wrap .i64 ((9:Int)-((l.size:Nat):Int))) (fun n=>if n.size+l.size≤9223372036854775807 then let o:ByteArray:=n++l;if o.size+e.size≤9223372036854775807 then d (o++e) i else none else none))))
def g64l0{α:Type}(G104:Al S_g104)(G39:Al S_g39)(G66:Al S_g66)(a:Bool)(b:List Int)(c:ByteArray→Option α):Nat→ByteArray→(List Int)→Option α
 |0=>fun _ _=>none
 |m+1=>fun d e=>g64l0b G104 G39 G66 a b c (g64l0 G104 G39 G66 a b c m) d e
def g64l0M{α:Type}(m:Nat):S_g64l0 α:=
 fun a b c d e=>g64l0 (g104 m) (g39 m) (g66 m) a b c m d e
def g64l0D:LoopD:={n:=39,low:=[],sl:=[1,3,4],bl:=[1000000,1000001],tp:=[(.vl (.sv (.ptr 1000000 0))),(.vl (.sv (.ptr 1000001 0))),(.vl (.sv .str))],bp:=[(true,[(.one .bool),(.seq uU 6)]),b6],xs:=[(2,[1,4])]}
def g64l0K{α:Type}(L:S_g64l0 α)(ls:List Lf)(k:KEx α):Option α:=
 L (lf ls 1).bool ((lf ls 2).lst uU)
  (fun a=>k .normal (mkSt 39 [1,4] [(.vl (.sv (.ptr 1000000 0))),(.vl (.sv (.str a)))] [1000000] [(true,[(.one (.bool (lf ls 1).bool)),(.seq uU 6 ((lf ls 2).lst uU))])]))
  (lf ls 0).str ((lf ls 3).lst uU)
def g64b{α:Type}(G103:Al S_g103)(G104:Al S_g104)(G39:Al S_g39)(G66:Al S_g66)(L64l0:Al S_g64l0)(a:Bool)(b:List Int)(c:ByteArray→Option α):Option α:=G103 a b (fun d=>cond (!d) (c (⟨#[]⟩:ByteArray)) (L64l0 a b (fun e=>cond a (if(⟨#[45]⟩:ByteArray).size+e.size≤9223372036854775807 then c ((⟨#[45]⟩:ByteArray)++e) else none) (c e)) (⟨#[]⟩:ByteArray) b))
def g64{α:Type}(m:Nat):S_g64 α:=
 g64b (g103 m) (g104 m) (g39 m) (g66 m) (g64l0M m)
def g64tp:List TP:=[vW]
def g64bp:List BP:=[]
def g64K{α:Type}(G:S_g64 α)(ls:List Lf)(k:KRe α):Option α:=
 G (lf ls 0).bool ((lf ls 1).lst uU)
  (fun a=>k (.vl (.sv (.str a))) [] [])
def g64R{α:Type}(G:S_g64 α):=rowK g64tp g64bp (g64K G)
def g64hd(G103:Al S_g103)(G104:Al S_g104)(G39:Al S_g39)(G66:Al S_g66)(L64l0:Al S_g64l0):Hd where
 call:=fun f args Bs k=>cond (Nat.beq f 103) (g103R G103 args Bs k) (cond (Nat.beq f 104) (g104R G104 args Bs k) (cond (Nat.beq f 39) (g39R G39 args Bs k) (cond (Nat.beq f 66) (g66R G66 args Bs k) (none))))
 loop:=fun id st k=>cond (Nat.beq id 0) (loopH g64l0D (g64l0K L64l0) st k) (none)
 ro:=fun f=>[]
def g64h(m:Nat):Hd:=g64hd (g103 m) (g104 m) (g39 m) (g66 m) (g64l0M m)
theorem g64l0Step(G103:Al S_g103)(G104:Al S_g104)(G39:Al S_g39)(G66:Al S_g66)(L64l0:Al S_g64l0){α:Type}(L:S_g64l0 α)(ls:List Lf)(k:KEx α):
  g64l0K (fun a b c d e=>g64l0b G104 G39 G66 a b c (L a b c) d e) ls k=ev tab (g64hd G103 G104 G39 G66 L64l0) (bodyAt Tryz.f64 0) (atHead g64l0D ls) (loopK g64l0D 0 (loopH g64l0D (g64l0K L)) k):=by kernel_rfl
theorem g64Main(G103:Al S_g103)(G104:Al S_g104)(G39:Al S_g39)(G66:Al S_g66)(L64l0:Al S_g64l0){α:Type}(ls:List Lf)(k:KRe α):
  g64K (g64b G103 G104 G39 G66 L64l0) ls k=evFun tab (g64hd G103 G104 G39 G66 L64l0) Tryz.f64 (fT g64tp ls) (fB g64tp g64bp ls) k:=by kernel_rfl
theorem g64Calls(m:Nat):(g64h m).CallsOk Tryz.prog:=(cok_cons (g103Ok m) (cok_cons (g104Ok m) (cok_cons (g39Ok m) (cok_cons (g66Ok m) cok_nil))))
theorem g64l0Ok(m:Nat)(α:Type)(st:St)(k:KEx α)(r:α)(h:(g64h m).loop 0 st k=some r):
  LoopS Tryz.prog 0 (bodyAt Tryz.f64 0) st k r:=
 lpk (F:=fun n ls k=>g64l0K (fun a b c d e=>g64l0 (g104 m) (g39 m) (g66 m) a b c n d e) ls k) (g64Calls m) (lb0 (by kernel_rfl))
  (fun _ _=>rfl) (fun n ls k=>g64l0Step (g103 m) (g104 m) (g39 m) (g66 m) (g64l0M m) (fun a b c=>g64l0 (g104 m) (g39 m) (g66 m) a b c n) ls k) (n:=m) h
theorem g64Ok(m:Nat):RowOk Tryz.prog 64 (fun{α}=>g64R (g64 m (α:=α))):=
 rwk (g64Calls m) (lo1 (by kernel_rfl) (g64l0Ok m))
  (fun _=>g64Main (g103 m) (g104 m) (g39 m) (g66 m) (g64l0M m))
abbrev S_g23(α:Type):Type:=Nat→Nat→Nat→Int→Int→Nat→Ty0→(ByteArray→Int→Option α)→Option α
abbrev S_g23l0(α:Type):Type:=Int→Int→Int→Nat→Ty0→Nat→Nat→Nat→Int→Ty4→Ty0→(Bool→Bool→(List Int)→Option α)→Int→Bool→Bool→(List Int)→Option α
def g23l0b{α:Type}(G62:Al S_g62)(G61v1:Al S_g61v1)(a b c:Int)(d:Nat)(e:Ty0)(h i j:Nat)(l:Int)(n:Ty4)(o:Ty0)(p:Bool→Bool→(List Int)→Option α)(q:Int→Bool→Bool→(List Int)→Option α)(r:Int)(s t:Bool)(u:List Int):Option α:=cond (decide (r<c)) (G62 (10:Int) (fun v w=>G61v1 t u v w s h i j l d e n o (fun x y z=>q (IntKind.wrap .i64 (r+(1:Int))) z x y))) (p s t u)
def g23l0{α:Type}(G62:Al S_g62)(G61v1:Al S_g61v1)(a b c:Int)(d:Nat)(e:Ty0)(h i j:Nat)(l:Int)(n:Ty4)(o:Ty0)(p:Bool→Bool→(List Int)→Option α):Nat→Int→Bool→Bool→(List Int)→Option α
 |0=>fun _ _ _ _=>none
 |m+1=>fun q r s t=>g23l0b G62 G61v1 a b c d e h i j l n o p (g23l0 G62 G61v1 a b c d e h i j l n o p m) q r s t
def g23l0M{α:Type}(m:Nat):S_g23l0 α:=
 fun a b c d e h i j l n o p q r s t=>g23l0 (g62 m) (g61v1 m) a b c d e h i j l n o p m q r s t
def g23l0D:LoopD:={n:=90,low:=[0],sl:=[2,8,10,11,34,35],bl:=[0,1000001,1000002,1000003,1000004],tp:=[tI,(.vl (.sv (.ptr 1000001 0))),tI,(.vl (.sv (.ptr 1000002 0))),tI,tI],bp:=[(false,[(.seqv rN)]),(true,[(.one .bool),(.one (.slc 0 0 5)),(.one (.mpp 1000003)),(.one (.gsl 1000004 2)),(.one (.int .i64))]),(true,[(.one .bool),(.seq uU 6)]),(true,[(.mp rP mW)]),(true,[(.gro rP)])],xs:=[(2,[2,8,10,11])]}
def g23l0K{α:Type}(L:S_g23l0 α)(ls:List Lf)(k:KEx α):Option α:=
 L (lf ls 0).int (lf ls 1).int (lf ls 2).int (lf ls 4).nat ((lf ls 5).lst rN) (lf ls 7).nat (lf ls 8).nat (lf ls 9).nat (lf ls 10).int ((lf ls 13).map rP mW) ((lf ls 14).lst rP)
  (fun c d e=>k .normal (mkSt 90 [2,8,10,11] [(.vl (.sv (.int .i64 (lf ls 0).int))),(.vl (.sv (.ptr 1000001 0))),(.vl (.sv (.int .i64 (lf ls 1).int))),(.vl (.sv (.ptr 1000002 0)))] [0,1000001,1000002,1000003,1000004] [(false,[(.seq rN (lf ls 4).nat ((lf ls 5).lst rN))]),(true,[(.one (.bool c)),(.one (.slc 0 0 5 (lf ls 7).nat (lf ls 8).nat (lf ls 9).nat)),(.one (.mpp 1000003)),(.one (.gsl 1000004 2)),(.one (.int .i64 (lf ls 10).int))]),(true,[(.one (.bool d)),(.seq uU 6 e)]),(true,[(.mp rP mW ((lf ls 13).map rP mW))]),(true,[(.gro rP ((lf ls 14).lst rP))])]))
  (lf ls 3).int (lf ls 6).bool (lf ls 11).bool ((lf ls 12).lst uU)
def g23b{α:Type}(G46:Al S_g46)(G54:Al S_g54)(G62:Al S_g62)(G61v1:Al S_g61v1)(G63v1:Al S_g63v1)(G55:Al S_g55)(G65:Al S_g65)(G64:Al S_g64)(G66:Al S_g66)(L23l0:Al S_g23l0)(a b c:Nat)(d e:Int)(h:Nat)(i:Ty0)(j:ByteArray→Int→Option α):Option α:=G46 a b c e (15:Int) 0 1 1 h i [d] (fun l=>cond (l !=(0:Int)) (j (⟨#[]⟩:ByteArray) l) (none)) (fun n o=>let p:Int:=IntKind.wrap .i64 ((IntKind.wrap .i64 ((4:Int)*e))+(4:Int));G54 (IntKind.wrap .i16 d) p false a b c (0:Int) h i n o (fun q r s t u v w x y z a0=>L23l0 e p e h i t u v w z a0 (fun b0 c0 d0=>G63v1 c0 d0 p b0 t u v w h i z a0 (fun e0 h0 i0=>G55 i0 t u v w h i z a0 (fun j0 l0=>cond j0 (j (⟨#[]⟩:ByteArray) l0) (G65 false h0 (fun n0=>G64 n0 h0 (fun o0=>let p0:Int:=IntKind.wrap .i64 ((IntKind.wrap .i64 (e+(1:Int)))-((o0.size:Nat):Int));cond (decide (p0>(0:Int))) (G66 (⟨#[48]⟩:ByteArray) p0 (fun q0=>if q0.size+o0.size≤9223372036854775807 then let r0:ByteArray:=q0++o0;cond (decide (e>(0:Int))) (let s0:Int:=IntKind.wrap .i64 (((r0.size:Nat):Int)-e);if 0≤(0:Int)∧(0:Int)≤s0∧s0≤((r0.size:Nat):Int) then let t0:ByteArray:=ByteArray.extract r0 0 (Int.toNat s0);if t0.size+(⟨#[46]⟩:ByteArray).size≤9223372036854775807 then let u0:ByteArray:=t0++(⟨#[46]⟩:ByteArray);if 0≤s0∧s0≤((r0.size:Nat):Int)∧((r0.size:Nat):Int)≤((r0.size:Nat):Int) then let v0:ByteArray:=ByteArray.extract r0 (Int.toNat s0) (Int.toNat ((r0.size:Nat):Int));if u0.size+v0.size≤9223372036854775807 then let w0:ByteArray:=u0++v0;cond e0 (if(⟨#[45]⟩:ByteArray).size+w0.size≤9223372036854775807 then j ((⟨#[45]⟩:ByteArray)++w0) (0:Int) else none) (j w0 (0:Int)) else none else none else none else none) (cond e0 (if(⟨#[45]⟩:ByteArray).size+r0.size≤9223372036854775807 then j ((⟨#[45]⟩:ByteArray)++r0) (0:Int) else none) (j r0 (0:Int))) else none)) (cond (decide (e>(0:Int))) (let x0:Int:=IntKind.wrap .i64 (((o0.size:Nat):Int)-e);if 0≤(0:Int)∧(0:Int)≤x0∧x0≤((o0.size:Nat):Int) then let y0:ByteArray:=ByteArray.extract o0 0 (Int.toNat x0);if y0.size+(⟨#[46]⟩:ByteArray).size≤9223372036854775807 then let z0:ByteArray:=y0++(⟨#[46]⟩:ByteArray);if 0≤x0∧x0≤((o0.size:Nat):Int)∧((o0.size:Nat):Int)≤((o0.size:Nat):Int) then let a1:ByteArray:=ByteArray.extract o0 (Int.toNat x0) (Int.toNat ((o0.size:Nat):Int));if z0.size+a1.size≤9223372036854775807 then let b1:ByteArray:=z0++a1;cond e0 (if(⟨#[45]⟩:ByteArray).size+b1.size≤9223372036854775807 then j ((⟨#[45]⟩:ByteArray)++b1) (0:Int) else none) (j b1 (0:Int)) else none else none else none else none) (cond e0 (if(⟨#[45]⟩:ByteArray).size+o0.size≤9223372036854775807 then j ((⟨#[45]⟩:ByteArray)++o0) (0:Int) else none) (j o0 (0:Int)))))))))) (0:Int) s q r))
noncomputable def g23{α:Type}(m:Nat):S_g23 α:=
 g23b (g46 m) (g54 m) (g62 m) (g61v1 m) (g63v1 m) (g55 m) (g65 m) (g64 m) (g66 m) (g23l0M m)
def g23tp:List TP:=[(.vl (.sv (.slc 0 0 5))),tI,tI]
def g23bp:List BP:=[(false,[(.seqv rN)])]
def g23K{α:Type}(G:S_g23 α)(ls:List Lf)(k:KRe α):Option α:=
 G (lf ls 0).nat (lf ls 1).nat (lf ls 2).nat (lf ls 3).int (lf ls 4).int (lf ls 5).nat ((lf ls 6).lst rN)
  (fun a b=>k (.tup [(.sv (.str a)),(.sv (.int .i64 b))]) [[(.seq rN (lf ls 5).nat ((lf ls 6).lst rN))]] [])
def g23R{α:Type}(G:S_g23 α):=rowK g23tp g23bp (g23K G)
def g23hd(G46:Al S_g46)(G54:Al S_g54)(G62:Al S_g62)(G61v1:Al S_g61v1)(G63v1:Al S_g63v1)(G55:Al S_g55)(G65:Al S_g65)(G64:Al S_g64)(G66:Al S_g66)(L23l0:Al S_g23l0):Hd where
 call:=fun f args Bs k=>cond (Nat.beq f 46) (g46R G46 args Bs k) (cond (Nat.beq f 54) (g54R G54 args Bs k) (cond (Nat.beq f 62) (g62R G62 args Bs k) (cond (Nat.beq f 61) (g61v1R G61v1 args Bs k) (cond (Nat.beq f 63) (g63v1R G63v1 args Bs k) (cond (Nat.beq f 55) (g55R G55 args Bs k) (cond (Nat.beq f 65) (g65R G65 args Bs k) (cond (Nat.beq f 64) (g64R G64 args Bs k) (cond (Nat.beq f 66) (g66R G66 args Bs k) (none)))))))))
 loop:=fun id st k=>cond (Nat.beq id 0) (loopH g23l0D (g23l0K L23l0) st k) (none)
 ro:=fun f=>cond (Nat.beq f 46) [0,1] (cond (Nat.beq f 54) [1] (cond (Nat.beq f 55) [1,2,3] (cond (Nat.beq f 61) [1,2,3] (cond (Nat.beq f 63) [1,2,3] ([])))))
noncomputable def g23h(m:Nat):Hd:=g23hd (g46 m) (g54 m) (g62 m) (g61v1 m) (g63v1 m) (g55 m) (g65 m) (g64 m) (g66 m) (g23l0M m)
theorem g23l0Step(G46:Al S_g46)(G54:Al S_g54)(G62:Al S_g62)(G61v1:Al S_g61v1)(G63v1:Al S_g63v1)(G55:Al S_g55)(G65:Al S_g65)(G64:Al S_g64)(G66:Al S_g66)(L23l0:Al S_g23l0){α:Type}(L:S_g23l0 α)(ls:List Lf)(k:KEx α):
  g23l0K (fun a b c d e h i j l n o p q r s t=>g23l0b G62 G61v1 a b c d e h i j l n o p (L a b c d e h i j l n o p) q r s t) ls k=ev tab (g23hd G46 G54 G62 G61v1 G63v1 G55 G65 G64 G66 L23l0) (bodyAt Tryz.f23 0) (atHead g23l0D ls) (loopK g23l0D 0 (loopH g23l0D (g23l0K L)) k):=by kernel_rfl
theorem g23Main(G46:Al S_g46)(G54:Al S_g54)(G62:Al S_g62)(G61v1:Al S_g61v1)(G63v1:Al S_g63v1)(G55:Al S_g55)(G65:Al S_g65)(G64:Al S_g64)(G66:Al S_g66)(L23l0:Al S_g23l0){α:Type}(ls:List Lf)(k:KRe α):
  g23K (g23b G46 G54 G62 G61v1 G63v1 G55 G65 G64 G66 L23l0) ls k=evFun tab (g23hd G46 G54 G62 G61v1 G63v1 G55 G65 G64 G66 L23l0) Tryz.f23 (fT g23tp ls) (fB g23tp g23bp ls) k:=by kernel_rfl
theorem g23Calls(m:Nat):(g23h m).CallsOk Tryz.prog:=(cok_cons (g46Ok m) (cok_cons (g54Ok m) (cok_cons (g62Ok m) (cok_cons (g61v1Ok m) (cok_cons (g63v1Ok m) (cok_cons (g55Ok m) (cok_cons (g65Ok m) (cok_cons (g64Ok m) (cok_cons (g66Ok m) cok_nil)))))))))
theorem g23l0Ok(m:Nat)(α:Type)(st:St)(k:KEx α)(r:α)(h:(g23h m).loop 0 st k=some r):
  LoopS Tryz.prog 0 (bodyAt Tryz.f23 0) st k r:=
 lpk (F:=fun n ls k=>g23l0K (fun a b c d e i j l o q s t u v w x=>g23l0 (g62 m) (g61v1 m) a b c d e i j l o q s t n u v w x) ls k) (g23Calls m) (lb0 (by kernel_rfl))
  (fun _ _=>rfl) (fun n ls k=>g23l0Step (g46 m) (g54 m) (g62 m) (g61v1 m) (g63v1 m) (g55 m) (g65 m) (g64 m) (g66 m) (g23l0M m) (fun a b c d e i j l o q s t=>g23l0 (g62 m) (g61v1 m) a b c d e i j l o q s t n) ls k) (n:=m) h
theorem g23Ok(m:Nat):RowOk Tryz.prog 23 (fun{α}=>g23R (g23 m (α:=α))):=
 rwk (g23Calls m) (lo1 (by kernel_rfl) (g23l0Ok m))
  (fun _=>g23Main (g46 m) (g54 m) (g62 m) (g61v1 m) (g63v1 m) (g55 m) (g65 m) (g64 m) (g66 m) (g23l0M m))
abbrev S_g71(α:Type):Type:=Int→Int→Int→Int→Int→Int→Int→Int→Int→Int→(Bool→Option α)→Option α
def g71b{α:Type}(a b:Int)(c d:Int)(e h:Int)(i j:Int)(l n:Int)(o:Bool→Option α):Option α:=cond (a !=h) (o false) (cond (b !=i) (o false) (cond (c !=j) (o false) (cond (d !=l) (o false) (cond (e !=n) (o false) (o true)))))
def g71{α:Type}(m:Nat):S_g71 α:=
 g71b
def g71tp:List TP:=[(.vl (.agg [(.one (.int .i8)),(.one (.int .i16)),(.one (.int .i16)),(.one (.int .i64)),(.one (.int .i64))])),(.vl (.agg [(.one (.int .i8)),(.one (.int .i16)),(.one (.int .i16)),(.one (.int .i64)),(.one (.int .i64))]))]
def g71bp:List BP:=[]
def g71K{α:Type}(G:S_g71 α)(ls:List Lf)(k:KRe α):Option α:=
 G (lf ls 0).int (lf ls 1).int (lf ls 2).int (lf ls 3).int (lf ls 4).int (lf ls 5).int (lf ls 6).int (lf ls 7).int (lf ls 8).int (lf ls 9).int
  (fun a=>k (.vl (.sv (.bool a))) [] [])
def g71R{α:Type}(G:S_g71 α):=rowK g71tp g71bp (g71K G)
def g71hd:Hd where
 call:=fun f args Bs k=>none
 loop:=fun id st k=>none
 ro:=fun f=>[]
def g71h(m:Nat):Hd:=g71hd
theorem g71Main{α:Type}(ls:List Lf)(k:KRe α):
  g71K (g71b) ls k=evFun tab (g71hd) Tryz.f71 (fT g71tp ls) (fB g71tp g71bp ls) k:=by kernel_rfl
theorem g71Calls(m:Nat):(g71h m).CallsOk Tryz.prog:=cok_nil
theorem g71Ok(m:Nat):RowOk Tryz.prog 71 (fun{α}=>g71R (g71 m (α:=α))):=
 rwk (g71Calls m) (lo0 (by kernel_rfl))
  (fun _=>g71Main)
abbrev S_g29(α:Type):Type:=Nat→Nat→Nat→Nat→Nat→Nat→Nat→Ty0→Nat→Ty0→(Bool→Option α)→Option α
abbrev S_g29l0(α:Type):Type:=Nat→Nat→Nat→Nat→Nat→Nat→Nat→Ty0→Nat→Ty0→(Option α)→(Option α)→Int→Option α
def g29l0b{α:Type}(G71:Al S_g71)(a b:Nat)(c d:Nat)(e h i:Nat)(j:Ty0)(l:Nat)(n:Ty0)(o p:Option α)(q:Int→Option α)(r:Int):Option α:=cond (decide (r<((b:Nat):Int))) (if 0≤r∧r<(b:Nat) then if(a+r.toNat)<i then if 0≤r∧r<(e:Nat) then if(d+r.toNat)<l then G71 ((List.getD j (a+r.toNat) []).headD 0) ((List.getD j (a+r.toNat) []).tail.headD 0) ((List.getD j (a+r.toNat) []).tail.tail.headD 0) ((List.getD j (a+r.toNat) []).tail.tail.tail.headD 0) ((List.getD j (a+r.toNat) []).tail.tail.tail.tail.headD 0) ((List.getD n (d+r.toNat) []).headD 0) ((List.getD n (d+r.toNat) []).tail.headD 0) ((List.getD n (d+r.toNat) []).tail.tail.headD 0) ((List.getD n (d+r.toNat) []).tail.tail.tail.headD 0) ((List.getD n (d+r.toNat) []).tail.tail.tail.tail.headD 0) (fun s=>cond (!s) (o) (q (IntKind.wrap .i64 (r+(1:Int))))) else none else none else none else none) (p)
def g29l0{α:Type}(G71:Al S_g71)(a b:Nat)(c d:Nat)(e h i:Nat)(j:Ty0)(l:Nat)(n:Ty0)(o p:Option α):Nat→Int→Option α
 |0=>fun _=>none
 |m+1=>fun q=>g29l0b G71 a b c d e h i j l n o p (g29l0 G71 a b c d e h i j l n o p m) q
def g29l0M{α:Type}(m:Nat):S_g29l0 α:=
 fun a b c d e h i j l n o p q=>g29l0 (g71 m) a b c d e h i j l n o p m q
def g29l0D:LoopD:={n:=27,low:=[0,1],sl:=[0,1,5],bl:=[0,1],tp:=[(.vl (.sv (.slc 0 0 5))),(.vl (.sv (.slc 1 0 5))),tI],bp:=[(false,[(.seqv rN)]),(false,[(.seqv rN)])],xs:=[(1,[4]),(2,[])]}
def g29l0K{α:Type}(L:S_g29l0 α)(ls:List Lf)(k:KEx α):Option α:=
 L (lf ls 0).nat (lf ls 1).nat (lf ls 2).nat (lf ls 3).nat (lf ls 4).nat (lf ls 5).nat (lf ls 7).nat ((lf ls 8).lst rN) (lf ls 9).nat ((lf ls 10).lst rN)
  (k .ret (mkSt 27 [4] [(.vl (.sv (.bool false)))] [0,1] [(false,[(.seq rN (lf ls 7).nat ((lf ls 8).lst rN))]),(false,[(.seq rN (lf ls 9).nat ((lf ls 10).lst rN))])]))
  (k .normal (mkSt 27 [] [] [0,1] [(false,[(.seq rN (lf ls 7).nat ((lf ls 8).lst rN))]),(false,[(.seq rN (lf ls 9).nat ((lf ls 10).lst rN))])]))
  (lf ls 6).int
def g29b{α:Type}(G71:Al S_g71)(L29l0:Al S_g29l0)(a b:Nat)(c d:Nat)(e h i:Nat)(j:Ty0)(l:Nat)(n:Ty0)(o:Bool→Option α):Option α:=cond (((b:Nat):Int) !=((e:Nat):Int)) (o false) (L29l0 a b c d e h i j l n (o false) (o true) (0:Int))
def g29{α:Type}(m:Nat):S_g29 α:=
 g29b (g71 m) (g29l0M m)
def g29tp:List TP:=[(.vl (.sv (.slc 0 0 5))),(.vl (.sv (.slc 1 0 5)))]
def g29bp:List BP:=[(false,[(.seqv rN)]),(false,[(.seqv rN)])]
def g29K{α:Type}(G:S_g29 α)(ls:List Lf)(k:KRe α):Option α:=
 G (lf ls 0).nat (lf ls 1).nat (lf ls 2).nat (lf ls 3).nat (lf ls 4).nat (lf ls 5).nat (lf ls 6).nat ((lf ls 7).lst rN) (lf ls 8).nat ((lf ls 9).lst rN)
  (fun a=>k (.vl (.sv (.bool a))) [[(.seq rN (lf ls 6).nat ((lf ls 7).lst rN))],[(.seq rN (lf ls 8).nat ((lf ls 9).lst rN))]] [])
def g29R{α:Type}(G:S_g29 α):=rowK g29tp g29bp (g29K G)
def g29hd(G71:Al S_g71)(L29l0:Al S_g29l0):Hd where
 call:=fun f args Bs k=>cond (Nat.beq f 71) (g71R G71 args Bs k) (none)
 loop:=fun id st k=>cond (Nat.beq id 0) (loopH g29l0D (g29l0K L29l0) st k) (none)
 ro:=fun f=>[]
def g29h(m:Nat):Hd:=g29hd (g71 m) (g29l0M m)
theorem g29l0Step(G71:Al S_g71)(L29l0:Al S_g29l0){α:Type}(L:S_g29l0 α)(ls:List Lf)(k:KEx α):
  g29l0K (fun a b c d e h i j l n o p q=>g29l0b G71 a b c d e h i j l n o p (L a b c d e h i j l n o p) q) ls k=ev tab (g29hd G71 L29l0) (bodyAt Tryz.f29 0) (atHead g29l0D ls) (loopK g29l0D 0 (loopH g29l0D (g29l0K L)) k):=by kernel_rfl
theorem g29Main(G71:Al S_g71)(L29l0:Al S_g29l0){α:Type}(ls:List Lf)(k:KRe α):
  g29K (g29b G71 L29l0) ls k=evFun tab (g29hd G71 L29l0) Tryz.f29 (fT g29tp ls) (fB g29tp g29bp ls) k:=by kernel_rfl
theorem g29Calls(m:Nat):(g29h m).CallsOk Tryz.prog:=(cok_cons (g71Ok m) cok_nil)
theorem g29l0Ok(m:Nat)(α:Type)(st:St)(k:KEx α)(r:α)(h:(g29h m).loop 0 st k=some r):
  LoopS Tryz.prog 0 (bodyAt Tryz.f29 0) st k r:=
 lpk (F:=fun n ls k=>g29l0K (fun a b c d e i j l o q s t u=>g29l0 (g71 m) a b c d e i j l o q s t n u) ls k) (g29Calls m) (lb0 (by kernel_rfl))
  (fun _ _=>rfl) (fun n ls k=>g29l0Step (g71 m) (g29l0M m) (fun a b c d e i j l o q s t=>g29l0 (g71 m) a b c d e i j l o q s t n) ls k) (n:=m) h
theorem g29Ok(m:Nat):RowOk Tryz.prog 29 (fun{α}=>g29R (g29 m (α:=α))):=
 rwk (g29Calls m) (lo1 (by kernel_rfl) (g29l0Ok m))
  (fun _=>g29Main (g71 m) (g29l0M m))
abbrev S_g4(α:Type):Type:=Nat→Nat→Nat→Int→Int→Nat→Ty0→(Bool→Option α)→Option α
def g4b{α:Type}(G27:Al S_g27)(G28:Al S_g28)(G24:Al S_g24)(G23:Al S_g23)(G29:Al S_g29)(a b c:Nat)(d e:Int)(h:Nat)(i:Ty0)(j:Bool→Option α):Option α:=G27 a b c (1048576:Int) h i (fun l=>cond (decide (l<(0:Int))) (j true) (G28 a b c h i (fun n=>G24 0 b b d e b n (fun o p=>G28 a b c h i (fun q=>G23 0 b b d e b q (fun r s=>cond (!bytesEq r o) (j false) (cond (s !=p) (j false) (G28 a b c h i (fun t=>G29 0 b b 0 b b b q b t (fun u=>cond (!u) (j false) (j true)))))))))))
noncomputable def g4{α:Type}(m:Nat):S_g4 α:=
 g4b (g27 m) (g28 m) (g24 m) (g23 m) (g29 m)
def g4tp:List TP:=[(.vl (.sv (.sla 0 0 5))),tI,tI]
def g4bp:List BP:=[(false,[(.seqv rN)])]
def g4K{α:Type}(G:S_g4 α)(ls:List Lf)(k:KRe α):Option α:=
 G (lf ls 0).nat (lf ls 1).nat (lf ls 2).nat (lf ls 3).int (lf ls 4).int (lf ls 5).nat ((lf ls 6).lst rN)
  (fun a=>k (.vl (.sv (.bool a))) [[(.seq rN (lf ls 5).nat ((lf ls 6).lst rN))]] [])
def g4hd(G27:Al S_g27)(G28:Al S_g28)(G24:Al S_g24)(G23:Al S_g23)(G29:Al S_g29):Hd where
 call:=fun f args Bs k=>cond (Nat.beq f 27) (g27R G27 args Bs k) (cond (Nat.beq f 28) (g28R G28 args Bs k) (cond (Nat.beq f 24) (g24R G24 args Bs k) (cond (Nat.beq f 23) (g23R G23 args Bs k) (cond (Nat.beq f 29) (g29R G29 args Bs k) (none)))))
 loop:=fun id st k=>none
 ro:=fun f=>cond (Nat.beq f 23) [0] (cond (Nat.beq f 24) [0] (cond (Nat.beq f 27) [0] (cond (Nat.beq f 28) [0] (cond (Nat.beq f 29) [0,1] ([])))))
noncomputable def g4h(m:Nat):Hd:=g4hd (g27 m) (g28 m) (g24 m) (g23 m) (g29 m)
theorem g4Main(G27:Al S_g27)(G28:Al S_g28)(G24:Al S_g24)(G23:Al S_g23)(G29:Al S_g29){α:Type}(ls:List Lf)(k:KRe α):
  g4K (g4b G27 G28 G24 G23 G29) ls k=evFun tab (g4hd G27 G28 G24 G23 G29) Tryz.f4 (fT g4tp ls) (fB g4tp g4bp ls) k:=by kernel_rfl
theorem g4Calls(m:Nat):(g4h m).CallsOk Tryz.prog:=(cok_cons (g27Ok m) (cok_cons (g28Ok m) (cok_cons (g24Ok m) (cok_cons (g23Ok m) (cok_cons (g29Ok m) cok_nil)))))
theorem g4Fn(m:Nat):FnOk Tryz.prog 4 g4tp g4bp (fun{α}=>g4K (g4 m (α:=α))):=
 fnk (g4Calls m) (lo0 (by kernel_rfl))
  (fun _=>g4Main (g27 m) (g28 m) (g24 m) (g23 m) (g29 m))
end Go.Proofs.YtlmmgjngihlpeaaGreatDoor.Sx
