/- Functions. Printed by our own sx.py. -/
import Derived.Test.YtlmmgjngihlpeaaGreatDoorSxV1
namespace Go.Proofs.YtlmmgjngihlpeaaGreatDoor.Sx
open Go
set_option linter.unusedVariables false
set_option maxRecDepth 100000
abbrev S_g112(α:Type):Type:=Bool→(List Int)→(ByteArray→Option α)→Option α
abbrev S_g112l2(α:Type):Type:=ByteArray→Bool→(List Int)→(List Int)→(List Int)→(List Int)→(ByteArray→Option α)→ByteArray→Option α
def g112l2b{α:Type}(a:ByteArray)(b:Bool)(c d:List Int)(e h:List Int)(i:ByteArray→Option α)(j:ByteArray→Option α)(l:ByteArray):Option α:=cond (decide (((l.size:Nat):Int)<(9:Int))) (if(⟨#[48]⟩:ByteArray).size+l.size≤9223372036854775807 then j ((⟨#[48]⟩:ByteArray)++l) else none) (i l)
def g112l2{α:Type}(a:ByteArray)(b:Bool)(c d:List Int)(e h:List Int)(i:ByteArray→Option α):Nat→ByteArray→Option α
 |0=>fun _=>none
 |m+1=>fun j=>g112l2b a b c d e h i (g112l2 a b c d e h i m) j
def g112l2M{α:Type}(m:Nat):S_g112l2 α:=
 fun a b c d e h i j=>g112l2 a b c d e h i m j
def g112l2D:LoopD:={n:=42,low:=[0],sl:=[0,3,4,5,6,8],bl:=[0,1000001,1000002,1000003],tp:=[(.vl (.sv (.ptr 0 0))),(.vl (.sv (.ptr 1000001 0))),(.vl (.sv (.ptr 1000002 0))),(.vl (.sv .str)),(.vl (.sv (.ptr 1000003 0))),(.vl (.sv .str))],bp:=[(false,[(.one .bool),(.seq uU 6)]),b6,b6,b6],xs:=[(4,[0,3,4,5,6,8])]}
def g112l2K{α:Type}(L:S_g112l2 α)(ls:List Lf)(k:KEx α):Option α:=
 L (lf ls 0).str (lf ls 2).bool ((lf ls 3).lst uU) ((lf ls 4).lst uU) ((lf ls 5).lst uU) ((lf ls 6).lst uU)
  (fun a=>k .normal (mkSt 42 [0,3,4,5,6,8] [(.vl (.sv (.ptr 0 0))),(.vl (.sv (.ptr 1000001 0))),(.vl (.sv (.ptr 1000002 0))),(.vl (.sv (.str (lf ls 0).str))),(.vl (.sv (.ptr 1000003 0))),(.vl (.sv (.str a)))] [0,1000001,1000002,1000003] [(false,[(.one (.bool (lf ls 2).bool)),(.seq uU 6 ((lf ls 3).lst uU))]),(true,[(.seq uU 6 ((lf ls 4).lst uU))]),(true,[(.seq uU 6 ((lf ls 5).lst uU))]),(true,[(.seq uU 6 ((lf ls 6).lst uU))])]))
  (lf ls 1).str
abbrev S_g112l0(α:Type):Type:=Bool→(List Int)→(List Int)→(ByteArray→Option α)→ByteArray→(List Int)→Option α
def g112l0b{α:Type}(G155:Al S_g155)(G156:Al S_g156)(G157:Al S_g157)(L112l2:Al S_g112l2)(a:Bool)(b c:List Int)(d:ByteArray→Option α)(e:ByteArray→(List Int)→Option α)(h:ByteArray)(i:List Int):Option α:=G155 i c (fun j l=>G156 (IntKind.wrap .i64 (List.getD l 0 0)) (fun n=>G157 j (fun o=>cond o (if n.size+h.size≤9223372036854775807 then d (n++h) else none) (L112l2 h a b i c j (fun p=>if p.size+h.size≤9223372036854775807 then e (p++h) j else none) n))))
def g112l0{α:Type}(G155:Al S_g155)(G156:Al S_g156)(G157:Al S_g157)(L112l2:Al S_g112l2)(a:Bool)(b c:List Int)(d:ByteArray→Option α):Nat→ByteArray→(List Int)→Option α
 |0=>fun _ _=>none
 |m+1=>fun e h=>g112l0b G155 G156 G157 L112l2 a b c d (g112l0 G155 G156 G157 L112l2 a b c d m) e h
noncomputable def g112l0M{α:Type}(m:Nat):S_g112l0 α:=
 fun a b c d e h=>g112l0 (g155 m) (g156 m) (g157 m) (g112l2M m) a b c d m e h
def g112l0D:LoopD:={n:=42,low:=[0],sl:=[0,3,4,5],bl:=[0,1000001,1000002],tp:=[(.vl (.sv (.ptr 0 0))),(.vl (.sv (.ptr 1000001 0))),(.vl (.sv (.ptr 1000002 0))),(.vl (.sv .str))],bp:=[(false,[(.one .bool),(.seq uU 6)]),b6,b6],xs:=[(2,[0,5])]}
def g112l0K{α:Type}(L:S_g112l0 α)(ls:List Lf)(k:KEx α):Option α:=
 L (lf ls 1).bool ((lf ls 2).lst uU) ((lf ls 4).lst uU)
  (fun a=>k .normal (mkSt 42 [0,5] [(.vl (.sv (.ptr 0 0))),(.vl (.sv (.str a)))] [0] [(false,[(.one (.bool (lf ls 1).bool)),(.seq uU 6 ((lf ls 2).lst uU))])]))
  (lf ls 0).str ((lf ls 3).lst uU)
def g112b{α:Type}(G155:Al S_g155)(G156:Al S_g156)(G157:Al S_g157)(L112l2:Al S_g112l2)(L112l0:Al S_g112l0)(a:Bool)(b:List Int)(c:ByteArray→Option α):Option α:=L112l0 a b [(1000000000:Int),0,0,0,0,0] (fun d=>cond a (if(⟨#[45]⟩:ByteArray).size+d.size≤9223372036854775807 then c ((⟨#[45]⟩:ByteArray)++d) else none) (c d)) (⟨#[]⟩:ByteArray) b
noncomputable def g112{α:Type}(m:Nat):S_g112 α:=
 g112b (g155 m) (g156 m) (g157 m) (g112l2M m) (g112l0M m)
def g112tp:List TP:=[(.vl (.sv (.ptr 0 0)))]
def g112bp:List BP:=[(false,[(.one .bool),(.seq uU 6)])]
def g112K{α:Type}(G:S_g112 α)(ls:List Lf)(k:KRe α):Option α:=
 G (lf ls 0).bool ((lf ls 1).lst uU)
  (fun a=>k (.vl (.sv (.str a))) [[(.one (.bool (lf ls 0).bool)),(.seq uU 6 ((lf ls 1).lst uU))]] [])
def g112R{α:Type}(G:S_g112 α):=rowK g112tp g112bp (g112K G)
def g112hd(G155:Al S_g155)(G156:Al S_g156)(G157:Al S_g157)(L112l2:Al S_g112l2)(L112l0:Al S_g112l0):Hd where
 call:=fun f args Bs k=>cond (Nat.beq f 155) (g155R G155 args Bs k) (cond (Nat.beq f 156) (g156R G156 args Bs k) (cond (Nat.beq f 157) (g157R G157 args Bs k) (none)))
 loop:=fun id st k=>cond (Nat.beq id 2) (loopH g112l2D (g112l2K L112l2) st k) (cond (Nat.beq id 0) (loopH g112l0D (g112l0K L112l0) st k) (none))
 ro:=fun f=>cond (Nat.beq f 155) [0,1] (cond (Nat.beq f 157) [0] ([]))
noncomputable def g112h(m:Nat):Hd:=g112hd (g155 m) (g156 m) (g157 m) (g112l2M m) (g112l0M m)
theorem g112l2Step(G155:Al S_g155)(G156:Al S_g156)(G157:Al S_g157)(L112l2:Al S_g112l2)(L112l0:Al S_g112l0){α:Type}(L:S_g112l2 α)(ls:List Lf)(k:KEx α):
  g112l2K (fun a b c d e h i j=>g112l2b a b c d e h i (L a b c d e h i) j) ls k=ev tab (g112hd G155 G156 G157 L112l2 L112l0) (bodyAt Tryz.f112 2) (atHead g112l2D ls) (loopK g112l2D 2 (loopH g112l2D (g112l2K L)) k):=by kernel_rfl
theorem g112l0Step(G155:Al S_g155)(G156:Al S_g156)(G157:Al S_g157)(L112l2:Al S_g112l2)(L112l0:Al S_g112l0){α:Type}(L:S_g112l0 α)(ls:List Lf)(k:KEx α):
  g112l0K (fun a b c d e h=>g112l0b G155 G156 G157 L112l2 a b c d (L a b c d) e h) ls k=ev tab (g112hd G155 G156 G157 L112l2 L112l0) (bodyAt Tryz.f112 0) (atHead g112l0D ls) (loopK g112l0D 0 (loopH g112l0D (g112l0K L)) k):=by kernel_rfl
theorem g112Main(G155:Al S_g155)(G156:Al S_g156)(G157:Al S_g157)(L112l2:Al S_g112l2)(L112l0:Al S_g112l0){α:Type}(ls:List Lf)(k:KRe α):
  g112K (g112b G155 G156 G157 L112l2 L112l0) ls k=evFun tab (g112hd G155 G156 G157 L112l2 L112l0) Tryz.f112 (fT g112tp ls) (fB g112tp g112bp ls) k:=by kernel_rfl
theorem g112Calls(m:Nat):(g112h m).CallsOk Tryz.prog:=(cok_cons (g155Ok m) (cok_cons (g156Ok m) (cok_cons (g157Ok m) cok_nil)))
theorem g112l2Ok(m:Nat)(α:Type)(st:St)(k:KEx α)(r:α)(h:(g112h m).loop 2 st k=some r):
  LoopS Tryz.prog 2 (bodyAt Tryz.f112 2) st k r:=
 lpk (F:=fun n ls k=>g112l2K (fun a b c d e i j l=>g112l2 a b c d e i j n l) ls k) (g112Calls m) (lb0 (by kernel_rfl))
  (fun _ _=>rfl) (fun n ls k=>g112l2Step (g155 m) (g156 m) (g157 m) (g112l2M m) (g112l0M m) (fun a b c d e i j=>g112l2 a b c d e i j n) ls k) (n:=m) h
theorem g112l0Ok(m:Nat)(α:Type)(st:St)(k:KEx α)(r:α)(h:(g112h m).loop 0 st k=some r):
  LoopS Tryz.prog 0 (bodyAt Tryz.f112 0) st k r:=
 lpk (F:=fun n ls k=>g112l0K (fun a b c d e i=>g112l0 (g155 m) (g156 m) (g157 m) (g112l2M m) a b c d n e i) ls k) (g112Calls m) (loopsOk_of _ (fun p hp=>by
  rw[show loopsOf (bodyAt Tryz.f112 0)=[(2,bodyAt Tryz.f112 2)] by kernel_rfl] at hp
  simp only[List.mem_cons,List.not_mem_nil,or_false] at hp
  rcases hp with rfl
  exact g112l2Ok m))
  (fun _ _=>rfl) (fun n ls k=>g112l0Step (g155 m) (g156 m) (g157 m) (g112l2M m) (g112l0M m) (fun a b c d=>g112l0 (g155 m) (g156 m) (g157 m) (g112l2M m) a b c d n) ls k) (n:=m) h
theorem g112Ok(m:Nat):RowOk Tryz.prog 112 (fun{α}=>g112R (g112 m (α:=α))):=
 rwk (g112Calls m) (lo1 (by kernel_rfl) (g112l0Ok m))
  (fun _=>g112Main (g155 m) (g156 m) (g157 m) (g112l2M m) (g112l0M m))
abbrev S_g67(α:Type):Type:=Int→Int→Nat→Nat→Nat→Nat→Nat→Nat→Nat→Ty0→Ty1→Ty0→(ByteArray→Int→Nat→Nat→Nat→Nat→Nat→Nat→Ty1→Ty0→Option α)→Option α
abbrev S_g67l0(α:Type):Type:=Int→Int→Nat→Nat→Nat→Nat→Nat→Nat→Nat→Ty0→Ty1→Bool→(List Int)→Ty0→(Bool→(List Int)→Option α)→Int→Bool→(List Int)→Option α
def g67l0b{α:Type}(G109:Al S_g109)(G110:Al S_g110)(a b:Int)(c d:Nat)(e h:Nat)(i j l:Nat)(n:Ty0)(o:Ty1)(p:Bool)(q:List Int)(r:Ty0)(s:Bool→(List Int)→Option α)(t:Int→Bool→(List Int)→Option α)(u:Int)(v:Bool)(w:List Int):Option α:=cond (decide (u<a)) (G109 (10:Int) (fun x y=>G110 v w x y (fun z a0 b0=>t (IntKind.wrap .i64 (u+(1:Int))) z a0))) (s v w)
def g67l0{α:Type}(G109:Al S_g109)(G110:Al S_g110)(a b:Int)(c d:Nat)(e h:Nat)(i j l:Nat)(n:Ty0)(o:Ty1)(p:Bool)(q:List Int)(r:Ty0)(s:Bool→(List Int)→Option α):Nat→Int→Bool→(List Int)→Option α
 |0=>fun _ _ _=>none
 |m+1=>fun t u v=>g67l0b G109 G110 a b c d e h i j l n o p q r s (g67l0 G109 G110 a b c d e h i j l n o p q r s m) t u v
def g67l0M{α:Type}(m:Nat):S_g67l0 α:=
 fun a b c d e h i j l n o p q r s t u v=>g67l0 (g109 m) (g110 m) a b c d e h i j l n o p q r s m t u v
def g67l0D:LoopD:={n:=86,low:=[0,1,2,3],sl:=[2,8,9,11,12],bl:=[0,1,2,3,1000004,1000005,1000006],tp:=[tI,tI,(.vl (.sv (.ptr 1000004 0))),(.vl (.sv (.ptr 1000005 0))),tI],bp:=[(true,[(.one (.slc 1 0 5)),(.one (.slc 2 0 1)),(.one (.gsl 1000006 2))]),(false,[(.seqv rN)]),(true,[(.rws mK)]),(true,[]),(true,[(.one .bool),(.seq uU 6)]),(true,[(.one .bool),(.seq uU 6)]),(true,[(.gro rP)])],xs:=[(2,[2,8,9,11])]}
def g67l0K{α:Type}(L:S_g67l0 α)(ls:List Lf)(k:KEx α):Option α:=
 L (lf ls 0).int (lf ls 1).int (lf ls 3).nat (lf ls 4).nat (lf ls 5).nat (lf ls 6).nat (lf ls 7).nat (lf ls 8).nat (lf ls 9).nat ((lf ls 10).lst rN) ((lf ls 11).rows mK) (lf ls 12).bool ((lf ls 13).lst uU) ((lf ls 16).lst rP)
  (fun c d=>k .normal (mkSt 86 [2,8,9,11] [(.vl (.sv (.int .i64 (lf ls 0).int))),(.vl (.sv (.int .i64 (lf ls 1).int))),(.vl (.sv (.ptr 1000004 0))),(.vl (.sv (.ptr 1000005 0)))] [0,1,2,3,1000004,1000005,1000006] [(true,[(.one (.slc 1 0 5 (lf ls 3).nat (lf ls 4).nat (lf ls 5).nat)),(.one (.slc 2 0 1 (lf ls 6).nat (lf ls 7).nat (lf ls 8).nat)),(.one (.gsl 1000006 2))]),(false,[(.seq rN (lf ls 9).nat ((lf ls 10).lst rN))]),(true,[(.rws mK ((lf ls 11).rows mK) none)]),(true,[]),(true,[(.one (.bool (lf ls 12).bool)),(.seq uU 6 ((lf ls 13).lst uU))]),(true,[(.one (.bool c)),(.seq uU 6 d)]),(true,[(.gro rP ((lf ls 16).lst rP))])]))
  (lf ls 2).int (lf ls 14).bool ((lf ls 15).lst uU)
abbrev S_g67l2(α:Type):Type:=Int→ByteArray→Nat→Nat→Nat→Nat→Nat→Nat→Nat→Ty0→Ty1→Ty0→(ByteArray→Option α)→ByteArray→Option α
def g67l2b{α:Type}(a:Int)(b:ByteArray)(c d:Nat)(e h:Nat)(i j l:Nat)(n:Ty0)(o:Ty1)(p:Ty0)(q:ByteArray→Option α)(r:ByteArray→Option α)(s:ByteArray):Option α:=cond (decide (((s.size:Nat):Int)<(IntKind.wrap .i64 (a+(1:Int))))) (if(⟨#[48]⟩:ByteArray).size+s.size≤9223372036854775807 then r ((⟨#[48]⟩:ByteArray)++s) else none) (q s)
def g67l2{α:Type}(a:Int)(b:ByteArray)(c d:Nat)(e h:Nat)(i j l:Nat)(n:Ty0)(o:Ty1)(p:Ty0)(q:ByteArray→Option α):Nat→ByteArray→Option α
 |0=>fun _=>none
 |m+1=>fun r=>g67l2b a b c d e h i j l n o p q (g67l2 a b c d e h i j l n o p q m) r
def g67l2M{α:Type}(m:Nat):S_g67l2 α:=
 fun a b c d e h i j l n o p q r=>g67l2 a b c d e h i j l n o p q m r
def g67l2D:LoopD:={n:=86,low:=[0,1,2,3],sl:=[2,16,17],bl:=[0,1,2,3,1000004],tp:=[tI,(.vl (.sv .str)),(.vl (.sv .str))],bp:=[(true,[(.one (.slc 1 0 5)),(.one (.slc 2 0 1)),(.one (.gsl 1000004 2))]),(false,[(.seqv rN)]),(true,[(.rws mK)]),(true,[]),(true,[(.gro rP)])],xs:=[(4,[2,16,17])]}
def g67l2K{α:Type}(L:S_g67l2 α)(ls:List Lf)(k:KEx α):Option α:=
 L (lf ls 0).int (lf ls 1).str (lf ls 3).nat (lf ls 4).nat (lf ls 5).nat (lf ls 6).nat (lf ls 7).nat (lf ls 8).nat (lf ls 9).nat ((lf ls 10).lst rN) ((lf ls 11).rows mK) ((lf ls 12).lst rP)
  (fun c=>k .normal (mkSt 86 [2,16,17] [(.vl (.sv (.int .i64 (lf ls 0).int))),(.vl (.sv (.str (lf ls 1).str))),(.vl (.sv (.str c)))] [0,1,2,3,1000004] [(true,[(.one (.slc 1 0 5 (lf ls 3).nat (lf ls 4).nat (lf ls 5).nat)),(.one (.slc 2 0 1 (lf ls 6).nat (lf ls 7).nat (lf ls 8).nat)),(.one (.gsl 1000004 2))]),(false,[(.seq rN (lf ls 9).nat ((lf ls 10).lst rN))]),(true,[(.rws mK ((lf ls 11).rows mK) none)]),(true,[]),(true,[(.gro rP ((lf ls 12).lst rP))])]))
  (lf ls 2).str
def g67b{α:Type}(G45:Al S_g45)(G109:Al S_g109)(G110:Al S_g110)(G111:Al S_g111)(G112:Al S_g112)(L67l0:Al S_g67l0)(L67l2:Al S_g67l2)(a b:Int)(c d:Nat)(e h:Nat)(i j l:Nat)(n:Ty0)(o:Ty1)(p:Ty0)(q:ByteArray→Int→Nat→Nat→Nat→Nat→Nat→Nat→Ty1→Ty0→Option α):Option α:=let r:Int:=IntKind.wrap .i64 ((IntKind.wrap .i64 ((4:Int)*b))+(4:Int));G45 a r c d e h i j l n o p (fun s t u v w x y z a0 b0 c0 d0 e0=>cond (u !=(0:Int)) (q (⟨#[]⟩:ByteArray) u v w x y z a0 d0 e0) (G109 (1:Int) (fun h0 i0=>L67l0 b r v w x y z a0 l n d0 s t e0 (fun j0 l0=>G110 s t j0 l0 (fun n0 o0 p0=>cond (p0 !=(0:Int)) (q (⟨#[]⟩:ByteArray) p0 v w x y z a0 d0 e0) (G111 n0 o0 r (fun q0 r0=>cond q0 (G112 false r0 (fun s0=>cond (b==(0:Int)) (if(⟨#[45]⟩:ByteArray).size+s0.size≤9223372036854775807 then q ((⟨#[45]⟩:ByteArray)++s0) (0:Int) v w x y z a0 d0 e0 else none) (L67l2 b (⟨#[45]⟩:ByteArray) v w x y z a0 l n d0 e0 (fun t0=>let u0:Int:=IntKind.wrap .i64 (((t0.size:Nat):Int)-b);if 0≤(0:Int)∧(0:Int)≤u0∧u0≤((t0.size:Nat):Int) then let v0:ByteArray:=ByteArray.extract t0 0 (Int.toNat u0);if(⟨#[45]⟩:ByteArray).size+v0.size≤9223372036854775807 then let w0:ByteArray:=(⟨#[45]⟩:ByteArray)++v0;if w0.size+(⟨#[46]⟩:ByteArray).size≤9223372036854775807 then let x0:ByteArray:=w0++(⟨#[46]⟩:ByteArray);if 0≤u0∧u0≤((t0.size:Nat):Int)∧((t0.size:Nat):Int)≤((t0.size:Nat):Int) then let y0:ByteArray:=ByteArray.extract t0 (Int.toNat u0) (Int.toNat ((t0.size:Nat):Int));if x0.size+y0.size≤9223372036854775807 then q (x0++y0) (0:Int) v w x y z a0 d0 e0 else none else none else none else none else none) s0))) (G112 q0 r0 (fun z0=>cond (b==(0:Int)) (if(⟨#[]⟩:ByteArray).size+z0.size≤9223372036854775807 then q ((⟨#[]⟩:ByteArray)++z0) (0:Int) v w x y z a0 d0 e0 else none) (L67l2 b (⟨#[]⟩:ByteArray) v w x y z a0 l n d0 e0 (fun a1=>let b1:Int:=IntKind.wrap .i64 (((a1.size:Nat):Int)-b);if 0≤(0:Int)∧(0:Int)≤b1∧b1≤((a1.size:Nat):Int) then let c1:ByteArray:=ByteArray.extract a1 0 (Int.toNat b1);if(⟨#[]⟩:ByteArray).size+c1.size≤9223372036854775807 then let d1:ByteArray:=(⟨#[]⟩:ByteArray)++c1;if d1.size+(⟨#[46]⟩:ByteArray).size≤9223372036854775807 then let e1:ByteArray:=d1++(⟨#[46]⟩:ByteArray);if 0≤b1∧b1≤((a1.size:Nat):Int)∧((a1.size:Nat):Int)≤((a1.size:Nat):Int) then let h1:ByteArray:=ByteArray.extract a1 (Int.toNat b1) (Int.toNat ((a1.size:Nat):Int));if e1.size+h1.size≤9223372036854775807 then q (e1++h1) (0:Int) v w x y z a0 d0 e0 else none else none else none else none else none) z0))))))) (0:Int) h0 i0)))
noncomputable def g67{α:Type}(m:Nat):S_g67 α:=
 g67b (g45 m) (g109 m) (g110 m) (g111 m) (g112 m) (g67l0M m) (g67l2M m)
def g67tp:List TP:=[(.vl (.sv (.ptr 0 0))),tI,tI]
def g67bp:List BP:=[(true,[(.one (.slc 1 0 5)),(.one (.slc 2 0 1)),(.one (.gsl 3 2))]),(false,[(.seqv rN)]),(true,[(.rws mK)]),(true,[(.gro rP)])]
def g67K{α:Type}(G:S_g67 α)(ls:List Lf)(k:KRe α):Option α:=
 G (lf ls 0).int (lf ls 1).int (lf ls 2).nat (lf ls 3).nat (lf ls 4).nat (lf ls 5).nat (lf ls 6).nat (lf ls 7).nat (lf ls 8).nat ((lf ls 9).lst rN) ((lf ls 10).rows mK) ((lf ls 11).lst rP)
  (fun c d e h j l n o p q=>k (.tup [(.sv (.str c)),(.sv (.int .i64 d))]) [[(.one (.slc 1 0 5 e h j)),(.one (.slc 2 0 1 l n o)),(.one (.gsl 4 2))],[(.seq rN (lf ls 8).nat ((lf ls 9).lst rN))],[(.rws mK p none)],[]] [[(.gro rP q)]])
def g67R{α:Type}(G:S_g67 α):=rowK g67tp g67bp (g67K G)
def g67hd(G45:Al S_g45)(G109:Al S_g109)(G110:Al S_g110)(G111:Al S_g111)(G112:Al S_g112)(L67l0:Al S_g67l0)(L67l2:Al S_g67l2):Hd where
 call:=fun f args Bs k=>cond (Nat.beq f 45) (g45R G45 args Bs k) (cond (Nat.beq f 109) (g109R G109 args Bs k) (cond (Nat.beq f 110) (g110R G110 args Bs k) (cond (Nat.beq f 111) (g111R G111 args Bs k) (cond (Nat.beq f 112) (g112R G112 args Bs k) (none)))))
 loop:=fun id st k=>cond (Nat.beq id 0) (loopH g67l0D (g67l0K L67l0) st k) (cond (Nat.beq id 2) (loopH g67l2D (g67l2K L67l2) st k) (none))
 ro:=fun f=>cond (Nat.beq f 45) [1] (cond (Nat.beq f 112) [0] ([]))
noncomputable def g67h(m:Nat):Hd:=g67hd (g45 m) (g109 m) (g110 m) (g111 m) (g112 m) (g67l0M m) (g67l2M m)
theorem g67l0Step(G45:Al S_g45)(G109:Al S_g109)(G110:Al S_g110)(G111:Al S_g111)(G112:Al S_g112)(L67l0:Al S_g67l0)(L67l2:Al S_g67l2){α:Type}(L:S_g67l0 α)(ls:List Lf)(k:KEx α):
  g67l0K (fun a b c d e h i j l n o p q r s t u v=>g67l0b G109 G110 a b c d e h i j l n o p q r s (L a b c d e h i j l n o p q r s) t u v) ls k=ev tab (g67hd G45 G109 G110 G111 G112 L67l0 L67l2) (bodyAt Tryz.f67 0) (atHead g67l0D ls) (loopK g67l0D 0 (loopH g67l0D (g67l0K L)) k):=by kernel_rfl
theorem g67l2Step(G45:Al S_g45)(G109:Al S_g109)(G110:Al S_g110)(G111:Al S_g111)(G112:Al S_g112)(L67l0:Al S_g67l0)(L67l2:Al S_g67l2){α:Type}(L:S_g67l2 α)(ls:List Lf)(k:KEx α):
  g67l2K (fun a b c d e h i j l n o p q r=>g67l2b a b c d e h i j l n o p q (L a b c d e h i j l n o p q) r) ls k=ev tab (g67hd G45 G109 G110 G111 G112 L67l0 L67l2) (bodyAt Tryz.f67 2) (atHead g67l2D ls) (loopK g67l2D 2 (loopH g67l2D (g67l2K L)) k):=by kernel_rfl
theorem g67Main(G45:Al S_g45)(G109:Al S_g109)(G110:Al S_g110)(G111:Al S_g111)(G112:Al S_g112)(L67l0:Al S_g67l0)(L67l2:Al S_g67l2){α:Type}(ls:List Lf)(k:KRe α):
  g67K (g67b G45 G109 G110 G111 G112 L67l0 L67l2) ls k=evFunM tab (g67hd G45 G109 G110 G111 G112 L67l0 L67l2) Tryz.f67 3 (fT g67tp ls) (fB g67tp g67bp ls) k:=by kernel_rfl
theorem g67Calls(m:Nat):(g67h m).CallsOk Tryz.prog:=(cok_cons (g45Ok m) (cok_cons (g109Ok m) (cok_cons (g110Ok m) (cok_cons (g111Ok m) (cok_cons (g112Ok m) cok_nil)))))
theorem g67l0Ok(m:Nat)(α:Type)(st:St)(k:KEx α)(r:α)(h:(g67h m).loop 0 st k=some r):
  LoopS Tryz.prog 0 (bodyAt Tryz.f67 0) st k r:=
 lpk (F:=fun n ls k=>g67l0K (fun a b c d e i j l o q s t u v w x y z=>g67l0 (g109 m) (g110 m) a b c d e i j l o q s t u v w n x y z) ls k) (g67Calls m) (lb0 (by kernel_rfl))
  (fun _ _=>rfl) (fun n ls k=>g67l0Step (g45 m) (g109 m) (g110 m) (g111 m) (g112 m) (g67l0M m) (g67l2M m) (fun a b c d e i j l o q s t u v w=>g67l0 (g109 m) (g110 m) a b c d e i j l o q s t u v w n) ls k) (n:=m) h
theorem g67l2Ok(m:Nat)(α:Type)(st:St)(k:KEx α)(r:α)(h:(g67h m).loop 2 st k=some r):
  LoopS Tryz.prog 2 (bodyAt Tryz.f67 2) st k r:=
 lpk (F:=fun n ls k=>g67l2K (fun a b c d e i j l o q s t u v=>g67l2 a b c d e i j l o q s t u n v) ls k) (g67Calls m) (lb0 (by kernel_rfl))
  (fun _ _=>rfl) (fun n ls k=>g67l2Step (g45 m) (g109 m) (g110 m) (g111 m) (g112 m) (g67l0M m) (g67l2M m) (fun a b c d e i j l o q s t u=>g67l2 a b c d e i j l o q s t u n) ls k) (n:=m) h
theorem g67Fn(m:Nat):FnOk Tryz.prog 67 g67tp g67bp (fun{α}=>g67K (g67 m (α:=α))):=
 fn_okM (tab:=tab) (h:=g67h m) (fn:=Tryz.f67) (F:=fun{α}=>g67K (g67 m (α:=α))) tabOk (g67Calls m) mixed (by kernel_rfl) (by kernel_rfl) (fun c hc=>by
  rw[bodyOf_some hc]
  exact loopsOk_of _ (fun p hp=>by
  rw[show loopsOf (bodyOf Tryz.f67)=[(0,bodyAt Tryz.f67 0),(2,bodyAt Tryz.f67 2)] by kernel_rfl] at hp
  simp only[List.mem_cons,List.not_mem_nil,or_false] at hp
  rcases hp with rfl|rfl
  ·exact g67l0Ok m
  ·exact g67l2Ok m))
  (fun _=>g67Main (g45 m) (g109 m) (g110 m) (g111 m) (g112 m) (g67l0M m) (g67l2M m))
theorem g67Ok(m:Nat):RowOk Tryz.prog 67 (fun{α}=>g67R (g67 m (α:=α))):=row_of (g67Fn m)
abbrev S_g24(α:Type):Type:=Nat→Nat→Nat→Int→Int→Nat→Ty0→(ByteArray→Int→Option α)→Option α
def g24b{α:Type}(G43:Al S_g43)(G44:Al S_g44)(G67:Al S_g67)(a b c:Nat)(d e:Int)(h:Nat)(i:Ty0)(j:ByteArray→Int→Option α):Option α:=G43 a b c d e h i (fun l=>cond (l !=(0:Int)) (j (⟨#[]⟩:ByteArray) l) (cond (decide (e>(15:Int))) (j (⟨#[]⟩:ByteArray) (2:Int)) (G44 a b c h i (fun n o=>G67 d e a b c 0 b b h i n o (fun p q r s t u v w x y=>j p q)))))
noncomputable def g24{α:Type}(m:Nat):S_g24 α:=
 g24b (g43 m) (g44 m) (g67 m)
def g24tp:List TP:=[(.vl (.sv (.slc 0 0 5))),tI,tI]
def g24bp:List BP:=[(false,[(.seqv rN)])]
def g24K{α:Type}(G:S_g24 α)(ls:List Lf)(k:KRe α):Option α:=
 G (lf ls 0).nat (lf ls 1).nat (lf ls 2).nat (lf ls 3).int (lf ls 4).int (lf ls 5).nat ((lf ls 6).lst rN)
  (fun a b=>k (.tup [(.sv (.str a)),(.sv (.int .i64 b))]) [[(.seq rN (lf ls 5).nat ((lf ls 6).lst rN))]] [])
def g24R{α:Type}(G:S_g24 α):=rowK g24tp g24bp (g24K G)
def g24hd(G43:Al S_g43)(G44:Al S_g44)(G67:Al S_g67):Hd where
 call:=fun f args Bs k=>cond (Nat.beq f 43) (g43R G43 args Bs k) (cond (Nat.beq f 44) (g44R G44 args Bs k) (cond (Nat.beq f 67) (g67R G67 args Bs k) (none)))
 loop:=fun id st k=>none
 ro:=fun f=>cond (Nat.beq f 43) [0] (cond (Nat.beq f 44) [0] (cond (Nat.beq f 67) [1] ([])))
noncomputable def g24h(m:Nat):Hd:=g24hd (g43 m) (g44 m) (g67 m)
theorem g24Main(G43:Al S_g43)(G44:Al S_g44)(G67:Al S_g67){α:Type}(ls:List Lf)(k:KRe α):
  g24K (g24b G43 G44 G67) ls k=evFun tab (g24hd G43 G44 G67) Tryz.f24 (fT g24tp ls) (fB g24tp g24bp ls) k:=by kernel_rfl
theorem g24Calls(m:Nat):(g24h m).CallsOk Tryz.prog:=(cok_cons (g43Ok m) (cok_cons (g44Ok m) (cok_cons (g67Ok m) cok_nil)))
theorem g24Ok(m:Nat):RowOk Tryz.prog 24 (fun{α}=>g24R (g24 m (α:=α))):=
 rwk (g24Calls m) (lo0 (by kernel_rfl))
  (fun _=>g24Main (g43 m) (g44 m) (g67 m))
abbrev S_g35(α:Type):Type:=Int→(Bool→Bool→Bool→Option α)→Option α
def g35b{α:Type}(a:Int)(b:Bool→Bool→Bool→Option α):Option α:=cond (a==(1:Int)) (b false false true) (cond (a==(2:Int)) (b true true false) (cond (a==(3:Int)) (b true true false) (cond (a==(4:Int)) (b true true false) (cond (a==(5:Int)) (b true true false) (cond (a==(8:Int)) (b true true false) (cond (a==(9:Int)) (b true true false) (cond (a==(6:Int)) (b true false false) (cond (a==(7:Int)) (b true false false) (cond (a==(10:Int)) (b true false false) (b false false false))))))))))
def g35{α:Type}(m:Nat):S_g35 α:=
 g35b
def g35tp:List TP:=[(.vl (.sv (.int .i8)))]
def g35bp:List BP:=[]
def g35K{α:Type}(G:S_g35 α)(ls:List Lf)(k:KRe α):Option α:=
 G (lf ls 0).int
  (fun a b c=>k (.tup [(.sv (.bool a)),(.sv (.bool b)),(.sv (.bool c))]) [] [])
def g35R{α:Type}(G:S_g35 α):=rowK g35tp g35bp (g35K G)
def g35hd:Hd where
 call:=fun f args Bs k=>none
 loop:=fun id st k=>none
 ro:=fun f=>[]
def g35h(m:Nat):Hd:=g35hd
theorem g35Main{α:Type}(ls:List Lf)(k:KRe α):
  g35K (g35b) ls k=evFun tab (g35hd) Tryz.f35 (fT g35tp ls) (fB g35tp g35bp ls) k:=by kernel_rfl
theorem g35Calls(m:Nat):(g35h m).CallsOk Tryz.prog:=cok_nil
theorem g35Ok(m:Nat):RowOk Tryz.prog 35 (fun{α}=>g35R (g35 m (α:=α))):=
 rwk (g35Calls m) (lo0 (by kernel_rfl))
  (fun _=>g35Main)
abbrev S_g79(α:Type):Type:=Int→Int→Int→(Bool→Option α)→Option α
def g79b{α:Type}(a b c:Int)(d:Bool→Option α):Option α:=cond (decide (a≥b)) (d (decide (a≤c))) (d false)
def g79{α:Type}(m:Nat):S_g79 α:=
 g79b
def g79tp:List TP:=[tI,tI,tI]
def g79bp:List BP:=[]
def g79K{α:Type}(G:S_g79 α)(ls:List Lf)(k:KRe α):Option α:=
 G (lf ls 0).int (lf ls 1).int (lf ls 2).int
  (fun a=>k (.vl (.sv (.bool a))) [] [])
def g79R{α:Type}(G:S_g79 α):=rowK g79tp g79bp (g79K G)
def g79hd:Hd where
 call:=fun f args Bs k=>none
 loop:=fun id st k=>none
 ro:=fun f=>[]
def g79h(m:Nat):Hd:=g79hd
theorem g79Main{α:Type}(ls:List Lf)(k:KRe α):
  g79K (g79b) ls k=evFun tab (g79hd) Tryz.f79 (fT g79tp ls) (fB g79tp g79bp ls) k:=by kernel_rfl
theorem g79Calls(m:Nat):(g79h m).CallsOk Tryz.prog:=cok_nil
theorem g79Ok(m:Nat):RowOk Tryz.prog 79 (fun{α}=>g79R (g79 m (α:=α))):=
 rwk (g79Calls m) (lo0 (by kernel_rfl))
  (fun _=>g79Main)
abbrev S_g52(α:Type):Type:=Int→Int→Int→(Bool→Option α)→Option α
def g52b{α:Type}(G79:Al S_g79)(a b c:Int)(d:Bool→Option α):Option α:=cond (a==(1:Int)) (G79 b (-1000000000:Int) (1000000000:Int) (fun e=>cond e (G79 c (1:Int) (1000000000:Int) (fun h=>d h)) (d false))) (cond (b==(0:Int)) (d (c==(0:Int))) (d false))
def g52{α:Type}(m:Nat):S_g52 α:=
 g52b (g79 m)
def g52tp:List TP:=[(.vl (.sv (.int .i8))),tI,tI]
def g52bp:List BP:=[]
def g52K{α:Type}(G:S_g52 α)(ls:List Lf)(k:KRe α):Option α:=
 G (lf ls 0).int (lf ls 1).int (lf ls 2).int
  (fun a=>k (.vl (.sv (.bool a))) [] [])
def g52R{α:Type}(G:S_g52 α):=rowK g52tp g52bp (g52K G)
def g52hd(G79:Al S_g79):Hd where
 call:=fun f args Bs k=>cond (Nat.beq f 79) (g79R G79 args Bs k) (none)
 loop:=fun id st k=>none
 ro:=fun f=>[]
def g52h(m:Nat):Hd:=g52hd (g79 m)
theorem g52Main(G79:Al S_g79){α:Type}(ls:List Lf)(k:KRe α):
  g52K (g52b G79) ls k=evFun tab (g52hd G79) Tryz.f52 (fT g52tp ls) (fB g52tp g52bp ls) k:=by kernel_rfl
theorem g52Calls(m:Nat):(g52h m).CallsOk Tryz.prog:=(cok_cons (g79Ok m) cok_nil)
theorem g52Ok(m:Nat):RowOk Tryz.prog 52 (fun{α}=>g52R (g52 m (α:=α))):=
 rwk (g52Calls m) (lo0 (by kernel_rfl))
  (fun _=>g52Main (g79 m))
abbrev S_g53(α:Type):Type:=Int→Int→Bool→(Bool→Option α)→Option α
def g53b{α:Type}(a b:Int)(c:Bool)(d:Bool→Option α):Option α:=cond (!c) (d (a==(0:Int))) (cond (decide (a≥(0:Int))) (d (decide ((IntKind.wrap .i64 a)<b))) (d false))
def g53{α:Type}(m:Nat):S_g53 α:=
 g53b
def g53tp:List TP:=[(.vl (.sv (.int .i16))),tI,(.vl (.sv .bool))]
def g53bp:List BP:=[]
def g53K{α:Type}(G:S_g53 α)(ls:List Lf)(k:KRe α):Option α:=
 G (lf ls 0).int (lf ls 1).int (lf ls 2).bool
  (fun a=>k (.vl (.sv (.bool a))) [] [])
def g53R{α:Type}(G:S_g53 α):=rowK g53tp g53bp (g53K G)
def g53hd:Hd where
 call:=fun f args Bs k=>none
 loop:=fun id st k=>none
 ro:=fun f=>[]
def g53h(m:Nat):Hd:=g53hd
theorem g53Main{α:Type}(ls:List Lf)(k:KRe α):
  g53K (g53b) ls k=evFun tab (g53hd) Tryz.f53 (fT g53tp ls) (fB g53tp g53bp ls) k:=by kernel_rfl
theorem g53Calls(m:Nat):(g53h m).CallsOk Tryz.prog:=cok_nil
theorem g53Ok(m:Nat):RowOk Tryz.prog 53 (fun{α}=>g53R (g53 m (α:=α))):=
 rwk (g53Calls m) (lo0 (by kernel_rfl))
  (fun _=>g53Main)
abbrev S_g16(α:Type):Type:=Nat→Nat→Nat→Nat→Ty0→(Bool→Option α)→Option α
abbrev S_g16l0(α:Type):Type:=Nat→Nat→Nat→Int→Nat→Ty0→(Option α)→(Option α)→Int→Option α
def g16l0b{α:Type}(G35:Al S_g35)(G52:Al S_g52)(G53:Al S_g53)(a b c:Nat)(d:Int)(e:Nat)(h:Ty0)(i j:Option α)(l:Int→Option α)(n:Int):Option α:=cond (decide (n<d)) (if 0≤n∧n<(b:Nat) then if(a+n.toNat)<e then let o:Int:=(List.getD h (a+n.toNat) []).headD 0;G35 o (fun p q r=>cond (decide (o<(1:Int))) (i) (cond (decide (o>(12:Int))) (i) (G52 o ((List.getD h (a+n.toNat) []).tail.tail.tail.headD 0) ((List.getD h (a+n.toNat) []).tail.tail.tail.tail.headD 0) (fun s=>cond (!s) (i) (G53 ((List.getD h (a+n.toNat) []).tail.headD 0) n p (fun t=>cond (!t) (i) (G53 ((List.getD h (a+n.toNat) []).tail.tail.headD 0) n q (fun u=>cond (!u) (i) (l (IntKind.wrap .i64 (n+(1:Int)))))))))))) else none else none) (j)
def g16l0{α:Type}(G35:Al S_g35)(G52:Al S_g52)(G53:Al S_g53)(a b c:Nat)(d:Int)(e:Nat)(h:Ty0)(i j:Option α):Nat→Int→Option α
 |0=>fun _=>none
 |m+1=>fun l=>g16l0b G35 G52 G53 a b c d e h i j (g16l0 G35 G52 G53 a b c d e h i j m) l
def g16l0M{α:Type}(m:Nat):S_g16l0 α:=
 fun a b c d e h i j l=>g16l0 (g35 m) (g52 m) (g53 m) a b c d e h i j m l
def g16l0D:LoopD:={n:=65,low:=[0],sl:=[16,17,18],bl:=[0],tp:=[(.vl (.sv (.slc 0 0 5))),tI,tI],bp:=[(false,[(.seqv rN)])],xs:=[(1,[2]),(2,[])]}
def g16l0K{α:Type}(L:S_g16l0 α)(ls:List Lf)(k:KEx α):Option α:=
 L (lf ls 0).nat (lf ls 1).nat (lf ls 2).nat (lf ls 3).int (lf ls 5).nat ((lf ls 6).lst rN)
  (k .ret (mkSt 65 [2] [(.vl (.sv (.bool false)))] [0] [(false,[(.seq rN (lf ls 5).nat ((lf ls 6).lst rN))])]))
  (k .normal (mkSt 65 [] [] [0] [(false,[(.seq rN (lf ls 5).nat ((lf ls 6).lst rN))])]))
  (lf ls 4).int
def g16b{α:Type}(G35:Al S_g35)(G52:Al S_g52)(G53:Al S_g53)(L16l0:Al S_g16l0)(a b:Nat)(c d:Nat)(e:Ty0)(h:Bool→Option α):Option α:=cond (decide (((b:Nat):Int)<(1:Int))) (h false) (cond (decide (((b:Nat):Int)>(40:Int))) (h false) (L16l0 a b c ((b:Nat):Int) d e (h false) (h true) (0:Int)))
def g16{α:Type}(m:Nat):S_g16 α:=
 g16b (g35 m) (g52 m) (g53 m) (g16l0M m)
def g16tp:List TP:=[(.vl (.sv (.slc 0 0 5)))]
def g16bp:List BP:=[(false,[(.seqv rN)])]
def g16K{α:Type}(G:S_g16 α)(ls:List Lf)(k:KRe α):Option α:=
 G (lf ls 0).nat (lf ls 1).nat (lf ls 2).nat (lf ls 3).nat ((lf ls 4).lst rN)
  (fun a=>k (.vl (.sv (.bool a))) [[(.seq rN (lf ls 3).nat ((lf ls 4).lst rN))]] [])
def g16R{α:Type}(G:S_g16 α):=rowK g16tp g16bp (g16K G)
def g16hd(G35:Al S_g35)(G52:Al S_g52)(G53:Al S_g53)(L16l0:Al S_g16l0):Hd where
 call:=fun f args Bs k=>cond (Nat.beq f 35) (g35R G35 args Bs k) (cond (Nat.beq f 52) (g52R G52 args Bs k) (cond (Nat.beq f 53) (g53R G53 args Bs k) (none)))
 loop:=fun id st k=>cond (Nat.beq id 0) (loopH g16l0D (g16l0K L16l0) st k) (none)
 ro:=fun f=>[]
def g16h(m:Nat):Hd:=g16hd (g35 m) (g52 m) (g53 m) (g16l0M m)
theorem g16l0Step(G35:Al S_g35)(G52:Al S_g52)(G53:Al S_g53)(L16l0:Al S_g16l0){α:Type}(L:S_g16l0 α)(ls:List Lf)(k:KEx α):
  g16l0K (fun a b c d e h i j l=>g16l0b G35 G52 G53 a b c d e h i j (L a b c d e h i j) l) ls k=ev tab (g16hd G35 G52 G53 L16l0) (bodyAt Tryz.f16 0) (atHead g16l0D ls) (loopK g16l0D 0 (loopH g16l0D (g16l0K L)) k):=by kernel_rfl
theorem g16Main(G35:Al S_g35)(G52:Al S_g52)(G53:Al S_g53)(L16l0:Al S_g16l0){α:Type}(ls:List Lf)(k:KRe α):
  g16K (g16b G35 G52 G53 L16l0) ls k=evFun tab (g16hd G35 G52 G53 L16l0) Tryz.f16 (fT g16tp ls) (fB g16tp g16bp ls) k:=by kernel_rfl
theorem g16Calls(m:Nat):(g16h m).CallsOk Tryz.prog:=(cok_cons (g35Ok m) (cok_cons (g52Ok m) (cok_cons (g53Ok m) cok_nil)))
theorem g16l0Ok(m:Nat)(α:Type)(st:St)(k:KEx α)(r:α)(h:(g16h m).loop 0 st k=some r):
  LoopS Tryz.prog 0 (bodyAt Tryz.f16 0) st k r:=
 lpk (F:=fun n ls k=>g16l0K (fun a b c d e i j l o=>g16l0 (g35 m) (g52 m) (g53 m) a b c d e i j l n o) ls k) (g16Calls m) (lb0 (by kernel_rfl))
  (fun _ _=>rfl) (fun n ls k=>g16l0Step (g35 m) (g52 m) (g53 m) (g16l0M m) (fun a b c d e i j l=>g16l0 (g35 m) (g52 m) (g53 m) a b c d e i j l n) ls k) (n:=m) h
theorem g16Ok(m:Nat):RowOk Tryz.prog 16 (fun{α}=>g16R (g16 m (α:=α))):=
 rwk (g16Calls m) (lo1 (by kernel_rfl) (g16l0Ok m))
  (fun _=>g16Main (g35 m) (g52 m) (g53 m) (g16l0M m))
abbrev S_g88(α:Type):Type:=Nat→Nat→Nat→Nat→Nat→Nat→Nat→Ty0→(List Int)→(Bool→Option α)→Option α
abbrev S_g88l0(α:Type):Type:=Nat→Nat→Nat→Nat→Nat→Nat→Int→Nat→Ty0→(List Int)→(Option α)→(Option α)→Int→Option α
def g88l0b{α:Type}(G79:Al S_g79)(a b:Nat)(c d:Nat)(e h:Nat)(i:Int)(j:Nat)(l:Ty0)(n:List Int)(o p:Option α)(q:Int→Option α)(r:Int):Option α:=cond (decide (r<i)) (if 0≤r∧r<(e:Nat) then if(d+r.toNat)<1 then G79 (List.getD n (d+r.toNat) 0) (0:Int) (IntKind.wrap .i64 (((b:Nat):Int)-(1:Int))) (fun s=>cond (!s) (o) (q (IntKind.wrap .i64 (r+(1:Int))))) else none else none) (p)
def g88l0{α:Type}(G79:Al S_g79)(a b:Nat)(c d:Nat)(e h:Nat)(i:Int)(j:Nat)(l:Ty0)(n:List Int)(o p:Option α):Nat→Int→Option α
 |0=>fun _=>none
 |m+1=>fun q=>g88l0b G79 a b c d e h i j l n o p (g88l0 G79 a b c d e h i j l n o p m) q
def g88l0M{α:Type}(m:Nat):S_g88l0 α:=
 fun a b c d e h i j l n o p q=>g88l0 (g79 m) a b c d e h i j l n o p m q
def g88l0D:LoopD:={n:=20,low:=[0,1],sl:=[0,7,8,9],bl:=[0,1],tp:=[(.vl (.sv (.slc 0 0 5))),(.vl (.sv (.slc 1 0 1))),tI,tI],bp:=[(false,[(.seqv rN)]),(false,[(.seq (.int .i64) 1)])],xs:=[(1,[4]),(2,[])]}
def g88l0K{α:Type}(L:S_g88l0 α)(ls:List Lf)(k:KEx α):Option α:=
 L (lf ls 0).nat (lf ls 1).nat (lf ls 2).nat (lf ls 3).nat (lf ls 4).nat (lf ls 5).nat (lf ls 6).int (lf ls 8).nat ((lf ls 9).lst rN) ((lf ls 10).lst (.int .i64))
  (k .ret (mkSt 20 [4] [(.vl (.sv (.bool false)))] [0,1] [(false,[(.seq rN (lf ls 8).nat ((lf ls 9).lst rN))]),(false,[(.seq (.int .i64) 1 ((lf ls 10).lst (.int .i64)))])]))
  (k .normal (mkSt 20 [] [] [0,1] [(false,[(.seq rN (lf ls 8).nat ((lf ls 9).lst rN))]),(false,[(.seq (.int .i64) 1 ((lf ls 10).lst (.int .i64)))])]))
  (lf ls 7).int
def g88b{α:Type}(G79:Al S_g79)(L88l0:Al S_g88l0)(a b:Nat)(c d:Nat)(e h i:Nat)(j:Ty0)(l:List Int)(n:Bool→Option α):Option α:=L88l0 a b c d e h ((e:Nat):Int) i j l (n false) (n true) (0:Int)
def g88{α:Type}(m:Nat):S_g88 α:=
 g88b (g79 m) (g88l0M m)
def g88tp:List TP:=[(.vl (.sv (.slc 0 0 5))),(.vl (.sv (.slc 1 0 1)))]
def g88bp:List BP:=[(false,[(.seqv rN)]),(false,[(.seq (.int .i64) 1)])]
def g88K{α:Type}(G:S_g88 α)(ls:List Lf)(k:KRe α):Option α:=
 G (lf ls 0).nat (lf ls 1).nat (lf ls 2).nat (lf ls 3).nat (lf ls 4).nat (lf ls 5).nat (lf ls 6).nat ((lf ls 7).lst rN) ((lf ls 8).lst (.int .i64))
  (fun a=>k (.vl (.sv (.bool a))) [[(.seq rN (lf ls 6).nat ((lf ls 7).lst rN))],[(.seq (.int .i64) 1 ((lf ls 8).lst (.int .i64)))]] [])
def g88R{α:Type}(G:S_g88 α):=rowK g88tp g88bp (g88K G)
def g88hd(G79:Al S_g79)(L88l0:Al S_g88l0):Hd where
 call:=fun f args Bs k=>cond (Nat.beq f 79) (g79R G79 args Bs k) (none)
 loop:=fun id st k=>cond (Nat.beq id 0) (loopH g88l0D (g88l0K L88l0) st k) (none)
 ro:=fun f=>[]
def g88h(m:Nat):Hd:=g88hd (g79 m) (g88l0M m)
theorem g88l0Step(G79:Al S_g79)(L88l0:Al S_g88l0){α:Type}(L:S_g88l0 α)(ls:List Lf)(k:KEx α):
  g88l0K (fun a b c d e h i j l n o p q=>g88l0b G79 a b c d e h i j l n o p (L a b c d e h i j l n o p) q) ls k=ev tab (g88hd G79 L88l0) (bodyAt Tryz.f88 0) (atHead g88l0D ls) (loopK g88l0D 0 (loopH g88l0D (g88l0K L)) k):=by kernel_rfl
theorem g88Main(G79:Al S_g79)(L88l0:Al S_g88l0){α:Type}(ls:List Lf)(k:KRe α):
  g88K (g88b G79 L88l0) ls k=evFun tab (g88hd G79 L88l0) Tryz.f88 (fT g88tp ls) (fB g88tp g88bp ls) k:=by kernel_rfl
theorem g88Calls(m:Nat):(g88h m).CallsOk Tryz.prog:=(cok_cons (g79Ok m) cok_nil)
theorem g88l0Ok(m:Nat)(α:Type)(st:St)(k:KEx α)(r:α)(h:(g88h m).loop 0 st k=some r):
  LoopS Tryz.prog 0 (bodyAt Tryz.f88 0) st k r:=
 lpk (F:=fun n ls k=>g88l0K (fun a b c d e i j l o q s t u=>g88l0 (g79 m) a b c d e i j l o q s t n u) ls k) (g88Calls m) (lb0 (by kernel_rfl))
  (fun _ _=>rfl) (fun n ls k=>g88l0Step (g79 m) (g88l0M m) (fun a b c d e i j l o q s t=>g88l0 (g79 m) a b c d e i j l o q s t n) ls k) (n:=m) h
theorem g88Ok(m:Nat):RowOk Tryz.prog 88 (fun{α}=>g88R (g88 m (α:=α))):=
 rwk (g88Calls m) (lo1 (by kernel_rfl) (g88l0Ok m))
  (fun _=>g88Main (g79 m) (g88l0M m))
abbrev S_g89(α:Type):Type:=Nat→Nat→Nat→Nat→Ty0→(Ty4→Ty0→Option α)→Option α
def g89b{α:Type}(a b:Nat)(c d:Nat)(e:Ty0)(h:Ty4→Ty0→Option α):Option α:=h [] []
def g89{α:Type}(m:Nat):S_g89 α:=
 g89b
def g89tp:List TP:=[(.vl (.sv (.slc 0 0 5)))]
def g89bp:List BP:=[(false,[(.seqv rN)])]
def g89K{α:Type}(G:S_g89 α)(ls:List Lf)(k:KRe α):Option α:=
 G (lf ls 0).nat (lf ls 1).nat (lf ls 2).nat (lf ls 3).nat ((lf ls 4).lst rN)
  (fun c d=>k (.vl (.sv (.ptr 1 0))) [[(.seq rN (lf ls 3).nat ((lf ls 4).lst rN))]] [[(.one (.bool false)),(.one (.slc 0 0 5 (lf ls 0).nat (lf ls 1).nat (lf ls 2).nat)),(.one (.mpp 2)),(.one (.gsl 3 2)),(.one (.int .i64 (0:Int)))],[(.mp rP mW c)],[(.gro rP d)]])
def g89R{α:Type}(G:S_g89 α):=rowK g89tp g89bp (g89K G)
def g89hd:Hd where
 call:=fun f args Bs k=>none
 loop:=fun id st k=>none
 ro:=fun f=>[]
def g89h(m:Nat):Hd:=g89hd
theorem g89Main{α:Type}(ls:List Lf)(k:KRe α):
  g89K (g89b) ls k=evFun tab (g89hd) Tryz.f89 (fT g89tp ls) (fB g89tp g89bp ls) k:=by kernel_rfl
theorem g89Calls(m:Nat):(g89h m).CallsOk Tryz.prog:=cok_nil
theorem g89Ok(m:Nat):RowOk Tryz.prog 89 (fun{α}=>g89R (g89 m (α:=α))):=
 rwk (g89Calls m) (lo0 (by kernel_rfl))
  (fun _=>g89Main)
abbrev S_g46(α:Type):Type:=Nat→Nat→Nat→Int→Int→Nat→Nat→Nat→Nat→Ty0→(List Int)→(Int→Option α)→(Ty4→Ty0→Option α)→Option α
def g46b{α:Type}(G16:Al S_g16)(G88:Al S_g88)(G79:Al S_g79)(G89:Al S_g89)(a b c:Nat)(d e:Int)(h i:Nat)(j l:Nat)(n:Ty0)(o:List Int)(p:Int→Option α)(q:Ty4→Ty0→Option α):Option α:=G16 a b c l n (fun r=>cond (!r) (p (1:Int)) (G88 a b c h i j l n o (fun s=>cond (!s) (p (2:Int)) (G79 d (0:Int) e (fun t=>cond (!t) (p (2:Int)) (G89 a b c l n (fun u v=>q u v)))))))
def g46{α:Type}(m:Nat):S_g46 α:=
 g46b (g16 m) (g88 m) (g79 m) (g89 m)
def g46tp:List TP:=[(.vl (.sv (.slc 0 0 5))),tI,tI,(.vl (.sv (.slc 1 0 1)))]
def g46bp:List BP:=[(false,[(.seqv rN)]),(false,[(.seq (.int .i64) 1)])]
def g46K{α:Type}(G:S_g46 α)(ls:List Lf)(k:KRe α):Option α:=
 G (lf ls 0).nat (lf ls 1).nat (lf ls 2).nat (lf ls 3).int (lf ls 4).int (lf ls 5).nat (lf ls 6).nat (lf ls 7).nat (lf ls 8).nat ((lf ls 9).lst rN) ((lf ls 10).lst (.int .i64))
  (fun c=>k (.tup [(.sv .nilp),(.sv (.int .i64 c))]) [[(.seq rN (lf ls 8).nat ((lf ls 9).lst rN))],[(.seq (.int .i64) 1 ((lf ls 10).lst (.int .i64)))]] [])
  (fun d e=>k (.tup [(.sv (.ptr 2 0)),(.sv (.int .i64 (0:Int)))]) [[(.seq rN (lf ls 8).nat ((lf ls 9).lst rN))],[(.seq (.int .i64) 1 ((lf ls 10).lst (.int .i64)))]] [[(.one (.bool false)),(.one (.slc 0 0 5 (lf ls 0).nat (lf ls 1).nat (lf ls 2).nat)),(.one (.mpp 3)),(.one (.gsl 4 2)),(.one (.int .i64 (0:Int)))],[(.mp rP mW d)],[(.gro rP e)]])
def g46R{α:Type}(G:S_g46 α):=rowK g46tp g46bp (g46K G)
def g46hd(G16:Al S_g16)(G88:Al S_g88)(G79:Al S_g79)(G89:Al S_g89):Hd where
 call:=fun f args Bs k=>cond (Nat.beq f 16) (g16R G16 args Bs k) (cond (Nat.beq f 88) (g88R G88 args Bs k) (cond (Nat.beq f 79) (g79R G79 args Bs k) (cond (Nat.beq f 89) (g89R G89 args Bs k) (none))))
 loop:=fun id st k=>none
 ro:=fun f=>cond (Nat.beq f 16) [0] (cond (Nat.beq f 88) [0,1] (cond (Nat.beq f 89) [0] ([])))
def g46h(m:Nat):Hd:=g46hd (g16 m) (g88 m) (g79 m) (g89 m)
theorem g46Main(G16:Al S_g16)(G88:Al S_g88)(G79:Al S_g79)(G89:Al S_g89){α:Type}(ls:List Lf)(k:KRe α):
  g46K (g46b G16 G88 G79 G89) ls k=evFun tab (g46hd G16 G88 G79 G89) Tryz.f46 (fT g46tp ls) (fB g46tp g46bp ls) k:=by kernel_rfl
theorem g46Calls(m:Nat):(g46h m).CallsOk Tryz.prog:=(cok_cons (g16Ok m) (cok_cons (g88Ok m) (cok_cons (g79Ok m) (cok_cons (g89Ok m) cok_nil))))
theorem g46Ok(m:Nat):RowOk Tryz.prog 46 (fun{α}=>g46R (g46 m (α:=α))):=
 rwk (g46Calls m) (lo0 (by kernel_rfl))
  (fun _=>g46Main (g16 m) (g88 m) (g79 m) (g89 m))
abbrev S_g55(α:Type):Type:=Bool→Nat→Nat→Nat→Int→Nat→Ty0→Ty4→Ty0→(Bool→Int→Option α)→Option α
def g55b{α:Type}(a:Bool)(b c d:Nat)(e:Int)(h:Nat)(i:Ty0)(j:Ty4)(l:Ty0)(n:Bool→Int→Option α):Option α:=cond (e==(0:Int)) (cond a (n true (3:Int)) (n (e !=(0:Int)) e)) (n (e !=(0:Int)) e)
def g55{α:Type}(m:Nat):S_g55 α:=
 g55b
def g55tp:List TP:=[(.vl (.sv (.ptr 0 0)))]
def g55bp:List BP:=[bA,(false,[(.seqv rN)]),(false,[(.mp rP mW)]),(false,[(.gro rP)])]
def g55K{α:Type}(G:S_g55 α)(ls:List Lf)(k:KRe α):Option α:=
 G (lf ls 0).bool (lf ls 1).nat (lf ls 2).nat (lf ls 3).nat (lf ls 4).int (lf ls 5).nat ((lf ls 6).lst rN) ((lf ls 7).map rP mW) ((lf ls 8).lst rP)
  (fun c d=>k (.vl (.sv (.bool c))) [[(.one (.bool (lf ls 0).bool)),(.one (.slc 1 0 5 (lf ls 1).nat (lf ls 2).nat (lf ls 3).nat)),(.one (.mpp 2)),(.one (.gsl 3 2)),(.one (.int .i64 d))],[(.seq rN (lf ls 5).nat ((lf ls 6).lst rN))],[(.mp rP mW ((lf ls 7).map rP mW))],[(.gro rP ((lf ls 8).lst rP))]] [])
def g55R{α:Type}(G:S_g55 α):=rowK g55tp g55bp (g55K G)
def g55hd:Hd where
 call:=fun f args Bs k=>none
 loop:=fun id st k=>none
 ro:=fun f=>[]
def g55h(m:Nat):Hd:=g55hd
theorem g55Main{α:Type}(ls:List Lf)(k:KRe α):
  g55K (g55b) ls k=evFun tab (g55hd) Tryz.f55 (fT g55tp ls) (fB g55tp g55bp ls) k:=by kernel_rfl
theorem g55Calls(m:Nat):(g55h m).CallsOk Tryz.prog:=cok_nil
theorem g55Ok(m:Nat):RowOk Tryz.prog 55 (fun{α}=>g55R (g55 m (α:=α))):=
 rwk (g55Calls m) (lo0 (by kernel_rfl))
  (fun _=>g55Main)
abbrev S_g135v1(α:Type):Type:=Bool→(List Int)→Int→Bool→Nat→Nat→Nat→Int→Nat→Ty0→Ty4→Ty0→(Bool→(List Int)→Bool→Option α)→Option α
def g135v1b{α:Type}(G113:Al S_g113)(G99:Al S_g99)(G65:Al S_g65)(a:Bool)(b:List Int)(c:Int)(d:Bool)(e h i:Nat)(j:Int)(l:Nat)(n:Ty0)(o:Ty4)(p:Ty0)(q:Bool→(List Int)→Bool→Option α):Option α:=cond (decide (c>(191:Int))) (q false [0,0,0,0,0,0] true) (G113 b (fun r=>cond (decide ((IntKind.wrap .i64 (r+c))>(192:Int))) (q false [0,0,0,0,0,0] true) (G99 b c (fun s=>G65 a s (fun t=>q t s d)))))
def g135v1{α:Type}(m:Nat):S_g135v1 α:=
 g135v1b (g113 m) (g99 m) (g65 m)
def g135v1tp:List TP:=[(.vl (.sv (.ptr 0 0))),vW,tI]
def g135v1bp:List BP:=[bA,(false,[(.seqv rN)]),(false,[(.mp rP mW)]),(false,[(.gro rP)])]
def g135v1K{α:Type}(G:S_g135v1 α)(ls:List Lf)(k:KRe α):Option α:=
 G (lf ls 0).bool ((lf ls 1).lst uU) (lf ls 2).int (lf ls 3).bool (lf ls 4).nat (lf ls 5).nat (lf ls 6).nat (lf ls 7).int (lf ls 8).nat ((lf ls 9).lst rN) ((lf ls 10).map rP mW) ((lf ls 11).lst rP)
  (fun c d e=>k (.vl (.agg [(.one (.bool c)),(.seq uU 6 d)])) [[(.one (.bool e)),(.one (.slc 1 0 5 (lf ls 4).nat (lf ls 5).nat (lf ls 6).nat)),(.one (.mpp 2)),(.one (.gsl 3 2)),(.one (.int .i64 (lf ls 7).int))],[(.seq rN (lf ls 8).nat ((lf ls 9).lst rN))],[(.mp rP mW ((lf ls 10).map rP mW))],[(.gro rP ((lf ls 11).lst rP))]] [])
def g135v1R{α:Type}(G:S_g135v1 α):=rowK g135v1tp g135v1bp (g135v1K G)
def g135v1hd(G113:Al S_g113)(G99:Al S_g99)(G65:Al S_g65):Hd where
 call:=fun f args Bs k=>cond (Nat.beq f 113) (g113R G113 args Bs k) (cond (Nat.beq f 99) (g99R G99 args Bs k) (cond (Nat.beq f 65) (g65R G65 args Bs k) (none)))
 loop:=fun id st k=>none
 ro:=fun f=>[]
def g135v1h(m:Nat):Hd:=g135v1hd (g113 m) (g99 m) (g65 m)
theorem g135v1Main(G113:Al S_g113)(G99:Al S_g99)(G65:Al S_g65){α:Type}(ls:List Lf)(k:KRe α):
  g135v1K (g135v1b G113 G99 G65) ls k=evFun tab (g135v1hd G113 G99 G65) Tryz.f135 (fT g135v1tp ls) (fB g135v1tp g135v1bp ls) k:=by kernel_rfl
theorem g135v1Calls(m:Nat):(g135v1h m).CallsOk Tryz.prog:=(cok_cons (g113Ok m) (cok_cons (g99Ok m) (cok_cons (g65Ok m) cok_nil)))
theorem g135v1Ok(m:Nat):RowOk Tryz.prog 135 (fun{α}=>g135v1R (g135v1 m (α:=α))):=
 rwk (g135v1Calls m) (lo0 (by kernel_rfl))
  (fun _=>g135v1Main (g113 m) (g99 m) (g65 m))
abbrev S_g137v1(α:Type):Type:=Bool→(List Int)→Bool→(List Int)→Bool→Nat→Nat→Nat→Int→Nat→Ty0→Ty4→Ty0→(Bool→(List Int)→Bool→Option α)→Option α
def g137v1b{α:Type}(G102:Al S_g102)(G65:Al S_g65)(G101:Al S_g101)(G100:Al S_g100)(a:Bool)(b:List Int)(c:Bool)(d:List Int)(e:Bool)(h i j:Nat)(l:Int)(n:Nat)(o:Ty0)(p:Ty4)(q:Ty0)(r:Bool→(List Int)→Bool→Option α):Option α:=cond (a==c) (G102 b d (fun s t=>cond e (G65 a s (fun u=>r u s true)) (G65 a s (fun v=>r v s t)))) (G101 b d (fun w=>cond (decide (w<(0:Int))) (G100 d b (fun x=>G65 c x (fun y=>r y x e))) (G100 b d (fun z=>G65 a z (fun a0=>r a0 z e)))))
def g137v1{α:Type}(m:Nat):S_g137v1 α:=
 g137v1b (g102 m) (g65 m) (g101 m) (g100 m)
def g137v1tp:List TP:=[(.vl (.sv (.ptr 0 0))),vW,vW]
def g137v1bp:List BP:=[bA,(false,[(.seqv rN)]),(false,[(.mp rP mW)]),(false,[(.gro rP)])]
def g137v1K{α:Type}(G:S_g137v1 α)(ls:List Lf)(k:KRe α):Option α:=
 G (lf ls 0).bool ((lf ls 1).lst uU) (lf ls 2).bool ((lf ls 3).lst uU) (lf ls 4).bool (lf ls 5).nat (lf ls 6).nat (lf ls 7).nat (lf ls 8).int (lf ls 9).nat ((lf ls 10).lst rN) ((lf ls 11).map rP mW) ((lf ls 12).lst rP)
  (fun c d e=>k (.vl (.agg [(.one (.bool c)),(.seq uU 6 d)])) [[(.one (.bool e)),(.one (.slc 1 0 5 (lf ls 5).nat (lf ls 6).nat (lf ls 7).nat)),(.one (.mpp 2)),(.one (.gsl 3 2)),(.one (.int .i64 (lf ls 8).int))],[(.seq rN (lf ls 9).nat ((lf ls 10).lst rN))],[(.mp rP mW ((lf ls 11).map rP mW))],[(.gro rP ((lf ls 12).lst rP))]] [])
def g137v1R{α:Type}(G:S_g137v1 α):=rowK g137v1tp g137v1bp (g137v1K G)
def g137v1hd(G102:Al S_g102)(G65:Al S_g65)(G101:Al S_g101)(G100:Al S_g100):Hd where
 call:=fun f args Bs k=>cond (Nat.beq f 102) (g102R G102 args Bs k) (cond (Nat.beq f 65) (g65R G65 args Bs k) (cond (Nat.beq f 101) (g101R G101 args Bs k) (cond (Nat.beq f 100) (g100R G100 args Bs k) (none))))
 loop:=fun id st k=>none
 ro:=fun f=>[]
def g137v1h(m:Nat):Hd:=g137v1hd (g102 m) (g65 m) (g101 m) (g100 m)
theorem g137v1Main(G102:Al S_g102)(G65:Al S_g65)(G101:Al S_g101)(G100:Al S_g100){α:Type}(ls:List Lf)(k:KRe α):
  g137v1K (g137v1b G102 G65 G101 G100) ls k=evFun tab (g137v1hd G102 G65 G101 G100) Tryz.f137 (fT g137v1tp ls) (fB g137v1tp g137v1bp ls) k:=by kernel_rfl
theorem g137v1Calls(m:Nat):(g137v1h m).CallsOk Tryz.prog:=(cok_cons (g102Ok m) (cok_cons (g65Ok m) (cok_cons (g101Ok m) (cok_cons (g100Ok m) cok_nil))))
theorem g137v1Ok(m:Nat):RowOk Tryz.prog 137 (fun{α}=>g137v1R (g137v1 m (α:=α))):=
 rwk (g137v1Calls m) (lo0 (by kernel_rfl))
  (fun _=>g137v1Main (g102 m) (g65 m) (g101 m) (g100 m))
abbrev S_g134v1(α:Type):Type:=Bool→(List Int)→Bool→(List Int)→Bool→Nat→Nat→Nat→Int→Nat→Ty0→Ty4→Ty0→(Bool→(List Int)→Bool→Option α)→Option α
def g134v1b{α:Type}(G173:Al S_g173)(G100:Al S_g100)(G101:Al S_g101)(G62:Al S_g62)(G137v1:Al S_g137v1)(a:Bool)(b:List Int)(c:Bool)(d:List Int)(e:Bool)(h i j:Nat)(l:Int)(n:Nat)(o:Ty0)(p:Ty4)(q:Ty0)(r:Bool→(List Int)→Bool→Option α):Option α:=G173 a b c d (fun s t u v=>G100 d v (fun w=>G101 v w (fun x=>cond (decide (x<(0:Int))) (r s t e) (G62 (1:Int) (fun y z=>G137v1 s t y z e h i j l n o p q (fun a0 b0 c0=>r a0 b0 c0))))))
def g134v1{α:Type}(m:Nat):S_g134v1 α:=
 g134v1b (g173 m) (g100 m) (g101 m) (g62 m) (g137v1 m)
def g134v1tp:List TP:=[(.vl (.sv (.ptr 0 0))),vW,vW]
def g134v1bp:List BP:=[bA,(false,[(.seqv rN)]),(false,[(.mp rP mW)]),(false,[(.gro rP)])]
def g134v1K{α:Type}(G:S_g134v1 α)(ls:List Lf)(k:KRe α):Option α:=
 G (lf ls 0).bool ((lf ls 1).lst uU) (lf ls 2).bool ((lf ls 3).lst uU) (lf ls 4).bool (lf ls 5).nat (lf ls 6).nat (lf ls 7).nat (lf ls 8).int (lf ls 9).nat ((lf ls 10).lst rN) ((lf ls 11).map rP mW) ((lf ls 12).lst rP)
  (fun c d e=>k (.vl (.agg [(.one (.bool c)),(.seq uU 6 d)])) [[(.one (.bool e)),(.one (.slc 1 0 5 (lf ls 5).nat (lf ls 6).nat (lf ls 7).nat)),(.one (.mpp 2)),(.one (.gsl 3 2)),(.one (.int .i64 (lf ls 8).int))],[(.seq rN (lf ls 9).nat ((lf ls 10).lst rN))],[(.mp rP mW ((lf ls 11).map rP mW))],[(.gro rP ((lf ls 12).lst rP))]] [])
def g134v1R{α:Type}(G:S_g134v1 α):=rowK g134v1tp g134v1bp (g134v1K G)
def g134v1hd(G173:Al S_g173)(G100:Al S_g100)(G101:Al S_g101)(G62:Al S_g62)(G137v1:Al S_g137v1):Hd where
 call:=fun f args Bs k=>cond (Nat.beq f 173) (g173R G173 args Bs k) (cond (Nat.beq f 100) (g100R G100 args Bs k) (cond (Nat.beq f 101) (g101R G101 args Bs k) (cond (Nat.beq f 62) (g62R G62 args Bs k) (cond (Nat.beq f 137) (g137v1R G137v1 args Bs k) (none)))))
 loop:=fun id st k=>none
 ro:=fun f=>cond (Nat.beq f 137) [1,2,3] ([])
def g134v1h(m:Nat):Hd:=g134v1hd (g173 m) (g100 m) (g101 m) (g62 m) (g137v1 m)
theorem g134v1Main(G173:Al S_g173)(G100:Al S_g100)(G101:Al S_g101)(G62:Al S_g62)(G137v1:Al S_g137v1){α:Type}(ls:List Lf)(k:KRe α):
  g134v1K (g134v1b G173 G100 G101 G62 G137v1) ls k=evFun tab (g134v1hd G173 G100 G101 G62 G137v1) Tryz.f134 (fT g134v1tp ls) (fB g134v1tp g134v1bp ls) k:=by kernel_rfl
theorem g134v1Calls(m:Nat):(g134v1h m).CallsOk Tryz.prog:=(cok_cons (g173Ok m) (cok_cons (g100Ok m) (cok_cons (g101Ok m) (cok_cons (g62Ok m) (cok_cons (g137v1Ok m) cok_nil)))))
theorem g134v1Ok(m:Nat):RowOk Tryz.prog 134 (fun{α}=>g134v1R (g134v1 m (α:=α))):=
 rwk (g134v1Calls m) (lo0 (by kernel_rfl))
  (fun _=>g134v1Main (g173 m) (g100 m) (g101 m) (g62 m) (g137v1 m))
abbrev S_g54(α:Type):Type:=Int→Int→Bool→Nat→Nat→Nat→Int→Nat→Ty0→Ty4→Ty0→(Bool→(List Int)→Bool→Nat→Nat→Nat→Int→Nat→Ty0→Ty4→Ty0→Option α)→Option α
def g54tp:List TP:=[(.vl (.sv (.ptr 0 0))),(.vl (.sv (.int .i16))),tI]
def g54bp:List BP:=[bA,(false,[(.seqv rN)]),(true,[(.mp rP mW)]),(true,[(.gro rP)])]
def g54K{α:Type}(G:S_g54 α)(ls:List Lf)(k:KRe α):Option α:=
 G (lf ls 0).int (lf ls 1).int (lf ls 2).bool (lf ls 3).nat (lf ls 4).nat (lf ls 5).nat (lf ls 6).int (lf ls 7).nat ((lf ls 8).lst rN) ((lf ls 9).map rP mW) ((lf ls 10).lst rP)
  (fun c d e h i j l n o p q=>k (.vl (.agg [(.one (.bool c)),(.seq uU 6 d)])) [[(.one (.bool e)),(.one (.slc 1 0 5 h i j)),(.one (.mpp 2)),(.one (.gsl 4 2)),(.one (.int .i64 l))],[(.seq rN n o)],[(.mp rP mW p)],[]] [[(.gro rP q)]])
abbrev HA54(A54:Al S_g54):Prop:=RowOk Tryz.prog 54 (fun{α}=>rowK g54tp g54bp (g54K (A54 (α:=α))))
def g54R{α:Type}(G:S_g54 α):=rowK g54tp g54bp (g54K G)
abbrev S_g136(α:Type):Type:=Int→Int→Int→Int→Int→Int→Bool→Nat→Nat→Nat→Int→Nat→Ty0→Ty4→Ty0→(Bool→(List Int)→Bool→(List Int)→Bool→Nat→Nat→Nat→Int→Ty4→Ty0→Option α)→Option α
def g136b{α:Type}(G54:Al S_g54)(a b:Int)(c d:Int)(e h:Int)(i:Bool)(j l n:Nat)(o:Int)(p:Nat)(q:Ty0)(r:Ty4)(s:Ty0)(t:Bool→(List Int)→Bool→(List Int)→Bool→Nat→Nat→Nat→Int→Ty4→Ty0→Option α):Option α:=G54 b h i j l n o p q r s (fun u v w x y z a0 b0 c0 d0 e0=>G54 c h w x y z a0 p q d0 e0 (fun h0 i0 j0 l0 n0 o0 p0 q0 r0 s0 t0=>t u v h0 i0 j0 l0 n0 o0 p0 s0 t0))
def g136(A54:Al S_g54){α:Type}(m:Nat):S_g136 α:=
 g136b A54
def g136tp:List TP:=[(.vl (.sv (.ptr 0 0))),(.vl (.agg [(.one (.int .i8)),(.one (.int .i16)),(.one (.int .i16)),(.one (.int .i64)),(.one (.int .i64))])),tI]
def g136bp:List BP:=[bA,(false,[(.seqv rN)]),(true,[(.mp rP mW)]),(true,[(.gro rP)])]
def g136K{α:Type}(G:S_g136 α)(ls:List Lf)(k:KRe α):Option α:=
 G (lf ls 0).int (lf ls 1).int (lf ls 2).int (lf ls 3).int (lf ls 4).int (lf ls 5).int (lf ls 6).bool (lf ls 7).nat (lf ls 8).nat (lf ls 9).nat (lf ls 10).int (lf ls 11).nat ((lf ls 12).lst rN) ((lf ls 13).map rP mW) ((lf ls 14).lst rP)
  (fun c d e h i j l n o p q=>k (.tup [(.agg [(.one (.bool c)),(.seq uU 6 d)]),(.agg [(.one (.bool e)),(.seq uU 6 h)])]) [[(.one (.bool i)),(.one (.slc 1 0 5 j l n)),(.one (.mpp 2)),(.one (.gsl 4 2)),(.one (.int .i64 o))],[(.seq rN (lf ls 11).nat ((lf ls 12).lst rN))],[(.mp rP mW p)],[]] [[(.gro rP q)]])
def g136R{α:Type}(G:S_g136 α):=rowK g136tp g136bp (g136K G)
def g136hd(G54:Al S_g54):Hd where
 call:=fun f args Bs k=>cond (Nat.beq f 54) (g54R G54 args Bs k) (none)
 loop:=fun id st k=>none
 ro:=fun f=>cond (Nat.beq f 54) [1] ([])
def g136h(A54:Al S_g54)(m:Nat):Hd:=g136hd A54
theorem g136Main(G54:Al S_g54){α:Type}(ls:List Lf)(k:KRe α):
  g136K (g136b G54) ls k=evFunM tab (g136hd G54) Tryz.f136 3 (fT g136tp ls) (fB g136tp g136bp ls) k:=by kernel_rfl
theorem g136Calls(A54:Al S_g54)(hA54:HA54 A54)(m:Nat):(g136h A54 m).CallsOk Tryz.prog:=(cok_cons hA54 cok_nil)
theorem g136Fn(A54:Al S_g54)(hA54:HA54 A54)(m:Nat):FnOk Tryz.prog 136 g136tp g136bp (fun{α}=>g136K (g136 A54 m (α:=α))):=
 fn_okM (tab:=tab) (h:=g136h A54 m) (fn:=Tryz.f136) (F:=fun{α}=>g136K (g136 A54 m (α:=α))) tabOk (g136Calls A54 hA54 m) mixed (by kernel_rfl) (by kernel_rfl) (fun c hc=>by
  rw[bodyOf_some hc]
  exact loopsOk_of _ (fun p hp=>by rw[show loopsOf (bodyOf Tryz.f136)=[] by kernel_rfl] at hp;cases hp))
  (fun _=>g136Main A54)
theorem g136Ok(A54:Al S_g54)(hA54:HA54 A54)(m:Nat):RowOk Tryz.prog 136 (fun{α}=>g136R (g136 A54 m (α:=α))):=row_of (g136Fn A54 hA54 m)
abbrev S_g63v1(α:Type):Type:=Bool→(List Int)→Int→Bool→Nat→Nat→Nat→Int→Nat→Ty0→Ty4→Ty0→(Bool→(List Int)→Bool→Option α)→Option α
def g63v1b{α:Type}(G97:Al S_g97)(G98:Al S_g98)(G99:Al S_g99)(G100:Al S_g100)(G101:Al S_g101)(G102:Al S_g102)(G65:Al S_g65)(a:Bool)(b:List Int)(c:Int)(d:Bool)(e h i:Nat)(j:Int)(l:Nat)(n:Ty0)(o:Ty4)(p:Ty0)(q:Bool→(List Int)→Bool→Option α):Option α:=cond (decide (c>(191:Int))) (q false [0,0,0,0,0,0] true) (G97 b c (fun r=>cond (c==(0:Int)) (q a b d) (G98 (fun s=>G99 s (IntKind.wrap .i64 (c-(1:Int))) (fun t=>G99 r c (fun u=>G100 b u (fun v=>G101 v t (fun w=>cond (decide (w>(0:Int))) (G98 (fun x=>G102 r x (fun y z=>G65 a y (fun a0=>q a0 y d)))) (cond (w==(0:Int)) (cond (!a) (G98 (fun b0=>G102 r b0 (fun c0 d0=>G65 a c0 (fun e0=>q e0 c0 d)))) (G65 a r (fun h0=>q h0 r d))) (G65 a r (fun i0=>q i0 r d)))))))))))
def g63v1{α:Type}(m:Nat):S_g63v1 α:=
 g63v1b (g97 m) (g98 m) (g99 m) (g100 m) (g101 m) (g102 m) (g65 m)
def g63v1tp:List TP:=[(.vl (.sv (.ptr 0 0))),vW,tI]
def g63v1bp:List BP:=[bA,(false,[(.seqv rN)]),(false,[(.mp rP mW)]),(false,[(.gro rP)])]
def g63v1K{α:Type}(G:S_g63v1 α)(ls:List Lf)(k:KRe α):Option α:=
 G (lf ls 0).bool ((lf ls 1).lst uU) (lf ls 2).int (lf ls 3).bool (lf ls 4).nat (lf ls 5).nat (lf ls 6).nat (lf ls 7).int (lf ls 8).nat ((lf ls 9).lst rN) ((lf ls 10).map rP mW) ((lf ls 11).lst rP)
  (fun c d e=>k (.vl (.agg [(.one (.bool c)),(.seq uU 6 d)])) [[(.one (.bool e)),(.one (.slc 1 0 5 (lf ls 4).nat (lf ls 5).nat (lf ls 6).nat)),(.one (.mpp 2)),(.one (.gsl 3 2)),(.one (.int .i64 (lf ls 7).int))],[(.seq rN (lf ls 8).nat ((lf ls 9).lst rN))],[(.mp rP mW ((lf ls 10).map rP mW))],[(.gro rP ((lf ls 11).lst rP))]] [])
def g63v1R{α:Type}(G:S_g63v1 α):=rowK g63v1tp g63v1bp (g63v1K G)
def g63v1hd(G97:Al S_g97)(G98:Al S_g98)(G99:Al S_g99)(G100:Al S_g100)(G101:Al S_g101)(G102:Al S_g102)(G65:Al S_g65):Hd where
 call:=fun f args Bs k=>cond (Nat.beq f 97) (g97R G97 args Bs k) (cond (Nat.beq f 98) (g98R G98 args Bs k) (cond (Nat.beq f 99) (g99R G99 args Bs k) (cond (Nat.beq f 100) (g100R G100 args Bs k) (cond (Nat.beq f 101) (g101R G101 args Bs k) (cond (Nat.beq f 102) (g102R G102 args Bs k) (cond (Nat.beq f 65) (g65R G65 args Bs k) (none)))))))
 loop:=fun id st k=>none
 ro:=fun f=>[]
def g63v1h(m:Nat):Hd:=g63v1hd (g97 m) (g98 m) (g99 m) (g100 m) (g101 m) (g102 m) (g65 m)
theorem g63v1Main(G97:Al S_g97)(G98:Al S_g98)(G99:Al S_g99)(G100:Al S_g100)(G101:Al S_g101)(G102:Al S_g102)(G65:Al S_g65){α:Type}(ls:List Lf)(k:KRe α):
  g63v1K (g63v1b G97 G98 G99 G100 G101 G102 G65) ls k=evFun tab (g63v1hd G97 G98 G99 G100 G101 G102 G65) Tryz.f63 (fT g63v1tp ls) (fB g63v1tp g63v1bp ls) k:=by kernel_rfl
theorem g63v1Calls(m:Nat):(g63v1h m).CallsOk Tryz.prog:=(cok_cons (g97Ok m) (cok_cons (g98Ok m) (cok_cons (g99Ok m) (cok_cons (g100Ok m) (cok_cons (g101Ok m) (cok_cons (g102Ok m) (cok_cons (g65Ok m) cok_nil)))))))
theorem g63v1Ok(m:Nat):RowOk Tryz.prog 63 (fun{α}=>g63v1R (g63v1 m (α:=α))):=
 rwk (g63v1Calls m) (lo0 (by kernel_rfl))
  (fun _=>g63v1Main (g97 m) (g98 m) (g99 m) (g100 m) (g101 m) (g102 m) (g65 m))
abbrev S_g138v1(α:Type):Type:=Bool→(List Int)→Bool→(List Int)→Bool→Nat→Nat→Nat→Int→Nat→Ty0→Ty4→Ty0→(Bool→(List Int)→Bool→Option α)→Option α
def g138v1b{α:Type}(G139:Al S_g139)(G137v1:Al S_g137v1)(a:Bool)(b:List Int)(c:Bool)(d:List Int)(e:Bool)(h i j:Nat)(l:Int)(n:Nat)(o:Ty0)(p:Ty4)(q:Ty0)(r:Bool→(List Int)→Bool→Option α):Option α:=G139 c d (fun s=>G137v1 a b s d e h i j l n o p q (fun t u v=>r t u v))
def g138v1{α:Type}(m:Nat):S_g138v1 α:=
 g138v1b (g139 m) (g137v1 m)
def g138v1tp:List TP:=[(.vl (.sv (.ptr 0 0))),vW,vW]
def g138v1bp:List BP:=[bA,(false,[(.seqv rN)]),(false,[(.mp rP mW)]),(false,[(.gro rP)])]
def g138v1K{α:Type}(G:S_g138v1 α)(ls:List Lf)(k:KRe α):Option α:=
 G (lf ls 0).bool ((lf ls 1).lst uU) (lf ls 2).bool ((lf ls 3).lst uU) (lf ls 4).bool (lf ls 5).nat (lf ls 6).nat (lf ls 7).nat (lf ls 8).int (lf ls 9).nat ((lf ls 10).lst rN) ((lf ls 11).map rP mW) ((lf ls 12).lst rP)
  (fun c d e=>k (.vl (.agg [(.one (.bool c)),(.seq uU 6 d)])) [[(.one (.bool e)),(.one (.slc 1 0 5 (lf ls 5).nat (lf ls 6).nat (lf ls 7).nat)),(.one (.mpp 2)),(.one (.gsl 3 2)),(.one (.int .i64 (lf ls 8).int))],[(.seq rN (lf ls 9).nat ((lf ls 10).lst rN))],[(.mp rP mW ((lf ls 11).map rP mW))],[(.gro rP ((lf ls 12).lst rP))]] [])
def g138v1R{α:Type}(G:S_g138v1 α):=rowK g138v1tp g138v1bp (g138v1K G)
def g138v1hd(G139:Al S_g139)(G137v1:Al S_g137v1):Hd where
 call:=fun f args Bs k=>cond (Nat.beq f 139) (g139R G139 args Bs k) (cond (Nat.beq f 137) (g137v1R G137v1 args Bs k) (none))
 loop:=fun id st k=>none
 ro:=fun f=>cond (Nat.beq f 137) [1,2,3] ([])
def g138v1h(m:Nat):Hd:=g138v1hd (g139 m) (g137v1 m)
theorem g138v1Main(G139:Al S_g139)(G137v1:Al S_g137v1){α:Type}(ls:List Lf)(k:KRe α):
  g138v1K (g138v1b G139 G137v1) ls k=evFun tab (g138v1hd G139 G137v1) Tryz.f138 (fT g138v1tp ls) (fB g138v1tp g138v1bp ls) k:=by kernel_rfl
theorem g138v1Calls(m:Nat):(g138v1h m).CallsOk Tryz.prog:=(cok_cons (g139Ok m) (cok_cons (g137v1Ok m) cok_nil))
theorem g138v1Ok(m:Nat):RowOk Tryz.prog 138 (fun{α}=>g138v1R (g138v1 m (α:=α))):=
 rwk (g138v1Calls m) (lo0 (by kernel_rfl))
  (fun _=>g138v1Main (g139 m) (g137v1 m))
abbrev S_g140(α:Type):Type:=Bool→(List Int)→Bool→(List Int)→(Int→Option α)→Option α
def g140b{α:Type}(G101:Al S_g101)(a:Bool)(b:List Int)(c:Bool)(d:List Int)(e:Int→Option α):Option α:=cond (!(a==c)) (cond a (e (-1:Int)) (cond (!(a==c)) (e (1:Int)) (cond a (G101 d b (fun h=>e h)) (G101 b d (fun i=>e i))))) (cond (!(a==c)) (e (1:Int)) (cond a (G101 d b (fun j=>e j)) (G101 b d (fun l=>e l))))
def g140{α:Type}(m:Nat):S_g140 α:=
 g140b (g101 m)
def g140tp:List TP:=[vW,vW]
def g140bp:List BP:=[]
def g140K{α:Type}(G:S_g140 α)(ls:List Lf)(k:KRe α):Option α:=
 G (lf ls 0).bool ((lf ls 1).lst uU) (lf ls 2).bool ((lf ls 3).lst uU)
  (fun a=>k (.vl (.sv (.int .i64 a))) [] [])
def g140R{α:Type}(G:S_g140 α):=rowK g140tp g140bp (g140K G)
def g140hd(G101:Al S_g101):Hd where
 call:=fun f args Bs k=>cond (Nat.beq f 101) (g101R G101 args Bs k) (none)
 loop:=fun id st k=>none
 ro:=fun f=>[]
def g140h(m:Nat):Hd:=g140hd (g101 m)
theorem g140Main(G101:Al S_g101){α:Type}(ls:List Lf)(k:KRe α):
  g140K (g140b G101) ls k=evFun tab (g140hd G101) Tryz.f140 (fT g140tp ls) (fB g140tp g140bp ls) k:=by kernel_rfl
theorem g140Calls(m:Nat):(g140h m).CallsOk Tryz.prog:=(cok_cons (g101Ok m) cok_nil)
theorem g140Ok(m:Nat):RowOk Tryz.prog 140 (fun{α}=>g140R (g140 m (α:=α))):=
 rwk (g140Calls m) (lo0 (by kernel_rfl))
  (fun _=>g140Main (g101 m))
abbrev S_g68(α:Type):Type:=Int→Bool→Nat→Nat→Nat→Int→Nat→Ty0→Ty4→Ty0→(Int→Bool→Nat→Nat→Nat→Int→Ty4→Ty0→Option α)→Option α
def g68b{α:Type}(G54:Al S_g54)(G113:Al S_g113)(a:Int)(b:Bool)(c d e:Nat)(h:Int)(i:Nat)(j:Ty0)(l:Ty4)(n:Ty0)(o:Int→Bool→Nat→Nat→Nat→Int→Ty4→Ty0→Option α):Option α:=G54 a (0:Int) b c d e h i j l n (fun p q r s t u v w x y z=>G113 q (fun a0=>o a0 r s t u v y z))
def g68(A54:Al S_g54){α:Type}(m:Nat):S_g68 α:=
 g68b A54 (g113 m)
def g68tp:List TP:=[(.vl (.sv (.ptr 0 0))),(.vl (.sv (.int .i16)))]
def g68bp:List BP:=[bA,(false,[(.seqv rN)]),(true,[(.mp rP mW)]),(true,[(.gro rP)])]
def g68K{α:Type}(G:S_g68 α)(ls:List Lf)(k:KRe α):Option α:=
 G (lf ls 0).int (lf ls 1).bool (lf ls 2).nat (lf ls 3).nat (lf ls 4).nat (lf ls 5).int (lf ls 6).nat ((lf ls 7).lst rN) ((lf ls 8).map rP mW) ((lf ls 9).lst rP)
  (fun c d e h i j l n=>k (.vl (.sv (.int .i64 c))) [[(.one (.bool d)),(.one (.slc 1 0 5 e h i)),(.one (.mpp 2)),(.one (.gsl 4 2)),(.one (.int .i64 j))],[(.seq rN (lf ls 6).nat ((lf ls 7).lst rN))],[(.mp rP mW l)],[]] [[(.gro rP n)]])
def g68R{α:Type}(G:S_g68 α):=rowK g68tp g68bp (g68K G)
def g68hd(G54:Al S_g54)(G113:Al S_g113):Hd where
 call:=fun f args Bs k=>cond (Nat.beq f 54) (g54R G54 args Bs k) (cond (Nat.beq f 113) (g113R G113 args Bs k) (none))
 loop:=fun id st k=>none
 ro:=fun f=>cond (Nat.beq f 54) [1] ([])
def g68h(A54:Al S_g54)(m:Nat):Hd:=g68hd A54 (g113 m)
theorem g68Main(G54:Al S_g54)(G113:Al S_g113){α:Type}(ls:List Lf)(k:KRe α):
  g68K (g68b G54 G113) ls k=evFunM tab (g68hd G54 G113) Tryz.f68 3 (fT g68tp ls) (fB g68tp g68bp ls) k:=by kernel_rfl
theorem g68Calls(A54:Al S_g54)(hA54:HA54 A54)(m:Nat):(g68h A54 m).CallsOk Tryz.prog:=(cok_cons hA54 (cok_cons (g113Ok m) cok_nil))
theorem g68Fn(A54:Al S_g54)(hA54:HA54 A54)(m:Nat):FnOk Tryz.prog 68 g68tp g68bp (fun{α}=>g68K (g68 A54 m (α:=α))):=
 fn_okM (tab:=tab) (h:=g68h A54 m) (fn:=Tryz.f68) (F:=fun{α}=>g68K (g68 A54 m (α:=α))) tabOk (g68Calls A54 hA54 m) mixed (by kernel_rfl) (by kernel_rfl) (fun c hc=>by
  rw[bodyOf_some hc]
  exact loopsOk_of _ (fun p hp=>by rw[show loopsOf (bodyOf Tryz.f68)=[] by kernel_rfl] at hp;cases hp))
  (fun _=>g68Main A54 (g113 m))
theorem g68Ok(A54:Al S_g54)(hA54:HA54 A54)(m:Nat):RowOk Tryz.prog 68 (fun{α}=>g68R (g68 A54 m (α:=α))):=row_of (g68Fn A54 hA54 m)
abbrev S_g61v1(α:Type):Type:=Bool→(List Int)→Bool→(List Int)→Bool→Nat→Nat→Nat→Int→Nat→Ty0→Ty4→Ty0→(Bool→(List Int)→Bool→Option α)→Option α
def g61v1b{α:Type}(G96:Al S_g96)(G65:Al S_g65)(a:Bool)(b:List Int)(c:Bool)(d:List Int)(e:Bool)(h i j:Nat)(l:Int)(n:Nat)(o:Ty0)(p:Ty4)(q:Ty0)(r:Bool→(List Int)→Bool→Option α):Option α:=G96 b d (fun s t=>cond e (G65 (!(a==c)) s (fun u=>r u s true)) (G65 (!(a==c)) s (fun v=>r v s t)))
def g61v1{α:Type}(m:Nat):S_g61v1 α:=
 g61v1b (g96 m) (g65 m)
def g61v1tp:List TP:=[(.vl (.sv (.ptr 0 0))),vW,vW]
def g61v1bp:List BP:=[bA,(false,[(.seqv rN)]),(false,[(.mp rP mW)]),(false,[(.gro rP)])]
def g61v1K{α:Type}(G:S_g61v1 α)(ls:List Lf)(k:KRe α):Option α:=
 G (lf ls 0).bool ((lf ls 1).lst uU) (lf ls 2).bool ((lf ls 3).lst uU) (lf ls 4).bool (lf ls 5).nat (lf ls 6).nat (lf ls 7).nat (lf ls 8).int (lf ls 9).nat ((lf ls 10).lst rN) ((lf ls 11).map rP mW) ((lf ls 12).lst rP)
  (fun c d e=>k (.vl (.agg [(.one (.bool c)),(.seq uU 6 d)])) [[(.one (.bool e)),(.one (.slc 1 0 5 (lf ls 5).nat (lf ls 6).nat (lf ls 7).nat)),(.one (.mpp 2)),(.one (.gsl 3 2)),(.one (.int .i64 (lf ls 8).int))],[(.seq rN (lf ls 9).nat ((lf ls 10).lst rN))],[(.mp rP mW ((lf ls 11).map rP mW))],[(.gro rP ((lf ls 12).lst rP))]] [])
def g61v1R{α:Type}(G:S_g61v1 α):=rowK g61v1tp g61v1bp (g61v1K G)
def g61v1hd(G96:Al S_g96)(G65:Al S_g65):Hd where
 call:=fun f args Bs k=>cond (Nat.beq f 96) (g96R G96 args Bs k) (cond (Nat.beq f 65) (g65R G65 args Bs k) (none))
 loop:=fun id st k=>none
 ro:=fun f=>[]
def g61v1h(m:Nat):Hd:=g61v1hd (g96 m) (g65 m)
theorem g61v1Main(G96:Al S_g96)(G65:Al S_g65){α:Type}(ls:List Lf)(k:KRe α):
  g61v1K (g61v1b G96 G65) ls k=evFun tab (g61v1hd G96 G65) Tryz.f61 (fT g61v1tp ls) (fB g61v1tp g61v1bp ls) k:=by kernel_rfl
theorem g61v1Calls(m:Nat):(g61v1h m).CallsOk Tryz.prog:=(cok_cons (g96Ok m) (cok_cons (g65Ok m) cok_nil))
theorem g61v1Ok(m:Nat):RowOk Tryz.prog 61 (fun{α}=>g61v1R (g61v1 m (α:=α))):=
 rwk (g61v1Calls m) (lo0 (by kernel_rfl))
  (fun _=>g61v1Main (g96 m) (g65 m))
abbrev S_g141(α:Type):Type:=Int→Int→Int→Int→Int→Int→Bool→Nat→Nat→Nat→Int→Nat→Ty0→Ty4→Ty0→(Bool→(List Int)→Bool→Nat→Nat→Nat→Int→Ty4→Ty0→Option α)→Option α
def g141b{α:Type}(G68:Al S_g68)(G54:Al S_g54)(G55:Al S_g55)(G61v1:Al S_g61v1)(G63v1:Al S_g63v1)(a b:Int)(c d:Int)(e h:Int)(i:Bool)(j l n:Nat)(o:Int)(p:Nat)(q:Ty0)(r:Ty4)(s:Ty0)(t:Bool→(List Int)→Bool→Nat→Nat→Nat→Int→Ty4→Ty0→Option α):Option α:=G68 b i j l n o p q r s (fun u v w x y z a0 b0=>G68 c v w x y z p q a0 b0 (fun c0 d0 e0 h0 i0 j0 l0 n0=>G54 b (IntKind.wrap .i64 ((IntKind.wrap .i64 (h+c0))+(3:Int))) d0 e0 h0 i0 j0 p q l0 n0 (fun o0 p0 q0 r0 s0 t0 u0 v0 w0 x0 y0=>G54 c (IntKind.wrap .i64 ((IntKind.wrap .i64 (h+u))+(3:Int))) q0 r0 s0 t0 u0 p q x0 y0 (fun z0 a1 b1 c1 d1 e1 h1 i1 j1 l1 n1=>G55 b1 c1 d1 e1 h1 p q l1 n1 (fun o1 p1=>cond o1 (t false [0,0,0,0,0,0] b1 c1 d1 e1 p1 l1 n1) (G61v1 o0 p0 z0 a1 b1 c1 d1 e1 p1 p q l1 n1 (fun q1 r1 s1=>G63v1 q1 r1 (IntKind.wrap .i64 ((IntKind.wrap .i64 ((IntKind.wrap .i64 (h+u))+c0))+(6:Int))) s1 c1 d1 e1 p1 p q l1 n1 (fun t1 u1 v1=>t t1 u1 v1 c1 d1 e1 p1 l1 n1))))))))
def g141(A54:Al S_g54){α:Type}(m:Nat):S_g141 α:=
 g141b (g68 A54 m) A54 (g55 m) (g61v1 m) (g63v1 m)
def g141tp:List TP:=[(.vl (.sv (.ptr 0 0))),(.vl (.agg [(.one (.int .i8)),(.one (.int .i16)),(.one (.int .i16)),(.one (.int .i64)),(.one (.int .i64))])),tI]
def g141bp:List BP:=[bA,(false,[(.seqv rN)]),(true,[(.mp rP mW)]),(true,[(.gro rP)])]
def g141K{α:Type}(G:S_g141 α)(ls:List Lf)(k:KRe α):Option α:=
 G (lf ls 0).int (lf ls 1).int (lf ls 2).int (lf ls 3).int (lf ls 4).int (lf ls 5).int (lf ls 6).bool (lf ls 7).nat (lf ls 8).nat (lf ls 9).nat (lf ls 10).int (lf ls 11).nat ((lf ls 12).lst rN) ((lf ls 13).map rP mW) ((lf ls 14).lst rP)
  (fun c d e h i j l n o=>k (.vl (.agg [(.one (.bool c)),(.seq uU 6 d)])) [[(.one (.bool e)),(.one (.slc 1 0 5 h i j)),(.one (.mpp 2)),(.one (.gsl 4 2)),(.one (.int .i64 l))],[(.seq rN (lf ls 11).nat ((lf ls 12).lst rN))],[(.mp rP mW n)],[]] [[(.gro rP o)]])
def g141R{α:Type}(G:S_g141 α):=rowK g141tp g141bp (g141K G)
def g141hd(G68:Al S_g68)(G54:Al S_g54)(G55:Al S_g55)(G61v1:Al S_g61v1)(G63v1:Al S_g63v1):Hd where
 call:=fun f args Bs k=>cond (Nat.beq f 68) (g68R G68 args Bs k) (cond (Nat.beq f 54) (g54R G54 args Bs k) (cond (Nat.beq f 55) (g55R G55 args Bs k) (cond (Nat.beq f 61) (g61v1R G61v1 args Bs k) (cond (Nat.beq f 63) (g63v1R G63v1 args Bs k) (none)))))
 loop:=fun id st k=>none
 ro:=fun f=>cond (Nat.beq f 54) [1] (cond (Nat.beq f 55) [1,2,3] (cond (Nat.beq f 61) [1,2,3] (cond (Nat.beq f 63) [1,2,3] (cond (Nat.beq f 68) [1] ([])))))
def g141h(A54:Al S_g54)(m:Nat):Hd:=g141hd (g68 A54 m) A54 (g55 m) (g61v1 m) (g63v1 m)
theorem g141Main(G68:Al S_g68)(G54:Al S_g54)(G55:Al S_g55)(G61v1:Al S_g61v1)(G63v1:Al S_g63v1){α:Type}(ls:List Lf)(k:KRe α):
  g141K (g141b G68 G54 G55 G61v1 G63v1) ls k=evFunM tab (g141hd G68 G54 G55 G61v1 G63v1) Tryz.f141 3 (fT g141tp ls) (fB g141tp g141bp ls) k:=by kernel_rfl
theorem g141Calls(A54:Al S_g54)(hA54:HA54 A54)(m:Nat):(g141h A54 m).CallsOk Tryz.prog:=(cok_cons (g68Ok A54 hA54 m) (cok_cons hA54 (cok_cons (g55Ok m) (cok_cons (g61v1Ok m) (cok_cons (g63v1Ok m) cok_nil)))))
theorem g141Fn(A54:Al S_g54)(hA54:HA54 A54)(m:Nat):FnOk Tryz.prog 141 g141tp g141bp (fun{α}=>g141K (g141 A54 m (α:=α))):=
 fn_okM (tab:=tab) (h:=g141h A54 m) (fn:=Tryz.f141) (F:=fun{α}=>g141K (g141 A54 m (α:=α))) tabOk (g141Calls A54 hA54 m) mixed (by kernel_rfl) (by kernel_rfl) (fun c hc=>by
  rw[bodyOf_some hc]
  exact loopsOk_of _ (fun p hp=>by rw[show loopsOf (bodyOf Tryz.f141)=[] by kernel_rfl] at hp;cases hp))
  (fun _=>g141Main (g68 A54 m) A54 (g55 m) (g61v1 m) (g63v1 m))
theorem g141Ok(A54:Al S_g54)(hA54:HA54 A54)(m:Nat):RowOk Tryz.prog 141 (fun{α}=>g141R (g141 A54 m (α:=α))):=row_of (g141Fn A54 hA54 m)
abbrev S_g174(α:Type):Type:=Int→Bool→Nat→Nat→Nat→Int→Nat→Ty0→Ty4→Ty0→(Int→Bool→Nat→Nat→Nat→Int→Ty4→Ty0→Option α)→Option α
abbrev S_g174l0(α:Type):Type:=Int→Nat→Ty0→(Int→Bool→Nat→Nat→Nat→Int→Ty4→Ty0→Option α)→(Bool→Nat→Nat→Nat→Int→Ty4→Ty0→Option α)→Int→Bool→Nat→Nat→Nat→Int→Ty4→Ty0→Option α
def g174l0b{α:Type}(G54:Al S_g54)(G55:Al S_g55)(G101:Al S_g101)(a:Int)(b:Nat)(c:Ty0)(d:Int→Bool→Nat→Nat→Nat→Int→Ty4→Ty0→Option α)(e:Bool→Nat→Nat→Nat→Int→Ty4→Ty0→Option α)(h:Int→Bool→Nat→Nat→Nat→Int→Ty4→Ty0→Option α)(i:Int)(j:Bool)(l n o:Nat)(p:Int)(q:Ty4)(r:Ty0):Option α:=cond (decide (i≤(40:Int))) (G54 a (IntKind.wrap .i64 (i+(2:Int))) j l n o p b c q r (fun s t u v w x y z a0 b0 c0=>G55 u v w x y b c b0 c0 (fun d0 e0=>cond d0 (d (0:Int) u v w x e0 b0 c0) (G101 t [(5:Int),0,0,0,0,0] (fun h0=>cond (decide (h0≥(0:Int))) (d i u v w x e0 b0 c0) (h (IntKind.wrap .i64 (i+(1:Int))) u v w x e0 b0 c0)))))) (e j l n o p q r)
def g174l0{α:Type}(G54:Al S_g54)(G55:Al S_g55)(G101:Al S_g101)(a:Int)(b:Nat)(c:Ty0)(d:Int→Bool→Nat→Nat→Nat→Int→Ty4→Ty0→Option α)(e:Bool→Nat→Nat→Nat→Int→Ty4→Ty0→Option α):Nat→Int→Bool→Nat→Nat→Nat→Int→Ty4→Ty0→Option α
 |0=>fun _ _ _ _ _ _ _ _=>none
 |m+1=>fun h i j l n o p q=>g174l0b G54 G55 G101 a b c d e (g174l0 G54 G55 G101 a b c d e m) h i j l n o p q
def g174l0M(A54:Al S_g54){α:Type}(m:Nat):S_g174l0 α:=
 fun a b c d e h i j l n o p q=>g174l0 A54 (g55 m) (g101 m) a b c d e m h i j l n o p q
def g174l0D:LoopD:={n:=27,low:=[0,1,2,3],sl:=[0,1,5],bl:=[0,1,2,3,1000004],tp:=[(.vl (.sv (.ptr 0 0))),(.vl (.sv (.int .i16))),tI],bp:=[(true,[(.one .bool),(.one (.slc 1 0 5)),(.one (.mpp 2)),(.one (.gsl 1000004 2)),(.one (.int .i64))]),(false,[(.seqv rN)]),(true,[(.mp rP mW)]),(true,[]),(true,[(.gro rP)])],xs:=[(1,[4]),(2,[0])]}
def g174l0K{α:Type}(L:S_g174l0 α)(ls:List Lf)(k:KEx α):Option α:=
 L (lf ls 0).int (lf ls 7).nat ((lf ls 8).lst rN)
  (fun c d e h i j l n=>k .ret (mkSt 27 [4] [(.vl (.sv (.int .i64 c)))] [0,1,2,3,1000004] [(true,[(.one (.bool d)),(.one (.slc 1 0 5 e h i)),(.one (.mpp 2)),(.one (.gsl 1000004 2)),(.one (.int .i64 j))]),(false,[(.seq rN (lf ls 7).nat ((lf ls 8).lst rN))]),(true,[(.mp rP mW l)]),(true,[]),(true,[(.gro rP n)])]))
  (fun c d e h i o l=>k .normal (mkSt 27 [0] [(.vl (.sv (.ptr 0 0)))] [0,1,2,3,1000004] [(true,[(.one (.bool c)),(.one (.slc 1 0 5 d e h)),(.one (.mpp 2)),(.one (.gsl 1000004 2)),(.one (.int .i64 i))]),(false,[(.seq rN (lf ls 7).nat ((lf ls 8).lst rN))]),(true,[(.mp rP mW o)]),(true,[]),(true,[(.gro rP l)])]))
  (lf ls 1).int (lf ls 2).bool (lf ls 3).nat (lf ls 4).nat (lf ls 5).nat (lf ls 6).int ((lf ls 9).map rP mW) ((lf ls 10).lst rP)
def g174b{α:Type}(G54:Al S_g54)(G55:Al S_g55)(G101:Al S_g101)(L174l0:Al S_g174l0)(a:Int)(b:Bool)(c d e:Nat)(h:Int)(i:Nat)(j:Ty0)(l:Ty4)(n:Ty0)(o:Int→Bool→Nat→Nat→Nat→Int→Ty4→Ty0→Option α):Option α:=L174l0 a i j (fun p q r s t u v w=>o p q r s t u v w) (fun x y z a0 b0 c0 d0=>o (0:Int) x y z a0 (7:Int) c0 d0) (0:Int) b c d e h l n
def g174(A54:Al S_g54){α:Type}(m:Nat):S_g174 α:=
 g174b A54 (g55 m) (g101 m) (g174l0M A54 m)
def g174tp:List TP:=[(.vl (.sv (.ptr 0 0))),(.vl (.sv (.int .i16)))]
def g174bp:List BP:=[bA,(false,[(.seqv rN)]),(true,[(.mp rP mW)]),(true,[(.gro rP)])]
def g174K{α:Type}(G:S_g174 α)(ls:List Lf)(k:KRe α):Option α:=
 G (lf ls 0).int (lf ls 1).bool (lf ls 2).nat (lf ls 3).nat (lf ls 4).nat (lf ls 5).int (lf ls 6).nat ((lf ls 7).lst rN) ((lf ls 8).map rP mW) ((lf ls 9).lst rP)
  (fun c d e h i j l n=>k (.vl (.sv (.int .i64 c))) [[(.one (.bool d)),(.one (.slc 1 0 5 e h i)),(.one (.mpp 2)),(.one (.gsl 4 2)),(.one (.int .i64 j))],[(.seq rN (lf ls 6).nat ((lf ls 7).lst rN))],[(.mp rP mW l)],[]] [[(.gro rP n)]])
def g174R{α:Type}(G:S_g174 α):=rowK g174tp g174bp (g174K G)
def g174hd(G54:Al S_g54)(G55:Al S_g55)(G101:Al S_g101)(L174l0:Al S_g174l0):Hd where
 call:=fun f args Bs k=>cond (Nat.beq f 54) (g54R G54 args Bs k) (cond (Nat.beq f 55) (g55R G55 args Bs k) (cond (Nat.beq f 101) (g101R G101 args Bs k) (none)))
 loop:=fun id st k=>cond (Nat.beq id 0) (loopH g174l0D (g174l0K L174l0) st k) (none)
 ro:=fun f=>cond (Nat.beq f 54) [1] (cond (Nat.beq f 55) [1,2,3] ([]))
def g174h(A54:Al S_g54)(m:Nat):Hd:=g174hd A54 (g55 m) (g101 m) (g174l0M A54 m)
theorem g174l0Step(G54:Al S_g54)(G55:Al S_g55)(G101:Al S_g101)(L174l0:Al S_g174l0){α:Type}(L:S_g174l0 α)(ls:List Lf)(k:KEx α):
  g174l0K (fun a b c d e h i j l n o p q=>g174l0b G54 G55 G101 a b c d e (L a b c d e) h i j l n o p q) ls k=ev tab (g174hd G54 G55 G101 L174l0) (bodyAt Tryz.f174 0) (atHead g174l0D ls) (loopK g174l0D 0 (loopH g174l0D (g174l0K L)) k):=by kernel_rfl
theorem g174Main(G54:Al S_g54)(G55:Al S_g55)(G101:Al S_g101)(L174l0:Al S_g174l0){α:Type}(ls:List Lf)(k:KRe α):
  g174K (g174b G54 G55 G101 L174l0) ls k=evFunM tab (g174hd G54 G55 G101 L174l0) Tryz.f174 3 (fT g174tp ls) (fB g174tp g174bp ls) k:=by kernel_rfl
theorem g174Calls(A54:Al S_g54)(hA54:HA54 A54)(m:Nat):(g174h A54 m).CallsOk Tryz.prog:=(cok_cons hA54 (cok_cons (g55Ok m) (cok_cons (g101Ok m) cok_nil)))
theorem g174l0Ok(A54:Al S_g54)(hA54:HA54 A54)(m:Nat)(α:Type)(st:St)(k:KEx α)(r:α)(h:(g174h A54 m).loop 0 st k=some r):
  LoopS Tryz.prog 0 (bodyAt Tryz.f174 0) st k r:=
 lpk (F:=fun n ls k=>g174l0K (fun a b c d e i j l o q s t u=>g174l0 A54 (g55 m) (g101 m) a b c d e n i j l o q s t u) ls k) (g174Calls A54 hA54 m) (lb0 (by kernel_rfl))
  (fun _ _=>rfl) (fun n ls k=>g174l0Step A54 (g55 m) (g101 m) (g174l0M A54 m) (fun a b c d e=>g174l0 A54 (g55 m) (g101 m) a b c d e n) ls k) (n:=m) h
theorem g174Fn(A54:Al S_g54)(hA54:HA54 A54)(m:Nat):FnOk Tryz.prog 174 g174tp g174bp (fun{α}=>g174K (g174 A54 m (α:=α))):=
 fn_okM (tab:=tab) (h:=g174h A54 m) (fn:=Tryz.f174) (F:=fun{α}=>g174K (g174 A54 m (α:=α))) tabOk (g174Calls A54 hA54 m) mixed (by kernel_rfl) (by kernel_rfl) (fun c hc=>by
  rw[bodyOf_some hc]
  exact loopsOk_of _ (fun p hp=>by
  rw[show loopsOf (bodyOf Tryz.f174)=[(0,bodyAt Tryz.f174 0)] by kernel_rfl] at hp
  simp only[List.mem_cons,List.not_mem_nil,or_false] at hp
  rcases hp with rfl
  exact g174l0Ok A54 hA54 m))
  (fun _=>g174Main A54 (g55 m) (g101 m) (g174l0M A54 m))
theorem g174Ok(A54:Al S_g54)(hA54:HA54 A54)(m:Nat):RowOk Tryz.prog 174 (fun{α}=>g174R (g174 A54 m (α:=α))):=row_of (g174Fn A54 hA54 m)
abbrev S_g175(α:Type):Type:=Bool→(List Int)→(Int→Option α)→Option α
def g175b{α:Type}(a:Bool)(b:List Int)(c:Int→Option α):Option α:=cond a (c (-1:Int)) (cond (eqLI b [0,0,0,0,0,0]) (c (0:Int)) (c (1:Int)))
def g175{α:Type}(m:Nat):S_g175 α:=
 g175b
def g175tp:List TP:=[vW]
def g175bp:List BP:=[]
def g175K{α:Type}(G:S_g175 α)(ls:List Lf)(k:KRe α):Option α:=
 G (lf ls 0).bool ((lf ls 1).lst uU)
  (fun a=>k (.vl (.sv (.int .i64 a))) [] [])
def g175R{α:Type}(G:S_g175 α):=rowK g175tp g175bp (g175K G)
def g175hd:Hd where
 call:=fun f args Bs k=>none
 loop:=fun id st k=>none
 ro:=fun f=>[]
def g175h(m:Nat):Hd:=g175hd
theorem g175Main{α:Type}(ls:List Lf)(k:KRe α):
  g175K (g175b) ls k=evFun tab (g175hd) Tryz.f175 (fT g175tp ls) (fB g175tp g175bp ls) k:=by kernel_rfl
theorem g175Calls(m:Nat):(g175h m).CallsOk Tryz.prog:=cok_nil
theorem g175Ok(m:Nat):RowOk Tryz.prog 175 (fun{α}=>g175R (g175 m (α:=α))):=
 rwk (g175Calls m) (lo0 (by kernel_rfl))
  (fun _=>g175Main)
abbrev S_g142(α:Type):Type:=Int→Int→Int→Int→Int→Int→Bool→Nat→Nat→Nat→Int→Nat→Ty0→Ty4→Ty0→(Bool→(List Int)→Bool→Nat→Nat→Nat→Int→Ty4→Ty0→Option α)→Option α
def g142b{α:Type}(G174:Al S_g174)(G55:Al S_g55)(G68:Al S_g68)(G54:Al S_g54)(G135v1:Al S_g135v1)(G175:Al S_g175)(G134v1:Al S_g134v1)(a b:Int)(c d:Int)(e h:Int)(i:Bool)(j l n:Nat)(o:Int)(p:Nat)(q:Ty0)(r:Ty4)(s:Ty0)(t:Bool→(List Int)→Bool→Nat→Nat→Nat→Int→Ty4→Ty0→Option α):Option α:=G174 c i j l n o p q r s (fun u v w x y z a0 b0=>G55 v w x y z p q a0 b0 (fun c0 d0=>cond c0 (t false [0,0,0,0,0,0] v w x y d0 a0 b0) (G68 b v w x y d0 p q a0 b0 (fun e0 h0 i0 j0 l0 n0 o0 p0=>G54 b (IntKind.wrap .i64 ((IntKind.wrap .i64 (h+u))+(3:Int))) h0 i0 j0 l0 n0 p q o0 p0 (fun q0 r0 s0 t0 u0 v0 w0 x0 y0 z0 a1=>G54 c (IntKind.wrap .i64 ((IntKind.wrap .i64 ((IntKind.wrap .i64 (h+e0))+(IntKind.wrap .i64 ((2:Int)*u))))+(4:Int))) s0 t0 u0 v0 w0 p q z0 a1 (fun b1 c1 d1 e1 h1 i1 j1 l1 n1 o1 p1=>G55 d1 e1 h1 i1 j1 p q o1 p1 (fun q1 r1=>cond q1 (t false [0,0,0,0,0,0] d1 e1 h1 i1 r1 o1 p1) (G135v1 q0 r0 (IntKind.wrap .i64 ((IntKind.wrap .i64 ((IntKind.wrap .i64 (h+e0))+u))+(1:Int))) d1 e1 h1 i1 r1 p q o1 p1 (fun s1 t1 u1=>G55 u1 e1 h1 i1 r1 p q o1 p1 (fun v1 w1=>cond v1 (t false [0,0,0,0,0,0] u1 e1 h1 i1 w1 o1 p1) (G175 b1 c1 (fun x1=>cond (x1==(0:Int)) (t false [0,0,0,0,0,0] u1 e1 h1 i1 w1 o1 p1) (G134v1 s1 t1 b1 c1 u1 e1 h1 i1 w1 p q o1 p1 (fun y1 z1 a2=>t y1 z1 a2 e1 h1 i1 w1 o1 p1))))))))))))))
def g142(A54:Al S_g54){α:Type}(m:Nat):S_g142 α:=
 g142b (g174 A54 m) (g55 m) (g68 A54 m) A54 (g135v1 m) (g175 m) (g134v1 m)
def g142tp:List TP:=[(.vl (.sv (.ptr 0 0))),(.vl (.agg [(.one (.int .i8)),(.one (.int .i16)),(.one (.int .i16)),(.one (.int .i64)),(.one (.int .i64))])),tI]
def g142bp:List BP:=[bA,(false,[(.seqv rN)]),(true,[(.mp rP mW)]),(true,[(.gro rP)])]
def g142K{α:Type}(G:S_g142 α)(ls:List Lf)(k:KRe α):Option α:=
 G (lf ls 0).int (lf ls 1).int (lf ls 2).int (lf ls 3).int (lf ls 4).int (lf ls 5).int (lf ls 6).bool (lf ls 7).nat (lf ls 8).nat (lf ls 9).nat (lf ls 10).int (lf ls 11).nat ((lf ls 12).lst rN) ((lf ls 13).map rP mW) ((lf ls 14).lst rP)
  (fun c d e h i j l n o=>k (.vl (.agg [(.one (.bool c)),(.seq uU 6 d)])) [[(.one (.bool e)),(.one (.slc 1 0 5 h i j)),(.one (.mpp 2)),(.one (.gsl 4 2)),(.one (.int .i64 l))],[(.seq rN (lf ls 11).nat ((lf ls 12).lst rN))],[(.mp rP mW n)],[]] [[(.gro rP o)]])
def g142R{α:Type}(G:S_g142 α):=rowK g142tp g142bp (g142K G)
def g142hd(G174:Al S_g174)(G55:Al S_g55)(G68:Al S_g68)(G54:Al S_g54)(G135v1:Al S_g135v1)(G175:Al S_g175)(G134v1:Al S_g134v1):Hd where
 call:=fun f args Bs k=>cond (Nat.beq f 174) (g174R G174 args Bs k) (cond (Nat.beq f 55) (g55R G55 args Bs k) (cond (Nat.beq f 68) (g68R G68 args Bs k) (cond (Nat.beq f 54) (g54R G54 args Bs k) (cond (Nat.beq f 135) (g135v1R G135v1 args Bs k) (cond (Nat.beq f 175) (g175R G175 args Bs k) (cond (Nat.beq f 134) (g134v1R G134v1 args Bs k) (none)))))))
 loop:=fun id st k=>none
 ro:=fun f=>cond (Nat.beq f 54) [1] (cond (Nat.beq f 55) [1,2,3] (cond (Nat.beq f 68) [1] (cond (Nat.beq f 134) [1,2,3] (cond (Nat.beq f 135) [1,2,3] (cond (Nat.beq f 174) [1] ([]))))))
def g142h(A54:Al S_g54)(m:Nat):Hd:=g142hd (g174 A54 m) (g55 m) (g68 A54 m) A54 (g135v1 m) (g175 m) (g134v1 m)
theorem g142Main(G174:Al S_g174)(G55:Al S_g55)(G68:Al S_g68)(G54:Al S_g54)(G135v1:Al S_g135v1)(G175:Al S_g175)(G134v1:Al S_g134v1){α:Type}(ls:List Lf)(k:KRe α):
  g142K (g142b G174 G55 G68 G54 G135v1 G175 G134v1) ls k=evFunM tab (g142hd G174 G55 G68 G54 G135v1 G175 G134v1) Tryz.f142 3 (fT g142tp ls) (fB g142tp g142bp ls) k:=by kernel_rfl
theorem g142Calls(A54:Al S_g54)(hA54:HA54 A54)(m:Nat):(g142h A54 m).CallsOk Tryz.prog:=(cok_cons (g174Ok A54 hA54 m) (cok_cons (g55Ok m) (cok_cons (g68Ok A54 hA54 m) (cok_cons hA54 (cok_cons (g135v1Ok m) (cok_cons (g175Ok m) (cok_cons (g134v1Ok m) cok_nil)))))))
theorem g142Fn(A54:Al S_g54)(hA54:HA54 A54)(m:Nat):FnOk Tryz.prog 142 g142tp g142bp (fun{α}=>g142K (g142 A54 m (α:=α))):=
 fn_okM (tab:=tab) (h:=g142h A54 m) (fn:=Tryz.f142) (F:=fun{α}=>g142K (g142 A54 m (α:=α))) tabOk (g142Calls A54 hA54 m) mixed (by kernel_rfl) (by kernel_rfl) (fun c hc=>by
  rw[bodyOf_some hc]
  exact loopsOk_of _ (fun p hp=>by rw[show loopsOf (bodyOf Tryz.f142)=[] by kernel_rfl] at hp;cases hp))
  (fun _=>g142Main (g174 A54 m) (g55 m) (g68 A54 m) A54 (g135v1 m) (g175 m) (g134v1 m))
theorem g142Ok(A54:Al S_g54)(hA54:HA54 A54)(m:Nat):RowOk Tryz.prog 142 (fun{α}=>g142R (g142 A54 m (α:=α))):=row_of (g142Fn A54 hA54 m)
abbrev S_g143(α:Type):Type:=(List Int)→((List Int)→Option α)→Option α
abbrev S_g143l0(α:Type):Type:=(List Int)→(List Int)→((List Int)→Option α)→Int→(List Int)→Option α
def g143l0b{α:Type}(G98:Al S_g98)(G99:Al S_g99)(G102:Al S_g102)(G96:Al S_g96)(G101:Al S_g101)(a b:List Int)(c:(List Int)→Option α)(d:Int→(List Int)→Option α)(e:Int)(h:List Int):Option α:=cond (decide (e≥(0:Int))) (G98 (fun i=>G99 i e (fun j=>G102 h j (fun l n=>G96 l l (fun o p=>cond (!p) (G101 o a (fun q=>cond (decide (q≤(0:Int))) (d (IntKind.wrap .i64 (e-(1:Int))) l) (d (IntKind.wrap .i64 (e-(1:Int))) h))) (d (IntKind.wrap .i64 (e-(1:Int))) h)))))) (c h)
def g143l0{α:Type}(G98:Al S_g98)(G99:Al S_g99)(G102:Al S_g102)(G96:Al S_g96)(G101:Al S_g101)(a b:List Int)(c:(List Int)→Option α):Nat→Int→(List Int)→Option α
 |0=>fun _ _=>none
 |m+1=>fun d e=>g143l0b G98 G99 G102 G96 G101 a b c (g143l0 G98 G99 G102 G96 G101 a b c m) d e
def g143l0M{α:Type}(m:Nat):S_g143l0 α:=
 fun a b c d e=>g143l0 (g98 m) (g99 m) (g102 m) (g96 m) (g101 m) a b c m d e
def g143l0D:LoopD:={n:=42,low:=[],sl:=[1,2,3,4],bl:=[1000000,1000001,1000002],tp:=[(.vl (.sv (.ptr 1000000 0))),(.vl (.sv (.ptr 1000001 0))),(.vl (.sv (.ptr 1000002 0))),tI],bp:=[b6,b6,b6],xs:=[(2,[2,3])]}
def g143l0K{α:Type}(L:S_g143l0 α)(ls:List Lf)(k:KEx α):Option α:=
 L ((lf ls 1).lst uU) ((lf ls 2).lst uU)
  (fun a=>k .normal (mkSt 42 [2,3] [(.vl (.sv (.ptr 1000000 0))),(.vl (.sv (.ptr 1000001 0)))] [1000000,1000001] [(true,[(.seq uU 6 ((lf ls 2).lst uU))]),(true,[(.seq uU 6 a)])]))
  (lf ls 0).int ((lf ls 3).lst uU)
def g143b{α:Type}(G113:Al S_g113)(G98:Al S_g98)(G99:Al S_g99)(G102:Al S_g102)(G96:Al S_g96)(G101:Al S_g101)(L143l0:Al S_g143l0)(a:List Int)(b:(List Int)→Option α):Option α:=G113 a (fun c=>L143l0 a [0,0,0,0,0,0] (fun d=>b d) (IntKind.wrap .i64 (Int.tdiv (IntKind.wrap .i64 (c+(1:Int))) (2:Int))) [0,0,0,0,0,0])
def g143{α:Type}(m:Nat):S_g143 α:=
 g143b (g113 m) (g98 m) (g99 m) (g102 m) (g96 m) (g101 m) (g143l0M m)
def g143tp:List TP:=[(.vl (.agg [(.seq uU 6)]))]
def g143bp:List BP:=[]
def g143K{α:Type}(G:S_g143 α)(ls:List Lf)(k:KRe α):Option α:=
 G ((lf ls 0).lst uU)
  (fun a=>k (.vl (.agg [(.seq uU 6 a)])) [] [])
def g143R{α:Type}(G:S_g143 α):=rowK g143tp g143bp (g143K G)
def g143hd(G113:Al S_g113)(G98:Al S_g98)(G99:Al S_g99)(G102:Al S_g102)(G96:Al S_g96)(G101:Al S_g101)(L143l0:Al S_g143l0):Hd where
 call:=fun f args Bs k=>cond (Nat.beq f 113) (g113R G113 args Bs k) (cond (Nat.beq f 98) (g98R G98 args Bs k) (cond (Nat.beq f 99) (g99R G99 args Bs k) (cond (Nat.beq f 102) (g102R G102 args Bs k) (cond (Nat.beq f 96) (g96R G96 args Bs k) (cond (Nat.beq f 101) (g101R G101 args Bs k) (none))))))
 loop:=fun id st k=>cond (Nat.beq id 0) (loopH g143l0D (g143l0K L143l0) st k) (none)
 ro:=fun f=>[]
def g143h(m:Nat):Hd:=g143hd (g113 m) (g98 m) (g99 m) (g102 m) (g96 m) (g101 m) (g143l0M m)
theorem g143l0Step(G113:Al S_g113)(G98:Al S_g98)(G99:Al S_g99)(G102:Al S_g102)(G96:Al S_g96)(G101:Al S_g101)(L143l0:Al S_g143l0){α:Type}(L:S_g143l0 α)(ls:List Lf)(k:KEx α):
  g143l0K (fun a b c d e=>g143l0b G98 G99 G102 G96 G101 a b c (L a b c) d e) ls k=ev tab (g143hd G113 G98 G99 G102 G96 G101 L143l0) (bodyAt Tryz.f143 0) (atHead g143l0D ls) (loopK g143l0D 0 (loopH g143l0D (g143l0K L)) k):=by kernel_rfl
theorem g143Main(G113:Al S_g113)(G98:Al S_g98)(G99:Al S_g99)(G102:Al S_g102)(G96:Al S_g96)(G101:Al S_g101)(L143l0:Al S_g143l0){α:Type}(ls:List Lf)(k:KRe α):
  g143K (g143b G113 G98 G99 G102 G96 G101 L143l0) ls k=evFun tab (g143hd G113 G98 G99 G102 G96 G101 L143l0) Tryz.f143 (fT g143tp ls) (fB g143tp g143bp ls) k:=by kernel_rfl
theorem g143Calls(m:Nat):(g143h m).CallsOk Tryz.prog:=(cok_cons (g113Ok m) (cok_cons (g98Ok m) (cok_cons (g99Ok m) (cok_cons (g102Ok m) (cok_cons (g96Ok m) (cok_cons (g101Ok m) cok_nil))))))
theorem g143l0Ok(m:Nat)(α:Type)(st:St)(k:KEx α)(r:α)(h:(g143h m).loop 0 st k=some r):
  LoopS Tryz.prog 0 (bodyAt Tryz.f143 0) st k r:=
 lpk (F:=fun n ls k=>g143l0K (fun a b c d e=>g143l0 (g98 m) (g99 m) (g102 m) (g96 m) (g101 m) a b c n d e) ls k) (g143Calls m) (lb0 (by kernel_rfl))
  (fun _ _=>rfl) (fun n ls k=>g143l0Step (g113 m) (g98 m) (g99 m) (g102 m) (g96 m) (g101 m) (g143l0M m) (fun a b c=>g143l0 (g98 m) (g99 m) (g102 m) (g96 m) (g101 m) a b c n) ls k) (n:=m) h
theorem g143Ok(m:Nat):RowOk Tryz.prog 143 (fun{α}=>g143R (g143 m (α:=α))):=
 rwk (g143Calls m) (lo1 (by kernel_rfl) (g143l0Ok m))
  (fun _=>g143Main (g113 m) (g98 m) (g99 m) (g102 m) (g96 m) (g101 m) (g143l0M m))
abbrev S_g176(α:Type):Type:=Int→Int→Bool→Nat→Nat→Nat→Int→Nat→Ty0→Ty4→Ty0→(Bool→(List Int)→Bool→Option α)→Option α
abbrev S_g176l0(α:Type):Type:=Int→Nat→Nat→Nat→Int→Nat→Ty0→Ty4→Ty0→Bool→(List Int)→(Bool→Bool→(List Int)→Option α)→Int→Bool→(List Int)→Bool→(List Int)→Option α
def g176l0b{α:Type}(G104:Al S_g104)(G65:Al S_g65)(G137v1:Al S_g137v1)(a:Int)(b c d:Nat)(e:Int)(h:Nat)(i:Ty0)(j:Ty4)(l:Ty0)(n:Bool)(o:List Int)(p:Bool→Bool→(List Int)→Option α)(q:Int→Bool→(List Int)→Bool→(List Int)→Option α)(r:Int)(s:Bool)(t:List Int)(u:Bool)(v:List Int):Option α:=cond (!(eqLI t [0,0,0,0,0,0])) (G104 t (IntKind.wrap .u32 ((IntKind.wrap .u32 ((2:Int)*r))+(1:Int))) (fun w x=>G65 ((Int.tmod r (2:Int))==(1:Int)) w (fun y=>G137v1 u v y w s b c d e h i j l (fun z a0 b0=>G104 t (IntKind.wrap .u32 (a*a)) (fun c0 d0=>q (IntKind.wrap .u32 (r+(1:Int))) b0 c0 z a0))))) (p s u v)
def g176l0{α:Type}(G104:Al S_g104)(G65:Al S_g65)(G137v1:Al S_g137v1)(a:Int)(b c d:Nat)(e:Int)(h:Nat)(i:Ty0)(j:Ty4)(l:Ty0)(n:Bool)(o:List Int)(p:Bool→Bool→(List Int)→Option α):Nat→Int→Bool→(List Int)→Bool→(List Int)→Option α
 |0=>fun _ _ _ _ _=>none
 |m+1=>fun q r s t u=>g176l0b G104 G65 G137v1 a b c d e h i j l n o p (g176l0 G104 G65 G137v1 a b c d e h i j l n o p m) q r s t u
def g176l0M{α:Type}(m:Nat):S_g176l0 α:=
 fun a b c d e h i j l n o p q r s t u=>g176l0 (g104 m) (g65 m) (g137v1 m) a b c d e h i j l n o p m q r s t u
def g176l0D:LoopD:={n:=55,low:=[0,1,2,3],sl:=[0,1,6,7,9,10],bl:=[0,1,2,3,1000004,1000005,1000006],tp:=[(.vl (.sv (.ptr 0 0))),(.vl (.sv (.int .u32))),(.vl (.sv (.ptr 1000004 0))),(.vl (.sv (.ptr 1000005 0))),(.vl (.sv (.ptr 1000006 0))),(.vl (.sv (.int .u32)))],bp:=[bA,(false,[(.seqv rN)]),(false,[(.mp rP mW)]),(false,[(.gro rP)]),(true,[(.one .bool),(.seq uU 6)]),b6,(true,[(.one .bool),(.seq uU 6)])],xs:=[(2,[6,9])]}
def g176l0K{α:Type}(L:S_g176l0 α)(ls:List Lf)(k:KEx α):Option α:=
 L (lf ls 0).int (lf ls 3).nat (lf ls 4).nat (lf ls 5).nat (lf ls 6).int (lf ls 7).nat ((lf ls 8).lst rN) ((lf ls 9).map rP mW) ((lf ls 10).lst rP) (lf ls 11).bool ((lf ls 12).lst uU)
  (fun c d e=>k .normal (mkSt 55 [6,9] [(.vl (.sv (.ptr 1000004 0))),(.vl (.sv (.ptr 1000005 0)))] [0,1,2,3,1000004,1000005] [(true,[(.one (.bool c)),(.one (.slc 1 0 5 (lf ls 3).nat (lf ls 4).nat (lf ls 5).nat)),(.one (.mpp 2)),(.one (.gsl 3 2)),(.one (.int .i64 (lf ls 6).int))]),(false,[(.seq rN (lf ls 7).nat ((lf ls 8).lst rN))]),(false,[(.mp rP mW ((lf ls 9).map rP mW))]),(false,[(.gro rP ((lf ls 10).lst rP))]),(true,[(.one (.bool (lf ls 11).bool)),(.seq uU 6 ((lf ls 12).lst uU))]),(true,[(.one (.bool d)),(.seq uU 6 e)])]))
  (lf ls 1).int (lf ls 2).bool ((lf ls 13).lst uU) (lf ls 14).bool ((lf ls 15).lst uU)
def g176b{α:Type}(G98:Al S_g98)(G99:Al S_g99)(G104:Al S_g104)(G65:Al S_g65)(G137v1:Al S_g137v1)(L176l0:Al S_g176l0)(a b:Int)(c:Bool)(d e h:Nat)(i:Int)(j:Nat)(l:Ty0)(n:Ty4)(o:Ty0)(p:Bool→(List Int)→Bool→Option α):Option α:=G98 (fun q=>G99 q (IntKind.wrap .i64 (b+(16:Int))) (fun r=>G104 r a (fun s t=>L176l0 a d e h i j l n o false [0,0,0,0,0,0] (fun u v w=>p v w u) (0:Int) c s false [0,0,0,0,0,0])))
def g176{α:Type}(m:Nat):S_g176 α:=
 g176b (g98 m) (g99 m) (g104 m) (g65 m) (g137v1 m) (g176l0M m)
def g176tp:List TP:=[(.vl (.sv (.ptr 0 0))),(.vl (.sv (.int .u32))),tI]
def g176bp:List BP:=[bA,(false,[(.seqv rN)]),(false,[(.mp rP mW)]),(false,[(.gro rP)])]
def g176K{α:Type}(G:S_g176 α)(ls:List Lf)(k:KRe α):Option α:=
 G (lf ls 0).int (lf ls 1).int (lf ls 2).bool (lf ls 3).nat (lf ls 4).nat (lf ls 5).nat (lf ls 6).int (lf ls 7).nat ((lf ls 8).lst rN) ((lf ls 9).map rP mW) ((lf ls 10).lst rP)
  (fun c d e=>k (.vl (.agg [(.one (.bool c)),(.seq uU 6 d)])) [[(.one (.bool e)),(.one (.slc 1 0 5 (lf ls 3).nat (lf ls 4).nat (lf ls 5).nat)),(.one (.mpp 2)),(.one (.gsl 3 2)),(.one (.int .i64 (lf ls 6).int))],[(.seq rN (lf ls 7).nat ((lf ls 8).lst rN))],[(.mp rP mW ((lf ls 9).map rP mW))],[(.gro rP ((lf ls 10).lst rP))]] [])
def g176R{α:Type}(G:S_g176 α):=rowK g176tp g176bp (g176K G)
def g176hd(G98:Al S_g98)(G99:Al S_g99)(G104:Al S_g104)(G65:Al S_g65)(G137v1:Al S_g137v1)(L176l0:Al S_g176l0):Hd where
 call:=fun f args Bs k=>cond (Nat.beq f 98) (g98R G98 args Bs k) (cond (Nat.beq f 99) (g99R G99 args Bs k) (cond (Nat.beq f 104) (g104R G104 args Bs k) (cond (Nat.beq f 65) (g65R G65 args Bs k) (cond (Nat.beq f 137) (g137v1R G137v1 args Bs k) (none)))))
 loop:=fun id st k=>cond (Nat.beq id 0) (loopH g176l0D (g176l0K L176l0) st k) (none)
 ro:=fun f=>cond (Nat.beq f 137) [1,2,3] ([])
def g176h(m:Nat):Hd:=g176hd (g98 m) (g99 m) (g104 m) (g65 m) (g137v1 m) (g176l0M m)
theorem g176l0Step(G98:Al S_g98)(G99:Al S_g99)(G104:Al S_g104)(G65:Al S_g65)(G137v1:Al S_g137v1)(L176l0:Al S_g176l0){α:Type}(L:S_g176l0 α)(ls:List Lf)(k:KEx α):
  g176l0K (fun a b c d e h i j l n o p q r s t u=>g176l0b G104 G65 G137v1 a b c d e h i j l n o p (L a b c d e h i j l n o p) q r s t u) ls k=ev tab (g176hd G98 G99 G104 G65 G137v1 L176l0) (bodyAt Tryz.f176 0) (atHead g176l0D ls) (loopK g176l0D 0 (loopH g176l0D (g176l0K L)) k):=by kernel_rfl
theorem g176Main(G98:Al S_g98)(G99:Al S_g99)(G104:Al S_g104)(G65:Al S_g65)(G137v1:Al S_g137v1)(L176l0:Al S_g176l0){α:Type}(ls:List Lf)(k:KRe α):
  g176K (g176b G98 G99 G104 G65 G137v1 L176l0) ls k=evFun tab (g176hd G98 G99 G104 G65 G137v1 L176l0) Tryz.f176 (fT g176tp ls) (fB g176tp g176bp ls) k:=by kernel_rfl
theorem g176Calls(m:Nat):(g176h m).CallsOk Tryz.prog:=(cok_cons (g98Ok m) (cok_cons (g99Ok m) (cok_cons (g104Ok m) (cok_cons (g65Ok m) (cok_cons (g137v1Ok m) cok_nil)))))
theorem g176l0Ok(m:Nat)(α:Type)(st:St)(k:KEx α)(r:α)(h:(g176h m).loop 0 st k=some r):
  LoopS Tryz.prog 0 (bodyAt Tryz.f176 0) st k r:=
 lpk (F:=fun n ls k=>g176l0K (fun a b c d e i j l o q s t u v w x y=>g176l0 (g104 m) (g65 m) (g137v1 m) a b c d e i j l o q s t n u v w x y) ls k) (g176Calls m) (lb0 (by kernel_rfl))
  (fun _ _=>rfl) (fun n ls k=>g176l0Step (g98 m) (g99 m) (g104 m) (g65 m) (g137v1 m) (g176l0M m) (fun a b c d e i j l o q s t=>g176l0 (g104 m) (g65 m) (g137v1 m) a b c d e i j l o q s t n) ls k) (n:=m) h
theorem g176Ok(m:Nat):RowOk Tryz.prog 176 (fun{α}=>g176R (g176 m (α:=α))):=
 rwk (g176Calls m) (lo1 (by kernel_rfl) (g176l0Ok m))
  (fun _=>g176Main (g98 m) (g99 m) (g104 m) (g65 m) (g137v1 m) (g176l0M m))
abbrev S_g144(α:Type):Type:=Int→Bool→Nat→Nat→Nat→Int→Nat→Ty0→Ty4→Ty0→(Bool→(List Int)→Bool→Option α)→Option α
def g144b{α:Type}(G62:Al S_g62)(G176:Al S_g176)(G61v1:Al S_g61v1)(G138v1:Al S_g138v1)(G63v1:Al S_g63v1)(a:Int)(b:Bool)(c d e:Nat)(h:Int)(i:Nat)(j:Ty0)(l:Ty4)(n:Ty0)(o:Bool→(List Int)→Bool→Option α):Option α:=G62 (16:Int) (fun p q=>G176 (5:Int) a b c d e h i j l n (fun r s t=>G61v1 p q r s t c d e h i j l n (fun u v w=>G62 (4:Int) (fun x y=>G176 (239:Int) a w c d e h i j l n (fun z a0 b0=>G61v1 x y z a0 b0 c d e h i j l n (fun c0 d0 e0=>G138v1 u v c0 d0 e0 c d e h i j l n (fun h0 i0 j0=>G63v1 h0 i0 (16:Int) j0 c d e h i j l n (fun l0 n0 o0=>o l0 n0 o0))))))))
def g144{α:Type}(m:Nat):S_g144 α:=
 g144b (g62 m) (g176 m) (g61v1 m) (g138v1 m) (g63v1 m)
def g144tp:List TP:=[(.vl (.sv (.ptr 0 0))),tI]
def g144bp:List BP:=[bA,(false,[(.seqv rN)]),(false,[(.mp rP mW)]),(false,[(.gro rP)])]
def g144K{α:Type}(G:S_g144 α)(ls:List Lf)(k:KRe α):Option α:=
 G (lf ls 0).int (lf ls 1).bool (lf ls 2).nat (lf ls 3).nat (lf ls 4).nat (lf ls 5).int (lf ls 6).nat ((lf ls 7).lst rN) ((lf ls 8).map rP mW) ((lf ls 9).lst rP)
  (fun c d e=>k (.vl (.agg [(.one (.bool c)),(.seq uU 6 d)])) [[(.one (.bool e)),(.one (.slc 1 0 5 (lf ls 2).nat (lf ls 3).nat (lf ls 4).nat)),(.one (.mpp 2)),(.one (.gsl 3 2)),(.one (.int .i64 (lf ls 5).int))],[(.seq rN (lf ls 6).nat ((lf ls 7).lst rN))],[(.mp rP mW ((lf ls 8).map rP mW))],[(.gro rP ((lf ls 9).lst rP))]] [])
def g144R{α:Type}(G:S_g144 α):=rowK g144tp g144bp (g144K G)
def g144hd(G62:Al S_g62)(G176:Al S_g176)(G61v1:Al S_g61v1)(G138v1:Al S_g138v1)(G63v1:Al S_g63v1):Hd where
 call:=fun f args Bs k=>cond (Nat.beq f 62) (g62R G62 args Bs k) (cond (Nat.beq f 176) (g176R G176 args Bs k) (cond (Nat.beq f 61) (g61v1R G61v1 args Bs k) (cond (Nat.beq f 138) (g138v1R G138v1 args Bs k) (cond (Nat.beq f 63) (g63v1R G63v1 args Bs k) (none)))))
 loop:=fun id st k=>none
 ro:=fun f=>cond (Nat.beq f 61) [1,2,3] (cond (Nat.beq f 63) [1,2,3] (cond (Nat.beq f 138) [1,2,3] (cond (Nat.beq f 176) [1,2,3] ([]))))
def g144h(m:Nat):Hd:=g144hd (g62 m) (g176 m) (g61v1 m) (g138v1 m) (g63v1 m)
theorem g144Main(G62:Al S_g62)(G176:Al S_g176)(G61v1:Al S_g61v1)(G138v1:Al S_g138v1)(G63v1:Al S_g63v1){α:Type}(ls:List Lf)(k:KRe α):
  g144K (g144b G62 G176 G61v1 G138v1 G63v1) ls k=evFun tab (g144hd G62 G176 G61v1 G138v1 G63v1) Tryz.f144 (fT g144tp ls) (fB g144tp g144bp ls) k:=by kernel_rfl
theorem g144Calls(m:Nat):(g144h m).CallsOk Tryz.prog:=(cok_cons (g62Ok m) (cok_cons (g176Ok m) (cok_cons (g61v1Ok m) (cok_cons (g138v1Ok m) (cok_cons (g63v1Ok m) cok_nil)))))
theorem g144Ok(m:Nat):RowOk Tryz.prog 144 (fun{α}=>g144R (g144 m (α:=α))):=
 rwk (g144Calls m) (lo0 (by kernel_rfl))
  (fun _=>g144Main (g62 m) (g176 m) (g61v1 m) (g138v1 m) (g63v1 m))
abbrev S_g145(α:Type):Type:=Int→Bool→Nat→Nat→Nat→Int→Nat→Ty0→Ty4→Ty0→(Bool→(List Int)→Bool→Option α)→Option α
abbrev S_g145l0(α:Type):Type:=Nat→Nat→Nat→Int→Nat→Ty0→Ty4→Ty0→Bool→(List Int)→(Bool→Bool→(List Int)→Option α)→Int→Bool→(List Int)→Bool→(List Int)→Option α
def g145l0b{α:Type}(G65:Al S_g65)(G137v1:Al S_g137v1)(G104:Al S_g104)(a b c:Nat)(d:Int)(e:Nat)(h:Ty0)(i:Ty4)(j:Ty0)(l:Bool)(n:List Int)(o:Bool→Bool→(List Int)→Option α)(p:Int→Bool→(List Int)→Bool→(List Int)→Option α)(q:Int)(r:Bool)(s:List Int)(t:Bool)(u:List Int):Option α:=cond (!(eqLI s [0,0,0,0,0,0])) (G65 false s (fun v=>G137v1 t u v s r a b c d e h i j (fun w x y=>G104 s q (fun z a0=>p (IntKind.wrap .u32 (q+(1:Int))) y z w x)))) (o r t u)
def g145l0{α:Type}(G65:Al S_g65)(G137v1:Al S_g137v1)(G104:Al S_g104)(a b c:Nat)(d:Int)(e:Nat)(h:Ty0)(i:Ty4)(j:Ty0)(l:Bool)(n:List Int)(o:Bool→Bool→(List Int)→Option α):Nat→Int→Bool→(List Int)→Bool→(List Int)→Option α
 |0=>fun _ _ _ _ _=>none
 |m+1=>fun p q r s t=>g145l0b G65 G137v1 G104 a b c d e h i j l n o (g145l0 G65 G137v1 G104 a b c d e h i j l n o m) p q r s t
def g145l0M{α:Type}(m:Nat):S_g145l0 α:=
 fun a b c d e h i j l n o p q r s t=>g145l0 (g65 m) (g137v1 m) (g104 m) a b c d e h i j l n o m p q r s t
def g145l0D:LoopD:={n:=36,low:=[0,1,2,3],sl:=[0,4,5,6,7],bl:=[0,1,2,3,1000004,1000005,1000006],tp:=[(.vl (.sv (.ptr 0 0))),(.vl (.sv (.ptr 1000004 0))),(.vl (.sv (.ptr 1000005 0))),(.vl (.sv (.ptr 1000006 0))),(.vl (.sv (.int .u32)))],bp:=[bA,(false,[(.seqv rN)]),(false,[(.mp rP mW)]),(false,[(.gro rP)]),(true,[(.one .bool),(.seq uU 6)]),b6,(true,[(.one .bool),(.seq uU 6)])],xs:=[(2,[0,4,6])]}
def g145l0K{α:Type}(L:S_g145l0 α)(ls:List Lf)(k:KEx α):Option α:=
 L (lf ls 2).nat (lf ls 3).nat (lf ls 4).nat (lf ls 5).int (lf ls 6).nat ((lf ls 7).lst rN) ((lf ls 8).map rP mW) ((lf ls 9).lst rP) (lf ls 10).bool ((lf ls 11).lst uU)
  (fun c d e=>k .normal (mkSt 36 [0,4,6] [(.vl (.sv (.ptr 0 0))),(.vl (.sv (.ptr 1000004 0))),(.vl (.sv (.ptr 1000005 0)))] [0,1,2,3,1000004,1000005] [(true,[(.one (.bool c)),(.one (.slc 1 0 5 (lf ls 2).nat (lf ls 3).nat (lf ls 4).nat)),(.one (.mpp 2)),(.one (.gsl 3 2)),(.one (.int .i64 (lf ls 5).int))]),(false,[(.seq rN (lf ls 6).nat ((lf ls 7).lst rN))]),(false,[(.mp rP mW ((lf ls 8).map rP mW))]),(false,[(.gro rP ((lf ls 9).lst rP))]),(true,[(.one (.bool (lf ls 10).bool)),(.seq uU 6 ((lf ls 11).lst uU))]),(true,[(.one (.bool d)),(.seq uU 6 e)])]))
  (lf ls 0).int (lf ls 1).bool ((lf ls 12).lst uU) (lf ls 13).bool ((lf ls 14).lst uU)
def g145b{α:Type}(G98:Al S_g98)(G99:Al S_g99)(G65:Al S_g65)(G137v1:Al S_g137v1)(G104:Al S_g104)(G63v1:Al S_g63v1)(L145l0:Al S_g145l0)(a:Int)(b:Bool)(c d e:Nat)(h:Int)(i:Nat)(j:Ty0)(l:Ty4)(n:Ty0)(o:Bool→(List Int)→Bool→Option α):Option α:=G98 (fun p=>G99 p (IntKind.wrap .i64 (a+(16:Int))) (fun q=>L145l0 c d e h i j l n false [0,0,0,0,0,0] (fun r s t=>G63v1 s t (16:Int) r c d e h i j l n (fun u v w=>o u v w)) (1:Int) b q false [0,0,0,0,0,0]))
def g145{α:Type}(m:Nat):S_g145 α:=
 g145b (g98 m) (g99 m) (g65 m) (g137v1 m) (g104 m) (g63v1 m) (g145l0M m)
def g145tp:List TP:=[(.vl (.sv (.ptr 0 0))),tI]
def g145bp:List BP:=[bA,(false,[(.seqv rN)]),(false,[(.mp rP mW)]),(false,[(.gro rP)])]
def g145K{α:Type}(G:S_g145 α)(ls:List Lf)(k:KRe α):Option α:=
 G (lf ls 0).int (lf ls 1).bool (lf ls 2).nat (lf ls 3).nat (lf ls 4).nat (lf ls 5).int (lf ls 6).nat ((lf ls 7).lst rN) ((lf ls 8).map rP mW) ((lf ls 9).lst rP)
  (fun c d e=>k (.vl (.agg [(.one (.bool c)),(.seq uU 6 d)])) [[(.one (.bool e)),(.one (.slc 1 0 5 (lf ls 2).nat (lf ls 3).nat (lf ls 4).nat)),(.one (.mpp 2)),(.one (.gsl 3 2)),(.one (.int .i64 (lf ls 5).int))],[(.seq rN (lf ls 6).nat ((lf ls 7).lst rN))],[(.mp rP mW ((lf ls 8).map rP mW))],[(.gro rP ((lf ls 9).lst rP))]] [])
def g145R{α:Type}(G:S_g145 α):=rowK g145tp g145bp (g145K G)
def g145hd(G98:Al S_g98)(G99:Al S_g99)(G65:Al S_g65)(G137v1:Al S_g137v1)(G104:Al S_g104)(G63v1:Al S_g63v1)(L145l0:Al S_g145l0):Hd where
 call:=fun f args Bs k=>cond (Nat.beq f 98) (g98R G98 args Bs k) (cond (Nat.beq f 99) (g99R G99 args Bs k) (cond (Nat.beq f 65) (g65R G65 args Bs k) (cond (Nat.beq f 137) (g137v1R G137v1 args Bs k) (cond (Nat.beq f 104) (g104R G104 args Bs k) (cond (Nat.beq f 63) (g63v1R G63v1 args Bs k) (none))))))
 loop:=fun id st k=>cond (Nat.beq id 0) (loopH g145l0D (g145l0K L145l0) st k) (none)
 ro:=fun f=>cond (Nat.beq f 63) [1,2,3] (cond (Nat.beq f 137) [1,2,3] ([]))
def g145h(m:Nat):Hd:=g145hd (g98 m) (g99 m) (g65 m) (g137v1 m) (g104 m) (g63v1 m) (g145l0M m)
theorem g145l0Step(G98:Al S_g98)(G99:Al S_g99)(G65:Al S_g65)(G137v1:Al S_g137v1)(G104:Al S_g104)(G63v1:Al S_g63v1)(L145l0:Al S_g145l0){α:Type}(L:S_g145l0 α)(ls:List Lf)(k:KEx α):
  g145l0K (fun a b c d e h i j l n o p q r s t=>g145l0b G65 G137v1 G104 a b c d e h i j l n o (L a b c d e h i j l n o) p q r s t) ls k=ev tab (g145hd G98 G99 G65 G137v1 G104 G63v1 L145l0) (bodyAt Tryz.f145 0) (atHead g145l0D ls) (loopK g145l0D 0 (loopH g145l0D (g145l0K L)) k):=by kernel_rfl
theorem g145Main(G98:Al S_g98)(G99:Al S_g99)(G65:Al S_g65)(G137v1:Al S_g137v1)(G104:Al S_g104)(G63v1:Al S_g63v1)(L145l0:Al S_g145l0){α:Type}(ls:List Lf)(k:KRe α):
  g145K (g145b G98 G99 G65 G137v1 G104 G63v1 L145l0) ls k=evFun tab (g145hd G98 G99 G65 G137v1 G104 G63v1 L145l0) Tryz.f145 (fT g145tp ls) (fB g145tp g145bp ls) k:=by kernel_rfl
theorem g145Calls(m:Nat):(g145h m).CallsOk Tryz.prog:=(cok_cons (g98Ok m) (cok_cons (g99Ok m) (cok_cons (g65Ok m) (cok_cons (g137v1Ok m) (cok_cons (g104Ok m) (cok_cons (g63v1Ok m) cok_nil))))))
theorem g145l0Ok(m:Nat)(α:Type)(st:St)(k:KEx α)(r:α)(h:(g145h m).loop 0 st k=some r):
  LoopS Tryz.prog 0 (bodyAt Tryz.f145 0) st k r:=
 lpk (F:=fun n ls k=>g145l0K (fun a b c d e i j l o q s t u v w x=>g145l0 (g65 m) (g137v1 m) (g104 m) a b c d e i j l o q s n t u v w x) ls k) (g145Calls m) (lb0 (by kernel_rfl))
  (fun _ _=>rfl) (fun n ls k=>g145l0Step (g98 m) (g99 m) (g65 m) (g137v1 m) (g104 m) (g63v1 m) (g145l0M m) (fun a b c d e i j l o q s=>g145l0 (g65 m) (g137v1 m) (g104 m) a b c d e i j l o q s n) ls k) (n:=m) h
theorem g145Ok(m:Nat):RowOk Tryz.prog 145 (fun{α}=>g145R (g145 m (α:=α))):=
 rwk (g145Calls m) (lo1 (by kernel_rfl) (g145l0Ok m))
  (fun _=>g145Main (g98 m) (g99 m) (g65 m) (g137v1 m) (g104 m) (g63v1 m) (g145l0M m))
abbrev S_g91(α:Type):Type:=Int→Int→Int→Int→Int→Int→Bool→Nat→Nat→Nat→Int→Nat→Ty0→Ty4→Ty0→(Bool→(List Int)→Bool→Nat→Nat→Nat→Int→Ty4→Ty0→Option α)→Option α
def g91b{α:Type}(G62:Al S_g62)(G135v1:Al S_g135v1)(G134v1:Al S_g134v1)(G136:Al S_g136)(G137v1:Al S_g137v1)(G63v1:Al S_g63v1)(G138v1:Al S_g138v1)(G54:Al S_g54)(G139:Al S_g139)(G65:Al S_g65)(G140:Al S_g140)(G141:Al S_g141)(G142:Al S_g142)(G143:Al S_g143)(G144:Al S_g144)(G145:Al S_g145)(a b:Int)(c d:Int)(e h:Int)(i:Bool)(j l n:Nat)(o:Int)(p:Nat)(q:Ty0)(r:Ty4)(s:Ty0)(t:Bool→(List Int)→Bool→Nat→Nat→Nat→Int→Ty4→Ty0→Option α):Option α:=cond (a==(1:Int)) (G62 d (fun u v=>G135v1 u v h i j l n o p q r s (fun w x y=>G62 e (fun z a0=>G134v1 w x z a0 y j l n o p q r s (fun b0 c0 d0=>t b0 c0 d0 j l n o r s))))) (cond (a==(2:Int)) (G136 a b c d e (IntKind.wrap .i64 (h+(2:Int))) i j l n o p q r s (fun e0 h0 i0 j0 l0 n0 o0 p0 q0 r0 s0=>G137v1 e0 h0 i0 j0 l0 n0 o0 p0 q0 p q r0 s0 (fun t0 u0 v0=>G63v1 t0 u0 (2:Int) v0 n0 o0 p0 q0 p q r0 s0 (fun w0 x0 y0=>t w0 x0 y0 n0 o0 p0 q0 r0 s0)))) (cond (a==(3:Int)) (G136 a b c d e (IntKind.wrap .i64 (h+(2:Int))) i j l n o p q r s (fun z0 a1 b1 c1 d1 e1 h1 i1 j1 l1 n1=>G138v1 z0 a1 b1 c1 d1 e1 h1 i1 j1 p q l1 n1 (fun o1 p1 q1=>G63v1 o1 p1 (2:Int) q1 e1 h1 i1 j1 p q l1 n1 (fun r1 s1 t1=>t r1 s1 t1 e1 h1 i1 j1 l1 n1)))) (cond (a==(6:Int)) (G54 b h i j l n o p q r s (fun u1 v1 w1 x1 y1 z1 a2 b2 c2 d2 e2=>G139 u1 v1 (fun h2=>t h2 v1 w1 x1 y1 z1 a2 d2 e2))) (cond (a==(7:Int)) (G54 b h i j l n o p q r s (fun i2 j2 l2 n2 o2 p2 q2 r2 s2 t2 u2=>G65 false j2 (fun v2=>t v2 j2 l2 n2 o2 p2 q2 t2 u2))) (cond (a==(8:Int)) (G136 a b c d e h i j l n o p q r s (fun w2 x2 y2 z2 a3 b3 c3 d3 e3 h3 i3=>G140 w2 x2 y2 z2 (fun j3=>cond ((decide (j3≤(0:Int)))==(a==(8:Int))) (t w2 x2 a3 b3 c3 d3 e3 h3 i3) (t y2 z2 a3 b3 c3 d3 e3 h3 i3)))) (cond (a==(9:Int)) (G136 a b c d e h i j l n o p q r s (fun l3 n3 o3 p3 q3 r3 s3 t3 u3 v3 w3=>G140 l3 n3 o3 p3 (fun x3=>cond ((decide (x3≤(0:Int)))==(a==(8:Int))) (t l3 n3 q3 r3 s3 t3 u3 v3 w3) (t o3 p3 q3 r3 s3 t3 u3 v3 w3)))) (cond (a==(4:Int)) (G141 a b c d e h i j l n o p q r s (fun y3 z3 a4 b4 c4 d4 e4 h4 i4=>t y3 z3 a4 b4 c4 d4 e4 h4 i4)) (cond (a==(5:Int)) (G142 a b c d e h i j l n o p q r s (fun j4 l4 n4 o4 p4 q4 r4 s4 t4=>t j4 l4 n4 o4 p4 q4 r4 s4 t4)) (cond (a==(10:Int)) (G54 b (IntKind.wrap .i64 ((IntKind.wrap .i64 ((2:Int)*h))+(6:Int))) i j l n o p q r s (fun u4 v4 w4 x4 y4 z4 a5 b5 c5 d5 e5=>cond u4 (t false [0,0,0,0,0,0] w4 x4 y4 z4 a5 d5 e5) (G143 v4 (fun h5=>G65 false h5 (fun i5=>G63v1 i5 h5 (3:Int) w4 x4 y4 z4 a5 p q d5 e5 (fun j5 l5 n5=>t j5 l5 n5 x4 y4 z4 a5 d5 e5)))))) (cond (a==(11:Int)) (G144 h i j l n o p q r s (fun o5 p5 q5=>t o5 p5 q5 j l n o r s)) (G145 h i j l n o p q r s (fun r5 s5 t5=>t r5 s5 t5 j l n o r s))))))))))))
def g91(A54:Al S_g54){α:Type}(m:Nat):S_g91 α:=
 g91b (g62 m) (g135v1 m) (g134v1 m) (g136 A54 m) (g137v1 m) (g63v1 m) (g138v1 m) A54 (g139 m) (g65 m) (g140 m) (g141 A54 m) (g142 A54 m) (g143 m) (g144 m) (g145 m)
def g91tp:List TP:=[(.vl (.sv (.ptr 0 0))),(.vl (.agg [(.one (.int .i8)),(.one (.int .i16)),(.one (.int .i16)),(.one (.int .i64)),(.one (.int .i64))])),tI]
def g91bp:List BP:=[bA,(false,[(.seqv rN)]),(true,[(.mp rP mW)]),(true,[(.gro rP)])]
def g91K{α:Type}(G:S_g91 α)(ls:List Lf)(k:KRe α):Option α:=
 G (lf ls 0).int (lf ls 1).int (lf ls 2).int (lf ls 3).int (lf ls 4).int (lf ls 5).int (lf ls 6).bool (lf ls 7).nat (lf ls 8).nat (lf ls 9).nat (lf ls 10).int (lf ls 11).nat ((lf ls 12).lst rN) ((lf ls 13).map rP mW) ((lf ls 14).lst rP)
  (fun c d e h i j l n o=>k (.vl (.agg [(.one (.bool c)),(.seq uU 6 d)])) [[(.one (.bool e)),(.one (.slc 1 0 5 h i j)),(.one (.mpp 2)),(.one (.gsl 4 2)),(.one (.int .i64 l))],[(.seq rN (lf ls 11).nat ((lf ls 12).lst rN))],[(.mp rP mW n)],[]] [[(.gro rP o)]])
def g91R{α:Type}(G:S_g91 α):=rowK g91tp g91bp (g91K G)
def g91hd(G62:Al S_g62)(G135v1:Al S_g135v1)(G134v1:Al S_g134v1)(G136:Al S_g136)(G137v1:Al S_g137v1)(G63v1:Al S_g63v1)(G138v1:Al S_g138v1)(G54:Al S_g54)(G139:Al S_g139)(G65:Al S_g65)(G140:Al S_g140)(G141:Al S_g141)(G142:Al S_g142)(G143:Al S_g143)(G144:Al S_g144)(G145:Al S_g145):Hd where
 call:=fun f args Bs k=>cond (Nat.beq f 62) (g62R G62 args Bs k) (cond (Nat.beq f 135) (g135v1R G135v1 args Bs k) (cond (Nat.beq f 134) (g134v1R G134v1 args Bs k) (cond (Nat.beq f 136) (g136R G136 args Bs k) (cond (Nat.beq f 137) (g137v1R G137v1 args Bs k) (cond (Nat.beq f 63) (g63v1R G63v1 args Bs k) (cond (Nat.beq f 138) (g138v1R G138v1 args Bs k) (cond (Nat.beq f 54) (g54R G54 args Bs k) (cond (Nat.beq f 139) (g139R G139 args Bs k) (cond (Nat.beq f 65) (g65R G65 args Bs k) (cond (Nat.beq f 140) (g140R G140 args Bs k) (cond (Nat.beq f 141) (g141R G141 args Bs k) (cond (Nat.beq f 142) (g142R G142 args Bs k) (cond (Nat.beq f 143) (g143R G143 args Bs k) (cond (Nat.beq f 144) (g144R G144 args Bs k) (cond (Nat.beq f 145) (g145R G145 args Bs k) (none))))))))))))))))
 loop:=fun id st k=>none
 ro:=fun f=>cond (Nat.beq f 54) [1] (cond (Nat.beq f 63) [1,2,3] (cond (Nat.beq f 134) [1,2,3] (cond (Nat.beq f 135) [1,2,3] (cond (Nat.beq f 136) [1] (cond (Nat.beq f 137) [1,2,3] (cond (Nat.beq f 138) [1,2,3] (cond (Nat.beq f 141) [1] (cond (Nat.beq f 142) [1] (cond (Nat.beq f 144) [1,2,3] (cond (Nat.beq f 145) [1,2,3] ([])))))))))))
def g91h(A54:Al S_g54)(m:Nat):Hd:=g91hd (g62 m) (g135v1 m) (g134v1 m) (g136 A54 m) (g137v1 m) (g63v1 m) (g138v1 m) A54 (g139 m) (g65 m) (g140 m) (g141 A54 m) (g142 A54 m) (g143 m) (g144 m) (g145 m)
theorem g91Main(G62:Al S_g62)(G135v1:Al S_g135v1)(G134v1:Al S_g134v1)(G136:Al S_g136)(G137v1:Al S_g137v1)(G63v1:Al S_g63v1)(G138v1:Al S_g138v1)(G54:Al S_g54)(G139:Al S_g139)(G65:Al S_g65)(G140:Al S_g140)(G141:Al S_g141)(G142:Al S_g142)(G143:Al S_g143)(G144:Al S_g144)(G145:Al S_g145){α:Type}(ls:List Lf)(k:KRe α):
  g91K (g91b G62 G135v1 G134v1 G136 G137v1 G63v1 G138v1 G54 G139 G65 G140 G141 G142 G143 G144 G145) ls k=evFunM tab (g91hd G62 G135v1 G134v1 G136 G137v1 G63v1 G138v1 G54 G139 G65 G140 G141 G142 G143 G144 G145) Tryz.f91 3 (fT g91tp ls) (fB g91tp g91bp ls) k:=by kernel_rfl
theorem g91Calls(A54:Al S_g54)(hA54:HA54 A54)(m:Nat):(g91h A54 m).CallsOk Tryz.prog:=(cok_cons (g62Ok m) (cok_cons (g135v1Ok m) (cok_cons (g134v1Ok m) (cok_cons (g136Ok A54 hA54 m) (cok_cons (g137v1Ok m) (cok_cons (g63v1Ok m) (cok_cons (g138v1Ok m) (cok_cons hA54 (cok_cons (g139Ok m) (cok_cons (g65Ok m) (cok_cons (g140Ok m) (cok_cons (g141Ok A54 hA54 m) (cok_cons (g142Ok A54 hA54 m) (cok_cons (g143Ok m) (cok_cons (g144Ok m) (cok_cons (g145Ok m) cok_nil))))))))))))))))
theorem g91Fn(A54:Al S_g54)(hA54:HA54 A54)(m:Nat):FnOk Tryz.prog 91 g91tp g91bp (fun{α}=>g91K (g91 A54 m (α:=α))):=
 fn_okM (tab:=tab) (h:=g91h A54 m) (fn:=Tryz.f91) (F:=fun{α}=>g91K (g91 A54 m (α:=α))) tabOk (g91Calls A54 hA54 m) mixed (by kernel_rfl) (by kernel_rfl) (fun c hc=>by
  rw[bodyOf_some hc]
  exact loopsOk_of _ (fun p hp=>by rw[show loopsOf (bodyOf Tryz.f91)=[] by kernel_rfl] at hp;cases hp))
  (fun _=>g91Main (g62 m) (g135v1 m) (g134v1 m) (g136 A54 m) (g137v1 m) (g63v1 m) (g138v1 m) A54 (g139 m) (g65 m) (g140 m) (g141 A54 m) (g142 A54 m) (g143 m) (g144 m) (g145 m))
theorem g91Ok(A54:Al S_g54)(hA54:HA54 A54)(m:Nat):RowOk Tryz.prog 91 (fun{α}=>g91R (g91 A54 m (α:=α))):=row_of (g91Fn A54 hA54 m)
def g54b{α:Type}(G55:Al S_g55)(G91:Al S_g91)(c d:Int)(e:Bool)(h i j:Nat)(l:Int)(n:Nat)(o:Ty0)(p:Ty4)(q:Ty0)(r:Bool→(List Int)→Bool→Nat→Nat→Nat→Int→Nat→Ty0→Ty4→Ty0→Option α):Option α:=G55 e h i j l n o p q (fun s t=>cond s (r false [0,0,0,0,0,0] e h i j t n o p q) (cond (decide (d>(160:Int))) (r false [0,0,0,0,0,0] e h i j (3:Int) n o p q) (let u:Int:=IntKind.wrap .i16 d;let v:Ty5:=mval [.i16, .i16] mW p [c,u];cond (mhas [.i16, .i16] p [c,u]) (r (v.1) (padI 6 v.2.1) e h i j t n o p q) (if q.length+1≤67108864 then if 0≤c∧c<(i:Nat) then if(h+c.toNat)<n then G91 ((List.getD o (h+c.toNat) []).headD 0) ((List.getD o (h+c.toNat) []).tail.headD 0) ((List.getD o (h+c.toNat) []).tail.tail.headD 0) ((List.getD o (h+c.toNat) []).tail.tail.tail.headD 0) ((List.getD o (h+c.toNat) []).tail.tail.tail.tail.headD 0) d e h i j t n o p (q++[[c,u]]) (fun w x y z a0 b0 c0 d0 e0=>G55 y z a0 b0 c0 n o d0 e0 (fun h0 i0=>cond h0 (r false [0,0,0,0,0,0] y z a0 b0 i0 n o d0 e0) (r w x y z a0 b0 i0 n o (mput [.i16, .i16] d0 [c,u] (w,x,())) e0))) else none else none else none))))
noncomputable def g54(m:Nat):Al S_g54:=
 Nat.rec (motive:=fun _=>Al S_g54) (fun{α}=>fun _ _ _ _ _ _ _ _ _ _ _ _=>none) (fun m ih {α}=>g54b (g55 m) (g91 ih m)) m
def g54hd(G55:Al S_g55)(G91:Al S_g91):Hd where
 call:=fun f args Bs k=>cond (Nat.beq f 55) (g55R G55 args Bs k) (cond (Nat.beq f 91) (g91R G91 args Bs k) (none))
 loop:=fun id st k=>none
 ro:=fun f=>cond (Nat.beq f 55) [1,2,3] (cond (Nat.beq f 91) [1] ([]))
def g54h(A54:Al S_g54)(m:Nat):Hd:=g54hd (g55 m) (g91 A54 m)
theorem g54Main(G55:Al S_g55)(G91:Al S_g91){α:Type}(ls:List Lf)(k:KRe α):
  g54K (g54b G55 G91) ls k=evFunM tab (g54hd G55 G91) Tryz.f54 3 (fT g54tp ls) (fB g54tp g54bp ls) k:=by kernel_rfl
theorem g54Calls(A54:Al S_g54)(hA54:HA54 A54)(m:Nat):(g54h A54 m).CallsOk Tryz.prog:=(cok_cons (g55Ok m) (cok_cons (g91Ok A54 hA54 m) cok_nil))
theorem g54FnS(m:Nat)(hA:RowOk Tryz.prog 54 (fun{α}=>g54R (g54 m (α:=α)))):FnOk Tryz.prog 54 g54tp g54bp (fun{α}=>g54K (g54 (m+1) (α:=α))):=
 fn_okM (tab:=tab) (h:=g54h (g54 m) m) (fn:=Tryz.f54) (F:=fun{α}=>g54K (g54 (m+1) (α:=α))) tabOk (g54Calls (g54 m) hA m) mixed (by kernel_rfl) (by kernel_rfl) (fun c hc=>by
  rw[bodyOf_some hc]
  exact loopsOk_of _ (fun p hp=>by rw[show loopsOf (bodyOf Tryz.f54)=[] by kernel_rfl] at hp;cases hp))
  (fun _=>g54Main (g55 m) (g91 (g54 m) m))
theorem g54Fn:∀m:Nat,FnOk Tryz.prog 54 g54tp g54bp (fun{α}=>g54K (g54 m (α:=α)))
 |0=>fun α ls k r h=>nomatch (show(none:Option α)=some r from h)
 |m+1=>g54FnS m (row_of (g54Fn m))
theorem g54Ok(m:Nat):RowOk Tryz.prog 54 (fun{α}=>g54R (g54 m (α:=α))):=row_of (g54Fn m)
abbrev S_g103(α:Type):Type:=Bool→(List Int)→(Bool→Option α)→Option α
def g103b{α:Type}(a:Bool)(b:List Int)(c:Bool→Option α):Option α:=cond (!a) (c true) (c (!(eqLI b [0,0,0,0,0,0])))
def g103{α:Type}(m:Nat):S_g103 α:=
 g103b
def g103tp:List TP:=[vW]
def g103bp:List BP:=[]
def g103K{α:Type}(G:S_g103 α)(ls:List Lf)(k:KRe α):Option α:=
 G (lf ls 0).bool ((lf ls 1).lst uU)
  (fun a=>k (.vl (.sv (.bool a))) [] [])
def g103R{α:Type}(G:S_g103 α):=rowK g103tp g103bp (g103K G)
def g103hd:Hd where
 call:=fun f args Bs k=>none
 loop:=fun id st k=>none
 ro:=fun f=>[]
def g103h(m:Nat):Hd:=g103hd
theorem g103Main{α:Type}(ls:List Lf)(k:KRe α):
  g103K (g103b) ls k=evFun tab (g103hd) Tryz.f103 (fT g103tp ls) (fB g103tp g103bp ls) k:=by kernel_rfl
theorem g103Calls(m:Nat):(g103h m).CallsOk Tryz.prog:=cok_nil
theorem g103Ok(m:Nat):RowOk Tryz.prog 103 (fun{α}=>g103R (g103 m (α:=α))):=
 rwk (g103Calls m) (lo0 (by kernel_rfl))
  (fun _=>g103Main)
abbrev S_g189(α:Type):Type:=Int→(Int→Option α)→Option α
def g189b{α:Type}(a:Int)(b:Int→Option α):Option α:=cond (decide (a≥(4294967296:Int))) (let c:Int:=Int.fdiv a (2^32);cond (decide (c≥(65536:Int))) (let d:Int:=Int.fdiv c (2^16);cond (decide (d≥(256:Int))) (let e:Int:=IntKind.wrap .u8 (Int.fdiv d (2^8));if 0≤e∧e<strC0.size then b (IntKind.wrap .i64 ((56:Int)+(IntKind.wrap .i64 (byteAt strC0 e.toNat)))) else none) (let h:Int:=IntKind.wrap .u8 d;if 0≤h∧h<strC0.size then b (IntKind.wrap .i64 ((48:Int)+(IntKind.wrap .i64 (byteAt strC0 h.toNat)))) else none)) (cond (decide (c≥(256:Int))) (let i:Int:=IntKind.wrap .u8 (Int.fdiv c (2^8));if 0≤i∧i<strC0.size then b (IntKind.wrap .i64 ((40:Int)+(IntKind.wrap .i64 (byteAt strC0 i.toNat)))) else none) (let j:Int:=IntKind.wrap .u8 c;if 0≤j∧j<strC0.size then b (IntKind.wrap .i64 ((32:Int)+(IntKind.wrap .i64 (byteAt strC0 j.toNat)))) else none))) (cond (decide (a≥(65536:Int))) (let l:Int:=Int.fdiv a (2^16);cond (decide (l≥(256:Int))) (let n:Int:=IntKind.wrap .u8 (Int.fdiv l (2^8));if 0≤n∧n<strC0.size then b (IntKind.wrap .i64 ((24:Int)+(IntKind.wrap .i64 (byteAt strC0 n.toNat)))) else none) (let o:Int:=IntKind.wrap .u8 l;if 0≤o∧o<strC0.size then b (IntKind.wrap .i64 ((16:Int)+(IntKind.wrap .i64 (byteAt strC0 o.toNat)))) else none)) (cond (decide (a≥(256:Int))) (let p:Int:=IntKind.wrap .u8 (Int.fdiv a (2^8));if 0≤p∧p<strC0.size then b (IntKind.wrap .i64 ((8:Int)+(IntKind.wrap .i64 (byteAt strC0 p.toNat)))) else none) (let q:Int:=IntKind.wrap .u8 a;if 0≤q∧q<strC0.size then b (IntKind.wrap .i64 ((0:Int)+(IntKind.wrap .i64 (byteAt strC0 q.toNat)))) else none)))
def g189{α:Type}(m:Nat):S_g189 α:=
 g189b
def g189tp:List TP:=[(.vl (.sv (.int .u64)))]
def g189bp:List BP:=[]
def g189K{α:Type}(G:S_g189 α)(ls:List Lf)(k:KRe α):Option α:=
 G (lf ls 0).int
  (fun a=>k (.vl (.sv (.int .i64 a))) [] [])
def g189R{α:Type}(G:S_g189 α):=rowK g189tp g189bp (g189K G)
def g189hd:Hd where
 call:=fun f args Bs k=>none
 loop:=fun id st k=>none
 ro:=fun f=>[]
def g189h(m:Nat):Hd:=g189hd
theorem g189Main{α:Type}(ls:List Lf)(k:KRe α):
  g189K (g189b) ls k=evFun tab (g189hd) Tryz.f189 (fT g189tp ls) (fB g189tp g189bp ls) k:=by kernel_rfl
theorem g189Calls(m:Nat):(g189h m).CallsOk Tryz.prog:=cok_nil
theorem g189Ok(m:Nat):RowOk Tryz.prog 189 (fun{α}=>g189R (g189 m (α:=α))):=
 rwk (g189Calls m) (lo0 (by kernel_rfl))
  (fun _=>g189Main)
abbrev S_g188(α:Type):Type:=Int→(Int→Option α)→Option α
def g188b{α:Type}(a:Int)(b:Int→Option α):Option α:=b (Int.fdiv (IntKind.wrap .i64 (a*(78913:Int))) (2^18))
def g188{α:Type}(m:Nat):S_g188 α:=
 g188b
def g188tp:List TP:=[tI]
def g188bp:List BP:=[]
def g188K{α:Type}(G:S_g188 α)(ls:List Lf)(k:KRe α):Option α:=
 G (lf ls 0).int
  (fun a=>k (.vl (.sv (.int .i64 a))) [] [])
def g188R{α:Type}(G:S_g188 α):=rowK g188tp g188bp (g188K G)
def g188hd:Hd where
 call:=fun f args Bs k=>none
 loop:=fun id st k=>none
 ro:=fun f=>[]
def g188h(m:Nat):Hd:=g188hd
theorem g188Main{α:Type}(ls:List Lf)(k:KRe α):
  g188K (g188b) ls k=evFun tab (g188hd) Tryz.f188 (fT g188tp ls) (fB g188tp g188bp ls) k:=by kernel_rfl
theorem g188Calls(m:Nat):(g188h m).CallsOk Tryz.prog:=cok_nil
theorem g188Ok(m:Nat):RowOk Tryz.prog 188 (fun{α}=>g188R (g188 m (α:=α))):=
 rwk (g188Calls m) (lo0 (by kernel_rfl))
  (fun _=>g188Main)
abbrev S_g190(α:Type):Type:=Bool→(Int→Option α)→Option α
def g190b{α:Type}(a:Bool)(b:Int→Option α):Option α:=cond a (b (1:Int)) (b (0:Int))
def g190{α:Type}(m:Nat):S_g190 α:=
 g190b
def g190tp:List TP:=[(.vl (.sv .bool))]
def g190bp:List BP:=[]
def g190K{α:Type}(G:S_g190 α)(ls:List Lf)(k:KRe α):Option α:=
 G (lf ls 0).bool
  (fun a=>k (.vl (.sv (.int .i64 a))) [] [])
def g190R{α:Type}(G:S_g190 α):=rowK g190tp g190bp (g190K G)
def g190hd:Hd where
 call:=fun f args Bs k=>none
 loop:=fun id st k=>none
 ro:=fun f=>[]
def g190h(m:Nat):Hd:=g190hd
theorem g190Main{α:Type}(ls:List Lf)(k:KRe α):
  g190K (g190b) ls k=evFun tab (g190hd) Tryz.f190 (fT g190tp ls) (fB g190tp g190bp ls) k:=by kernel_rfl
theorem g190Calls(m:Nat):(g190h m).CallsOk Tryz.prog:=cok_nil
theorem g190Ok(m:Nat):RowOk Tryz.prog 190 (fun{α}=>g190R (g190 m (α:=α))):=
 rwk (g190Calls m) (lo0 (by kernel_rfl))
  (fun _=>g190Main)
end Go.Proofs.YtlmmgjngihlpeaaGreatDoor.Sx
