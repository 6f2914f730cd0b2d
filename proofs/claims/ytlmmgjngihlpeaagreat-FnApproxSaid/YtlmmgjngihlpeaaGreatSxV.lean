/- Functions. Printed by our own sx.py. -/
import Derived.Test.YtlmmgjngihlpeaaGreatSxV2
namespace Go.Proofs.YtlmmgjngihlpeaaGreat.Sx
open Go
set_option linter.unusedVariables false
set_option maxRecDepth 100000
abbrev S_g47(α:Type):Type:=Int→Bool→Int→Int→Ty0→Ty1→Ty0→((List Int)→Bool→Int→Ty1→Ty0→Option α)→(Bool→(List Int)→Bool→Int→Ty1→(List Int)→Ty0→Option α)→Option α
abbrev S_g47l0(α:Type):Type:=Int→Int→Ty0→Bool→(List Int)→Bool→(List Int)→(Bool→Int→Ty1→(List Int)→Ty0→Option α)→(Bool→Int→Ty1→(List Int)→Ty0→Option α)→Int→Bool→Int→Ty1→Bool→(List Int)→(List Int)→Ty0→Option α
def g47l0b{α:Type}(G48:Al S_g48)(G33:Al S_g33)(G55:Al S_g55)(G54v1:Al S_g54v1)(G41v1:Al S_g41v1)(G46:Al S_g46)(G75:Al S_g75)(G53v1:Al S_g53v1)(a b:Int)(c:Ty0)(d:Bool)(e:List Int)(h:Bool)(i:List Int)(j:Bool→Int→Ty1→(List Int)→Ty0→Option α)(l:Bool→Int→Ty1→(List Int)→Ty0→Option α)(n:Int→Bool→Int→Ty1→Bool→(List Int)→(List Int)→Ty0→Option α)(o:Int)(p:Bool)(q:Int)(r:Ty1)(s:Bool)(t u:List Int)(v:Ty0):Option α:=cond (decide (o≤a)) (G48 (IntKind.wrap .i64 (o+(2:Int))) b p q c r v (fun w x y z a0 b0=>G33 y z c a0 b0 (fun c0 d0=>cond c0 (j y d0 a0 [0,0,0,0,0,0] b0) (G55 (8:Int) (fun e0 h0=>G54v1 e0 h0 s t y d0 c a0 b0 (fun i0 j0 l0=>G41v1 w x i0 j0 l0 d0 c a0 b0 (fun n0 o0 p0=>G46 o0 [(2:Int),0,0,0,0,0] (fun q0=>cond (decide (q0>(0:Int))) (G75 n0 o0 (fun r0=>let s0:Int:=IntKind.wrap .i8 r0;if u.length+1≤67108864 then G55 (2:Int) (fun t0 u0=>G54v1 t0 u0 s t p0 d0 c a0 b0 (fun v0 w0 x0=>G55 (IntKind.wrap .i64 s0) (fun y0 z0=>G53v1 v0 w0 y0 z0 x0 d0 c a0 b0 (fun a1 b1 c1=>G33 c1 d0 c a0 b0 (fun d1 e1=>cond d1 (j c1 e1 a0 [0,0,0,0,0,0] b0) (n (IntKind.wrap .i64 (o+(1:Int))) c1 e1 a0 a1 b1 (u++[s0]) b0)))))) else none)) (if u.length+1≤67108864 then G55 (2:Int) (fun h1 i1=>G54v1 h1 i1 s t p0 d0 c a0 b0 (fun j1 l1 n1=>G55 (0:Int) (fun o1 p1=>G53v1 j1 l1 o1 p1 n1 d0 c a0 b0 (fun q1 r1 s1=>G33 s1 d0 c a0 b0 (fun t1 u1=>cond t1 (j s1 u1 a0 [0,0,0,0,0,0] b0) (n (IntKind.wrap .i64 (o+(1:Int))) s1 u1 a0 q1 r1 (u++[(0:Int)]) b0)))))) else none))))))))) (l p q r u v)
def g47l0{α:Type}(G48:Al S_g48)(G33:Al S_g33)(G55:Al S_g55)(G54v1:Al S_g54v1)(G41v1:Al S_g41v1)(G46:Al S_g46)(G75:Al S_g75)(G53v1:Al S_g53v1)(a b:Int)(c:Ty0)(d:Bool)(e:List Int)(h:Bool)(i:List Int)(j:Bool→Int→Ty1→(List Int)→Ty0→Option α)(l:Bool→Int→Ty1→(List Int)→Ty0→Option α):Nat→Int→Bool→Int→Ty1→Bool→(List Int)→(List Int)→Ty0→Option α
 |0=>fun _ _ _ _ _ _ _ _=>none
 |m+1=>fun n o p q r s t u=>g47l0b G48 G33 G55 G54v1 G41v1 G46 G75 G53v1 a b c d e h i j l (g47l0 G48 G33 G55 G54v1 G41v1 G46 G75 G53v1 a b c d e h i j l m) n o p q r s t u
noncomputable def g47l0M{α:Type}(m:Nat):S_g47l0 α:=
 fun a b c d e h i j l n o p q r s t u=>g47l0 (g48 m) (g33 m) (g55 m) (g54v1 m) (g41v1 m) (g46 m) (g75 m) (g53v1 m) a b c d e h i j l m n o p q r s t u
def g47l0D:LoopD:={n:=68,low:=[0,1,2,3,4,5],sl:=[0,1,2,3,8,10,11,12,13],bl:=[0,1,2,3,4,5,1000006,1000007,1000008,1000009,1000010],tp:=[(.vl (.sv (.ptr 0 0))),tI,(.vl (.sv (.clo 48 [(1,0),(2,0)]))),(.vl (.sv (.clb 33 0 0))),(.vl (.sv (.ptr 1000006 0))),(.vl (.sv (.ptr 1000007 0))),(.vl (.sv (.ptr 1000008 0))),(.vl (.sv (.gsl 1000009 1))),tI],bp:=[(true,[(.one .bool),(.one (.gsl 3 5)),(.one (.mpp 4)),(.one (.gsl 1000010 2)),(.one (.int .i64))]),(false,[(.one (.ptr 0 0))]),(false,[(.one (.int .i64))]),(false,[(.gro rN)]),(true,[(.mp rP mW)]),(true,[]),(true,[(.one .bool),(.seq uU 6)]),(true,[(.one .bool),(.seq uU 6)]),(true,[(.one .bool),(.seq uU 6)]),(true,[(.gro (.int .i8))]),(true,[(.gro rP)])],xs:=[(1,[8,9]),(2,[8,10,12])]}
def g47l0K{α:Type}(L:S_g47l0 α)(ls:List Lf)(k:KEx α):Option α:=
 L (lf ls 0).int (lf ls 4).int ((lf ls 5).lst rN) (lf ls 7).bool ((lf ls 8).lst uU) (lf ls 9).bool ((lf ls 10).lst uU)
  (fun c d e h i=>k .ret (mkSt 68 [8,9] [(.vl (.sv (.ptr 1000006 0))),(.vl (.sv .nils))] [0,1,2,3,4,5,1000006,1000007] [(true,[(.one (.bool c)),(.one (.gsl 3 5)),(.one (.mpp 4)),(.one (.gsl 1000007 2)),(.one (.int .i64 d))]),(false,[(.one (.ptr 0 0))]),(false,[(.one (.int .i64 (lf ls 4).int))]),(false,[(.gro rN ((lf ls 5).lst rN))]),(true,[(.mp rP mW e)]),(true,[]),(true,[(.one (.bool false)),(.seq uU 6 h)]),(true,[(.gro rP i)])]))
  (fun c d e j l=>k .normal (mkSt 68 [8,10,12] [(.vl (.sv (.ptr 1000006 0))),(.vl (.sv (.ptr 1000007 0))),(.vl (.sv (.gsl 1000008 1)))] [0,1,2,3,4,5,1000006,1000007,1000008,1000009] [(true,[(.one (.bool c)),(.one (.gsl 3 5)),(.one (.mpp 4)),(.one (.gsl 1000009 2)),(.one (.int .i64 d))]),(false,[(.one (.ptr 0 0))]),(false,[(.one (.int .i64 (lf ls 4).int))]),(false,[(.gro rN ((lf ls 5).lst rN))]),(true,[(.mp rP mW e)]),(true,[]),(true,[(.one (.bool (lf ls 7).bool)),(.seq uU 6 ((lf ls 8).lst uU))]),(true,[(.one (.bool (lf ls 9).bool)),(.seq uU 6 ((lf ls 10).lst uU))]),(true,[(.gro (.int .i8) j)]),(true,[(.gro rP l)])]))
  (lf ls 1).int (lf ls 2).bool (lf ls 3).int ((lf ls 6).map rP mW) (lf ls 11).bool ((lf ls 12).lst uU) ((lf ls 13).lst (.int .i8)) ((lf ls 14).lst rP)
def g47b{α:Type}(G48:Al S_g48)(G74v1:Al S_g74v1)(G33:Al S_g33)(G55:Al S_g55)(G54v1:Al S_g54v1)(G41v1:Al S_g41v1)(G46:Al S_g46)(G75:Al S_g75)(G53v1:Al S_g53v1)(L47l0:Al S_g47l0)(a:Int)(b:Bool)(c d:Int)(e:Ty0)(h:Ty1)(i:Ty0)(j:(List Int)→Bool→Int→Ty1→Ty0→Option α)(l:Bool→(List Int)→Bool→Int→Ty1→(List Int)→Ty0→Option α):Option α:=G48 (2:Int) d b c e h i (fun n o p q r s=>G74v1 n o (2:Int) p q e r s (fun t u v=>L47l0 a d e false [0,0,0,0,0,0] t u (fun w x y z a0=>j z w x y a0) (fun b0 c0 d0 e0 h0=>l t u b0 c0 d0 e0 h0) (1:Int) v q r t u [] s))
noncomputable def g47{α:Type}(m:Nat):S_g47 α:=
 g47b (g48 m) (g74v1 m) (g33 m) (g55 m) (g54v1 m) (g41v1 m) (g46 m) (g75 m) (g53v1 m) (g47l0M m)
def g47tp:List TP:=[(.vl (.sv (.ptr 0 0))),tI,(.vl (.sv (.clo 48 [(1,0),(2,0)]))),(.vl (.sv (.clb 33 0 0)))]
def g47bp:List BP:=[(true,[(.one .bool),(.one (.gsl 3 5)),(.one (.mpp 4)),(.one (.gsl 5 2)),(.one (.int .i64))]),(false,[(.one (.ptr 0 0))]),(false,[(.one (.int .i64))]),(false,[(.gro rN)]),(true,[(.mp rP mW)]),(true,[(.gro rP)])]
def g47K{α:Type}(G:S_g47 α)(ls:List Lf)(k:KRe α):Option α:=
 G (lf ls 0).int (lf ls 1).bool (lf ls 2).int (lf ls 3).int ((lf ls 4).lst rN) ((lf ls 5).map rP mW) ((lf ls 6).lst rP)
  (fun c d e h i=>k (.tup [(.agg [(.one (.bool false)),(.seq uU 6 c)]),(.sv .nils)]) [[(.one (.bool d)),(.one (.gsl 3 5)),(.one (.mpp 4)),(.one (.gsl 6 2)),(.one (.int .i64 e))],[(.one (.ptr 0 0))],[(.one (.int .i64 (lf ls 3).int))],[(.gro rN ((lf ls 4).lst rN))],[(.mp rP mW h)],[]] [[(.gro rP i)]])
  (fun j c d e h i l=>k (.tup [(.agg [(.one (.bool j)),(.seq uU 6 c)]),(.sv (.gsl 6 1))]) [[(.one (.bool d)),(.one (.gsl 3 5)),(.one (.mpp 4)),(.one (.gsl 7 2)),(.one (.int .i64 e))],[(.one (.ptr 0 0))],[(.one (.int .i64 (lf ls 3).int))],[(.gro rN ((lf ls 4).lst rN))],[(.mp rP mW h)],[]] [[(.gro (.int .i8) i)],[(.gro rP l)]])
def g47R{α:Type}(G:S_g47 α):=rowK g47tp g47bp (g47K G)
def g47hd(G48:Al S_g48)(G74v1:Al S_g74v1)(G33:Al S_g33)(G55:Al S_g55)(G54v1:Al S_g54v1)(G41v1:Al S_g41v1)(G46:Al S_g46)(G75:Al S_g75)(G53v1:Al S_g53v1)(L47l0:Al S_g47l0):Hd where
 call:=fun f args Bs k=>cond (Nat.beq f 48) (g48R G48 args Bs k) (cond (Nat.beq f 74) (g74v1R G74v1 args Bs k) (cond (Nat.beq f 33) (g33R G33 args Bs k) (cond (Nat.beq f 55) (g55R G55 args Bs k) (cond (Nat.beq f 54) (g54v1R G54v1 args Bs k) (cond (Nat.beq f 41) (g41v1R G41v1 args Bs k) (cond (Nat.beq f 46) (g46R G46 args Bs k) (cond (Nat.beq f 75) (g75R G75 args Bs k) (cond (Nat.beq f 53) (g53v1R G53v1 args Bs k) (none)))))))))
 loop:=fun id st k=>cond (Nat.beq id 0) (loopH g47l0D (g47l0K L47l0) st k) (none)
 ro:=fun f=>cond (Nat.beq f 33) [1,2,3] (cond (Nat.beq f 41) [1,2,3] (cond (Nat.beq f 48) [0,1,3] (cond (Nat.beq f 53) [1,2,3] (cond (Nat.beq f 54) [1,2,3] (cond (Nat.beq f 74) [1,2,3] ([]))))))
noncomputable def g47h(m:Nat):Hd:=g47hd (g48 m) (g74v1 m) (g33 m) (g55 m) (g54v1 m) (g41v1 m) (g46 m) (g75 m) (g53v1 m) (g47l0M m)
theorem g47l0Step(G48:Al S_g48)(G74v1:Al S_g74v1)(G33:Al S_g33)(G55:Al S_g55)(G54v1:Al S_g54v1)(G41v1:Al S_g41v1)(G46:Al S_g46)(G75:Al S_g75)(G53v1:Al S_g53v1)(L47l0:Al S_g47l0){α:Type}(L:S_g47l0 α)(ls:List Lf)(k:KEx α):
  g47l0K (fun a b c d e h i j l n o p q r s t u=>g47l0b G48 G33 G55 G54v1 G41v1 G46 G75 G53v1 a b c d e h i j l (L a b c d e h i j l) n o p q r s t u) ls k=ev tab (g47hd G48 G74v1 G33 G55 G54v1 G41v1 G46 G75 G53v1 L47l0) (bodyAt Tryz.f47 0) (atHead g47l0D ls) (loopK g47l0D 0 (loopH g47l0D (g47l0K L)) k):=by kernel_rfl
theorem g47Main(G48:Al S_g48)(G74v1:Al S_g74v1)(G33:Al S_g33)(G55:Al S_g55)(G54v1:Al S_g54v1)(G41v1:Al S_g41v1)(G46:Al S_g46)(G75:Al S_g75)(G53v1:Al S_g53v1)(L47l0:Al S_g47l0){α:Type}(ls:List Lf)(k:KRe α):
  g47K (g47b G48 G74v1 G33 G55 G54v1 G41v1 G46 G75 G53v1 L47l0) ls k=evFun tab (g47hd G48 G74v1 G33 G55 G54v1 G41v1 G46 G75 G53v1 L47l0) Tryz.f47 (fT g47tp ls) (fB g47tp g47bp ls) k:=by kernel_rfl
theorem g47Calls(m:Nat):(g47h m).CallsOk Tryz.prog:=(cok_cons (g48Ok m) (cok_cons (g74v1Ok m) (cok_cons (g33Ok m) (cok_cons (g55Ok m) (cok_cons (g54v1Ok m) (cok_cons (g41v1Ok m) (cok_cons (g46Ok m) (cok_cons (g75Ok m) (cok_cons (g53v1Ok m) cok_nil)))))))))
theorem g47l0Ok(m:Nat)(α:Type)(st:St)(k:KEx α)(r:α)(h:(g47h m).loop 0 st k=some r):
  LoopS Tryz.prog 0 (bodyAt Tryz.f47 0) st k r:=
 lpk (F:=fun n ls k=>g47l0K (fun a b c d e i j l o q s t u v w x y=>g47l0 (g48 m) (g33 m) (g55 m) (g54v1 m) (g41v1 m) (g46 m) (g75 m) (g53v1 m) a b c d e i j l o n q s t u v w x y) ls k) (g47Calls m) (lb0 (by kernel_rfl))
  (fun _ _=>rfl) (fun n ls k=>g47l0Step (g48 m) (g74v1 m) (g33 m) (g55 m) (g54v1 m) (g41v1 m) (g46 m) (g75 m) (g53v1 m) (g47l0M m) (fun a b c d e i j l o=>g47l0 (g48 m) (g33 m) (g55 m) (g54v1 m) (g41v1 m) (g46 m) (g75 m) (g53v1 m) a b c d e i j l o n) ls k) (n:=m) h
theorem g47Ok(m:Nat):RowOk Tryz.prog 47 (fun{α}=>g47R (g47 m (α:=α))):=
 rwk (g47Calls m) (lo1 (by kernel_rfl) (g47l0Ok m))
  (fun _=>g47Main (g48 m) (g74v1 m) (g33 m) (g55 m) (g54v1 m) (g41v1 m) (g46 m) (g75 m) (g53v1 m) (g47l0M m))
abbrev S_g16(α:Type):Type:=Int→Int→Ty0→((List Int)→Int→Option α)→(Bool→(List Int)→(List Int)→Option α)→Option α
def g16b{α:Type}(G31:Al S_g31)(G47:Al S_g47)(G33:Al S_g33)(a b:Int)(c:Ty0)(d:(List Int)→Int→Option α)(e:Bool→(List Int)→(List Int)→Option α):Option α:=G31 b (64:Int) 0 1 1 c [a] (fun h=>cond (h !=(0:Int)) (d [0,0,0,0,0,0] h) (none)) (fun i j=>G47 b false (0:Int) a c i j (fun l n o p q=>G33 n o c p q (fun r s=>cond r (d [0,0,0,0,0,0] s) (d l (0:Int)))) (fun t u v w x y z=>G33 v w c x z (fun a0 b0=>cond a0 (d [0,0,0,0,0,0] b0) (e t u y))))
noncomputable def g16{α:Type}(m:Nat):S_g16 α:=
 g16b (g31 m) (g47 m) (g33 m)
def g16tp:List TP:=[(.vl (.sv (.gsl 0 5))),tI,tI]
def g16bp:List BP:=[(false,[(.gro rN)])]
def g16K{α:Type}(G:S_g16 α)(ls:List Lf)(k:KRe α):Option α:=
 G (lf ls 0).int (lf ls 1).int ((lf ls 2).lst rN)
  (fun a b=>k (.tup [(.agg [(.one (.bool false)),(.seq uU 6 a)]),(.sv .nils),(.sv (.int .i64 b))]) [[(.gro rN ((lf ls 2).lst rN))]] [])
  (fun c a d=>k (.tup [(.agg [(.one (.bool c)),(.seq uU 6 a)]),(.sv (.gsl 1 1)),(.sv (.int .i64 (0:Int)))]) [[(.gro rN ((lf ls 2).lst rN))]] [[(.gro (.int .i8) d)]])
def g16R{α:Type}(G:S_g16 α):=rowK g16tp g16bp (g16K G)
def g16hd(G31:Al S_g31)(G47:Al S_g47)(G33:Al S_g33):Hd where
 call:=fun f args Bs k=>cond (Nat.beq f 31) (g31R G31 args Bs k) (cond (Nat.beq f 47) (g47R G47 args Bs k) (cond (Nat.beq f 33) (g33R G33 args Bs k) (none)))
 loop:=fun id st k=>none
 ro:=fun f=>cond (Nat.beq f 31) [0,1] (cond (Nat.beq f 33) [1,2,3] (cond (Nat.beq f 47) [1,2,3] ([])))
noncomputable def g16h(m:Nat):Hd:=g16hd (g31 m) (g47 m) (g33 m)
theorem g16Main(G31:Al S_g31)(G47:Al S_g47)(G33:Al S_g33){α:Type}(ls:List Lf)(k:KRe α):
  g16K (g16b G31 G47 G33) ls k=evFun tab (g16hd G31 G47 G33) Tryz.f16 (fT g16tp ls) (fB g16tp g16bp ls) k:=by kernel_rfl
theorem g16Calls(m:Nat):(g16h m).CallsOk Tryz.prog:=(cok_cons (g31Ok m) (cok_cons (g47Ok m) (cok_cons (g33Ok m) cok_nil)))
theorem g16Ok(m:Nat):RowOk Tryz.prog 16 (fun{α}=>g16R (g16 m (α:=α))):=
 rwk (g16Calls m) (lo0 (by kernel_rfl))
  (fun _=>g16Main (g31 m) (g47 m) (g33 m))
abbrev S_g82(α:Type):Type:=Bool→(List Int)→Int→(Bool→(List Int)→Int→Option α)→Option α
def g82b{α:Type}(G78:Al S_g78)(G80:Al S_g80)(a:Bool)(b:List Int)(c:Int)(d:Bool→(List Int)→Int→Option α):Option α:=G78 a b a b (fun e h i=>cond (i !=(0:Int)) (d false [0,0,0,0,0,0] i) (G80 c (fun j l=>G78 e h j l (fun n o p=>d n o p))))
def g82{α:Type}(m:Nat):S_g82 α:=
 g82b (g78 m) (g80 m)
def g82tp:List TP:=[vW,tI]
def g82bp:List BP:=[]
def g82K{α:Type}(G:S_g82 α)(ls:List Lf)(k:KRe α):Option α:=
 G (lf ls 0).bool ((lf ls 1).lst uU) (lf ls 2).int
  (fun a b c=>k (.tup [(.agg [(.one (.bool a)),(.seq uU 6 b)]),(.sv (.int .i64 c))]) [] [])
def g82R{α:Type}(G:S_g82 α):=rowK g82tp g82bp (g82K G)
def g82hd(G78:Al S_g78)(G80:Al S_g80):Hd where
 call:=fun f args Bs k=>cond (Nat.beq f 78) (g78R G78 args Bs k) (cond (Nat.beq f 80) (g80R G80 args Bs k) (none))
 loop:=fun id st k=>none
 ro:=fun f=>[]
def g82h(m:Nat):Hd:=g82hd (g78 m) (g80 m)
theorem g82Main(G78:Al S_g78)(G80:Al S_g80){α:Type}(ls:List Lf)(k:KRe α):
  g82K (g82b G78 G80) ls k=evFun tab (g82hd G78 G80) Tryz.f82 (fT g82tp ls) (fB g82tp g82bp ls) k:=by kernel_rfl
theorem g82Calls(m:Nat):(g82h m).CallsOk Tryz.prog:=(cok_cons (g78Ok m) (cok_cons (g80Ok m) cok_nil))
theorem g82Ok(m:Nat):RowOk Tryz.prog 82 (fun{α}=>g82R (g82 m (α:=α))):=
 rwk (g82Calls m) (lo0 (by kernel_rfl))
  (fun _=>g82Main (g78 m) (g80 m))
abbrev S_g49(α:Type):Type:=Int→Int→Nat→Nat→Nat→Ty0→Ty3→Ty0→(Bool→(List Int)→Int→Nat→Nat→Nat→Ty3→(List Int)→Ty0→Option α)→Option α
abbrev S_g49l0(α:Type):Type:=Int→Int→Ty0→Bool→(List Int)→Bool→(List Int)→(Int→Nat→Nat→Nat→Ty3→(List Int)→(List Int)→Ty0→Option α)→(Nat→Nat→Nat→Ty3→(List Int)→Ty0→Option α)→Int→Nat→Nat→Nat→Ty3→Bool→(List Int)→(List Int)→Ty0→Option α
def g49l0b{α:Type}(G36:Al S_g36)(G77:Al S_g77)(G79:Al S_g79)(G78:Al S_g78)(G80:Al S_g80)(G81:Al S_g81)(G82:Al S_g82)(a b:Int)(c:Ty0)(d:Bool)(e:List Int)(h:Bool)(i:List Int)(j:Int→Nat→Nat→Nat→Ty3→(List Int)→(List Int)→Ty0→Option α)(l:Nat→Nat→Nat→Ty3→(List Int)→Ty0→Option α)(n:Int→Nat→Nat→Nat→Ty3→Bool→(List Int)→(List Int)→Ty0→Option α)(o:Int)(p q r:Nat)(s:Ty3)(t:Bool)(u v:List Int)(w:Ty0):Option α:=cond (decide (o≤b)) (G36 a (IntKind.wrap .i64 (o+(2:Int))) p q r c s w (fun x y z a0 b0 c0 d0 e0 h0=>cond (z !=(0:Int)) (j z a0 b0 c0 e0 [0,0,0,0,0,0] [] h0) (G77 t u (3:Int) (fun i0 j0 l0=>cond (l0 !=(0:Int)) (j l0 a0 b0 c0 e0 [0,0,0,0,0,0] [] h0) (G79 i0 j0 (fun n0=>G78 x y n0 j0 (fun o0 p0 q0=>cond (q0 !=(0:Int)) (j q0 a0 b0 c0 e0 [0,0,0,0,0,0] [] h0) (G80 (2:Int) (fun r0 s0=>G80 (-2:Int) (fun t0 u0=>G81 o0 p0 r0 s0 (fun v0=>cond (decide (v0>(0:Int))) (G82 t u (1:Int) (fun w0 x0 y0=>cond (y0 !=(0:Int)) (j y0 a0 b0 c0 e0 [0,0,0,0,0,0] [] h0) (if v.length+1≤67108864 then n (IntKind.wrap .i64 (o+(1:Int))) a0 b0 c0 e0 w0 x0 (v++[(1:Int)]) h0 else none))) (G81 o0 p0 t0 u0 (fun z0=>cond (decide (z0<(0:Int))) (G82 t u (-1:Int) (fun a1 b1 c1=>cond (c1 !=(0:Int)) (j c1 a0 b0 c0 e0 [0,0,0,0,0,0] [] h0) (if v.length+1≤67108864 then n (IntKind.wrap .i64 (o+(1:Int))) a0 b0 c0 e0 a1 b1 (v++[(-1:Int)]) h0 else none))) (G82 t u (0:Int) (fun d1 e1 h1=>cond (h1 !=(0:Int)) (j h1 a0 b0 c0 e0 [0,0,0,0,0,0] [] h0) (if v.length+1≤67108864 then n (IntKind.wrap .i64 (o+(1:Int))) a0 b0 c0 e0 d1 e1 (v++[(0:Int)]) h0 else none)))))))))))))))) (l p q r s v w)
def g49l0{α:Type}(G36:Al S_g36)(G77:Al S_g77)(G79:Al S_g79)(G78:Al S_g78)(G80:Al S_g80)(G81:Al S_g81)(G82:Al S_g82)(a b:Int)(c:Ty0)(d:Bool)(e:List Int)(h:Bool)(i:List Int)(j:Int→Nat→Nat→Nat→Ty3→(List Int)→(List Int)→Ty0→Option α)(l:Nat→Nat→Nat→Ty3→(List Int)→Ty0→Option α):Nat→Int→Nat→Nat→Nat→Ty3→Bool→(List Int)→(List Int)→Ty0→Option α
 |0=>fun _ _ _ _ _ _ _ _ _=>none
 |m+1=>fun n o p q r s t u v=>g49l0b G36 G77 G79 G78 G80 G81 G82 a b c d e h i j l (g49l0 G36 G77 G79 G78 G80 G81 G82 a b c d e h i j l m) n o p q r s t u v
noncomputable def g49l0M{α:Type}(m:Nat):S_g49l0 α:=
 fun a b c d e h i j l n o p q r s t u v=>g49l0 (g36 m) (g77 m) (g79 m) (g78 m) (g80 m) (g81 m) (g82 m) a b c d e h i j l m n o p q r s t u v
def g49l0D:LoopD:={n:=106,low:=[0,1,2,3],sl:=[0,1,2,6,11,12,13,14],bl:=[0,1,2,3,1000004,1000005,1000006,1000007,1000008],tp:=[(.vl (.sv (.ptr 0 0))),tI,tI,(.vl (.sv (.ptr 1000004 0))),(.vl (.sv (.ptr 1000005 0))),(.vl (.sv (.ptr 1000006 0))),(.vl (.sv (.gsl 1000007 1))),tI],bp:=[(true,[(.one (.gsl 1 5)),(.one (.slc 2 0 1)),(.one (.gsl 1000008 2))]),(false,[(.gro rN)]),(true,[(.rws mK)]),(true,[]),(true,[(.one .bool),(.seq uU 6)]),(true,[(.one .bool),(.seq uU 6)]),(true,[(.one .bool),(.seq uU 6)]),(true,[(.gro (.int .i8))]),(true,[(.gro rP)])],xs:=[(1,[6,7,8]),(2,[6,11,13])]}
def g49l0K{α:Type}(L:S_g49l0 α)(ls:List Lf)(k:KEx α):Option α:=
 L (lf ls 0).int (lf ls 1).int ((lf ls 6).lst rN) (lf ls 8).bool ((lf ls 9).lst uU) (lf ls 10).bool ((lf ls 11).lst uU)
  (fun c d e h j l n o=>k .ret (mkSt 106 [6,7,8] [(.vl (.sv (.ptr 1000004 0))),(.vl (.sv (.gsl 1000005 1))),(.vl (.sv (.int .i64 c)))] [0,1,2,3,1000004,1000005,1000006] [(true,[(.one (.gsl 1 5)),(.one (.slc 2 0 1 d e h)),(.one (.gsl 1000006 2))]),(false,[(.gro rN ((lf ls 6).lst rN))]),(true,[(.rws mK j none)]),(true,[]),(true,[(.one (.bool false)),(.seq uU 6 l)]),(true,[(.gro (.int .i8) n)]),(true,[(.gro rP o)])]))
  (fun c d e p o q=>k .normal (mkSt 106 [6,11,13] [(.vl (.sv (.ptr 1000004 0))),(.vl (.sv (.ptr 1000005 0))),(.vl (.sv (.gsl 1000006 1)))] [0,1,2,3,1000004,1000005,1000006,1000007] [(true,[(.one (.gsl 1 5)),(.one (.slc 2 0 1 c d e)),(.one (.gsl 1000007 2))]),(false,[(.gro rN ((lf ls 6).lst rN))]),(true,[(.rws mK p none)]),(true,[]),(true,[(.one (.bool (lf ls 8).bool)),(.seq uU 6 ((lf ls 9).lst uU))]),(true,[(.one (.bool (lf ls 10).bool)),(.seq uU 6 ((lf ls 11).lst uU))]),(true,[(.gro (.int .i8) o)]),(true,[(.gro rP q)])]))
  (lf ls 2).int (lf ls 3).nat (lf ls 4).nat (lf ls 5).nat ((lf ls 7).rows mK) (lf ls 12).bool ((lf ls 13).lst uU) ((lf ls 14).lst (.int .i8)) ((lf ls 15).lst rP)
def g49b{α:Type}(G36:Al S_g36)(G76:Al S_g76)(G77:Al S_g77)(G79:Al S_g79)(G78:Al S_g78)(G80:Al S_g80)(G81:Al S_g81)(G82:Al S_g82)(L49l0:Al S_g49l0)(a b:Int)(c d e:Nat)(h:Ty0)(i:Ty3)(j:Ty0)(l:Bool→(List Int)→Int→Nat→Nat→Nat→Ty3→(List Int)→Ty0→Option α):Option α:=G36 a (2:Int) c d e h i j (fun n o p q r s t u v=>cond (p !=(0:Int)) (l false [0,0,0,0,0,0] p q r s u [] v) (G76 n o (2:Int) (fun w x=>L49l0 a b h false [0,0,0,0,0,0] w x (fun y z a0 b0 c0 d0 e0 h0=>l false d0 y z a0 b0 c0 e0 h0) (fun i0 j0 l0 n0 o0 p0=>l w x (0:Int) i0 j0 l0 n0 o0 p0) (1:Int) q r s u w x [] v)))
noncomputable def g49{α:Type}(m:Nat):S_g49 α:=
 g49b (g36 m) (g76 m) (g77 m) (g79 m) (g78 m) (g80 m) (g81 m) (g82 m) (g49l0M m)
def g49tp:List TP:=[(.vl (.sv (.ptr 0 0))),tI,tI]
def g49bp:List BP:=[(true,[(.one (.gsl 1 5)),(.one (.slc 2 0 1)),(.one (.gsl 3 2))]),(false,[(.gro rN)]),(true,[(.rws mK)]),(true,[(.gro rP)])]
def g49K{α:Type}(G:S_g49 α)(ls:List Lf)(k:KRe α):Option α:=
 G (lf ls 0).int (lf ls 1).int (lf ls 2).nat (lf ls 3).nat (lf ls 4).nat ((lf ls 5).lst rN) ((lf ls 6).rows mK) ((lf ls 7).lst rP)
  (fun c d e h j l n o p=>k (.tup [(.agg [(.one (.bool c)),(.seq uU 6 d)]),(.sv (.gsl 4 1)),(.sv (.int .i64 e))]) [[(.one (.gsl 1 5)),(.one (.slc 2 0 1 h j l)),(.one (.gsl 5 2))],[(.gro rN ((lf ls 5).lst rN))],[(.rws mK n none)],[]] [[(.gro (.int .i8) o)],[(.gro rP p)]])
def g49R{α:Type}(G:S_g49 α):=rowK g49tp g49bp (g49K G)
def g49hd(G36:Al S_g36)(G76:Al S_g76)(G77:Al S_g77)(G79:Al S_g79)(G78:Al S_g78)(G80:Al S_g80)(G81:Al S_g81)(G82:Al S_g82)(L49l0:Al S_g49l0):Hd where
 call:=fun f args Bs k=>cond (Nat.beq f 36) (g36R G36 args Bs k) (cond (Nat.beq f 76) (g76R G76 args Bs k) (cond (Nat.beq f 77) (g77R G77 args Bs k) (cond (Nat.beq f 79) (g79R G79 args Bs k) (cond (Nat.beq f 78) (g78R G78 args Bs k) (cond (Nat.beq f 80) (g80R G80 args Bs k) (cond (Nat.beq f 81) (g81R G81 args Bs k) (cond (Nat.beq f 82) (g82R G82 args Bs k) (none))))))))
 loop:=fun id st k=>cond (Nat.beq id 0) (loopH g49l0D (g49l0K L49l0) st k) (none)
 ro:=fun f=>cond (Nat.beq f 36) [1] (cond (Nat.beq f 81) [0,1] ([]))
noncomputable def g49h(m:Nat):Hd:=g49hd (g36 m) (g76 m) (g77 m) (g79 m) (g78 m) (g80 m) (g81 m) (g82 m) (g49l0M m)
theorem g49l0Step(G36:Al S_g36)(G76:Al S_g76)(G77:Al S_g77)(G79:Al S_g79)(G78:Al S_g78)(G80:Al S_g80)(G81:Al S_g81)(G82:Al S_g82)(L49l0:Al S_g49l0){α:Type}(L:S_g49l0 α)(ls:List Lf)(k:KEx α):
  g49l0K (fun a b c d e h i j l n o p q r s t u v=>g49l0b G36 G77 G79 G78 G80 G81 G82 a b c d e h i j l (L a b c d e h i j l) n o p q r s t u v) ls k=ev tab (g49hd G36 G76 G77 G79 G78 G80 G81 G82 L49l0) (bodyAt Tryz.f49 0) (atHead g49l0D ls) (loopK g49l0D 0 (loopH g49l0D (g49l0K L)) k):=by kernel_rfl
theorem g49Main(G36:Al S_g36)(G76:Al S_g76)(G77:Al S_g77)(G79:Al S_g79)(G78:Al S_g78)(G80:Al S_g80)(G81:Al S_g81)(G82:Al S_g82)(L49l0:Al S_g49l0){α:Type}(ls:List Lf)(k:KRe α):
  g49K (g49b G36 G76 G77 G79 G78 G80 G81 G82 L49l0) ls k=evFunM tab (g49hd G36 G76 G77 G79 G78 G80 G81 G82 L49l0) Tryz.f49 3 (fT g49tp ls) (fB g49tp g49bp ls) k:=by kernel_rfl
theorem g49Calls(m:Nat):(g49h m).CallsOk Tryz.prog:=(cok_cons (g36Ok m) (cok_cons (g76Ok m) (cok_cons (g77Ok m) (cok_cons (g79Ok m) (cok_cons (g78Ok m) (cok_cons (g80Ok m) (cok_cons (g81Ok m) (cok_cons (g82Ok m) cok_nil))))))))
theorem g49l0Ok(m:Nat)(α:Type)(st:St)(k:KEx α)(r:α)(h:(g49h m).loop 0 st k=some r):
  LoopS Tryz.prog 0 (bodyAt Tryz.f49 0) st k r:=
 lpk (F:=fun n ls k=>g49l0K (fun a b c d e i j l o q s t u v w x y z=>g49l0 (g36 m) (g77 m) (g79 m) (g78 m) (g80 m) (g81 m) (g82 m) a b c d e i j l o n q s t u v w x y z) ls k) (g49Calls m) (lb0 (by kernel_rfl))
  (fun _ _=>rfl) (fun n ls k=>g49l0Step (g36 m) (g76 m) (g77 m) (g79 m) (g78 m) (g80 m) (g81 m) (g82 m) (g49l0M m) (fun a b c d e i j l o=>g49l0 (g36 m) (g77 m) (g79 m) (g78 m) (g80 m) (g81 m) (g82 m) a b c d e i j l o n) ls k) (n:=m) h
theorem g49Fn(m:Nat):FnOk Tryz.prog 49 g49tp g49bp (fun{α}=>g49K (g49 m (α:=α))):=
 fn_okM (tab:=tab) (h:=g49h m) (fn:=Tryz.f49) (F:=fun{α}=>g49K (g49 m (α:=α))) tabOk (g49Calls m) mixed (by kernel_rfl) (by kernel_rfl) (fun c hc=>by
  rw[bodyOf_some hc]
  exact loopsOk_of _ (fun p hp=>by
  rw[show loopsOf (bodyOf Tryz.f49)=[(0,bodyAt Tryz.f49 0)] by kernel_rfl] at hp
  simp only[List.mem_cons,List.not_mem_nil,or_false] at hp
  rcases hp with rfl
  exact g49l0Ok m))
  (fun _=>g49Main (g36 m) (g76 m) (g77 m) (g79 m) (g78 m) (g80 m) (g81 m) (g82 m) (g49l0M m))
theorem g49Ok(m:Nat):RowOk Tryz.prog 49 (fun{α}=>g49R (g49 m (α:=α))):=row_of (g49Fn m)
abbrev S_g17(α:Type):Type:=Int→Int→Ty0→(Bool→(List Int)→Int→(List Int)→Option α)→Option α
def g17b{α:Type}(G34:Al S_g34)(G35:Al S_g35)(G49:Al S_g49)(a b:Int)(c:Ty0)(d:Bool→(List Int)→Int→(List Int)→Option α):Option α:=G34 a b c (fun e=>cond (e !=(0:Int)) (d false [0,0,0,0,0,0] e []) (G35 c (fun h i j l=>G49 a b 0 h i c j l (fun n o p q r s t u v=>d n o p u))))
noncomputable def g17{α:Type}(m:Nat):S_g17 α:=
 g17b (g34 m) (g35 m) (g49 m)
def g17tp:List TP:=[(.vl (.sv (.gsl 0 5))),tI,tI]
def g17bp:List BP:=[(false,[(.gro rN)])]
def g17K{α:Type}(G:S_g17 α)(ls:List Lf)(k:KRe α):Option α:=
 G (lf ls 0).int (lf ls 1).int ((lf ls 2).lst rN)
  (fun a b c d=>k (.tup [(.agg [(.one (.bool a)),(.seq uU 6 b)]),(.sv (.gsl 1 1)),(.sv (.int .i64 c))]) [[(.gro rN ((lf ls 2).lst rN))]] [[(.gro (.int .i8) d)]])
def g17R{α:Type}(G:S_g17 α):=rowK g17tp g17bp (g17K G)
def g17hd(G34:Al S_g34)(G35:Al S_g35)(G49:Al S_g49):Hd where
 call:=fun f args Bs k=>cond (Nat.beq f 34) (g34R G34 args Bs k) (cond (Nat.beq f 35) (g35R G35 args Bs k) (cond (Nat.beq f 49) (g49R G49 args Bs k) (none)))
 loop:=fun id st k=>none
 ro:=fun f=>cond (Nat.beq f 34) [0] (cond (Nat.beq f 35) [0] (cond (Nat.beq f 49) [1] ([])))
noncomputable def g17h(m:Nat):Hd:=g17hd (g34 m) (g35 m) (g49 m)
theorem g17Main(G34:Al S_g34)(G35:Al S_g35)(G49:Al S_g49){α:Type}(ls:List Lf)(k:KRe α):
  g17K (g17b G34 G35 G49) ls k=evFun tab (g17hd G34 G35 G49) Tryz.f17 (fT g17tp ls) (fB g17tp g17bp ls) k:=by kernel_rfl
theorem g17Calls(m:Nat):(g17h m).CallsOk Tryz.prog:=(cok_cons (g34Ok m) (cok_cons (g35Ok m) (cok_cons (g49Ok m) cok_nil)))
theorem g17Ok(m:Nat):RowOk Tryz.prog 17 (fun{α}=>g17R (g17 m (α:=α))):=
 rwk (g17Calls m) (lo0 (by kernel_rfl))
  (fun _=>g17Main (g34 m) (g35 m) (g49 m))
abbrev S_g18(α:Type):Type:=(List Int)→(Bool→Option α)→Option α
abbrev S_g18l0(α:Type):Type:=Int→(List Int)→(Option α)→Option α
def g18l0b{α:Type}(a:Int)(b:List Int)(c d:Option α):Option α:=cond (decide (a<(0:Int))) (none) (c)
def g18l0{α:Type}(a:Int)(b:List Int)(c:Option α):Nat→Option α
 |0=>none
 |m+1=>g18l0b a b c (g18l0 a b c m)
def g18l0M{α:Type}(m:Nat):S_g18l0 α:=
 fun a b c=>g18l0 a b c m
def g18l0D:LoopD:={n:=26,low:=[0],sl:=[0,1,5],bl:=[0],tp:=[(.vl (.sv .nils)),(.vl (.sv (.gsl 0 1))),tI],bp:=[(false,[(.gro (.int .i8))])],xs:=[(2,[])]}
def g18l0K{α:Type}(L:S_g18l0 α)(ls:List Lf)(k:KEx α):Option α:=
 L (lf ls 0).int ((lf ls 1).lst (.int .i8))
  (k .normal (mkSt 26 [] [] [0] [(false,[(.gro (.int .i8) ((lf ls 1).lst (.int .i8)))])]))
def g18b{α:Type}(L18l0:Al S_g18l0)(a:List Int)(b:Bool→Option α):Option α:=cond ((0:Int) !=((a.length:Nat):Int)) (b false) (L18l0 (0:Int) a (b true))
def g18{α:Type}(m:Nat):S_g18 α:=
 g18b (g18l0M m)
def g18tp:List TP:=[(.vl (.sv .nils)),(.vl (.sv (.gsl 0 1)))]
def g18bp:List BP:=[(false,[(.gro (.int .i8))])]
def g18K{α:Type}(G:S_g18 α)(ls:List Lf)(k:KRe α):Option α:=
 G ((lf ls 0).lst (.int .i8))
  (fun a=>k (.vl (.sv (.bool a))) [[(.gro (.int .i8) ((lf ls 0).lst (.int .i8)))]] [])
def g18R{α:Type}(G:S_g18 α):=rowK g18tp g18bp (g18K G)
def g18hd(L18l0:Al S_g18l0):Hd where
 call:=fun f args Bs k=>none
 loop:=fun id st k=>cond (Nat.beq id 0) (loopH g18l0D (g18l0K L18l0) st k) (none)
 ro:=fun f=>[]
def g18h(m:Nat):Hd:=g18hd (g18l0M m)
theorem g18l0Step(L18l0:Al S_g18l0){α:Type}(L:S_g18l0 α)(ls:List Lf)(k:KEx α):
  g18l0K (fun a b c=>g18l0b a b c (L a b c)) ls k=ev tab (g18hd L18l0) (bodyAt Tryz.f18 0) (atHead g18l0D ls) (loopK g18l0D 0 (loopH g18l0D (g18l0K L)) k):=by kernel_rfl
theorem g18Main(L18l0:Al S_g18l0){α:Type}(ls:List Lf)(k:KRe α):
  g18K (g18b L18l0) ls k=evFun tab (g18hd L18l0) Tryz.f18 (fT g18tp ls) (fB g18tp g18bp ls) k:=by kernel_rfl
theorem g18Calls(m:Nat):(g18h m).CallsOk Tryz.prog:=cok_nil
theorem g18l0Ok(m:Nat)(α:Type)(st:St)(k:KEx α)(r:α)(h:(g18h m).loop 0 st k=some r):
  LoopS Tryz.prog 0 (bodyAt Tryz.f18 0) st k r:=
 lpk (F:=fun n ls k=>g18l0K (fun a b c=>g18l0 a b c n) ls k) (g18Calls m) (lb0 (by kernel_rfl))
  (fun _ _=>rfl) (fun n ls k=>g18l0Step (g18l0M m) (fun a b c=>g18l0 a b c n) ls k) (n:=m) h
theorem g18Ok(m:Nat):RowOk Tryz.prog 18 (fun{α}=>g18R (g18 m (α:=α))):=
 rwk (g18Calls m) (lo1 (by kernel_rfl) (g18l0Ok m))
  (fun _=>g18Main (g18l0M m))
abbrev S_g52(α:Type):Type:=Int→(Bool→Option α)→Option α
def g52b{α:Type}(a:Int)(b:Bool→Option α):Option α:=cond (decide (a≥(-1:Int))) (b (decide (a≤(1:Int)))) (b false)
def g52{α:Type}(m:Nat):S_g52 α:=
 g52b
def g52tp:List TP:=[(.vl (.sv (.int .i8)))]
def g52bp:List BP:=[]
def g52K{α:Type}(G:S_g52 α)(ls:List Lf)(k:KRe α):Option α:=
 G (lf ls 0).int
  (fun a=>k (.vl (.sv (.bool a))) [] [])
def g52R{α:Type}(G:S_g52 α):=rowK g52tp g52bp (g52K G)
def g52hd:Hd where
 call:=fun f args Bs k=>none
 loop:=fun id st k=>none
 ro:=fun f=>[]
def g52h(m:Nat):Hd:=g52hd
theorem g52Main{α:Type}(ls:List Lf)(k:KRe α):
  g52K (g52b) ls k=evFun tab (g52hd) Tryz.f52 (fT g52tp ls) (fB g52tp g52bp ls) k:=by kernel_rfl
theorem g52Calls(m:Nat):(g52h m).CallsOk Tryz.prog:=cok_nil
theorem g52Ok(m:Nat):RowOk Tryz.prog 52 (fun{α}=>g52R (g52 m (α:=α))):=
 rwk (g52Calls m) (lo0 (by kernel_rfl))
  (fun _=>g52Main)
abbrev S_g51(α:Type):Type:=Int→(Bool→Option α)→Option α
def g51b{α:Type}(G52:Al S_g52)(a:Int)(b:Bool→Option α):Option α:=G52 a (fun c=>b (!c))
def g51{α:Type}(m:Nat):S_g51 α:=
 g51b (g52 m)
def g51tp:List TP:=[(.vl (.sv (.int .i8)))]
def g51bp:List BP:=[]
def g51K{α:Type}(G:S_g51 α)(ls:List Lf)(k:KRe α):Option α:=
 G (lf ls 0).int
  (fun a=>k (.vl (.sv (.bool a))) [] [])
def g51R{α:Type}(G:S_g51 α):=rowK g51tp g51bp (g51K G)
def g51hd(G52:Al S_g52):Hd where
 call:=fun f args Bs k=>cond (Nat.beq f 52) (g52R G52 args Bs k) (none)
 loop:=fun id st k=>none
 ro:=fun f=>[]
def g51h(m:Nat):Hd:=g51hd (g52 m)
theorem g51Main(G52:Al S_g52){α:Type}(ls:List Lf)(k:KRe α):
  g51K (g51b G52) ls k=evFun tab (g51hd G52) Tryz.f51 (fT g51tp ls) (fB g51tp g51bp ls) k:=by kernel_rfl
theorem g51Calls(m:Nat):(g51h m).CallsOk Tryz.prog:=(cok_cons (g52Ok m) cok_nil)
theorem g51Ok(m:Nat):RowOk Tryz.prog 51 (fun{α}=>g51R (g51 m (α:=α))):=
 rwk (g51Calls m) (lo0 (by kernel_rfl))
  (fun _=>g51Main (g52 m))
abbrev S_g83(α:Type):Type:=(List Int)→(Int→Option α)→Option α
abbrev S_g83l0(α:Type):Type:=Int→(List Int)→(Int→Option α)→(Option α)→Int→Option α
def g83l0b{α:Type}(G51:Al S_g51)(a:Int)(b:List Int)(c:Int→Option α)(d:Option α)(e:Int→Option α)(h:Int):Option α:=cond (decide (h<a)) (if 0≤h∧h<(b.length:Nat) then if h.toNat<b.length then G51 (List.getD b h.toNat 0) (fun i=>cond i (c h) (e (IntKind.wrap .i64 (h+(1:Int))))) else none else none) (d)
def g83l0{α:Type}(G51:Al S_g51)(a:Int)(b:List Int)(c:Int→Option α)(d:Option α):Nat→Int→Option α
 |0=>fun _=>none
 |m+1=>fun e=>g83l0b G51 a b c d (g83l0 G51 a b c d m) e
def g83l0M{α:Type}(m:Nat):S_g83l0 α:=
 fun a b c d e=>g83l0 (g51 m) a b c d m e
def g83l0D:LoopD:={n:=19,low:=[0],sl:=[0,1,7,8],bl:=[0],tp:=[(.vl (.sv (.gsl 0 1))),(.vl (.sv (.clo 51 []))),tI,tI],bp:=[(false,[(.gro (.int .i8))])],xs:=[(1,[4]),(2,[])]}
def g83l0K{α:Type}(L:S_g83l0 α)(ls:List Lf)(k:KEx α):Option α:=
 L (lf ls 0).int ((lf ls 2).lst (.int .i8))
  (fun a=>k .ret (mkSt 19 [4] [(.vl (.sv (.int .i64 a)))] [0] [(false,[(.gro (.int .i8) ((lf ls 2).lst (.int .i8)))])]))
  (k .normal (mkSt 19 [] [] [0] [(false,[(.gro (.int .i8) ((lf ls 2).lst (.int .i8)))])]))
  (lf ls 1).int
def g83b{α:Type}(G51:Al S_g51)(L83l0:Al S_g83l0)(a:List Int)(b:Int→Option α):Option α:=L83l0 ((a.length:Nat):Int) a (fun c=>b c) (b (-1:Int)) (0:Int)
def g83{α:Type}(m:Nat):S_g83 α:=
 g83b (g51 m) (g83l0M m)
def g83tp:List TP:=[(.vl (.sv (.gsl 0 1))),(.vl (.sv (.clo 51 [])))]
def g83bp:List BP:=[(false,[(.gro (.int .i8))])]
def g83K{α:Type}(G:S_g83 α)(ls:List Lf)(k:KRe α):Option α:=
 G ((lf ls 0).lst (.int .i8))
  (fun a=>k (.vl (.sv (.int .i64 a))) [[(.gro (.int .i8) ((lf ls 0).lst (.int .i8)))]] [])
def g83R{α:Type}(G:S_g83 α):=rowK g83tp g83bp (g83K G)
def g83hd(G51:Al S_g51)(L83l0:Al S_g83l0):Hd where
 call:=fun f args Bs k=>cond (Nat.beq f 51) (g51R G51 args Bs k) (none)
 loop:=fun id st k=>cond (Nat.beq id 0) (loopH g83l0D (g83l0K L83l0) st k) (none)
 ro:=fun f=>[]
def g83h(m:Nat):Hd:=g83hd (g51 m) (g83l0M m)
theorem g83l0Step(G51:Al S_g51)(L83l0:Al S_g83l0){α:Type}(L:S_g83l0 α)(ls:List Lf)(k:KEx α):
  g83l0K (fun a b c d e=>g83l0b G51 a b c d (L a b c d) e) ls k=ev tab (g83hd G51 L83l0) (bodyAt Tryz.f83 0) (atHead g83l0D ls) (loopK g83l0D 0 (loopH g83l0D (g83l0K L)) k):=by kernel_rfl
theorem g83Main(G51:Al S_g51)(L83l0:Al S_g83l0){α:Type}(ls:List Lf)(k:KRe α):
  g83K (g83b G51 L83l0) ls k=evFun tab (g83hd G51 L83l0) Tryz.f83 (fT g83tp ls) (fB g83tp g83bp ls) k:=by kernel_rfl
theorem g83Calls(m:Nat):(g83h m).CallsOk Tryz.prog:=(cok_cons (g51Ok m) cok_nil)
theorem g83l0Ok(m:Nat)(α:Type)(st:St)(k:KEx α)(r:α)(h:(g83h m).loop 0 st k=some r):
  LoopS Tryz.prog 0 (bodyAt Tryz.f83 0) st k r:=
 lpk (F:=fun n ls k=>g83l0K (fun a b c d e=>g83l0 (g51 m) a b c d n e) ls k) (g83Calls m) (lb0 (by kernel_rfl))
  (fun _ _=>rfl) (fun n ls k=>g83l0Step (g51 m) (g83l0M m) (fun a b c d=>g83l0 (g51 m) a b c d n) ls k) (n:=m) h
theorem g83Ok(m:Nat):RowOk Tryz.prog 83 (fun{α}=>g83R (g83 m (α:=α))):=
 rwk (g83Calls m) (lo1 (by kernel_rfl) (g83l0Ok m))
  (fun _=>g83Main (g51 m) (g83l0M m))
abbrev S_g50(α:Type):Type:=(List Int)→(Bool→Option α)→Option α
def g50b{α:Type}(G83:Al S_g83)(a:List Int)(b:Bool→Option α):Option α:=G83 a (fun c=>b (decide (c≥(0:Int))))
def g50{α:Type}(m:Nat):S_g50 α:=
 g50b (g83 m)
def g50tp:List TP:=[(.vl (.sv (.gsl 0 1))),(.vl (.sv (.clo 51 [])))]
def g50bp:List BP:=[(false,[(.gro (.int .i8))])]
def g50K{α:Type}(G:S_g50 α)(ls:List Lf)(k:KRe α):Option α:=
 G ((lf ls 0).lst (.int .i8))
  (fun a=>k (.vl (.sv (.bool a))) [[(.gro (.int .i8) ((lf ls 0).lst (.int .i8)))]] [])
def g50R{α:Type}(G:S_g50 α):=rowK g50tp g50bp (g50K G)
def g50hd(G83:Al S_g83):Hd where
 call:=fun f args Bs k=>cond (Nat.beq f 83) (g83R G83 args Bs k) (none)
 loop:=fun id st k=>none
 ro:=fun f=>cond (Nat.beq f 83) [0] ([])
def g50h(m:Nat):Hd:=g50hd (g83 m)
theorem g50Main(G83:Al S_g83){α:Type}(ls:List Lf)(k:KRe α):
  g50K (g50b G83) ls k=evFun tab (g50hd G83) Tryz.f50 (fT g50tp ls) (fB g50tp g50bp ls) k:=by kernel_rfl
theorem g50Calls(m:Nat):(g50h m).CallsOk Tryz.prog:=(cok_cons (g83Ok m) cok_nil)
theorem g50Ok(m:Nat):RowOk Tryz.prog 50 (fun{α}=>g50R (g50 m (α:=α))):=
 rwk (g50Calls m) (lo0 (by kernel_rfl))
  (fun _=>g50Main (g83 m))
abbrev S_g56(α:Type):Type:=Bool→(List Int)→Bool→(Bool→(List Int)→Int→Option α)→Option α
def g56b{α:Type}(a:Bool)(b:List Int)(c:Bool)(d:Bool→(List Int)→Int→Option α):Option α:=cond c (d false [0,0,0,0,0,0] (3:Int)) (d a b (0:Int))
def g56{α:Type}(m:Nat):S_g56 α:=
 g56b
def g56tp:List TP:=[(.vl (.sv (.ptr 0 0))),vW]
def g56bp:List BP:=[(false,[(.one .bool)])]
def g56K{α:Type}(G:S_g56 α)(ls:List Lf)(k:KRe α):Option α:=
 G (lf ls 0).bool ((lf ls 1).lst uU) (lf ls 2).bool
  (fun a b c=>k (.tup [(.agg [(.one (.bool a)),(.seq uU 6 b)]),(.sv (.int .i64 c))]) [[(.one (.bool (lf ls 2).bool))]] [])
def g56R{α:Type}(G:S_g56 α):=rowK g56tp g56bp (g56K G)
def g56hd:Hd where
 call:=fun f args Bs k=>none
 loop:=fun id st k=>none
 ro:=fun f=>[]
def g56h(m:Nat):Hd:=g56hd
theorem g56Main{α:Type}(ls:List Lf)(k:KRe α):
  g56K (g56b) ls k=evFun tab (g56hd) Tryz.f56 (fT g56tp ls) (fB g56tp g56bp ls) k:=by kernel_rfl
theorem g56Calls(m:Nat):(g56h m).CallsOk Tryz.prog:=cok_nil
theorem g56Ok(m:Nat):RowOk Tryz.prog 56 (fun{α}=>g56R (g56 m (α:=α))):=
 rwk (g56Calls m) (lo0 (by kernel_rfl))
  (fun _=>g56Main)
abbrev S_g19(α:Type):Type:=Bool→(List Int)→(List Int)→(Bool→(List Int)→Int→Option α)→Option α
abbrev S_g19l0(α:Type):Type:=Int→(List Int)→Bool→(List Int)→(Bool→Bool→(List Int)→Option α)→Int→Bool→Bool→(List Int)→Option α
def g19l0b{α:Type}(G55:Al S_g55)(G54:Al S_g54)(G53:Al S_g53)(a:Int)(b:List Int)(c:Bool)(d:List Int)(e:Bool→Bool→(List Int)→Option α)(h:Int→Bool→Bool→(List Int)→Option α)(i:Int)(j l:Bool)(n:List Int):Option α:=cond (decide (i<a)) (if 0≤i∧i<(b.length:Nat) then if i.toNat<b.length then G55 (2:Int) (fun o p=>G54 o p l n j (fun q r s=>G55 (IntKind.wrap .i64 (List.getD b i.toNat 0)) (fun t u=>G53 q r t u s (fun v w x=>h (IntKind.wrap .i64 (i+(1:Int))) x v w)))) else none else none) (e j l n)
def g19l0{α:Type}(G55:Al S_g55)(G54:Al S_g54)(G53:Al S_g53)(a:Int)(b:List Int)(c:Bool)(d:List Int)(e:Bool→Bool→(List Int)→Option α):Nat→Int→Bool→Bool→(List Int)→Option α
 |0=>fun _ _ _ _=>none
 |m+1=>fun h i j l=>g19l0b G55 G54 G53 a b c d e (g19l0 G55 G54 G53 a b c d e m) h i j l
def g19l0M{α:Type}(m:Nat):S_g19l0 α:=
 fun a b c d e h i j l=>g19l0 (g55 m) (g54 m) (g53 m) a b c d e m h i j l
def g19l0D:LoopD:={n:=42,low:=[0],sl:=[4,6,7,24,25,26],bl:=[0,1000001,1000002,1000003],tp:=[(.vl (.sv (.ptr 1000001 0))),(.vl (.sv (.ptr 1000002 0))),(.vl (.sv (.ptr 1000003 0))),(.vl (.sv (.gsl 0 1))),tI,tI],bp:=[(false,[(.gro (.int .i8))]),(true,[(.one .bool),(.seq uU 6)]),(true,[(.one .bool)]),(true,[(.one .bool),(.seq uU 6)])],xs:=[(2,[4,6,7])]}
def g19l0K{α:Type}(L:S_g19l0 α)(ls:List Lf)(k:KEx α):Option α:=
 L (lf ls 0).int ((lf ls 2).lst (.int .i8)) (lf ls 3).bool ((lf ls 4).lst uU)
  (fun a b c=>k .normal (mkSt 42 [4,6,7] [(.vl (.sv (.ptr 1000001 0))),(.vl (.sv (.ptr 1000002 0))),(.vl (.sv (.ptr 1000003 0)))] [0,1000001,1000002,1000003] [(false,[(.gro (.int .i8) ((lf ls 2).lst (.int .i8)))]),(true,[(.one (.bool (lf ls 3).bool)),(.seq uU 6 ((lf ls 4).lst uU))]),(true,[(.one (.bool a))]),(true,[(.one (.bool b)),(.seq uU 6 c)])]))
  (lf ls 1).int (lf ls 5).bool (lf ls 6).bool ((lf ls 7).lst uU)
def g19b{α:Type}(G15:Al S_g15)(G50:Al S_g50)(G55:Al S_g55)(G54:Al S_g54)(G53:Al S_g53)(G56:Al S_g56)(L19l0:Al S_g19l0)(a:Bool)(b c:List Int)(d:Bool→(List Int)→Int→Option α):Option α:=G15 a b (fun e=>cond (!e) (d false [0,0,0,0,0,0] (1:Int)) (G50 c (fun h=>cond h (d false [0,0,0,0,0,0] (1:Int)) (cond (decide (((c.length:Nat):Int)>(64:Int))) (d false [0,0,0,0,0,0] (2:Int)) (L19l0 ((c.length:Nat):Int) c false [0,0,0,0,0,0] (fun i j l=>G56 j l i (fun n o p=>d n o p)) (0:Int) false a b)))))
def g19{α:Type}(m:Nat):S_g19 α:=
 g19b (g15 m) (g50 m) (g55 m) (g54 m) (g53 m) (g56 m) (g19l0M m)
def g19tp:List TP:=[vW,(.vl (.sv (.gsl 0 1)))]
def g19bp:List BP:=[(false,[(.gro (.int .i8))])]
def g19K{α:Type}(G:S_g19 α)(ls:List Lf)(k:KRe α):Option α:=
 G (lf ls 0).bool ((lf ls 1).lst uU) ((lf ls 2).lst (.int .i8))
  (fun a b c=>k (.tup [(.agg [(.one (.bool a)),(.seq uU 6 b)]),(.sv (.int .i64 c))]) [[(.gro (.int .i8) ((lf ls 2).lst (.int .i8)))]] [])
def g19R{α:Type}(G:S_g19 α):=rowK g19tp g19bp (g19K G)
def g19hd(G15:Al S_g15)(G50:Al S_g50)(G55:Al S_g55)(G54:Al S_g54)(G53:Al S_g53)(G56:Al S_g56)(L19l0:Al S_g19l0):Hd where
 call:=fun f args Bs k=>cond (Nat.beq f 15) (g15R G15 args Bs k) (cond (Nat.beq f 50) (g50R G50 args Bs k) (cond (Nat.beq f 55) (g55R G55 args Bs k) (cond (Nat.beq f 54) (g54R G54 args Bs k) (cond (Nat.beq f 53) (g53R G53 args Bs k) (cond (Nat.beq f 56) (g56R G56 args Bs k) (none))))))
 loop:=fun id st k=>cond (Nat.beq id 0) (loopH g19l0D (g19l0K L19l0) st k) (none)
 ro:=fun f=>cond (Nat.beq f 50) [0] (cond (Nat.beq f 56) [0] ([]))
def g19h(m:Nat):Hd:=g19hd (g15 m) (g50 m) (g55 m) (g54 m) (g53 m) (g56 m) (g19l0M m)
theorem g19l0Step(G15:Al S_g15)(G50:Al S_g50)(G55:Al S_g55)(G54:Al S_g54)(G53:Al S_g53)(G56:Al S_g56)(L19l0:Al S_g19l0){α:Type}(L:S_g19l0 α)(ls:List Lf)(k:KEx α):
  g19l0K (fun a b c d e h i j l=>g19l0b G55 G54 G53 a b c d e (L a b c d e) h i j l) ls k=ev tab (g19hd G15 G50 G55 G54 G53 G56 L19l0) (bodyAt Tryz.f19 0) (atHead g19l0D ls) (loopK g19l0D 0 (loopH g19l0D (g19l0K L)) k):=by kernel_rfl
theorem g19Main(G15:Al S_g15)(G50:Al S_g50)(G55:Al S_g55)(G54:Al S_g54)(G53:Al S_g53)(G56:Al S_g56)(L19l0:Al S_g19l0){α:Type}(ls:List Lf)(k:KRe α):
  g19K (g19b G15 G50 G55 G54 G53 G56 L19l0) ls k=evFun tab (g19hd G15 G50 G55 G54 G53 G56 L19l0) Tryz.f19 (fT g19tp ls) (fB g19tp g19bp ls) k:=by kernel_rfl
theorem g19Calls(m:Nat):(g19h m).CallsOk Tryz.prog:=(cok_cons (g15Ok m) (cok_cons (g50Ok m) (cok_cons (g55Ok m) (cok_cons (g54Ok m) (cok_cons (g53Ok m) (cok_cons (g56Ok m) cok_nil))))))
theorem g19l0Ok(m:Nat)(α:Type)(st:St)(k:KEx α)(r:α)(h:(g19h m).loop 0 st k=some r):
  LoopS Tryz.prog 0 (bodyAt Tryz.f19 0) st k r:=
 lpk (F:=fun n ls k=>g19l0K (fun a b c d e i j l o=>g19l0 (g55 m) (g54 m) (g53 m) a b c d e n i j l o) ls k) (g19Calls m) (lb0 (by kernel_rfl))
  (fun _ _=>rfl) (fun n ls k=>g19l0Step (g15 m) (g50 m) (g55 m) (g54 m) (g53 m) (g56 m) (g19l0M m) (fun a b c d e=>g19l0 (g55 m) (g54 m) (g53 m) a b c d e n) ls k) (n:=m) h
theorem g19Ok(m:Nat):RowOk Tryz.prog 19 (fun{α}=>g19R (g19 m (α:=α))):=
 rwk (g19Calls m) (lo1 (by kernel_rfl) (g19l0Ok m))
  (fun _=>g19Main (g15 m) (g50 m) (g55 m) (g54 m) (g53 m) (g56 m) (g19l0M m))
abbrev S_g18v1(α:Type):Type:=(List Int)→(List Int)→(Bool→Option α)→Option α
abbrev S_g18v1l0(α:Type):Type:=(List Int)→(List Int)→(Option α)→(Option α)→Int→Option α
def g18v1l0b{α:Type}(a b:List Int)(c d:Option α)(e:Int→Option α)(h:Int):Option α:=cond (decide (h<((a.length:Nat):Int))) (if 0≤h∧h<(a.length:Nat) then if h.toNat<a.length then if 0≤h∧h<(b.length:Nat) then if h.toNat<b.length then cond ((List.getD a h.toNat 0) !=(List.getD b h.toNat 0)) (c) (e (IntKind.wrap .i64 (h+(1:Int)))) else none else none else none else none) (d)
def g18v1l0{α:Type}(a b:List Int)(c d:Option α):Nat→Int→Option α
 |0=>fun _=>none
 |m+1=>fun e=>g18v1l0b a b c d (g18v1l0 a b c d m) e
def g18v1l0M{α:Type}(m:Nat):S_g18v1l0 α:=
 fun a b c d e=>g18v1l0 a b c d m e
def g18v1l0D:LoopD:={n:=26,low:=[0,1],sl:=[0,1,5],bl:=[0,1],tp:=[(.vl (.sv (.gsl 0 1))),(.vl (.sv (.gsl 1 1))),tI],bp:=[(false,[(.gro (.int .i8))]),(false,[(.gro (.int .i8))])],xs:=[(1,[4]),(2,[])]}
def g18v1l0K{α:Type}(L:S_g18v1l0 α)(ls:List Lf)(k:KEx α):Option α:=
 L ((lf ls 1).lst (.int .i8)) ((lf ls 2).lst (.int .i8))
  (k .ret (mkSt 26 [4] [(.vl (.sv (.bool false)))] [0,1] [(false,[(.gro (.int .i8) ((lf ls 1).lst (.int .i8)))]),(false,[(.gro (.int .i8) ((lf ls 2).lst (.int .i8)))])]))
  (k .normal (mkSt 26 [] [] [0,1] [(false,[(.gro (.int .i8) ((lf ls 1).lst (.int .i8)))]),(false,[(.gro (.int .i8) ((lf ls 2).lst (.int .i8)))])]))
  (lf ls 0).int
def g18v1b{α:Type}(L18v1l0:Al S_g18v1l0)(a b:List Int)(c:Bool→Option α):Option α:=cond (((a.length:Nat):Int) !=((b.length:Nat):Int)) (c false) (L18v1l0 a b (c false) (c true) (0:Int))
def g18v1{α:Type}(m:Nat):S_g18v1 α:=
 g18v1b (g18v1l0M m)
def g18v1tp:List TP:=[(.vl (.sv (.gsl 0 1))),(.vl (.sv (.gsl 1 1)))]
def g18v1bp:List BP:=[(false,[(.gro (.int .i8))]),(false,[(.gro (.int .i8))])]
def g18v1K{α:Type}(G:S_g18v1 α)(ls:List Lf)(k:KRe α):Option α:=
 G ((lf ls 0).lst (.int .i8)) ((lf ls 1).lst (.int .i8))
  (fun a=>k (.vl (.sv (.bool a))) [[(.gro (.int .i8) ((lf ls 0).lst (.int .i8)))],[(.gro (.int .i8) ((lf ls 1).lst (.int .i8)))]] [])
def g18v1R{α:Type}(G:S_g18v1 α):=rowK g18v1tp g18v1bp (g18v1K G)
def g18v1hd(L18v1l0:Al S_g18v1l0):Hd where
 call:=fun f args Bs k=>none
 loop:=fun id st k=>cond (Nat.beq id 0) (loopH g18v1l0D (g18v1l0K L18v1l0) st k) (none)
 ro:=fun f=>[]
def g18v1h(m:Nat):Hd:=g18v1hd (g18v1l0M m)
theorem g18v1l0Step(L18v1l0:Al S_g18v1l0){α:Type}(L:S_g18v1l0 α)(ls:List Lf)(k:KEx α):
  g18v1l0K (fun a b c d e=>g18v1l0b a b c d (L a b c d) e) ls k=ev tab (g18v1hd L18v1l0) (bodyAt Tryz.f18 0) (atHead g18v1l0D ls) (loopK g18v1l0D 0 (loopH g18v1l0D (g18v1l0K L)) k):=by kernel_rfl
theorem g18v1Main(L18v1l0:Al S_g18v1l0){α:Type}(ls:List Lf)(k:KRe α):
  g18v1K (g18v1b L18v1l0) ls k=evFun tab (g18v1hd L18v1l0) Tryz.f18 (fT g18v1tp ls) (fB g18v1tp g18v1bp ls) k:=by kernel_rfl
theorem g18v1Calls(m:Nat):(g18v1h m).CallsOk Tryz.prog:=cok_nil
theorem g18v1l0Ok(m:Nat)(α:Type)(st:St)(k:KEx α)(r:α)(h:(g18v1h m).loop 0 st k=some r):
  LoopS Tryz.prog 0 (bodyAt Tryz.f18 0) st k r:=
 lpk (F:=fun n ls k=>g18v1l0K (fun a b c d e=>g18v1l0 a b c d n e) ls k) (g18v1Calls m) (lb0 (by kernel_rfl))
  (fun _ _=>rfl) (fun n ls k=>g18v1l0Step (g18v1l0M m) (fun a b c d=>g18v1l0 a b c d n) ls k) (n:=m) h
theorem g18v1Ok(m:Nat):RowOk Tryz.prog 18 (fun{α}=>g18v1R (g18v1 m (α:=α))):=
 rwk (g18v1Calls m) (lo1 (by kernel_rfl) (g18v1l0Ok m))
  (fun _=>g18v1Main (g18v1l0M m))
abbrev S_g14v1(α:Type):Type:=Ty0→Ty0→(Bool→Option α)→Option α
abbrev S_g14v1l0(α:Type):Type:=Ty0→Ty0→(Option α)→(Option α)→Int→Option α
def g14v1l0b{α:Type}(a b:Ty0)(c d:Option α)(e:Int→Option α)(h:Int):Option α:=cond (decide (h<((a.length:Nat):Int))) (if 0≤h∧h<(a.length:Nat) then if h.toNat<a.length then if 0≤h∧h<(b.length:Nat) then if h.toNat<b.length then cond (!((((List.getD a h.toNat []).headD 0)==((List.getD b h.toNat []).headD 0))&&(((List.getD a h.toNat []).tail.headD 0)==((List.getD b h.toNat []).tail.headD 0)))) (c) (e (IntKind.wrap .i64 (h+(1:Int)))) else none else none else none else none) (d)
def g14v1l0{α:Type}(a b:Ty0)(c d:Option α):Nat→Int→Option α
 |0=>fun _=>none
 |m+1=>fun e=>g14v1l0b a b c d (g14v1l0 a b c d m) e
def g14v1l0M{α:Type}(m:Nat):S_g14v1l0 α:=
 fun a b c d e=>g14v1l0 a b c d m e
def g14v1l0D:LoopD:={n:=26,low:=[0,1],sl:=[0,1,5],bl:=[0,1],tp:=[(.vl (.sv (.gsl 0 2))),(.vl (.sv (.gsl 1 2))),tI],bp:=[(false,[(.gro rP)]),(false,[(.gro rP)])],xs:=[(1,[4]),(2,[])]}
def g14v1l0K{α:Type}(L:S_g14v1l0 α)(ls:List Lf)(k:KEx α):Option α:=
 L ((lf ls 1).lst rP) ((lf ls 2).lst rP)
  (k .ret (mkSt 26 [4] [(.vl (.sv (.bool false)))] [0,1] [(false,[(.gro rP ((lf ls 1).lst rP))]),(false,[(.gro rP ((lf ls 2).lst rP))])]))
  (k .normal (mkSt 26 [] [] [0,1] [(false,[(.gro rP ((lf ls 1).lst rP))]),(false,[(.gro rP ((lf ls 2).lst rP))])]))
  (lf ls 0).int
def g14v1b{α:Type}(L14v1l0:Al S_g14v1l0)(a b:Ty0)(c:Bool→Option α):Option α:=cond (((a.length:Nat):Int) !=((b.length:Nat):Int)) (c false) (L14v1l0 a b (c false) (c true) (0:Int))
def g14v1{α:Type}(m:Nat):S_g14v1 α:=
 g14v1b (g14v1l0M m)
def g14v1tp:List TP:=[(.vl (.sv (.gsl 0 2))),(.vl (.sv (.gsl 1 2)))]
def g14v1bp:List BP:=[(false,[(.gro rP)]),(false,[(.gro rP)])]
def g14v1K{α:Type}(G:S_g14v1 α)(ls:List Lf)(k:KRe α):Option α:=
 G ((lf ls 0).lst rP) ((lf ls 1).lst rP)
  (fun a=>k (.vl (.sv (.bool a))) [[(.gro rP ((lf ls 0).lst rP))],[(.gro rP ((lf ls 1).lst rP))]] [])
def g14v1R{α:Type}(G:S_g14v1 α):=rowK g14v1tp g14v1bp (g14v1K G)
def g14v1hd(L14v1l0:Al S_g14v1l0):Hd where
 call:=fun f args Bs k=>none
 loop:=fun id st k=>cond (Nat.beq id 0) (loopH g14v1l0D (g14v1l0K L14v1l0) st k) (none)
 ro:=fun f=>[]
def g14v1h(m:Nat):Hd:=g14v1hd (g14v1l0M m)
theorem g14v1l0Step(L14v1l0:Al S_g14v1l0){α:Type}(L:S_g14v1l0 α)(ls:List Lf)(k:KEx α):
  g14v1l0K (fun a b c d e=>g14v1l0b a b c d (L a b c d) e) ls k=ev tab (g14v1hd L14v1l0) (bodyAt Tryz.f14 0) (atHead g14v1l0D ls) (loopK g14v1l0D 0 (loopH g14v1l0D (g14v1l0K L)) k):=by kernel_rfl
theorem g14v1Main(L14v1l0:Al S_g14v1l0){α:Type}(ls:List Lf)(k:KRe α):
  g14v1K (g14v1b L14v1l0) ls k=evFun tab (g14v1hd L14v1l0) Tryz.f14 (fT g14v1tp ls) (fB g14v1tp g14v1bp ls) k:=by kernel_rfl
theorem g14v1Calls(m:Nat):(g14v1h m).CallsOk Tryz.prog:=cok_nil
theorem g14v1l0Ok(m:Nat)(α:Type)(st:St)(k:KEx α)(r:α)(h:(g14v1h m).loop 0 st k=some r):
  LoopS Tryz.prog 0 (bodyAt Tryz.f14 0) st k r:=
 lpk (F:=fun n ls k=>g14v1l0K (fun a b c d e=>g14v1l0 a b c d n e) ls k) (g14v1Calls m) (lb0 (by kernel_rfl))
  (fun _ _=>rfl) (fun n ls k=>g14v1l0Step (g14v1l0M m) (fun a b c d=>g14v1l0 a b c d n) ls k) (n:=m) h
theorem g14v1Ok(m:Nat):RowOk Tryz.prog 14 (fun{α}=>g14v1R (g14v1 m (α:=α))):=
 rwk (g14v1Calls m) (lo1 (by kernel_rfl) (g14v1l0Ok m))
  (fun _=>g14v1Main (g14v1l0M m))
abbrev S_g3(α:Type):Type:=Nat→Nat→Nat→Nat→Nat→Nat→Nat→(List Int)→Nat→(List Int)→(Bool→Option α)→Option α
abbrev S_g3l2(α:Type):Type:=Int→Int→Int→Nat→(List Int)→Nat→(List Int)→Ty0→Bool→(List Int)→Ty0→(Option α)→(Option α)→Int→Option α
def g3l2b{α:Type}(a b c:Int)(d:Nat)(e:List Int)(h:Nat)(i:List Int)(j:Ty0)(l:Bool)(n:List Int)(o:Ty0)(p q:Option α)(r:Int→Option α)(s:Int):Option α:=cond (decide (s<c)) (if 0≤s∧s<(o.length:Nat) then if s.toNat<o.length then if 0≤c∧c<(o.length:Nat) then if c.toNat<o.length then cond ((((List.getD o s.toNat []).headD 0)==((List.getD o c.toNat []).headD 0))&&(((List.getD o s.toNat []).tail.headD 0)==((List.getD o c.toNat []).tail.headD 0))) (p) (r (IntKind.wrap .i64 (s+(1:Int)))) else none else none else none else none) (q)
def g3l2{α:Type}(a b c:Int)(d:Nat)(e:List Int)(h:Nat)(i:List Int)(j:Ty0)(l:Bool)(n:List Int)(o:Ty0)(p q:Option α):Nat→Int→Option α
 |0=>fun _=>none
 |m+1=>fun r=>g3l2b a b c d e h i j l n o p q (g3l2 a b c d e h i j l n o p q m) r
def g3l2M{α:Type}(m:Nat):S_g3l2 α:=
 fun a b c d e h i j l n o p q r=>g3l2 a b c d e h i j l n o p q m r
def g3l2D:LoopD:={n:=305,low:=[0,1],sl:=[5,6,7,11,21,23,24],bl:=[0,1,1000002,1000003,1000004],tp:=[(.vl (.sv (.gsl 1000002 5))),tI,tI,(.vl (.sv (.ptr 1000003 0))),(.vl (.sv (.gsl 1000004 2))),tI,tI],bp:=[(false,[(.seqv (.int .u8))]),(false,[(.seqv (.int .u8))]),(true,[(.gro rN)]),(true,[(.one .bool),(.seq uU 6)]),(true,[(.gro rP)])],xs:=[(1,[4]),(4,[5,6,7,11,21,23])]}
def g3l2K{α:Type}(L:S_g3l2 α)(ls:List Lf)(k:KEx α):Option α:=
 L (lf ls 0).int (lf ls 1).int (lf ls 2).int (lf ls 4).nat ((lf ls 5).lst (.int .u8)) (lf ls 6).nat ((lf ls 7).lst (.int .u8)) ((lf ls 8).lst rN) (lf ls 9).bool ((lf ls 10).lst uU) ((lf ls 11).lst rP)
  (k .ret (mkSt 305 [4] [(.vl (.sv (.bool false)))] [0,1] [(false,[(.seq (.int .u8) (lf ls 4).nat ((lf ls 5).lst (.int .u8)))]),(false,[(.seq (.int .u8) (lf ls 6).nat ((lf ls 7).lst (.int .u8)))])]))
  (k .normal (mkSt 305 [5,6,7,11,21,23] [(.vl (.sv (.gsl 1000002 5))),(.vl (.sv (.int .i64 (lf ls 0).int))),(.vl (.sv (.int .i64 (lf ls 1).int))),(.vl (.sv (.ptr 1000003 0))),(.vl (.sv (.gsl 1000004 2))),(.vl (.sv (.int .i64 (lf ls 2).int)))] [0,1,1000002,1000003,1000004] [(false,[(.seq (.int .u8) (lf ls 4).nat ((lf ls 5).lst (.int .u8)))]),(false,[(.seq (.int .u8) (lf ls 6).nat ((lf ls 7).lst (.int .u8)))]),(true,[(.gro rN ((lf ls 8).lst rN))]),(true,[(.one (.bool (lf ls 9).bool)),(.seq uU 6 ((lf ls 10).lst uU))]),(true,[(.gro rP ((lf ls 11).lst rP))])]))
  (lf ls 3).int
abbrev S_g3l0(α:Type):Type:=Int→Int→Nat→(List Int)→Nat→(List Int)→Ty0→Bool→(List Int)→Ty0→(Option α)→(Option α)→Int→Option α
def g3l0b{α:Type}(G8:Al S_g8)(G15:Al S_g15)(L3l2:Al S_g3l2)(a b:Int)(c:Nat)(d:List Int)(e:Nat)(h:List Int)(i:Ty0)(j:Bool)(l:List Int)(n:Ty0)(o p:Option α)(q:Int→Option α)(r:Int):Option α:=cond (decide (r<((n.length:Nat):Int))) (L3l2 a b r c d e h i j l n (o) (if 0≤r∧r<(n.length:Nat) then if r.toNat<n.length then if 0≤r∧r<(n.length:Nat) then if r.toNat<n.length then G8 (IntKind.wrap .i64 ((List.getD n r.toNat []).headD 0)) (imin (64:Int) (IntKind.wrap .i64 (((List.getD n r.toNat []).tail).headD 0))) i (fun s t u=>cond (u !=(0:Int)) (o) (G15 s t (fun v=>cond (!v) (o) (q (IntKind.wrap .i64 (r+(1:Int))))))) else none else none else none else none) (0:Int)) (p)
def g3l0{α:Type}(G8:Al S_g8)(G15:Al S_g15)(L3l2:Al S_g3l2)(a b:Int)(c:Nat)(d:List Int)(e:Nat)(h:List Int)(i:Ty0)(j:Bool)(l:List Int)(n:Ty0)(o p:Option α):Nat→Int→Option α
 |0=>fun _=>none
 |m+1=>fun q=>g3l0b G8 G15 L3l2 a b c d e h i j l n o p (g3l0 G8 G15 L3l2 a b c d e h i j l n o p m) q
noncomputable def g3l0M{α:Type}(m:Nat):S_g3l0 α:=
 fun a b c d e h i j l n o p q=>g3l0 (g8 m) (g15 m) (g3l2M m) a b c d e h i j l n o p m q
def g3l0D:LoopD:={n:=305,low:=[0,1],sl:=[5,6,7,11,21,23],bl:=[0,1,1000002,1000003,1000004],tp:=[(.vl (.sv (.gsl 1000002 5))),tI,tI,(.vl (.sv (.ptr 1000003 0))),(.vl (.sv (.gsl 1000004 2))),tI],bp:=[(false,[(.seqv (.int .u8))]),(false,[(.seqv (.int .u8))]),(true,[(.gro rN)]),(true,[(.one .bool),(.seq uU 6)]),(true,[(.gro rP)])],xs:=[(1,[4]),(2,[5,6,7,11])]}
def g3l0K{α:Type}(L:S_g3l0 α)(ls:List Lf)(k:KEx α):Option α:=
 L (lf ls 0).int (lf ls 1).int (lf ls 3).nat ((lf ls 4).lst (.int .u8)) (lf ls 5).nat ((lf ls 6).lst (.int .u8)) ((lf ls 7).lst rN) (lf ls 8).bool ((lf ls 9).lst uU) ((lf ls 10).lst rP)
  (k .ret (mkSt 305 [4] [(.vl (.sv (.bool false)))] [0,1] [(false,[(.seq (.int .u8) (lf ls 3).nat ((lf ls 4).lst (.int .u8)))]),(false,[(.seq (.int .u8) (lf ls 5).nat ((lf ls 6).lst (.int .u8)))])]))
  (k .normal (mkSt 305 [5,6,7,11] [(.vl (.sv (.gsl 1000002 5))),(.vl (.sv (.int .i64 (lf ls 0).int))),(.vl (.sv (.int .i64 (lf ls 1).int))),(.vl (.sv (.ptr 1000003 0)))] [0,1,1000002,1000003] [(false,[(.seq (.int .u8) (lf ls 3).nat ((lf ls 4).lst (.int .u8)))]),(false,[(.seq (.int .u8) (lf ls 5).nat ((lf ls 6).lst (.int .u8)))]),(true,[(.gro rN ((lf ls 7).lst rN))]),(true,[(.one (.bool (lf ls 8).bool)),(.seq uU 6 ((lf ls 9).lst uU))])]))
  (lf ls 2).int
def g3b{α:Type}(G5:Al S_g5)(G6:Al S_g6)(G7:Al S_g7)(G7v1:Al S_g7v1)(G8:Al S_g8)(G9:Al S_g9)(G10:Al S_g10)(G11:Al S_g11)(G12:Al S_g12)(G13:Al S_g13)(G14:Al S_g14)(G15:Al S_g15)(G16:Al S_g16)(G17:Al S_g17)(G18:Al S_g18)(G19:Al S_g19)(G18v1:Al S_g18v1)(G14v1:Al S_g14v1)(L3l2:Al S_g3l2)(L3l0:Al S_g3l0)(a b:Nat)(c d:Nat)(e h i:Nat)(j:List Int)(l:Nat)(n:List Int)(o:Bool→Option α):Option α:=G5 a b c i j (fun p=>cond p (o true) (G5 d e h l n (fun q=>cond q (o true) (G6 a b c i j (fun r=>let s:Int:=IntKind.wrap .i64 (((r.length:Nat):Int)-(1:Int));G7 d e h (12:Int) l n (fun t=>if d+e≤l then let u:List Int:=List.take e (List.drop d n);if 1+u.length≤67108864 then G7v1 (12:Int) ([(1:Int)]++u) (fun v=>G8 s t r (fun w x y=>G9 s t r (fun z a0 b0=>G8 s (IntKind.wrap .i64 (t+v)) r (fun c0 d0 e0=>G9 s (IntKind.wrap .i64 (t+v)) r (fun h0 i0 j0=>cond (y !=b0) (o false) (cond (!((w==z)&&(eqLI x a0))) (o false) (cond (e0 !=j0) (o false) (cond (!((c0==h0)&&(eqLI d0 i0))) (o false) (G10 r (fun l0=>cond (!l0) (o false) (cond (y !=(0:Int)) (cond (y==(0:Int)) (cond (e0==(0:Int)) (o true) (cond (e0==(7:Int)) (o true) (o (e0==(3:Int))))) (cond (y==(7:Int)) (cond (e0==(0:Int)) (o true) (cond (e0==(7:Int)) (o true) (o (e0==(3:Int))))) (cond (y==(3:Int)) (cond (e0==(0:Int)) (o true) (cond (e0==(7:Int)) (o true) (o (e0==(3:Int))))) (o false)))) (cond (e0 !=(0:Int)) (cond (y==(0:Int)) (cond (e0==(0:Int)) (o true) (cond (e0==(7:Int)) (o true) (o (e0==(3:Int))))) (cond (y==(7:Int)) (cond (e0==(0:Int)) (o true) (cond (e0==(7:Int)) (o true) (o (e0==(3:Int))))) (cond (y==(3:Int)) (cond (e0==(0:Int)) (o true) (cond (e0==(7:Int)) (o true) (o (e0==(3:Int))))) (o false)))) (G11 z a0 h0 i0 t v (fun n0 o0=>G12 s t r (fun p0=>G13 s t r (fun q0 r0=>cond (o0 !=(0:Int)) (o false) (cond (!n0) (o false) (cond (p0 !=q0) (o false) (cond (p0 !=(0:Int)) (o false) (G14 r0 (fun s0=>cond (!s0) (o false) (cond (decide (((r0.length:Nat):Int)<(1:Int))) (o false) (if 0≤(0:Int)∧(0:Int)<(r0.length:Nat) then if 0<r0.length then cond (!((((List.getD r0 0 []).headD 0)==(IntKind.wrap .i16 s))&&(((List.getD r0 0 []).tail.headD 0)==(IntKind.wrap .i16 t)))) (o false) (L3l0 s t i j l n r z a0 r0 (o false) (G16 s t r (fun t0 u0=>G17 s t r (fun v0 w0 x0 y0=>cond (u0 !=x0) (o false) (cond (!((false==v0)&&(eqLI t0 w0))) (o false) (G18 y0 (fun z0=>cond (!z0) (o false) (cond (u0 !=(0:Int)) (cond (u0==(3:Int)) (o true) (o (u0==(7:Int)))) (G19 v0 w0 y0 (fun a1 b1 c1=>cond (c1 !=(0:Int)) (o false) (cond (((y0.length:Nat):Int) !=t) (o false) (G11 a1 b1 z a0 t (0:Int) (fun d1 e1=>cond (e1==(0:Int)) (o d1) (o false)))))))))))) (fun h1 i1 j1=>G17 s t r (fun l1 n1 o1 p1=>cond ((0:Int) !=o1) (o false) (cond (!((h1==l1)&&(eqLI i1 n1))) (o false) (G18v1 j1 p1 (fun q1=>cond (!q1) (o false) (G19 l1 n1 p1 (fun r1 s1 t1=>cond (t1 !=(0:Int)) (o false) (cond (((p1.length:Nat):Int) !=t) (o false) (G11 r1 s1 z a0 t (0:Int) (fun u1 v1=>cond (v1==(0:Int)) (o u1) (o false)))))))))))) (0:Int)) else none else none))))))))) (fun w1=>G13 s t r (fun x1 y1=>cond (o0 !=(0:Int)) (o false) (cond (!n0) (o false) (cond ((0:Int) !=x1) (o false) (G14v1 w1 y1 (fun z1=>cond (!z1) (o false) (cond (decide (((y1.length:Nat):Int)<(1:Int))) (o false) (if 0≤(0:Int)∧(0:Int)<(y1.length:Nat) then if 0<y1.length then cond (!((((List.getD y1 0 []).headD 0)==(IntKind.wrap .i16 s))&&(((List.getD y1 0 []).tail.headD 0)==(IntKind.wrap .i16 t)))) (o false) (L3l0 s t i j l n r z a0 y1 (o false) (G16 s t r (fun a2 b2=>G17 s t r (fun c2 d2 e2 h2=>cond (b2 !=e2) (o false) (cond (!((false==c2)&&(eqLI a2 d2))) (o false) (G18 h2 (fun i2=>cond (!i2) (o false) (cond (b2 !=(0:Int)) (cond (b2==(3:Int)) (o true) (o (b2==(7:Int)))) (G19 c2 d2 h2 (fun j2 l2 n2=>cond (n2 !=(0:Int)) (o false) (cond (((h2.length:Nat):Int) !=t) (o false) (G11 j2 l2 z a0 t (0:Int) (fun o2 p2=>cond (p2==(0:Int)) (o o2) (o false)))))))))))) (fun q2 r2 s2=>G17 s t r (fun t2 u2 v2 w2=>cond ((0:Int) !=v2) (o false) (cond (!((q2==t2)&&(eqLI r2 u2))) (o false) (G18v1 s2 w2 (fun x2=>cond (!x2) (o false) (G19 t2 u2 w2 (fun y2 z2 a3=>cond (a3 !=(0:Int)) (o false) (cond (((w2.length:Nat):Int) !=t) (o false) (G11 y2 z2 z a0 t (0:Int) (fun b3 c3=>cond (c3==(0:Int)) (o b3) (o false)))))))))))) (0:Int)) else none else none)))))))))))))))))))))) else none else none))))))
noncomputable def g3{α:Type}(m:Nat):S_g3 α:=
 g3b (g5 m) (g6 m) (g7 m) (g7v1 m) (g8 m) (g9 m) (g10 m) (g11 m) (g12 m) (g13 m) (g14 m) (g15 m) (g16 m) (g17 m) (g18 m) (g19 m) (g18v1 m) (g14v1 m) (g3l2M m) (g3l0M m)
def g3tp:List TP:=[(.vl (.sv (.sla 0 0 1))),(.vl (.sv (.sla 1 0 1)))]
def g3bp:List BP:=[(false,[(.seqv (.int .u8))]),(false,[(.seqv (.int .u8))])]
def g3K{α:Type}(G:S_g3 α)(ls:List Lf)(k:KRe α):Option α:=
 G (lf ls 0).nat (lf ls 1).nat (lf ls 2).nat (lf ls 3).nat (lf ls 4).nat (lf ls 5).nat (lf ls 6).nat ((lf ls 7).lst (.int .u8)) (lf ls 8).nat ((lf ls 9).lst (.int .u8))
  (fun a=>k (.vl (.sv (.bool a))) [[(.seq (.int .u8) (lf ls 6).nat ((lf ls 7).lst (.int .u8)))],[(.seq (.int .u8) (lf ls 8).nat ((lf ls 9).lst (.int .u8)))]] [])
def g3hd(G5:Al S_g5)(G6:Al S_g6)(G7:Al S_g7)(G7v1:Al S_g7v1)(G8:Al S_g8)(G9:Al S_g9)(G10:Al S_g10)(G11:Al S_g11)(G12:Al S_g12)(G13:Al S_g13)(G14:Al S_g14)(G15:Al S_g15)(G16:Al S_g16)(G17:Al S_g17)(G18:Al S_g18)(G19:Al S_g19)(G18v1:Al S_g18v1)(G14v1:Al S_g14v1)(L3l2:Al S_g3l2)(L3l0:Al S_g3l0):Hd where
 call:=fun f args Bs k=>cond (Nat.beq f 5) (g5R G5 args Bs k) (cond (Nat.beq f 6) (g6R G6 args Bs k) (cond (Nat.beq f 7) (rowE g7tp g7bp (g7K G7) (g7v1R G7v1) args Bs k) (cond (Nat.beq f 8) (g8R G8 args Bs k) (cond (Nat.beq f 9) (g9R G9 args Bs k) (cond (Nat.beq f 10) (g10R G10 args Bs k) (cond (Nat.beq f 11) (g11R G11 args Bs k) (cond (Nat.beq f 12) (g12R G12 args Bs k) (cond (Nat.beq f 13) (g13R G13 args Bs k) (cond (Nat.beq f 14) (rowE g14tp g14bp (g14K G14) (g14v1R G14v1) args Bs k) (cond (Nat.beq f 15) (g15R G15 args Bs k) (cond (Nat.beq f 16) (g16R G16 args Bs k) (cond (Nat.beq f 17) (g17R G17 args Bs k) (cond (Nat.beq f 18) (rowE g18tp g18bp (g18K G18) (g18v1R G18v1) args Bs k) (cond (Nat.beq f 19) (g19R G19 args Bs k) (none)))))))))))))))
 loop:=fun id st k=>cond (Nat.beq id 2) (loopH g3l2D (g3l2K L3l2) st k) (cond (Nat.beq id 0) (loopH g3l0D (g3l0K L3l0) st k) (none))
 ro:=fun f=>cond (Nat.beq f 5) [0] (cond (Nat.beq f 6) [0] (cond (Nat.beq f 7) [0] (cond (Nat.beq f 8) [0] (cond (Nat.beq f 9) [0] (cond (Nat.beq f 10) [0] (cond (Nat.beq f 12) [0] (cond (Nat.beq f 13) [0] (cond (Nat.beq f 14) [0,1] (cond (Nat.beq f 16) [0] (cond (Nat.beq f 17) [0] (cond (Nat.beq f 18) [0,1] (cond (Nat.beq f 19) [0] ([])))))))))))))
noncomputable def g3h(m:Nat):Hd:=g3hd (g5 m) (g6 m) (g7 m) (g7v1 m) (g8 m) (g9 m) (g10 m) (g11 m) (g12 m) (g13 m) (g14 m) (g15 m) (g16 m) (g17 m) (g18 m) (g19 m) (g18v1 m) (g14v1 m) (g3l2M m) (g3l0M m)
theorem g3l2Step(G5:Al S_g5)(G6:Al S_g6)(G7:Al S_g7)(G7v1:Al S_g7v1)(G8:Al S_g8)(G9:Al S_g9)(G10:Al S_g10)(G11:Al S_g11)(G12:Al S_g12)(G13:Al S_g13)(G14:Al S_g14)(G15:Al S_g15)(G16:Al S_g16)(G17:Al S_g17)(G18:Al S_g18)(G19:Al S_g19)(G18v1:Al S_g18v1)(G14v1:Al S_g14v1)(L3l2:Al S_g3l2)(L3l0:Al S_g3l0){α:Type}(L:S_g3l2 α)(ls:List Lf)(k:KEx α):
  g3l2K (fun a b c d e h i j l n o p q r=>g3l2b a b c d e h i j l n o p q (L a b c d e h i j l n o p q) r) ls k=ev tab (g3hd G5 G6 G7 G7v1 G8 G9 G10 G11 G12 G13 G14 G15 G16 G17 G18 G19 G18v1 G14v1 L3l2 L3l0) (bodyAt Tryz.f3 2) (atHead g3l2D ls) (loopK g3l2D 2 (loopH g3l2D (g3l2K L)) k):=by kernel_rfl
theorem g3l0Step(G5:Al S_g5)(G6:Al S_g6)(G7:Al S_g7)(G7v1:Al S_g7v1)(G8:Al S_g8)(G9:Al S_g9)(G10:Al S_g10)(G11:Al S_g11)(G12:Al S_g12)(G13:Al S_g13)(G14:Al S_g14)(G15:Al S_g15)(G16:Al S_g16)(G17:Al S_g17)(G18:Al S_g18)(G19:Al S_g19)(G18v1:Al S_g18v1)(G14v1:Al S_g14v1)(L3l2:Al S_g3l2)(L3l0:Al S_g3l0){α:Type}(L:S_g3l0 α)(ls:List Lf)(k:KEx α):
  g3l0K (fun a b c d e h i j l n o p q=>g3l0b G8 G15 L3l2 a b c d e h i j l n o p (L a b c d e h i j l n o p) q) ls k=ev tab (g3hd G5 G6 G7 G7v1 G8 G9 G10 G11 G12 G13 G14 G15 G16 G17 G18 G19 G18v1 G14v1 L3l2 L3l0) (bodyAt Tryz.f3 0) (atHead g3l0D ls) (loopK g3l0D 0 (loopH g3l0D (g3l0K L)) k):=by kernel_rfl
theorem g3Main(G5:Al S_g5)(G6:Al S_g6)(G7:Al S_g7)(G7v1:Al S_g7v1)(G8:Al S_g8)(G9:Al S_g9)(G10:Al S_g10)(G11:Al S_g11)(G12:Al S_g12)(G13:Al S_g13)(G14:Al S_g14)(G15:Al S_g15)(G16:Al S_g16)(G17:Al S_g17)(G18:Al S_g18)(G19:Al S_g19)(G18v1:Al S_g18v1)(G14v1:Al S_g14v1)(L3l2:Al S_g3l2)(L3l0:Al S_g3l0){α:Type}(ls:List Lf)(k:KRe α):
  g3K (g3b G5 G6 G7 G7v1 G8 G9 G10 G11 G12 G13 G14 G15 G16 G17 G18 G19 G18v1 G14v1 L3l2 L3l0) ls k=evFun tab (g3hd G5 G6 G7 G7v1 G8 G9 G10 G11 G12 G13 G14 G15 G16 G17 G18 G19 G18v1 G14v1 L3l2 L3l0) Tryz.f3 (fT g3tp ls) (fB g3tp g3bp ls) k:=by kernel_rfl
theorem g3Calls(m:Nat):(g3h m).CallsOk Tryz.prog:=(cok_cons (g5Ok m) (cok_cons (g6Ok m) (cok_cons (row_else (g7Ok m) (g7v1Ok m)) (cok_cons (g8Ok m) (cok_cons (g9Ok m) (cok_cons (g10Ok m) (cok_cons (g11Ok m) (cok_cons (g12Ok m) (cok_cons (g13Ok m) (cok_cons (row_else (g14Ok m) (g14v1Ok m)) (cok_cons (g15Ok m) (cok_cons (g16Ok m) (cok_cons (g17Ok m) (cok_cons (row_else (g18Ok m) (g18v1Ok m)) (cok_cons (g19Ok m) cok_nil)))))))))))))))
theorem g3l2Ok(m:Nat)(α:Type)(st:St)(k:KEx α)(r:α)(h:(g3h m).loop 2 st k=some r):
  LoopS Tryz.prog 2 (bodyAt Tryz.f3 2) st k r:=
 lpk (F:=fun n ls k=>g3l2K (fun a b c d e i j l o q s t u v=>g3l2 a b c d e i j l o q s t u n v) ls k) (g3Calls m) (lb0 (by kernel_rfl))
  (fun _ _=>rfl) (fun n ls k=>g3l2Step (g5 m) (g6 m) (g7 m) (g7v1 m) (g8 m) (g9 m) (g10 m) (g11 m) (g12 m) (g13 m) (g14 m) (g15 m) (g16 m) (g17 m) (g18 m) (g19 m) (g18v1 m) (g14v1 m) (g3l2M m) (g3l0M m) (fun a b c d e i j l o q s t u=>g3l2 a b c d e i j l o q s t u n) ls k) (n:=m) h
theorem g3l0Ok(m:Nat)(α:Type)(st:St)(k:KEx α)(r:α)(h:(g3h m).loop 0 st k=some r):
  LoopS Tryz.prog 0 (bodyAt Tryz.f3 0) st k r:=
 lpk (F:=fun n ls k=>g3l0K (fun a b c d e i j l o q s t u=>g3l0 (g8 m) (g15 m) (g3l2M m) a b c d e i j l o q s t n u) ls k) (g3Calls m) (loopsOk_of _ (fun p hp=>by
  rw[show loopsOf (bodyAt Tryz.f3 0)=[(2,bodyAt Tryz.f3 2)] by kernel_rfl] at hp
  simp only[List.mem_cons,List.not_mem_nil,or_false] at hp
  rcases hp with rfl
  exact g3l2Ok m))
  (fun _ _=>rfl) (fun n ls k=>g3l0Step (g5 m) (g6 m) (g7 m) (g7v1 m) (g8 m) (g9 m) (g10 m) (g11 m) (g12 m) (g13 m) (g14 m) (g15 m) (g16 m) (g17 m) (g18 m) (g19 m) (g18v1 m) (g14v1 m) (g3l2M m) (g3l0M m) (fun a b c d e i j l o q s t=>g3l0 (g8 m) (g15 m) (g3l2M m) a b c d e i j l o q s t n) ls k) (n:=m) h
theorem g3Fn(m:Nat):FnOk Tryz.prog 3 g3tp g3bp (fun{α}=>g3K (g3 m (α:=α))):=
 fnk (g3Calls m) (lo1 (by kernel_rfl) (g3l0Ok m))
  (fun _=>g3Main (g5 m) (g6 m) (g7 m) (g7v1 m) (g8 m) (g9 m) (g10 m) (g11 m) (g12 m) (g13 m) (g14 m) (g15 m) (g16 m) (g17 m) (g18 m) (g19 m) (g18v1 m) (g14v1 m) (g3l2M m) (g3l0M m))
end Go.Proofs.YtlmmgjngihlpeaaGreat.Sx
