/- Functions. Printed by our own sx.py. -/
import Derived.Test.YtlmmgjngihlpeaaGreatSxV1
namespace Go.Proofs.YtlmmgjngihlpeaaGreat.Sx
open Go
set_option linter.unusedVariables false
set_option maxRecDepth 100000
abbrev S_g49(α:Type):Type:=Int→Int→Nat→Nat→Nat→Nat→Nat→Nat→Nat→Ty0→Ty1→Ty0→(Bool→(List Int)→Int→Nat→Nat→Nat→Nat→Nat→Nat→Ty1→(List Int)→Ty0→Option α)→Option α
abbrev S_g49l0(α:Type):Type:=Int→Int→Nat→Ty0→Bool→(List Int)→Bool→(List Int)→(Int→Nat→Nat→Nat→Nat→Nat→Nat→Ty1→(List Int)→(List Int)→Ty0→Option α)→(Nat→Nat→Nat→Nat→Nat→Nat→Ty1→(List Int)→Ty0→Option α)→Int→Nat→Nat→Nat→Nat→Nat→Nat→Ty1→Bool→(List Int)→(List Int)→Ty0→Option α
def g49l0b{α:Type}(G36:Al S_g36)(G77:Al S_g77)(G79:Al S_g79)(G78:Al S_g78)(G80:Al S_g80)(G81:Al S_g81)(G82:Al S_g82)(a b:Int)(c:Nat)(d:Ty0)(e:Bool)(h:List Int)(i:Bool)(j:List Int)(l:Int→Nat→Nat→Nat→Nat→Nat→Nat→Ty1→(List Int)→(List Int)→Ty0→Option α)(n:Nat→Nat→Nat→Nat→Nat→Nat→Ty1→(List Int)→Ty0→Option α)(o:Int→Nat→Nat→Nat→Nat→Nat→Nat→Ty1→Bool→(List Int)→(List Int)→Ty0→Option α)(p:Int)(q r:Nat)(s t:Nat)(u v:Nat)(w:Ty1)(x:Bool)(y z:List Int)(a0:Ty0):Option α:=cond (decide (p≤b)) (G36 a (IntKind.wrap .i64 (p+(2:Int))) q r s t u v c d w a0 (fun b0 c0 d0 e0 h0 i0 j0 l0 n0 o0 p0 q0 r0=>cond (d0 !=(0:Int)) (l d0 e0 h0 i0 j0 l0 n0 q0 [0,0,0,0,0,0] [] r0) (G77 x y (3:Int) (fun s0 t0 u0=>cond (u0 !=(0:Int)) (l u0 e0 h0 i0 j0 l0 n0 q0 [0,0,0,0,0,0] [] r0) (G79 s0 t0 (fun v0=>G78 b0 c0 v0 t0 (fun w0 x0 y0=>cond (y0 !=(0:Int)) (l y0 e0 h0 i0 j0 l0 n0 q0 [0,0,0,0,0,0] [] r0) (G80 (2:Int) (fun z0 a1=>G80 (-2:Int) (fun b1 c1=>G81 w0 x0 z0 a1 (fun d1=>cond (decide (d1>(0:Int))) (G82 x y (1:Int) (fun e1 h1 i1=>cond (i1 !=(0:Int)) (l i1 e0 h0 i0 j0 l0 n0 q0 [0,0,0,0,0,0] [] r0) (if z.length+1≤67108864 then o (IntKind.wrap .i64 (p+(1:Int))) e0 h0 i0 j0 l0 n0 q0 e1 h1 (z++[(1:Int)]) r0 else none))) (G81 w0 x0 b1 c1 (fun j1=>cond (decide (j1<(0:Int))) (G82 x y (-1:Int) (fun l1 n1 o1=>cond (o1 !=(0:Int)) (l o1 e0 h0 i0 j0 l0 n0 q0 [0,0,0,0,0,0] [] r0) (if z.length+1≤67108864 then o (IntKind.wrap .i64 (p+(1:Int))) e0 h0 i0 j0 l0 n0 q0 l1 n1 (z++[(-1:Int)]) r0 else none))) (G82 x y (0:Int) (fun p1 q1 r1=>cond (r1 !=(0:Int)) (l r1 e0 h0 i0 j0 l0 n0 q0 [0,0,0,0,0,0] [] r0) (if z.length+1≤67108864 then o (IntKind.wrap .i64 (p+(1:Int))) e0 h0 i0 j0 l0 n0 q0 p1 q1 (z++[(0:Int)]) r0 else none)))))))))))))))) (n q r s t u v w z a0)
def g49l0{α:Type}(G36:Al S_g36)(G77:Al S_g77)(G79:Al S_g79)(G78:Al S_g78)(G80:Al S_g80)(G81:Al S_g81)(G82:Al S_g82)(a b:Int)(c:Nat)(d:Ty0)(e:Bool)(h:List Int)(i:Bool)(j:List Int)(l:Int→Nat→Nat→Nat→Nat→Nat→Nat→Ty1→(List Int)→(List Int)→Ty0→Option α)(n:Nat→Nat→Nat→Nat→Nat→Nat→Ty1→(List Int)→Ty0→Option α):Nat→Int→Nat→Nat→Nat→Nat→Nat→Nat→Ty1→Bool→(List Int)→(List Int)→Ty0→Option α
 |0=>fun _ _ _ _ _ _ _ _ _ _ _ _=>none
 |m+1=>fun o p q r s t u v w x y z=>g49l0b G36 G77 G79 G78 G80 G81 G82 a b c d e h i j l n (g49l0 G36 G77 G79 G78 G80 G81 G82 a b c d e h i j l n m) o p q r s t u v w x y z
noncomputable def g49l0M{α:Type}(m:Nat):S_g49l0 α:=
 fun a b c d e h i j l n o p q r s t u v w x y z=>g49l0 (g36 m) (g77 m) (g79 m) (g78 m) (g80 m) (g81 m) (g82 m) a b c d e h i j l n m o p q r s t u v w x y z
def g49l0D:LoopD:={n:=106,low:=[0,1,2,3],sl:=[0,1,2,6,11,12,13,14],bl:=[0,1,2,3,1000004,1000005,1000006,1000007,1000008],tp:=[(.vl (.sv (.ptr 0 0))),tI,tI,(.vl (.sv (.ptr 1000004 0))),(.vl (.sv (.ptr 1000005 0))),(.vl (.sv (.ptr 1000006 0))),(.vl (.sv (.gsl 1000007 1))),tI],bp:=[(true,[(.one (.slc 1 0 5)),(.one (.slc 2 0 1)),(.one (.gsl 1000008 2))]),(false,[(.seqv rN)]),(true,[(.rws mK)]),(true,[]),(true,[(.one .bool),(.seq uU 6)]),(true,[(.one .bool),(.seq uU 6)]),(true,[(.one .bool),(.seq uU 6)]),(true,[(.gro (.int .i8))]),(true,[(.gro rP)])],xs:=[(1,[6,7,8]),(2,[6,11,13])]}
def g49l0K{α:Type}(L:S_g49l0 α)(ls:List Lf)(k:KEx α):Option α:=
 L (lf ls 0).int (lf ls 1).int (lf ls 9).nat ((lf ls 10).lst rN) (lf ls 12).bool ((lf ls 13).lst uU) (lf ls 14).bool ((lf ls 15).lst uU)
  (fun c d e h j l n o p q r=>k .ret (mkSt 106 [6,7,8] [(.vl (.sv (.ptr 1000004 0))),(.vl (.sv (.gsl 1000005 1))),(.vl (.sv (.int .i64 c)))] [0,1,2,3,1000004,1000005,1000006] [(true,[(.one (.slc 1 0 5 d e h)),(.one (.slc 2 0 1 j l n)),(.one (.gsl 1000006 2))]),(false,[(.seq rN (lf ls 9).nat ((lf ls 10).lst rN))]),(true,[(.rws mK o none)]),(true,[]),(true,[(.one (.bool false)),(.seq uU 6 p)]),(true,[(.gro (.int .i8) q)]),(true,[(.gro rP r)])]))
  (fun c d e h j l s r t=>k .normal (mkSt 106 [6,11,13] [(.vl (.sv (.ptr 1000004 0))),(.vl (.sv (.ptr 1000005 0))),(.vl (.sv (.gsl 1000006 1)))] [0,1,2,3,1000004,1000005,1000006,1000007] [(true,[(.one (.slc 1 0 5 c d e)),(.one (.slc 2 0 1 h j l)),(.one (.gsl 1000007 2))]),(false,[(.seq rN (lf ls 9).nat ((lf ls 10).lst rN))]),(true,[(.rws mK s none)]),(true,[]),(true,[(.one (.bool (lf ls 12).bool)),(.seq uU 6 ((lf ls 13).lst uU))]),(true,[(.one (.bool (lf ls 14).bool)),(.seq uU 6 ((lf ls 15).lst uU))]),(true,[(.gro (.int .i8) r)]),(true,[(.gro rP t)])]))
  (lf ls 2).int (lf ls 3).nat (lf ls 4).nat (lf ls 5).nat (lf ls 6).nat (lf ls 7).nat (lf ls 8).nat ((lf ls 11).rows mK) (lf ls 16).bool ((lf ls 17).lst uU) ((lf ls 18).lst (.int .i8)) ((lf ls 19).lst rP)
def g49b{α:Type}(G36:Al S_g36)(G76:Al S_g76)(G77:Al S_g77)(G79:Al S_g79)(G78:Al S_g78)(G80:Al S_g80)(G81:Al S_g81)(G82:Al S_g82)(L49l0:Al S_g49l0)(a b:Int)(c d:Nat)(e h:Nat)(i j l:Nat)(n:Ty0)(o:Ty1)(p:Ty0)(q:Bool→(List Int)→Int→Nat→Nat→Nat→Nat→Nat→Nat→Ty1→(List Int)→Ty0→Option α):Option α:=G36 a (2:Int) c d e h i j l n o p (fun r s t u v w x y z a0 b0 c0 d0=>cond (t !=(0:Int)) (q false [0,0,0,0,0,0] t u v w x y z c0 [] d0) (G76 r s (2:Int) (fun e0 h0=>L49l0 a b l n false [0,0,0,0,0,0] e0 h0 (fun i0 j0 l0 n0 o0 p0 q0 r0 s0 t0 u0=>q false s0 i0 j0 l0 n0 o0 p0 q0 r0 t0 u0) (fun v0 w0 x0 y0 z0 a1 b1 c1 d1=>q e0 h0 (0:Int) v0 w0 x0 y0 z0 a1 b1 c1 d1) (1:Int) u v w x y z c0 e0 h0 [] d0)))
noncomputable def g49{α:Type}(m:Nat):S_g49 α:=
 g49b (g36 m) (g76 m) (g77 m) (g79 m) (g78 m) (g80 m) (g81 m) (g82 m) (g49l0M m)
def g49tp:List TP:=[(.vl (.sv (.ptr 0 0))),tI,tI]
def g49bp:List BP:=[(true,[(.one (.slc 1 0 5)),(.one (.slc 2 0 1)),(.one (.gsl 3 2))]),(false,[(.seqv rN)]),(true,[(.rws mK)]),(true,[(.gro rP)])]
def g49K{α:Type}(G:S_g49 α)(ls:List Lf)(k:KRe α):Option α:=
 G (lf ls 0).int (lf ls 1).int (lf ls 2).nat (lf ls 3).nat (lf ls 4).nat (lf ls 5).nat (lf ls 6).nat (lf ls 7).nat (lf ls 8).nat ((lf ls 9).lst rN) ((lf ls 10).rows mK) ((lf ls 11).lst rP)
  (fun c d e h j l n o p q r s=>k (.tup [(.agg [(.one (.bool c)),(.seq uU 6 d)]),(.sv (.gsl 4 1)),(.sv (.int .i64 e))]) [[(.one (.slc 1 0 5 h j l)),(.one (.slc 2 0 1 n o p)),(.one (.gsl 5 2))],[(.seq rN (lf ls 8).nat ((lf ls 9).lst rN))],[(.rws mK q none)],[]] [[(.gro (.int .i8) r)],[(.gro rP s)]])
def g49R{α:Type}(G:S_g49 α):=rowK g49tp g49bp (g49K G)
def g49hd(G36:Al S_g36)(G76:Al S_g76)(G77:Al S_g77)(G79:Al S_g79)(G78:Al S_g78)(G80:Al S_g80)(G81:Al S_g81)(G82:Al S_g82)(L49l0:Al S_g49l0):Hd where
 call:=fun f args Bs k=>cond (Nat.beq f 36) (g36R G36 args Bs k) (cond (Nat.beq f 76) (g76R G76 args Bs k) (cond (Nat.beq f 77) (g77R G77 args Bs k) (cond (Nat.beq f 79) (g79R G79 args Bs k) (cond (Nat.beq f 78) (g78R G78 args Bs k) (cond (Nat.beq f 80) (g80R G80 args Bs k) (cond (Nat.beq f 81) (g81R G81 args Bs k) (cond (Nat.beq f 82) (g82R G82 args Bs k) (none))))))))
 loop:=fun id st k=>cond (Nat.beq id 0) (loopH g49l0D (g49l0K L49l0) st k) (none)
 ro:=fun f=>cond (Nat.beq f 36) [1] (cond (Nat.beq f 81) [0,1] ([]))
noncomputable def g49h(m:Nat):Hd:=g49hd (g36 m) (g76 m) (g77 m) (g79 m) (g78 m) (g80 m) (g81 m) (g82 m) (g49l0M m)
theorem g49l0Step(G36:Al S_g36)(G76:Al S_g76)(G77:Al S_g77)(G79:Al S_g79)(G78:Al S_g78)(G80:Al S_g80)(G81:Al S_g81)(G82:Al S_g82)(L49l0:Al S_g49l0){α:Type}(L:S_g49l0 α)(ls:List Lf)(k:KEx α):
  g49l0K (fun a b c d e h i j l n o p q r s t u v w x y z=>g49l0b G36 G77 G79 G78 G80 G81 G82 a b c d e h i j l n (L a b c d e h i j l n) o p q r s t u v w x y z) ls k=ev tab (g49hd G36 G76 G77 G79 G78 G80 G81 G82 L49l0) (bodyAt Tryz.f49 0) (atHead g49l0D ls) (loopK g49l0D 0 (loopH g49l0D (g49l0K L)) k):=by kernel_rfl
theorem g49Main(G36:Al S_g36)(G76:Al S_g76)(G77:Al S_g77)(G79:Al S_g79)(G78:Al S_g78)(G80:Al S_g80)(G81:Al S_g81)(G82:Al S_g82)(L49l0:Al S_g49l0){α:Type}(ls:List Lf)(k:KRe α):
  g49K (g49b G36 G76 G77 G79 G78 G80 G81 G82 L49l0) ls k=evFunM tab (g49hd G36 G76 G77 G79 G78 G80 G81 G82 L49l0) Tryz.f49 3 (fT g49tp ls) (fB g49tp g49bp ls) k:=by kernel_rfl
theorem g49Calls(m:Nat):(g49h m).CallsOk Tryz.prog:=(cok_cons (g36Ok m) (cok_cons (g76Ok m) (cok_cons (g77Ok m) (cok_cons (g79Ok m) (cok_cons (g78Ok m) (cok_cons (g80Ok m) (cok_cons (g81Ok m) (cok_cons (g82Ok m) cok_nil))))))))
theorem g49l0Ok(m:Nat)(α:Type)(st:St)(k:KEx α)(r:α)(h:(g49h m).loop 0 st k=some r):
  LoopS Tryz.prog 0 (bodyAt Tryz.f49 0) st k r:=
 lpk (F:=fun n ls k=>g49l0K (fun a b c d e i j l o q s t u v w x y z a0 b0 c0 d0=>g49l0 (g36 m) (g77 m) (g79 m) (g78 m) (g80 m) (g81 m) (g82 m) a b c d e i j l o q n s t u v w x y z a0 b0 c0 d0) ls k) (g49Calls m) (lb0 (by kernel_rfl))
  (fun _ _=>rfl) (fun n ls k=>g49l0Step (g36 m) (g76 m) (g77 m) (g79 m) (g78 m) (g80 m) (g81 m) (g82 m) (g49l0M m) (fun a b c d e i j l o q=>g49l0 (g36 m) (g77 m) (g79 m) (g78 m) (g80 m) (g81 m) (g82 m) a b c d e i j l o q n) ls k) (n:=m) h
theorem g49Fn(m:Nat):FnOk Tryz.prog 49 g49tp g49bp (fun{α}=>g49K (g49 m (α:=α))):=
 fn_okM (tab:=tab) (h:=g49h m) (fn:=Tryz.f49) (F:=fun{α}=>g49K (g49 m (α:=α))) tabOk (g49Calls m) mixed (by kernel_rfl) (by kernel_rfl) (fun c hc=>by
  rw[bodyOf_some hc]
  exact loopsOk_of _ (fun p hp=>by
  rw[show loopsOf (bodyOf Tryz.f49)=[(0,bodyAt Tryz.f49 0)] by kernel_rfl] at hp
  simp only[List.mem_cons,List.not_mem_nil,or_false] at hp
  rcases hp with rfl
  exact g49l0Ok m))
  (fun _=>g49Main (g36 m) (g76 m) (g77 m) (g79 m) (g78 m) (g80 m) (g81 m) (g82 m) (g49l0M m))
theorem g49Ok(m:Nat):RowOk Tryz.prog 49 (fun{α}=>g49R (g49 m (α:=α))):=row_of (g49Fn m)
abbrev S_g17(α:Type):Type:=Nat→Nat→Nat→Int→Int→Nat→Ty0→(Bool→(List Int)→Int→(List Int)→Option α)→Option α
def g17b{α:Type}(G34:Al S_g34)(G35:Al S_g35)(G49:Al S_g49)(a b c:Nat)(d e:Int)(h:Nat)(i:Ty0)(j:Bool→(List Int)→Int→(List Int)→Option α):Option α:=G34 a b c d e h i (fun l=>cond (l !=(0:Int)) (j false [0,0,0,0,0,0] l []) (G35 a b c h i (fun n o=>G49 d e a b c 0 b b h i n o (fun p q r s t u v w x y z a0=>j p q r z))))
noncomputable def g17{α:Type}(m:Nat):S_g17 α:=
 g17b (g34 m) (g35 m) (g49 m)
def g17tp:List TP:=[(.vl (.sv (.slc 0 0 5))),tI,tI]
def g17bp:List BP:=[(false,[(.seqv rN)])]
def g17K{α:Type}(G:S_g17 α)(ls:List Lf)(k:KRe α):Option α:=
 G (lf ls 0).nat (lf ls 1).nat (lf ls 2).nat (lf ls 3).int (lf ls 4).int (lf ls 5).nat ((lf ls 6).lst rN)
  (fun a b c d=>k (.tup [(.agg [(.one (.bool a)),(.seq uU 6 b)]),(.sv (.gsl 1 1)),(.sv (.int .i64 c))]) [[(.seq rN (lf ls 5).nat ((lf ls 6).lst rN))]] [[(.gro (.int .i8) d)]])
def g17R{α:Type}(G:S_g17 α):=rowK g17tp g17bp (g17K G)
def g17hd(G34:Al S_g34)(G35:Al S_g35)(G49:Al S_g49):Hd where
 call:=fun f args Bs k=>cond (Nat.beq f 34) (g34R G34 args Bs k) (cond (Nat.beq f 35) (g35R G35 args Bs k) (cond (Nat.beq f 49) (g49R G49 args Bs k) (none)))
 loop:=fun id st k=>none
 ro:=fun f=>cond (Nat.beq f 34) [0] (cond (Nat.beq f 35) [0] (cond (Nat.beq f 49) [1] ([])))
noncomputable def g17h(m:Nat):Hd:=g17hd (g34 m) (g35 m) (g49 m)
theorem g17Main(G34:Al S_g34)(G35:Al S_g35)(G49:Al S_g49){α:Type}(ls:List Lf)(k:KRe α):
  g17K (g17b G34 G35 G49) ls k=evFun tab (g17hd G34 G35 G49) Tryz.f17 (fT g17tp ls) (fB g17tp g17bp ls) k:=by kernel_rfl
theorem g17Calls(m:Nat):(g17h m).CallsOk Tryz.prog:=(cok_cons (g34Ok m) (cok_cons (g35Ok m) (cok_cons (g49Ok m) cok_nil)))
theorem g17Ok(m:Nat):RowOk Tryz.prog 17 (fun{α}=>g17R (g17 m (α:=α))):=
 rwk (g17Calls m) (lo0 (by kernel_rfl))
  (fun _=>g17Main (g34 m) (g35 m) (g49 m))
abbrev S_g37(α:Type):Type:=Int→(Bool→Bool→Bool→Option α)→Option α
def g37b{α:Type}(a:Int)(b:Bool→Bool→Bool→Option α):Option α:=cond (a==(1:Int)) (b false false true) (cond (a==(2:Int)) (b true true false) (cond (a==(3:Int)) (b true true false) (cond (a==(4:Int)) (b true true false) (cond (a==(5:Int)) (b true true false) (cond (a==(8:Int)) (b true true false) (cond (a==(9:Int)) (b true true false) (cond (a==(6:Int)) (b true false false) (cond (a==(7:Int)) (b true false false) (cond (a==(10:Int)) (b true false false) (b false false false))))))))))
def g37{α:Type}(m:Nat):S_g37 α:=
 g37b
def g37tp:List TP:=[(.vl (.sv (.int .i8)))]
def g37bp:List BP:=[]
def g37K{α:Type}(G:S_g37 α)(ls:List Lf)(k:KRe α):Option α:=
 G (lf ls 0).int
  (fun a b c=>k (.tup [(.sv (.bool a)),(.sv (.bool b)),(.sv (.bool c))]) [] [])
def g37R{α:Type}(G:S_g37 α):=rowK g37tp g37bp (g37K G)
def g37hd:Hd where
 call:=fun f args Bs k=>none
 loop:=fun id st k=>none
 ro:=fun f=>[]
def g37h(m:Nat):Hd:=g37hd
theorem g37Main{α:Type}(ls:List Lf)(k:KRe α):
  g37K (g37b) ls k=evFun tab (g37hd) Tryz.f37 (fT g37tp ls) (fB g37tp g37bp ls) k:=by kernel_rfl
theorem g37Calls(m:Nat):(g37h m).CallsOk Tryz.prog:=cok_nil
theorem g37Ok(m:Nat):RowOk Tryz.prog 37 (fun{α}=>g37R (g37 m (α:=α))):=
 rwk (g37Calls m) (lo0 (by kernel_rfl))
  (fun _=>g37Main)
abbrev S_g40(α:Type):Type:=Int→Int→Int→(Bool→Option α)→Option α
def g40b{α:Type}(a b c:Int)(d:Bool→Option α):Option α:=cond (decide (a≥b)) (d (decide (a≤c))) (d false)
def g40{α:Type}(m:Nat):S_g40 α:=
 g40b
def g40tp:List TP:=[tI,tI,tI]
def g40bp:List BP:=[]
def g40K{α:Type}(G:S_g40 α)(ls:List Lf)(k:KRe α):Option α:=
 G (lf ls 0).int (lf ls 1).int (lf ls 2).int
  (fun a=>k (.vl (.sv (.bool a))) [] [])
def g40R{α:Type}(G:S_g40 α):=rowK g40tp g40bp (g40K G)
def g40hd:Hd where
 call:=fun f args Bs k=>none
 loop:=fun id st k=>none
 ro:=fun f=>[]
def g40h(m:Nat):Hd:=g40hd
theorem g40Main{α:Type}(ls:List Lf)(k:KRe α):
  g40K (g40b) ls k=evFun tab (g40hd) Tryz.f40 (fT g40tp ls) (fB g40tp g40bp ls) k:=by kernel_rfl
theorem g40Calls(m:Nat):(g40h m).CallsOk Tryz.prog:=cok_nil
theorem g40Ok(m:Nat):RowOk Tryz.prog 40 (fun{α}=>g40R (g40 m (α:=α))):=
 rwk (g40Calls m) (lo0 (by kernel_rfl))
  (fun _=>g40Main)
abbrev S_g38(α:Type):Type:=Int→Int→Int→(Bool→Option α)→Option α
def g38b{α:Type}(G40:Al S_g40)(a b c:Int)(d:Bool→Option α):Option α:=cond (a==(1:Int)) (G40 b (-1000000000:Int) (1000000000:Int) (fun e=>cond e (G40 c (1:Int) (1000000000:Int) (fun h=>d h)) (d false))) (cond (b==(0:Int)) (d (c==(0:Int))) (d false))
def g38{α:Type}(m:Nat):S_g38 α:=
 g38b (g40 m)
def g38tp:List TP:=[(.vl (.sv (.int .i8))),tI,tI]
def g38bp:List BP:=[]
def g38K{α:Type}(G:S_g38 α)(ls:List Lf)(k:KRe α):Option α:=
 G (lf ls 0).int (lf ls 1).int (lf ls 2).int
  (fun a=>k (.vl (.sv (.bool a))) [] [])
def g38R{α:Type}(G:S_g38 α):=rowK g38tp g38bp (g38K G)
def g38hd(G40:Al S_g40):Hd where
 call:=fun f args Bs k=>cond (Nat.beq f 40) (g40R G40 args Bs k) (none)
 loop:=fun id st k=>none
 ro:=fun f=>[]
def g38h(m:Nat):Hd:=g38hd (g40 m)
theorem g38Main(G40:Al S_g40){α:Type}(ls:List Lf)(k:KRe α):
  g38K (g38b G40) ls k=evFun tab (g38hd G40) Tryz.f38 (fT g38tp ls) (fB g38tp g38bp ls) k:=by kernel_rfl
theorem g38Calls(m:Nat):(g38h m).CallsOk Tryz.prog:=(cok_cons (g40Ok m) cok_nil)
theorem g38Ok(m:Nat):RowOk Tryz.prog 38 (fun{α}=>g38R (g38 m (α:=α))):=
 rwk (g38Calls m) (lo0 (by kernel_rfl))
  (fun _=>g38Main (g40 m))
abbrev S_g39(α:Type):Type:=Int→Int→Bool→(Bool→Option α)→Option α
def g39b{α:Type}(a b:Int)(c:Bool)(d:Bool→Option α):Option α:=cond (!c) (d (a==(0:Int))) (cond (decide (a≥(0:Int))) (d (decide ((IntKind.wrap .i64 a)<b))) (d false))
def g39{α:Type}(m:Nat):S_g39 α:=
 g39b
def g39tp:List TP:=[(.vl (.sv (.int .i16))),tI,(.vl (.sv .bool))]
def g39bp:List BP:=[]
def g39K{α:Type}(G:S_g39 α)(ls:List Lf)(k:KRe α):Option α:=
 G (lf ls 0).int (lf ls 1).int (lf ls 2).bool
  (fun a=>k (.vl (.sv (.bool a))) [] [])
def g39R{α:Type}(G:S_g39 α):=rowK g39tp g39bp (g39K G)
def g39hd:Hd where
 call:=fun f args Bs k=>none
 loop:=fun id st k=>none
 ro:=fun f=>[]
def g39h(m:Nat):Hd:=g39hd
theorem g39Main{α:Type}(ls:List Lf)(k:KRe α):
  g39K (g39b) ls k=evFun tab (g39hd) Tryz.f39 (fT g39tp ls) (fB g39tp g39bp ls) k:=by kernel_rfl
theorem g39Calls(m:Nat):(g39h m).CallsOk Tryz.prog:=cok_nil
theorem g39Ok(m:Nat):RowOk Tryz.prog 39 (fun{α}=>g39R (g39 m (α:=α))):=
 rwk (g39Calls m) (lo0 (by kernel_rfl))
  (fun _=>g39Main)
abbrev S_g10(α:Type):Type:=Nat→Nat→Nat→Nat→Ty0→(Bool→Option α)→Option α
abbrev S_g10l0(α:Type):Type:=Nat→Nat→Nat→Int→Nat→Ty0→(Option α)→(Option α)→Int→Option α
def g10l0b{α:Type}(G37:Al S_g37)(G38:Al S_g38)(G39:Al S_g39)(a b c:Nat)(d:Int)(e:Nat)(h:Ty0)(i j:Option α)(l:Int→Option α)(n:Int):Option α:=cond (decide (n<d)) (if 0≤n∧n<(b:Nat) then if(a+n.toNat)<e then let o:Int:=(List.getD h (a+n.toNat) []).headD 0;G37 o (fun p q r=>cond (decide (o<(1:Int))) (i) (cond (decide (o>(12:Int))) (i) (G38 o ((List.getD h (a+n.toNat) []).tail.tail.tail.headD 0) ((List.getD h (a+n.toNat) []).tail.tail.tail.tail.headD 0) (fun s=>cond (!s) (i) (G39 ((List.getD h (a+n.toNat) []).tail.headD 0) n p (fun t=>cond (!t) (i) (G39 ((List.getD h (a+n.toNat) []).tail.tail.headD 0) n q (fun u=>cond (!u) (i) (l (IntKind.wrap .i64 (n+(1:Int)))))))))))) else none else none) (j)
def g10l0{α:Type}(G37:Al S_g37)(G38:Al S_g38)(G39:Al S_g39)(a b c:Nat)(d:Int)(e:Nat)(h:Ty0)(i j:Option α):Nat→Int→Option α
 |0=>fun _=>none
 |m+1=>fun l=>g10l0b G37 G38 G39 a b c d e h i j (g10l0 G37 G38 G39 a b c d e h i j m) l
def g10l0M{α:Type}(m:Nat):S_g10l0 α:=
 fun a b c d e h i j l=>g10l0 (g37 m) (g38 m) (g39 m) a b c d e h i j m l
def g10l0D:LoopD:={n:=65,low:=[0],sl:=[16,17,18],bl:=[0],tp:=[(.vl (.sv (.slc 0 0 5))),tI,tI],bp:=[(false,[(.seqv rN)])],xs:=[(1,[2]),(2,[])]}
def g10l0K{α:Type}(L:S_g10l0 α)(ls:List Lf)(k:KEx α):Option α:=
 L (lf ls 0).nat (lf ls 1).nat (lf ls 2).nat (lf ls 3).int (lf ls 5).nat ((lf ls 6).lst rN)
  (k .ret (mkSt 65 [2] [(.vl (.sv (.bool false)))] [0] [(false,[(.seq rN (lf ls 5).nat ((lf ls 6).lst rN))])]))
  (k .normal (mkSt 65 [] [] [0] [(false,[(.seq rN (lf ls 5).nat ((lf ls 6).lst rN))])]))
  (lf ls 4).int
def g10b{α:Type}(G37:Al S_g37)(G38:Al S_g38)(G39:Al S_g39)(L10l0:Al S_g10l0)(a b:Nat)(c d:Nat)(e:Ty0)(h:Bool→Option α):Option α:=cond (decide (((b:Nat):Int)<(1:Int))) (h false) (cond (decide (((b:Nat):Int)>(40:Int))) (h false) (L10l0 a b c ((b:Nat):Int) d e (h false) (h true) (0:Int)))
def g10{α:Type}(m:Nat):S_g10 α:=
 g10b (g37 m) (g38 m) (g39 m) (g10l0M m)
def g10tp:List TP:=[(.vl (.sv (.slc 0 0 5)))]
def g10bp:List BP:=[(false,[(.seqv rN)])]
def g10K{α:Type}(G:S_g10 α)(ls:List Lf)(k:KRe α):Option α:=
 G (lf ls 0).nat (lf ls 1).nat (lf ls 2).nat (lf ls 3).nat ((lf ls 4).lst rN)
  (fun a=>k (.vl (.sv (.bool a))) [[(.seq rN (lf ls 3).nat ((lf ls 4).lst rN))]] [])
def g10R{α:Type}(G:S_g10 α):=rowK g10tp g10bp (g10K G)
def g10hd(G37:Al S_g37)(G38:Al S_g38)(G39:Al S_g39)(L10l0:Al S_g10l0):Hd where
 call:=fun f args Bs k=>cond (Nat.beq f 37) (g37R G37 args Bs k) (cond (Nat.beq f 38) (g38R G38 args Bs k) (cond (Nat.beq f 39) (g39R G39 args Bs k) (none)))
 loop:=fun id st k=>cond (Nat.beq id 0) (loopH g10l0D (g10l0K L10l0) st k) (none)
 ro:=fun f=>[]
def g10h(m:Nat):Hd:=g10hd (g37 m) (g38 m) (g39 m) (g10l0M m)
theorem g10l0Step(G37:Al S_g37)(G38:Al S_g38)(G39:Al S_g39)(L10l0:Al S_g10l0){α:Type}(L:S_g10l0 α)(ls:List Lf)(k:KEx α):
  g10l0K (fun a b c d e h i j l=>g10l0b G37 G38 G39 a b c d e h i j (L a b c d e h i j) l) ls k=ev tab (g10hd G37 G38 G39 L10l0) (bodyAt Tryz.f10 0) (atHead g10l0D ls) (loopK g10l0D 0 (loopH g10l0D (g10l0K L)) k):=by kernel_rfl
theorem g10Main(G37:Al S_g37)(G38:Al S_g38)(G39:Al S_g39)(L10l0:Al S_g10l0){α:Type}(ls:List Lf)(k:KRe α):
  g10K (g10b G37 G38 G39 L10l0) ls k=evFun tab (g10hd G37 G38 G39 L10l0) Tryz.f10 (fT g10tp ls) (fB g10tp g10bp ls) k:=by kernel_rfl
theorem g10Calls(m:Nat):(g10h m).CallsOk Tryz.prog:=(cok_cons (g37Ok m) (cok_cons (g38Ok m) (cok_cons (g39Ok m) cok_nil)))
theorem g10l0Ok(m:Nat)(α:Type)(st:St)(k:KEx α)(r:α)(h:(g10h m).loop 0 st k=some r):
  LoopS Tryz.prog 0 (bodyAt Tryz.f10 0) st k r:=
 lpk (F:=fun n ls k=>g10l0K (fun a b c d e i j l o=>g10l0 (g37 m) (g38 m) (g39 m) a b c d e i j l n o) ls k) (g10Calls m) (lb0 (by kernel_rfl))
  (fun _ _=>rfl) (fun n ls k=>g10l0Step (g37 m) (g38 m) (g39 m) (g10l0M m) (fun a b c d e i j l=>g10l0 (g37 m) (g38 m) (g39 m) a b c d e i j l n) ls k) (n:=m) h
theorem g10Ok(m:Nat):RowOk Tryz.prog 10 (fun{α}=>g10R (g10 m (α:=α))):=
 rwk (g10Calls m) (lo1 (by kernel_rfl) (g10l0Ok m))
  (fun _=>g10Main (g37 m) (g38 m) (g39 m) (g10l0M m))
abbrev S_g64(α:Type):Type:=Nat→Nat→Nat→Nat→Nat→Nat→Nat→Ty0→(List Int)→(Bool→Option α)→Option α
abbrev S_g64l0(α:Type):Type:=Nat→Nat→Nat→Nat→Nat→Nat→Int→Nat→Ty0→(List Int)→(Option α)→(Option α)→Int→Option α
def g64l0b{α:Type}(G40:Al S_g40)(a b:Nat)(c d:Nat)(e h:Nat)(i:Int)(j:Nat)(l:Ty0)(n:List Int)(o p:Option α)(q:Int→Option α)(r:Int):Option α:=cond (decide (r<i)) (if 0≤r∧r<(e:Nat) then if(d+r.toNat)<1 then G40 (List.getD n (d+r.toNat) 0) (0:Int) (IntKind.wrap .i64 (((b:Nat):Int)-(1:Int))) (fun s=>cond (!s) (o) (q (IntKind.wrap .i64 (r+(1:Int))))) else none else none) (p)
def g64l0{α:Type}(G40:Al S_g40)(a b:Nat)(c d:Nat)(e h:Nat)(i:Int)(j:Nat)(l:Ty0)(n:List Int)(o p:Option α):Nat→Int→Option α
 |0=>fun _=>none
 |m+1=>fun q=>g64l0b G40 a b c d e h i j l n o p (g64l0 G40 a b c d e h i j l n o p m) q
def g64l0M{α:Type}(m:Nat):S_g64l0 α:=
 fun a b c d e h i j l n o p q=>g64l0 (g40 m) a b c d e h i j l n o p m q
def g64l0D:LoopD:={n:=20,low:=[0,1],sl:=[0,7,8,9],bl:=[0,1],tp:=[(.vl (.sv (.slc 0 0 5))),(.vl (.sv (.slc 1 0 1))),tI,tI],bp:=[(false,[(.seqv rN)]),(false,[(.seq (.int .i64) 1)])],xs:=[(1,[4]),(2,[])]}
def g64l0K{α:Type}(L:S_g64l0 α)(ls:List Lf)(k:KEx α):Option α:=
 L (lf ls 0).nat (lf ls 1).nat (lf ls 2).nat (lf ls 3).nat (lf ls 4).nat (lf ls 5).nat (lf ls 6).int (lf ls 8).nat ((lf ls 9).lst rN) ((lf ls 10).lst (.int .i64))
  (k .ret (mkSt 20 [4] [(.vl (.sv (.bool false)))] [0,1] [(false,[(.seq rN (lf ls 8).nat ((lf ls 9).lst rN))]),(false,[(.seq (.int .i64) 1 ((lf ls 10).lst (.int .i64)))])]))
  (k .normal (mkSt 20 [] [] [0,1] [(false,[(.seq rN (lf ls 8).nat ((lf ls 9).lst rN))]),(false,[(.seq (.int .i64) 1 ((lf ls 10).lst (.int .i64)))])]))
  (lf ls 7).int
def g64b{α:Type}(G40:Al S_g40)(L64l0:Al S_g64l0)(a b:Nat)(c d:Nat)(e h i:Nat)(j:Ty0)(l:List Int)(n:Bool→Option α):Option α:=L64l0 a b c d e h ((e:Nat):Int) i j l (n false) (n true) (0:Int)
def g64{α:Type}(m:Nat):S_g64 α:=
 g64b (g40 m) (g64l0M m)
def g64tp:List TP:=[(.vl (.sv (.slc 0 0 5))),(.vl (.sv (.slc 1 0 1)))]
def g64bp:List BP:=[(false,[(.seqv rN)]),(false,[(.seq (.int .i64) 1)])]
def g64K{α:Type}(G:S_g64 α)(ls:List Lf)(k:KRe α):Option α:=
 G (lf ls 0).nat (lf ls 1).nat (lf ls 2).nat (lf ls 3).nat (lf ls 4).nat (lf ls 5).nat (lf ls 6).nat ((lf ls 7).lst rN) ((lf ls 8).lst (.int .i64))
  (fun a=>k (.vl (.sv (.bool a))) [[(.seq rN (lf ls 6).nat ((lf ls 7).lst rN))],[(.seq (.int .i64) 1 ((lf ls 8).lst (.int .i64)))]] [])
def g64R{α:Type}(G:S_g64 α):=rowK g64tp g64bp (g64K G)
def g64hd(G40:Al S_g40)(L64l0:Al S_g64l0):Hd where
 call:=fun f args Bs k=>cond (Nat.beq f 40) (g40R G40 args Bs k) (none)
 loop:=fun id st k=>cond (Nat.beq id 0) (loopH g64l0D (g64l0K L64l0) st k) (none)
 ro:=fun f=>[]
def g64h(m:Nat):Hd:=g64hd (g40 m) (g64l0M m)
theorem g64l0Step(G40:Al S_g40)(L64l0:Al S_g64l0){α:Type}(L:S_g64l0 α)(ls:List Lf)(k:KEx α):
  g64l0K (fun a b c d e h i j l n o p q=>g64l0b G40 a b c d e h i j l n o p (L a b c d e h i j l n o p) q) ls k=ev tab (g64hd G40 L64l0) (bodyAt Tryz.f64 0) (atHead g64l0D ls) (loopK g64l0D 0 (loopH g64l0D (g64l0K L)) k):=by kernel_rfl
theorem g64Main(G40:Al S_g40)(L64l0:Al S_g64l0){α:Type}(ls:List Lf)(k:KRe α):
  g64K (g64b G40 L64l0) ls k=evFun tab (g64hd G40 L64l0) Tryz.f64 (fT g64tp ls) (fB g64tp g64bp ls) k:=by kernel_rfl
theorem g64Calls(m:Nat):(g64h m).CallsOk Tryz.prog:=(cok_cons (g40Ok m) cok_nil)
theorem g64l0Ok(m:Nat)(α:Type)(st:St)(k:KEx α)(r:α)(h:(g64h m).loop 0 st k=some r):
  LoopS Tryz.prog 0 (bodyAt Tryz.f64 0) st k r:=
 lpk (F:=fun n ls k=>g64l0K (fun a b c d e i j l o q s t u=>g64l0 (g40 m) a b c d e i j l o q s t n u) ls k) (g64Calls m) (lb0 (by kernel_rfl))
  (fun _ _=>rfl) (fun n ls k=>g64l0Step (g40 m) (g64l0M m) (fun a b c d e i j l o q s t=>g64l0 (g40 m) a b c d e i j l o q s t n) ls k) (n:=m) h
theorem g64Ok(m:Nat):RowOk Tryz.prog 64 (fun{α}=>g64R (g64 m (α:=α))):=
 rwk (g64Calls m) (lo1 (by kernel_rfl) (g64l0Ok m))
  (fun _=>g64Main (g40 m) (g64l0M m))
abbrev S_g65(α:Type):Type:=Nat→Nat→Nat→Nat→Ty0→(Ty4→Ty0→Option α)→Option α
def g65b{α:Type}(a b:Nat)(c d:Nat)(e:Ty0)(h:Ty4→Ty0→Option α):Option α:=h [] []
def g65{α:Type}(m:Nat):S_g65 α:=
 g65b
def g65tp:List TP:=[(.vl (.sv (.slc 0 0 5)))]
def g65bp:List BP:=[(false,[(.seqv rN)])]
def g65K{α:Type}(G:S_g65 α)(ls:List Lf)(k:KRe α):Option α:=
 G (lf ls 0).nat (lf ls 1).nat (lf ls 2).nat (lf ls 3).nat ((lf ls 4).lst rN)
  (fun c d=>k (.vl (.sv (.ptr 1 0))) [[(.seq rN (lf ls 3).nat ((lf ls 4).lst rN))]] [[(.one (.bool false)),(.one (.slc 0 0 5 (lf ls 0).nat (lf ls 1).nat (lf ls 2).nat)),(.one (.mpp 2)),(.one (.gsl 3 2)),(.one (.int .i64 (0:Int)))],[(.mp rP mW c)],[(.gro rP d)]])
def g65R{α:Type}(G:S_g65 α):=rowK g65tp g65bp (g65K G)
def g65hd:Hd where
 call:=fun f args Bs k=>none
 loop:=fun id st k=>none
 ro:=fun f=>[]
def g65h(m:Nat):Hd:=g65hd
theorem g65Main{α:Type}(ls:List Lf)(k:KRe α):
  g65K (g65b) ls k=evFun tab (g65hd) Tryz.f65 (fT g65tp ls) (fB g65tp g65bp ls) k:=by kernel_rfl
theorem g65Calls(m:Nat):(g65h m).CallsOk Tryz.prog:=cok_nil
theorem g65Ok(m:Nat):RowOk Tryz.prog 65 (fun{α}=>g65R (g65 m (α:=α))):=
 rwk (g65Calls m) (lo0 (by kernel_rfl))
  (fun _=>g65Main)
abbrev S_g31(α:Type):Type:=Nat→Nat→Nat→Int→Int→Nat→Nat→Nat→Nat→Ty0→(List Int)→(Int→Option α)→(Ty4→Ty0→Option α)→Option α
def g31b{α:Type}(G10:Al S_g10)(G64:Al S_g64)(G40:Al S_g40)(G65:Al S_g65)(a b c:Nat)(d e:Int)(h i:Nat)(j l:Nat)(n:Ty0)(o:List Int)(p:Int→Option α)(q:Ty4→Ty0→Option α):Option α:=G10 a b c l n (fun r=>cond (!r) (p (1:Int)) (G64 a b c h i j l n o (fun s=>cond (!s) (p (2:Int)) (G40 d (0:Int) e (fun t=>cond (!t) (p (2:Int)) (G65 a b c l n (fun u v=>q u v)))))))
def g31{α:Type}(m:Nat):S_g31 α:=
 g31b (g10 m) (g64 m) (g40 m) (g65 m)
def g31tp:List TP:=[(.vl (.sv (.slc 0 0 5))),tI,tI,(.vl (.sv (.slc 1 0 1)))]
def g31bp:List BP:=[(false,[(.seqv rN)]),(false,[(.seq (.int .i64) 1)])]
def g31K{α:Type}(G:S_g31 α)(ls:List Lf)(k:KRe α):Option α:=
 G (lf ls 0).nat (lf ls 1).nat (lf ls 2).nat (lf ls 3).int (lf ls 4).int (lf ls 5).nat (lf ls 6).nat (lf ls 7).nat (lf ls 8).nat ((lf ls 9).lst rN) ((lf ls 10).lst (.int .i64))
  (fun c=>k (.tup [(.sv .nilp),(.sv (.int .i64 c))]) [[(.seq rN (lf ls 8).nat ((lf ls 9).lst rN))],[(.seq (.int .i64) 1 ((lf ls 10).lst (.int .i64)))]] [])
  (fun d e=>k (.tup [(.sv (.ptr 2 0)),(.sv (.int .i64 (0:Int)))]) [[(.seq rN (lf ls 8).nat ((lf ls 9).lst rN))],[(.seq (.int .i64) 1 ((lf ls 10).lst (.int .i64)))]] [[(.one (.bool false)),(.one (.slc 0 0 5 (lf ls 0).nat (lf ls 1).nat (lf ls 2).nat)),(.one (.mpp 3)),(.one (.gsl 4 2)),(.one (.int .i64 (0:Int)))],[(.mp rP mW d)],[(.gro rP e)]])
def g31R{α:Type}(G:S_g31 α):=rowK g31tp g31bp (g31K G)
def g31hd(G10:Al S_g10)(G64:Al S_g64)(G40:Al S_g40)(G65:Al S_g65):Hd where
 call:=fun f args Bs k=>cond (Nat.beq f 10) (g10R G10 args Bs k) (cond (Nat.beq f 64) (g64R G64 args Bs k) (cond (Nat.beq f 40) (g40R G40 args Bs k) (cond (Nat.beq f 65) (g65R G65 args Bs k) (none))))
 loop:=fun id st k=>none
 ro:=fun f=>cond (Nat.beq f 10) [0] (cond (Nat.beq f 64) [0,1] (cond (Nat.beq f 65) [0] ([])))
def g31h(m:Nat):Hd:=g31hd (g10 m) (g64 m) (g40 m) (g65 m)
theorem g31Main(G10:Al S_g10)(G64:Al S_g64)(G40:Al S_g40)(G65:Al S_g65){α:Type}(ls:List Lf)(k:KRe α):
  g31K (g31b G10 G64 G40 G65) ls k=evFun tab (g31hd G10 G64 G40 G65) Tryz.f31 (fT g31tp ls) (fB g31tp g31bp ls) k:=by kernel_rfl
theorem g31Calls(m:Nat):(g31h m).CallsOk Tryz.prog:=(cok_cons (g10Ok m) (cok_cons (g64Ok m) (cok_cons (g40Ok m) (cok_cons (g65Ok m) cok_nil))))
theorem g31Ok(m:Nat):RowOk Tryz.prog 31 (fun{α}=>g31R (g31 m (α:=α))):=
 rwk (g31Calls m) (lo0 (by kernel_rfl))
  (fun _=>g31Main (g10 m) (g64 m) (g40 m) (g65 m))
abbrev S_g33(α:Type):Type:=Bool→Nat→Nat→Nat→Int→Nat→Ty0→Ty4→Ty0→(Bool→Int→Option α)→Option α
def g33b{α:Type}(a:Bool)(b c d:Nat)(e:Int)(h:Nat)(i:Ty0)(j:Ty4)(l:Ty0)(n:Bool→Int→Option α):Option α:=cond (e==(0:Int)) (cond a (n true (3:Int)) (n (e !=(0:Int)) e)) (n (e !=(0:Int)) e)
def g33{α:Type}(m:Nat):S_g33 α:=
 g33b
def g33tp:List TP:=[(.vl (.sv (.ptr 0 0)))]
def g33bp:List BP:=[bA,(false,[(.seqv rN)]),(false,[(.mp rP mW)]),(false,[(.gro rP)])]
def g33K{α:Type}(G:S_g33 α)(ls:List Lf)(k:KRe α):Option α:=
 G (lf ls 0).bool (lf ls 1).nat (lf ls 2).nat (lf ls 3).nat (lf ls 4).int (lf ls 5).nat ((lf ls 6).lst rN) ((lf ls 7).map rP mW) ((lf ls 8).lst rP)
  (fun c d=>k (.vl (.sv (.bool c))) [[(.one (.bool (lf ls 0).bool)),(.one (.slc 1 0 5 (lf ls 1).nat (lf ls 2).nat (lf ls 3).nat)),(.one (.mpp 2)),(.one (.gsl 3 2)),(.one (.int .i64 d))],[(.seq rN (lf ls 5).nat ((lf ls 6).lst rN))],[(.mp rP mW ((lf ls 7).map rP mW))],[(.gro rP ((lf ls 8).lst rP))]] [])
def g33R{α:Type}(G:S_g33 α):=rowK g33tp g33bp (g33K G)
def g33hd:Hd where
 call:=fun f args Bs k=>none
 loop:=fun id st k=>none
 ro:=fun f=>[]
def g33h(m:Nat):Hd:=g33hd
theorem g33Main{α:Type}(ls:List Lf)(k:KRe α):
  g33K (g33b) ls k=evFun tab (g33hd) Tryz.f33 (fT g33tp ls) (fB g33tp g33bp ls) k:=by kernel_rfl
theorem g33Calls(m:Nat):(g33h m).CallsOk Tryz.prog:=cok_nil
theorem g33Ok(m:Nat):RowOk Tryz.prog 33 (fun{α}=>g33R (g33 m (α:=α))):=
 rwk (g33Calls m) (lo0 (by kernel_rfl))
  (fun _=>g33Main)
abbrev S_g42v1(α:Type):Type:=Bool→(List Int)→Int→Bool→Nat→Nat→Nat→Int→Nat→Ty0→Ty4→Ty0→(Bool→(List Int)→Bool→Option α)→Option α
def g42v1b{α:Type}(G72:Al S_g72)(G44:Al S_g44)(G73:Al S_g73)(a:Bool)(b:List Int)(c:Int)(d:Bool)(e h i:Nat)(j:Int)(l:Nat)(n:Ty0)(o:Ty4)(p:Ty0)(q:Bool→(List Int)→Bool→Option α):Option α:=cond (decide (c>(191:Int))) (q false [0,0,0,0,0,0] true) (G72 b (fun r=>cond (decide ((IntKind.wrap .i64 (r+c))>(192:Int))) (q false [0,0,0,0,0,0] true) (G44 b c (fun s=>G73 a s (fun t=>q t s d)))))
def g42v1{α:Type}(m:Nat):S_g42v1 α:=
 g42v1b (g72 m) (g44 m) (g73 m)
def g42v1tp:List TP:=[(.vl (.sv (.ptr 0 0))),vW,tI]
def g42v1bp:List BP:=[bA,(false,[(.seqv rN)]),(false,[(.mp rP mW)]),(false,[(.gro rP)])]
def g42v1K{α:Type}(G:S_g42v1 α)(ls:List Lf)(k:KRe α):Option α:=
 G (lf ls 0).bool ((lf ls 1).lst uU) (lf ls 2).int (lf ls 3).bool (lf ls 4).nat (lf ls 5).nat (lf ls 6).nat (lf ls 7).int (lf ls 8).nat ((lf ls 9).lst rN) ((lf ls 10).map rP mW) ((lf ls 11).lst rP)
  (fun c d e=>k (.vl (.agg [(.one (.bool c)),(.seq uU 6 d)])) [[(.one (.bool e)),(.one (.slc 1 0 5 (lf ls 4).nat (lf ls 5).nat (lf ls 6).nat)),(.one (.mpp 2)),(.one (.gsl 3 2)),(.one (.int .i64 (lf ls 7).int))],[(.seq rN (lf ls 8).nat ((lf ls 9).lst rN))],[(.mp rP mW ((lf ls 10).map rP mW))],[(.gro rP ((lf ls 11).lst rP))]] [])
def g42v1R{α:Type}(G:S_g42v1 α):=rowK g42v1tp g42v1bp (g42v1K G)
def g42v1hd(G72:Al S_g72)(G44:Al S_g44)(G73:Al S_g73):Hd where
 call:=fun f args Bs k=>cond (Nat.beq f 72) (g72R G72 args Bs k) (cond (Nat.beq f 44) (g44R G44 args Bs k) (cond (Nat.beq f 73) (g73R G73 args Bs k) (none)))
 loop:=fun id st k=>none
 ro:=fun f=>[]
def g42v1h(m:Nat):Hd:=g42v1hd (g72 m) (g44 m) (g73 m)
theorem g42v1Main(G72:Al S_g72)(G44:Al S_g44)(G73:Al S_g73){α:Type}(ls:List Lf)(k:KRe α):
  g42v1K (g42v1b G72 G44 G73) ls k=evFun tab (g42v1hd G72 G44 G73) Tryz.f42 (fT g42v1tp ls) (fB g42v1tp g42v1bp ls) k:=by kernel_rfl
theorem g42v1Calls(m:Nat):(g42v1h m).CallsOk Tryz.prog:=(cok_cons (g72Ok m) (cok_cons (g44Ok m) (cok_cons (g73Ok m) cok_nil)))
theorem g42v1Ok(m:Nat):RowOk Tryz.prog 42 (fun{α}=>g42v1R (g42v1 m (α:=α))):=
 rwk (g42v1Calls m) (lo0 (by kernel_rfl))
  (fun _=>g42v1Main (g72 m) (g44 m) (g73 m))
abbrev S_g53v1(α:Type):Type:=Bool→(List Int)→Bool→(List Int)→Bool→Nat→Nat→Nat→Int→Nat→Ty0→Ty4→Ty0→(Bool→(List Int)→Bool→Option α)→Option α
def g53v1b{α:Type}(G45:Al S_g45)(G73:Al S_g73)(G46:Al S_g46)(G84:Al S_g84)(a:Bool)(b:List Int)(c:Bool)(d:List Int)(e:Bool)(h i j:Nat)(l:Int)(n:Nat)(o:Ty0)(p:Ty4)(q:Ty0)(r:Bool→(List Int)→Bool→Option α):Option α:=cond (a==c) (G45 b d (fun s t=>cond e (G73 a s (fun u=>r u s true)) (G73 a s (fun v=>r v s t)))) (G46 b d (fun w=>cond (decide (w<(0:Int))) (G84 d b (fun x=>G73 c x (fun y=>r y x e))) (G84 b d (fun z=>G73 a z (fun a0=>r a0 z e)))))
def g53v1{α:Type}(m:Nat):S_g53v1 α:=
 g53v1b (g45 m) (g73 m) (g46 m) (g84 m)
def g53v1tp:List TP:=[(.vl (.sv (.ptr 0 0))),vW,vW]
def g53v1bp:List BP:=[bA,(false,[(.seqv rN)]),(false,[(.mp rP mW)]),(false,[(.gro rP)])]
def g53v1K{α:Type}(G:S_g53v1 α)(ls:List Lf)(k:KRe α):Option α:=
 G (lf ls 0).bool ((lf ls 1).lst uU) (lf ls 2).bool ((lf ls 3).lst uU) (lf ls 4).bool (lf ls 5).nat (lf ls 6).nat (lf ls 7).nat (lf ls 8).int (lf ls 9).nat ((lf ls 10).lst rN) ((lf ls 11).map rP mW) ((lf ls 12).lst rP)
  (fun c d e=>k (.vl (.agg [(.one (.bool c)),(.seq uU 6 d)])) [[(.one (.bool e)),(.one (.slc 1 0 5 (lf ls 5).nat (lf ls 6).nat (lf ls 7).nat)),(.one (.mpp 2)),(.one (.gsl 3 2)),(.one (.int .i64 (lf ls 8).int))],[(.seq rN (lf ls 9).nat ((lf ls 10).lst rN))],[(.mp rP mW ((lf ls 11).map rP mW))],[(.gro rP ((lf ls 12).lst rP))]] [])
def g53v1R{α:Type}(G:S_g53v1 α):=rowK g53v1tp g53v1bp (g53v1K G)
def g53v1hd(G45:Al S_g45)(G73:Al S_g73)(G46:Al S_g46)(G84:Al S_g84):Hd where
 call:=fun f args Bs k=>cond (Nat.beq f 45) (g45R G45 args Bs k) (cond (Nat.beq f 73) (g73R G73 args Bs k) (cond (Nat.beq f 46) (g46R G46 args Bs k) (cond (Nat.beq f 84) (g84R G84 args Bs k) (none))))
 loop:=fun id st k=>none
 ro:=fun f=>[]
def g53v1h(m:Nat):Hd:=g53v1hd (g45 m) (g73 m) (g46 m) (g84 m)
theorem g53v1Main(G45:Al S_g45)(G73:Al S_g73)(G46:Al S_g46)(G84:Al S_g84){α:Type}(ls:List Lf)(k:KRe α):
  g53v1K (g53v1b G45 G73 G46 G84) ls k=evFun tab (g53v1hd G45 G73 G46 G84) Tryz.f53 (fT g53v1tp ls) (fB g53v1tp g53v1bp ls) k:=by kernel_rfl
theorem g53v1Calls(m:Nat):(g53v1h m).CallsOk Tryz.prog:=(cok_cons (g45Ok m) (cok_cons (g73Ok m) (cok_cons (g46Ok m) (cok_cons (g84Ok m) cok_nil))))
theorem g53v1Ok(m:Nat):RowOk Tryz.prog 53 (fun{α}=>g53v1R (g53v1 m (α:=α))):=
 rwk (g53v1Calls m) (lo0 (by kernel_rfl))
  (fun _=>g53v1Main (g45 m) (g73 m) (g46 m) (g84 m))
abbrev S_g87v1(α:Type):Type:=Bool→(List Int)→Bool→(List Int)→Bool→Nat→Nat→Nat→Int→Nat→Ty0→Ty4→Ty0→(Bool→(List Int)→Bool→Option α)→Option α
def g87v1b{α:Type}(G112:Al S_g112)(G84:Al S_g84)(G46:Al S_g46)(G55:Al S_g55)(G53v1:Al S_g53v1)(a:Bool)(b:List Int)(c:Bool)(d:List Int)(e:Bool)(h i j:Nat)(l:Int)(n:Nat)(o:Ty0)(p:Ty4)(q:Ty0)(r:Bool→(List Int)→Bool→Option α):Option α:=G112 a b c d (fun s t u v=>G84 d v (fun w=>G46 v w (fun x=>cond (decide (x<(0:Int))) (r s t e) (G55 (1:Int) (fun y z=>G53v1 s t y z e h i j l n o p q (fun a0 b0 c0=>r a0 b0 c0))))))
def g87v1{α:Type}(m:Nat):S_g87v1 α:=
 g87v1b (g112 m) (g84 m) (g46 m) (g55 m) (g53v1 m)
def g87v1tp:List TP:=[(.vl (.sv (.ptr 0 0))),vW,vW]
def g87v1bp:List BP:=[bA,(false,[(.seqv rN)]),(false,[(.mp rP mW)]),(false,[(.gro rP)])]
def g87v1K{α:Type}(G:S_g87v1 α)(ls:List Lf)(k:KRe α):Option α:=
 G (lf ls 0).bool ((lf ls 1).lst uU) (lf ls 2).bool ((lf ls 3).lst uU) (lf ls 4).bool (lf ls 5).nat (lf ls 6).nat (lf ls 7).nat (lf ls 8).int (lf ls 9).nat ((lf ls 10).lst rN) ((lf ls 11).map rP mW) ((lf ls 12).lst rP)
  (fun c d e=>k (.vl (.agg [(.one (.bool c)),(.seq uU 6 d)])) [[(.one (.bool e)),(.one (.slc 1 0 5 (lf ls 5).nat (lf ls 6).nat (lf ls 7).nat)),(.one (.mpp 2)),(.one (.gsl 3 2)),(.one (.int .i64 (lf ls 8).int))],[(.seq rN (lf ls 9).nat ((lf ls 10).lst rN))],[(.mp rP mW ((lf ls 11).map rP mW))],[(.gro rP ((lf ls 12).lst rP))]] [])
def g87v1R{α:Type}(G:S_g87v1 α):=rowK g87v1tp g87v1bp (g87v1K G)
def g87v1hd(G112:Al S_g112)(G84:Al S_g84)(G46:Al S_g46)(G55:Al S_g55)(G53v1:Al S_g53v1):Hd where
 call:=fun f args Bs k=>cond (Nat.beq f 112) (g112R G112 args Bs k) (cond (Nat.beq f 84) (g84R G84 args Bs k) (cond (Nat.beq f 46) (g46R G46 args Bs k) (cond (Nat.beq f 55) (g55R G55 args Bs k) (cond (Nat.beq f 53) (g53v1R G53v1 args Bs k) (none)))))
 loop:=fun id st k=>none
 ro:=fun f=>cond (Nat.beq f 53) [1,2,3] ([])
def g87v1h(m:Nat):Hd:=g87v1hd (g112 m) (g84 m) (g46 m) (g55 m) (g53v1 m)
theorem g87v1Main(G112:Al S_g112)(G84:Al S_g84)(G46:Al S_g46)(G55:Al S_g55)(G53v1:Al S_g53v1){α:Type}(ls:List Lf)(k:KRe α):
  g87v1K (g87v1b G112 G84 G46 G55 G53v1) ls k=evFun tab (g87v1hd G112 G84 G46 G55 G53v1) Tryz.f87 (fT g87v1tp ls) (fB g87v1tp g87v1bp ls) k:=by kernel_rfl
theorem g87v1Calls(m:Nat):(g87v1h m).CallsOk Tryz.prog:=(cok_cons (g112Ok m) (cok_cons (g84Ok m) (cok_cons (g46Ok m) (cok_cons (g55Ok m) (cok_cons (g53v1Ok m) cok_nil)))))
theorem g87v1Ok(m:Nat):RowOk Tryz.prog 87 (fun{α}=>g87v1R (g87v1 m (α:=α))):=
 rwk (g87v1Calls m) (lo0 (by kernel_rfl))
  (fun _=>g87v1Main (g112 m) (g84 m) (g46 m) (g55 m) (g53v1 m))
abbrev S_g32(α:Type):Type:=Int→Int→Bool→Nat→Nat→Nat→Int→Nat→Ty0→Ty4→Ty0→(Bool→(List Int)→Bool→Nat→Nat→Nat→Int→Nat→Ty0→Ty4→Ty0→Option α)→Option α
def g32tp:List TP:=[(.vl (.sv (.ptr 0 0))),(.vl (.sv (.int .i16))),tI]
def g32bp:List BP:=[bA,(false,[(.seqv rN)]),(true,[(.mp rP mW)]),(true,[(.gro rP)])]
def g32K{α:Type}(G:S_g32 α)(ls:List Lf)(k:KRe α):Option α:=
 G (lf ls 0).int (lf ls 1).int (lf ls 2).bool (lf ls 3).nat (lf ls 4).nat (lf ls 5).nat (lf ls 6).int (lf ls 7).nat ((lf ls 8).lst rN) ((lf ls 9).map rP mW) ((lf ls 10).lst rP)
  (fun c d e h i j l n o p q=>k (.vl (.agg [(.one (.bool c)),(.seq uU 6 d)])) [[(.one (.bool e)),(.one (.slc 1 0 5 h i j)),(.one (.mpp 2)),(.one (.gsl 4 2)),(.one (.int .i64 l))],[(.seq rN n o)],[(.mp rP mW p)],[]] [[(.gro rP q)]])
abbrev HA32(A32:Al S_g32):Prop:=RowOk Tryz.prog 32 (fun{α}=>rowK g32tp g32bp (g32K (A32 (α:=α))))
def g32R{α:Type}(G:S_g32 α):=rowK g32tp g32bp (g32K G)
abbrev S_g88(α:Type):Type:=Int→Int→Int→Int→Int→Int→Bool→Nat→Nat→Nat→Int→Nat→Ty0→Ty4→Ty0→(Bool→(List Int)→Bool→(List Int)→Bool→Nat→Nat→Nat→Int→Ty4→Ty0→Option α)→Option α
def g88b{α:Type}(G32:Al S_g32)(a b:Int)(c d:Int)(e h:Int)(i:Bool)(j l n:Nat)(o:Int)(p:Nat)(q:Ty0)(r:Ty4)(s:Ty0)(t:Bool→(List Int)→Bool→(List Int)→Bool→Nat→Nat→Nat→Int→Ty4→Ty0→Option α):Option α:=G32 b h i j l n o p q r s (fun u v w x y z a0 b0 c0 d0 e0=>G32 c h w x y z a0 p q d0 e0 (fun h0 i0 j0 l0 n0 o0 p0 q0 r0 s0 t0=>t u v h0 i0 j0 l0 n0 o0 p0 s0 t0))
def g88(A32:Al S_g32){α:Type}(m:Nat):S_g88 α:=
 g88b A32
def g88tp:List TP:=[(.vl (.sv (.ptr 0 0))),(.vl (.agg [(.one (.int .i8)),(.one (.int .i16)),(.one (.int .i16)),(.one (.int .i64)),(.one (.int .i64))])),tI]
def g88bp:List BP:=[bA,(false,[(.seqv rN)]),(true,[(.mp rP mW)]),(true,[(.gro rP)])]
def g88K{α:Type}(G:S_g88 α)(ls:List Lf)(k:KRe α):Option α:=
 G (lf ls 0).int (lf ls 1).int (lf ls 2).int (lf ls 3).int (lf ls 4).int (lf ls 5).int (lf ls 6).bool (lf ls 7).nat (lf ls 8).nat (lf ls 9).nat (lf ls 10).int (lf ls 11).nat ((lf ls 12).lst rN) ((lf ls 13).map rP mW) ((lf ls 14).lst rP)
  (fun c d e h i j l n o p q=>k (.tup [(.agg [(.one (.bool c)),(.seq uU 6 d)]),(.agg [(.one (.bool e)),(.seq uU 6 h)])]) [[(.one (.bool i)),(.one (.slc 1 0 5 j l n)),(.one (.mpp 2)),(.one (.gsl 4 2)),(.one (.int .i64 o))],[(.seq rN (lf ls 11).nat ((lf ls 12).lst rN))],[(.mp rP mW p)],[]] [[(.gro rP q)]])
def g88R{α:Type}(G:S_g88 α):=rowK g88tp g88bp (g88K G)
def g88hd(G32:Al S_g32):Hd where
 call:=fun f args Bs k=>cond (Nat.beq f 32) (g32R G32 args Bs k) (none)
 loop:=fun id st k=>none
 ro:=fun f=>cond (Nat.beq f 32) [1] ([])
def g88h(A32:Al S_g32)(m:Nat):Hd:=g88hd A32
theorem g88Main(G32:Al S_g32){α:Type}(ls:List Lf)(k:KRe α):
  g88K (g88b G32) ls k=evFunM tab (g88hd G32) Tryz.f88 3 (fT g88tp ls) (fB g88tp g88bp ls) k:=by kernel_rfl
theorem g88Calls(A32:Al S_g32)(hA32:HA32 A32)(m:Nat):(g88h A32 m).CallsOk Tryz.prog:=(cok_cons hA32 cok_nil)
theorem g88Fn(A32:Al S_g32)(hA32:HA32 A32)(m:Nat):FnOk Tryz.prog 88 g88tp g88bp (fun{α}=>g88K (g88 A32 m (α:=α))):=
 fn_okM (tab:=tab) (h:=g88h A32 m) (fn:=Tryz.f88) (F:=fun{α}=>g88K (g88 A32 m (α:=α))) tabOk (g88Calls A32 hA32 m) mixed (by kernel_rfl) (by kernel_rfl) (fun c hc=>by
  rw[bodyOf_some hc]
  exact loopsOk_of _ (fun p hp=>by rw[show loopsOf (bodyOf Tryz.f88)=[] by kernel_rfl] at hp;cases hp))
  (fun _=>g88Main A32)
theorem g88Ok(A32:Al S_g32)(hA32:HA32 A32)(m:Nat):RowOk Tryz.prog 88 (fun{α}=>g88R (g88 A32 m (α:=α))):=row_of (g88Fn A32 hA32 m)
abbrev S_g74v1(α:Type):Type:=Bool→(List Int)→Int→Bool→Nat→Nat→Nat→Int→Nat→Ty0→Ty4→Ty0→(Bool→(List Int)→Bool→Option α)→Option α
def g74v1b{α:Type}(G105:Al S_g105)(G43:Al S_g43)(G44:Al S_g44)(G84:Al S_g84)(G46:Al S_g46)(G45:Al S_g45)(G73:Al S_g73)(a:Bool)(b:List Int)(c:Int)(d:Bool)(e h i:Nat)(j:Int)(l:Nat)(n:Ty0)(o:Ty4)(p:Ty0)(q:Bool→(List Int)→Bool→Option α):Option α:=cond (decide (c>(191:Int))) (q false [0,0,0,0,0,0] true) (G105 b c (fun r=>cond (c==(0:Int)) (q a b d) (G43 (fun s=>G44 s (IntKind.wrap .i64 (c-(1:Int))) (fun t=>G44 r c (fun u=>G84 b u (fun v=>G46 v t (fun w=>cond (decide (w>(0:Int))) (G43 (fun x=>G45 r x (fun y z=>G73 a y (fun a0=>q a0 y d)))) (cond (w==(0:Int)) (cond (!a) (G43 (fun b0=>G45 r b0 (fun c0 d0=>G73 a c0 (fun e0=>q e0 c0 d)))) (G73 a r (fun h0=>q h0 r d))) (G73 a r (fun i0=>q i0 r d)))))))))))
def g74v1{α:Type}(m:Nat):S_g74v1 α:=
 g74v1b (g105 m) (g43 m) (g44 m) (g84 m) (g46 m) (g45 m) (g73 m)
def g74v1tp:List TP:=[(.vl (.sv (.ptr 0 0))),vW,tI]
def g74v1bp:List BP:=[bA,(false,[(.seqv rN)]),(false,[(.mp rP mW)]),(false,[(.gro rP)])]
def g74v1K{α:Type}(G:S_g74v1 α)(ls:List Lf)(k:KRe α):Option α:=
 G (lf ls 0).bool ((lf ls 1).lst uU) (lf ls 2).int (lf ls 3).bool (lf ls 4).nat (lf ls 5).nat (lf ls 6).nat (lf ls 7).int (lf ls 8).nat ((lf ls 9).lst rN) ((lf ls 10).map rP mW) ((lf ls 11).lst rP)
  (fun c d e=>k (.vl (.agg [(.one (.bool c)),(.seq uU 6 d)])) [[(.one (.bool e)),(.one (.slc 1 0 5 (lf ls 4).nat (lf ls 5).nat (lf ls 6).nat)),(.one (.mpp 2)),(.one (.gsl 3 2)),(.one (.int .i64 (lf ls 7).int))],[(.seq rN (lf ls 8).nat ((lf ls 9).lst rN))],[(.mp rP mW ((lf ls 10).map rP mW))],[(.gro rP ((lf ls 11).lst rP))]] [])
def g74v1R{α:Type}(G:S_g74v1 α):=rowK g74v1tp g74v1bp (g74v1K G)
def g74v1hd(G105:Al S_g105)(G43:Al S_g43)(G44:Al S_g44)(G84:Al S_g84)(G46:Al S_g46)(G45:Al S_g45)(G73:Al S_g73):Hd where
 call:=fun f args Bs k=>cond (Nat.beq f 105) (g105R G105 args Bs k) (cond (Nat.beq f 43) (g43R G43 args Bs k) (cond (Nat.beq f 44) (g44R G44 args Bs k) (cond (Nat.beq f 84) (g84R G84 args Bs k) (cond (Nat.beq f 46) (g46R G46 args Bs k) (cond (Nat.beq f 45) (g45R G45 args Bs k) (cond (Nat.beq f 73) (g73R G73 args Bs k) (none)))))))
 loop:=fun id st k=>none
 ro:=fun f=>[]
def g74v1h(m:Nat):Hd:=g74v1hd (g105 m) (g43 m) (g44 m) (g84 m) (g46 m) (g45 m) (g73 m)
theorem g74v1Main(G105:Al S_g105)(G43:Al S_g43)(G44:Al S_g44)(G84:Al S_g84)(G46:Al S_g46)(G45:Al S_g45)(G73:Al S_g73){α:Type}(ls:List Lf)(k:KRe α):
  g74v1K (g74v1b G105 G43 G44 G84 G46 G45 G73) ls k=evFun tab (g74v1hd G105 G43 G44 G84 G46 G45 G73) Tryz.f74 (fT g74v1tp ls) (fB g74v1tp g74v1bp ls) k:=by kernel_rfl
theorem g74v1Calls(m:Nat):(g74v1h m).CallsOk Tryz.prog:=(cok_cons (g105Ok m) (cok_cons (g43Ok m) (cok_cons (g44Ok m) (cok_cons (g84Ok m) (cok_cons (g46Ok m) (cok_cons (g45Ok m) (cok_cons (g73Ok m) cok_nil)))))))
theorem g74v1Ok(m:Nat):RowOk Tryz.prog 74 (fun{α}=>g74v1R (g74v1 m (α:=α))):=
 rwk (g74v1Calls m) (lo0 (by kernel_rfl))
  (fun _=>g74v1Main (g105 m) (g43 m) (g44 m) (g84 m) (g46 m) (g45 m) (g73 m))
abbrev S_g41v1(α:Type):Type:=Bool→(List Int)→Bool→(List Int)→Bool→Nat→Nat→Nat→Int→Nat→Ty0→Ty4→Ty0→(Bool→(List Int)→Bool→Option α)→Option α
def g41v1b{α:Type}(G71:Al S_g71)(G53v1:Al S_g53v1)(a:Bool)(b:List Int)(c:Bool)(d:List Int)(e:Bool)(h i j:Nat)(l:Int)(n:Nat)(o:Ty0)(p:Ty4)(q:Ty0)(r:Bool→(List Int)→Bool→Option α):Option α:=G71 c d (fun s=>G53v1 a b s d e h i j l n o p q (fun t u v=>r t u v))
def g41v1{α:Type}(m:Nat):S_g41v1 α:=
 g41v1b (g71 m) (g53v1 m)
def g41v1tp:List TP:=[(.vl (.sv (.ptr 0 0))),vW,vW]
def g41v1bp:List BP:=[bA,(false,[(.seqv rN)]),(false,[(.mp rP mW)]),(false,[(.gro rP)])]
def g41v1K{α:Type}(G:S_g41v1 α)(ls:List Lf)(k:KRe α):Option α:=
 G (lf ls 0).bool ((lf ls 1).lst uU) (lf ls 2).bool ((lf ls 3).lst uU) (lf ls 4).bool (lf ls 5).nat (lf ls 6).nat (lf ls 7).nat (lf ls 8).int (lf ls 9).nat ((lf ls 10).lst rN) ((lf ls 11).map rP mW) ((lf ls 12).lst rP)
  (fun c d e=>k (.vl (.agg [(.one (.bool c)),(.seq uU 6 d)])) [[(.one (.bool e)),(.one (.slc 1 0 5 (lf ls 5).nat (lf ls 6).nat (lf ls 7).nat)),(.one (.mpp 2)),(.one (.gsl 3 2)),(.one (.int .i64 (lf ls 8).int))],[(.seq rN (lf ls 9).nat ((lf ls 10).lst rN))],[(.mp rP mW ((lf ls 11).map rP mW))],[(.gro rP ((lf ls 12).lst rP))]] [])
def g41v1R{α:Type}(G:S_g41v1 α):=rowK g41v1tp g41v1bp (g41v1K G)
def g41v1hd(G71:Al S_g71)(G53v1:Al S_g53v1):Hd where
 call:=fun f args Bs k=>cond (Nat.beq f 71) (g71R G71 args Bs k) (cond (Nat.beq f 53) (g53v1R G53v1 args Bs k) (none))
 loop:=fun id st k=>none
 ro:=fun f=>cond (Nat.beq f 53) [1,2,3] ([])
def g41v1h(m:Nat):Hd:=g41v1hd (g71 m) (g53v1 m)
theorem g41v1Main(G71:Al S_g71)(G53v1:Al S_g53v1){α:Type}(ls:List Lf)(k:KRe α):
  g41v1K (g41v1b G71 G53v1) ls k=evFun tab (g41v1hd G71 G53v1) Tryz.f41 (fT g41v1tp ls) (fB g41v1tp g41v1bp ls) k:=by kernel_rfl
theorem g41v1Calls(m:Nat):(g41v1h m).CallsOk Tryz.prog:=(cok_cons (g71Ok m) (cok_cons (g53v1Ok m) cok_nil))
theorem g41v1Ok(m:Nat):RowOk Tryz.prog 41 (fun{α}=>g41v1R (g41v1 m (α:=α))):=
 rwk (g41v1Calls m) (lo0 (by kernel_rfl))
  (fun _=>g41v1Main (g71 m) (g53v1 m))
abbrev S_g89(α:Type):Type:=Bool→(List Int)→Bool→(List Int)→(Int→Option α)→Option α
def g89b{α:Type}(G46:Al S_g46)(a:Bool)(b:List Int)(c:Bool)(d:List Int)(e:Int→Option α):Option α:=cond (!(a==c)) (cond a (e (-1:Int)) (cond (!(a==c)) (e (1:Int)) (cond a (G46 d b (fun h=>e h)) (G46 b d (fun i=>e i))))) (cond (!(a==c)) (e (1:Int)) (cond a (G46 d b (fun j=>e j)) (G46 b d (fun l=>e l))))
def g89{α:Type}(m:Nat):S_g89 α:=
 g89b (g46 m)
def g89tp:List TP:=[vW,vW]
def g89bp:List BP:=[]
def g89K{α:Type}(G:S_g89 α)(ls:List Lf)(k:KRe α):Option α:=
 G (lf ls 0).bool ((lf ls 1).lst uU) (lf ls 2).bool ((lf ls 3).lst uU)
  (fun a=>k (.vl (.sv (.int .i64 a))) [] [])
def g89R{α:Type}(G:S_g89 α):=rowK g89tp g89bp (g89K G)
def g89hd(G46:Al S_g46):Hd where
 call:=fun f args Bs k=>cond (Nat.beq f 46) (g46R G46 args Bs k) (none)
 loop:=fun id st k=>none
 ro:=fun f=>[]
def g89h(m:Nat):Hd:=g89hd (g46 m)
theorem g89Main(G46:Al S_g46){α:Type}(ls:List Lf)(k:KRe α):
  g89K (g89b G46) ls k=evFun tab (g89hd G46) Tryz.f89 (fT g89tp ls) (fB g89tp g89bp ls) k:=by kernel_rfl
theorem g89Calls(m:Nat):(g89h m).CallsOk Tryz.prog:=(cok_cons (g46Ok m) cok_nil)
theorem g89Ok(m:Nat):RowOk Tryz.prog 89 (fun{α}=>g89R (g89 m (α:=α))):=
 rwk (g89Calls m) (lo0 (by kernel_rfl))
  (fun _=>g89Main (g46 m))
abbrev S_g113(α:Type):Type:=Int→Bool→Nat→Nat→Nat→Int→Nat→Ty0→Ty4→Ty0→(Int→Bool→Nat→Nat→Nat→Int→Ty4→Ty0→Option α)→Option α
def g113b{α:Type}(G32:Al S_g32)(G72:Al S_g72)(a:Int)(b:Bool)(c d e:Nat)(h:Int)(i:Nat)(j:Ty0)(l:Ty4)(n:Ty0)(o:Int→Bool→Nat→Nat→Nat→Int→Ty4→Ty0→Option α):Option α:=G32 a (0:Int) b c d e h i j l n (fun p q r s t u v w x y z=>G72 q (fun a0=>o a0 r s t u v y z))
def g113(A32:Al S_g32){α:Type}(m:Nat):S_g113 α:=
 g113b A32 (g72 m)
def g113tp:List TP:=[(.vl (.sv (.ptr 0 0))),(.vl (.sv (.int .i16)))]
def g113bp:List BP:=[bA,(false,[(.seqv rN)]),(true,[(.mp rP mW)]),(true,[(.gro rP)])]
def g113K{α:Type}(G:S_g113 α)(ls:List Lf)(k:KRe α):Option α:=
 G (lf ls 0).int (lf ls 1).bool (lf ls 2).nat (lf ls 3).nat (lf ls 4).nat (lf ls 5).int (lf ls 6).nat ((lf ls 7).lst rN) ((lf ls 8).map rP mW) ((lf ls 9).lst rP)
  (fun c d e h i j l n=>k (.vl (.sv (.int .i64 c))) [[(.one (.bool d)),(.one (.slc 1 0 5 e h i)),(.one (.mpp 2)),(.one (.gsl 4 2)),(.one (.int .i64 j))],[(.seq rN (lf ls 6).nat ((lf ls 7).lst rN))],[(.mp rP mW l)],[]] [[(.gro rP n)]])
def g113R{α:Type}(G:S_g113 α):=rowK g113tp g113bp (g113K G)
def g113hd(G32:Al S_g32)(G72:Al S_g72):Hd where
 call:=fun f args Bs k=>cond (Nat.beq f 32) (g32R G32 args Bs k) (cond (Nat.beq f 72) (g72R G72 args Bs k) (none))
 loop:=fun id st k=>none
 ro:=fun f=>cond (Nat.beq f 32) [1] ([])
def g113h(A32:Al S_g32)(m:Nat):Hd:=g113hd A32 (g72 m)
theorem g113Main(G32:Al S_g32)(G72:Al S_g72){α:Type}(ls:List Lf)(k:KRe α):
  g113K (g113b G32 G72) ls k=evFunM tab (g113hd G32 G72) Tryz.f113 3 (fT g113tp ls) (fB g113tp g113bp ls) k:=by kernel_rfl
theorem g113Calls(A32:Al S_g32)(hA32:HA32 A32)(m:Nat):(g113h A32 m).CallsOk Tryz.prog:=(cok_cons hA32 (cok_cons (g72Ok m) cok_nil))
theorem g113Fn(A32:Al S_g32)(hA32:HA32 A32)(m:Nat):FnOk Tryz.prog 113 g113tp g113bp (fun{α}=>g113K (g113 A32 m (α:=α))):=
 fn_okM (tab:=tab) (h:=g113h A32 m) (fn:=Tryz.f113) (F:=fun{α}=>g113K (g113 A32 m (α:=α))) tabOk (g113Calls A32 hA32 m) mixed (by kernel_rfl) (by kernel_rfl) (fun c hc=>by
  rw[bodyOf_some hc]
  exact loopsOk_of _ (fun p hp=>by rw[show loopsOf (bodyOf Tryz.f113)=[] by kernel_rfl] at hp;cases hp))
  (fun _=>g113Main A32 (g72 m))
theorem g113Ok(A32:Al S_g32)(hA32:HA32 A32)(m:Nat):RowOk Tryz.prog 113 (fun{α}=>g113R (g113 A32 m (α:=α))):=row_of (g113Fn A32 hA32 m)
abbrev S_g54v1(α:Type):Type:=Bool→(List Int)→Bool→(List Int)→Bool→Nat→Nat→Nat→Int→Nat→Ty0→Ty4→Ty0→(Bool→(List Int)→Bool→Option α)→Option α
def g54v1b{α:Type}(G85:Al S_g85)(G73:Al S_g73)(a:Bool)(b:List Int)(c:Bool)(d:List Int)(e:Bool)(h i j:Nat)(l:Int)(n:Nat)(o:Ty0)(p:Ty4)(q:Ty0)(r:Bool→(List Int)→Bool→Option α):Option α:=G85 b d (fun s t=>cond e (G73 (!(a==c)) s (fun u=>r u s true)) (G73 (!(a==c)) s (fun v=>r v s t)))
def g54v1{α:Type}(m:Nat):S_g54v1 α:=
 g54v1b (g85 m) (g73 m)
def g54v1tp:List TP:=[(.vl (.sv (.ptr 0 0))),vW,vW]
def g54v1bp:List BP:=[bA,(false,[(.seqv rN)]),(false,[(.mp rP mW)]),(false,[(.gro rP)])]
def g54v1K{α:Type}(G:S_g54v1 α)(ls:List Lf)(k:KRe α):Option α:=
 G (lf ls 0).bool ((lf ls 1).lst uU) (lf ls 2).bool ((lf ls 3).lst uU) (lf ls 4).bool (lf ls 5).nat (lf ls 6).nat (lf ls 7).nat (lf ls 8).int (lf ls 9).nat ((lf ls 10).lst rN) ((lf ls 11).map rP mW) ((lf ls 12).lst rP)
  (fun c d e=>k (.vl (.agg [(.one (.bool c)),(.seq uU 6 d)])) [[(.one (.bool e)),(.one (.slc 1 0 5 (lf ls 5).nat (lf ls 6).nat (lf ls 7).nat)),(.one (.mpp 2)),(.one (.gsl 3 2)),(.one (.int .i64 (lf ls 8).int))],[(.seq rN (lf ls 9).nat ((lf ls 10).lst rN))],[(.mp rP mW ((lf ls 11).map rP mW))],[(.gro rP ((lf ls 12).lst rP))]] [])
def g54v1R{α:Type}(G:S_g54v1 α):=rowK g54v1tp g54v1bp (g54v1K G)
def g54v1hd(G85:Al S_g85)(G73:Al S_g73):Hd where
 call:=fun f args Bs k=>cond (Nat.beq f 85) (g85R G85 args Bs k) (cond (Nat.beq f 73) (g73R G73 args Bs k) (none))
 loop:=fun id st k=>none
 ro:=fun f=>[]
def g54v1h(m:Nat):Hd:=g54v1hd (g85 m) (g73 m)
theorem g54v1Main(G85:Al S_g85)(G73:Al S_g73){α:Type}(ls:List Lf)(k:KRe α):
  g54v1K (g54v1b G85 G73) ls k=evFun tab (g54v1hd G85 G73) Tryz.f54 (fT g54v1tp ls) (fB g54v1tp g54v1bp ls) k:=by kernel_rfl
theorem g54v1Calls(m:Nat):(g54v1h m).CallsOk Tryz.prog:=(cok_cons (g85Ok m) (cok_cons (g73Ok m) cok_nil))
theorem g54v1Ok(m:Nat):RowOk Tryz.prog 54 (fun{α}=>g54v1R (g54v1 m (α:=α))):=
 rwk (g54v1Calls m) (lo0 (by kernel_rfl))
  (fun _=>g54v1Main (g85 m) (g73 m))
abbrev S_g90(α:Type):Type:=Int→Int→Int→Int→Int→Int→Bool→Nat→Nat→Nat→Int→Nat→Ty0→Ty4→Ty0→(Bool→(List Int)→Bool→Nat→Nat→Nat→Int→Ty4→Ty0→Option α)→Option α
def g90b{α:Type}(G113:Al S_g113)(G32:Al S_g32)(G33:Al S_g33)(G54v1:Al S_g54v1)(G74v1:Al S_g74v1)(a b:Int)(c d:Int)(e h:Int)(i:Bool)(j l n:Nat)(o:Int)(p:Nat)(q:Ty0)(r:Ty4)(s:Ty0)(t:Bool→(List Int)→Bool→Nat→Nat→Nat→Int→Ty4→Ty0→Option α):Option α:=G113 b i j l n o p q r s (fun u v w x y z a0 b0=>G113 c v w x y z p q a0 b0 (fun c0 d0 e0 h0 i0 j0 l0 n0=>G32 b (IntKind.wrap .i64 ((IntKind.wrap .i64 (h+c0))+(3:Int))) d0 e0 h0 i0 j0 p q l0 n0 (fun o0 p0 q0 r0 s0 t0 u0 v0 w0 x0 y0=>G32 c (IntKind.wrap .i64 ((IntKind.wrap .i64 (h+u))+(3:Int))) q0 r0 s0 t0 u0 p q x0 y0 (fun z0 a1 b1 c1 d1 e1 h1 i1 j1 l1 n1=>G33 b1 c1 d1 e1 h1 p q l1 n1 (fun o1 p1=>cond o1 (t false [0,0,0,0,0,0] b1 c1 d1 e1 p1 l1 n1) (G54v1 o0 p0 z0 a1 b1 c1 d1 e1 p1 p q l1 n1 (fun q1 r1 s1=>G74v1 q1 r1 (IntKind.wrap .i64 ((IntKind.wrap .i64 ((IntKind.wrap .i64 (h+u))+c0))+(6:Int))) s1 c1 d1 e1 p1 p q l1 n1 (fun t1 u1 v1=>t t1 u1 v1 c1 d1 e1 p1 l1 n1))))))))
def g90(A32:Al S_g32){α:Type}(m:Nat):S_g90 α:=
 g90b (g113 A32 m) A32 (g33 m) (g54v1 m) (g74v1 m)
def g90tp:List TP:=[(.vl (.sv (.ptr 0 0))),(.vl (.agg [(.one (.int .i8)),(.one (.int .i16)),(.one (.int .i16)),(.one (.int .i64)),(.one (.int .i64))])),tI]
def g90bp:List BP:=[bA,(false,[(.seqv rN)]),(true,[(.mp rP mW)]),(true,[(.gro rP)])]
def g90K{α:Type}(G:S_g90 α)(ls:List Lf)(k:KRe α):Option α:=
 G (lf ls 0).int (lf ls 1).int (lf ls 2).int (lf ls 3).int (lf ls 4).int (lf ls 5).int (lf ls 6).bool (lf ls 7).nat (lf ls 8).nat (lf ls 9).nat (lf ls 10).int (lf ls 11).nat ((lf ls 12).lst rN) ((lf ls 13).map rP mW) ((lf ls 14).lst rP)
  (fun c d e h i j l n o=>k (.vl (.agg [(.one (.bool c)),(.seq uU 6 d)])) [[(.one (.bool e)),(.one (.slc 1 0 5 h i j)),(.one (.mpp 2)),(.one (.gsl 4 2)),(.one (.int .i64 l))],[(.seq rN (lf ls 11).nat ((lf ls 12).lst rN))],[(.mp rP mW n)],[]] [[(.gro rP o)]])
def g90R{α:Type}(G:S_g90 α):=rowK g90tp g90bp (g90K G)
def g90hd(G113:Al S_g113)(G32:Al S_g32)(G33:Al S_g33)(G54v1:Al S_g54v1)(G74v1:Al S_g74v1):Hd where
 call:=fun f args Bs k=>cond (Nat.beq f 113) (g113R G113 args Bs k) (cond (Nat.beq f 32) (g32R G32 args Bs k) (cond (Nat.beq f 33) (g33R G33 args Bs k) (cond (Nat.beq f 54) (g54v1R G54v1 args Bs k) (cond (Nat.beq f 74) (g74v1R G74v1 args Bs k) (none)))))
 loop:=fun id st k=>none
 ro:=fun f=>cond (Nat.beq f 32) [1] (cond (Nat.beq f 33) [1,2,3] (cond (Nat.beq f 54) [1,2,3] (cond (Nat.beq f 74) [1,2,3] (cond (Nat.beq f 113) [1] ([])))))
def g90h(A32:Al S_g32)(m:Nat):Hd:=g90hd (g113 A32 m) A32 (g33 m) (g54v1 m) (g74v1 m)
theorem g90Main(G113:Al S_g113)(G32:Al S_g32)(G33:Al S_g33)(G54v1:Al S_g54v1)(G74v1:Al S_g74v1){α:Type}(ls:List Lf)(k:KRe α):
  g90K (g90b G113 G32 G33 G54v1 G74v1) ls k=evFunM tab (g90hd G113 G32 G33 G54v1 G74v1) Tryz.f90 3 (fT g90tp ls) (fB g90tp g90bp ls) k:=by kernel_rfl
theorem g90Calls(A32:Al S_g32)(hA32:HA32 A32)(m:Nat):(g90h A32 m).CallsOk Tryz.prog:=(cok_cons (g113Ok A32 hA32 m) (cok_cons hA32 (cok_cons (g33Ok m) (cok_cons (g54v1Ok m) (cok_cons (g74v1Ok m) cok_nil)))))
theorem g90Fn(A32:Al S_g32)(hA32:HA32 A32)(m:Nat):FnOk Tryz.prog 90 g90tp g90bp (fun{α}=>g90K (g90 A32 m (α:=α))):=
 fn_okM (tab:=tab) (h:=g90h A32 m) (fn:=Tryz.f90) (F:=fun{α}=>g90K (g90 A32 m (α:=α))) tabOk (g90Calls A32 hA32 m) mixed (by kernel_rfl) (by kernel_rfl) (fun c hc=>by
  rw[bodyOf_some hc]
  exact loopsOk_of _ (fun p hp=>by rw[show loopsOf (bodyOf Tryz.f90)=[] by kernel_rfl] at hp;cases hp))
  (fun _=>g90Main (g113 A32 m) A32 (g33 m) (g54v1 m) (g74v1 m))
theorem g90Ok(A32:Al S_g32)(hA32:HA32 A32)(m:Nat):RowOk Tryz.prog 90 (fun{α}=>g90R (g90 A32 m (α:=α))):=row_of (g90Fn A32 hA32 m)
abbrev S_g114(α:Type):Type:=Int→Bool→Nat→Nat→Nat→Int→Nat→Ty0→Ty4→Ty0→(Int→Bool→Nat→Nat→Nat→Int→Ty4→Ty0→Option α)→Option α
abbrev S_g114l0(α:Type):Type:=Int→Nat→Ty0→(Int→Bool→Nat→Nat→Nat→Int→Ty4→Ty0→Option α)→(Bool→Nat→Nat→Nat→Int→Ty4→Ty0→Option α)→Int→Bool→Nat→Nat→Nat→Int→Ty4→Ty0→Option α
def g114l0b{α:Type}(G32:Al S_g32)(G33:Al S_g33)(G46:Al S_g46)(a:Int)(b:Nat)(c:Ty0)(d:Int→Bool→Nat→Nat→Nat→Int→Ty4→Ty0→Option α)(e:Bool→Nat→Nat→Nat→Int→Ty4→Ty0→Option α)(h:Int→Bool→Nat→Nat→Nat→Int→Ty4→Ty0→Option α)(i:Int)(j:Bool)(l n o:Nat)(p:Int)(q:Ty4)(r:Ty0):Option α:=cond (decide (i≤(40:Int))) (G32 a (IntKind.wrap .i64 (i+(2:Int))) j l n o p b c q r (fun s t u v w x y z a0 b0 c0=>G33 u v w x y b c b0 c0 (fun d0 e0=>cond d0 (d (0:Int) u v w x e0 b0 c0) (G46 t [(5:Int),0,0,0,0,0] (fun h0=>cond (decide (h0≥(0:Int))) (d i u v w x e0 b0 c0) (h (IntKind.wrap .i64 (i+(1:Int))) u v w x e0 b0 c0)))))) (e j l n o p q r)
def g114l0{α:Type}(G32:Al S_g32)(G33:Al S_g33)(G46:Al S_g46)(a:Int)(b:Nat)(c:Ty0)(d:Int→Bool→Nat→Nat→Nat→Int→Ty4→Ty0→Option α)(e:Bool→Nat→Nat→Nat→Int→Ty4→Ty0→Option α):Nat→Int→Bool→Nat→Nat→Nat→Int→Ty4→Ty0→Option α
 |0=>fun _ _ _ _ _ _ _ _=>none
 |m+1=>fun h i j l n o p q=>g114l0b G32 G33 G46 a b c d e (g114l0 G32 G33 G46 a b c d e m) h i j l n o p q
def g114l0M(A32:Al S_g32){α:Type}(m:Nat):S_g114l0 α:=
 fun a b c d e h i j l n o p q=>g114l0 A32 (g33 m) (g46 m) a b c d e m h i j l n o p q
def g114l0D:LoopD:={n:=27,low:=[0,1,2,3],sl:=[0,1,5],bl:=[0,1,2,3,1000004],tp:=[(.vl (.sv (.ptr 0 0))),(.vl (.sv (.int .i16))),tI],bp:=[(true,[(.one .bool),(.one (.slc 1 0 5)),(.one (.mpp 2)),(.one (.gsl 1000004 2)),(.one (.int .i64))]),(false,[(.seqv rN)]),(true,[(.mp rP mW)]),(true,[]),(true,[(.gro rP)])],xs:=[(1,[4]),(2,[0])]}
def g114l0K{α:Type}(L:S_g114l0 α)(ls:List Lf)(k:KEx α):Option α:=
 L (lf ls 0).int (lf ls 7).nat ((lf ls 8).lst rN)
  (fun c d e h i j l n=>k .ret (mkSt 27 [4] [(.vl (.sv (.int .i64 c)))] [0,1,2,3,1000004] [(true,[(.one (.bool d)),(.one (.slc 1 0 5 e h i)),(.one (.mpp 2)),(.one (.gsl 1000004 2)),(.one (.int .i64 j))]),(false,[(.seq rN (lf ls 7).nat ((lf ls 8).lst rN))]),(true,[(.mp rP mW l)]),(true,[]),(true,[(.gro rP n)])]))
  (fun c d e h i o l=>k .normal (mkSt 27 [0] [(.vl (.sv (.ptr 0 0)))] [0,1,2,3,1000004] [(true,[(.one (.bool c)),(.one (.slc 1 0 5 d e h)),(.one (.mpp 2)),(.one (.gsl 1000004 2)),(.one (.int .i64 i))]),(false,[(.seq rN (lf ls 7).nat ((lf ls 8).lst rN))]),(true,[(.mp rP mW o)]),(true,[]),(true,[(.gro rP l)])]))
  (lf ls 1).int (lf ls 2).bool (lf ls 3).nat (lf ls 4).nat (lf ls 5).nat (lf ls 6).int ((lf ls 9).map rP mW) ((lf ls 10).lst rP)
def g114b{α:Type}(G32:Al S_g32)(G33:Al S_g33)(G46:Al S_g46)(L114l0:Al S_g114l0)(a:Int)(b:Bool)(c d e:Nat)(h:Int)(i:Nat)(j:Ty0)(l:Ty4)(n:Ty0)(o:Int→Bool→Nat→Nat→Nat→Int→Ty4→Ty0→Option α):Option α:=L114l0 a i j (fun p q r s t u v w=>o p q r s t u v w) (fun x y z a0 b0 c0 d0=>o (0:Int) x y z a0 (7:Int) c0 d0) (0:Int) b c d e h l n
def g114(A32:Al S_g32){α:Type}(m:Nat):S_g114 α:=
 g114b A32 (g33 m) (g46 m) (g114l0M A32 m)
def g114tp:List TP:=[(.vl (.sv (.ptr 0 0))),(.vl (.sv (.int .i16)))]
def g114bp:List BP:=[bA,(false,[(.seqv rN)]),(true,[(.mp rP mW)]),(true,[(.gro rP)])]
def g114K{α:Type}(G:S_g114 α)(ls:List Lf)(k:KRe α):Option α:=
 G (lf ls 0).int (lf ls 1).bool (lf ls 2).nat (lf ls 3).nat (lf ls 4).nat (lf ls 5).int (lf ls 6).nat ((lf ls 7).lst rN) ((lf ls 8).map rP mW) ((lf ls 9).lst rP)
  (fun c d e h i j l n=>k (.vl (.sv (.int .i64 c))) [[(.one (.bool d)),(.one (.slc 1 0 5 e h i)),(.one (.mpp 2)),(.one (.gsl 4 2)),(.one (.int .i64 j))],[(.seq rN (lf ls 6).nat ((lf ls 7).lst rN))],[(.mp rP mW l)],[]] [[(.gro rP n)]])
def g114R{α:Type}(G:S_g114 α):=rowK g114tp g114bp (g114K G)
def g114hd(G32:Al S_g32)(G33:Al S_g33)(G46:Al S_g46)(L114l0:Al S_g114l0):Hd where
 call:=fun f args Bs k=>cond (Nat.beq f 32) (g32R G32 args Bs k) (cond (Nat.beq f 33) (g33R G33 args Bs k) (cond (Nat.beq f 46) (g46R G46 args Bs k) (none)))
 loop:=fun id st k=>cond (Nat.beq id 0) (loopH g114l0D (g114l0K L114l0) st k) (none)
 ro:=fun f=>cond (Nat.beq f 32) [1] (cond (Nat.beq f 33) [1,2,3] ([]))
def g114h(A32:Al S_g32)(m:Nat):Hd:=g114hd A32 (g33 m) (g46 m) (g114l0M A32 m)
theorem g114l0Step(G32:Al S_g32)(G33:Al S_g33)(G46:Al S_g46)(L114l0:Al S_g114l0){α:Type}(L:S_g114l0 α)(ls:List Lf)(k:KEx α):
  g114l0K (fun a b c d e h i j l n o p q=>g114l0b G32 G33 G46 a b c d e (L a b c d e) h i j l n o p q) ls k=ev tab (g114hd G32 G33 G46 L114l0) (bodyAt Tryz.f114 0) (atHead g114l0D ls) (loopK g114l0D 0 (loopH g114l0D (g114l0K L)) k):=by kernel_rfl
theorem g114Main(G32:Al S_g32)(G33:Al S_g33)(G46:Al S_g46)(L114l0:Al S_g114l0){α:Type}(ls:List Lf)(k:KRe α):
  g114K (g114b G32 G33 G46 L114l0) ls k=evFunM tab (g114hd G32 G33 G46 L114l0) Tryz.f114 3 (fT g114tp ls) (fB g114tp g114bp ls) k:=by kernel_rfl
theorem g114Calls(A32:Al S_g32)(hA32:HA32 A32)(m:Nat):(g114h A32 m).CallsOk Tryz.prog:=(cok_cons hA32 (cok_cons (g33Ok m) (cok_cons (g46Ok m) cok_nil)))
theorem g114l0Ok(A32:Al S_g32)(hA32:HA32 A32)(m:Nat)(α:Type)(st:St)(k:KEx α)(r:α)(h:(g114h A32 m).loop 0 st k=some r):
  LoopS Tryz.prog 0 (bodyAt Tryz.f114 0) st k r:=
 lpk (F:=fun n ls k=>g114l0K (fun a b c d e i j l o q s t u=>g114l0 A32 (g33 m) (g46 m) a b c d e n i j l o q s t u) ls k) (g114Calls A32 hA32 m) (lb0 (by kernel_rfl))
  (fun _ _=>rfl) (fun n ls k=>g114l0Step A32 (g33 m) (g46 m) (g114l0M A32 m) (fun a b c d e=>g114l0 A32 (g33 m) (g46 m) a b c d e n) ls k) (n:=m) h
theorem g114Fn(A32:Al S_g32)(hA32:HA32 A32)(m:Nat):FnOk Tryz.prog 114 g114tp g114bp (fun{α}=>g114K (g114 A32 m (α:=α))):=
 fn_okM (tab:=tab) (h:=g114h A32 m) (fn:=Tryz.f114) (F:=fun{α}=>g114K (g114 A32 m (α:=α))) tabOk (g114Calls A32 hA32 m) mixed (by kernel_rfl) (by kernel_rfl) (fun c hc=>by
  rw[bodyOf_some hc]
  exact loopsOk_of _ (fun p hp=>by
  rw[show loopsOf (bodyOf Tryz.f114)=[(0,bodyAt Tryz.f114 0)] by kernel_rfl] at hp
  simp only[List.mem_cons,List.not_mem_nil,or_false] at hp
  rcases hp with rfl
  exact g114l0Ok A32 hA32 m))
  (fun _=>g114Main A32 (g33 m) (g46 m) (g114l0M A32 m))
theorem g114Ok(A32:Al S_g32)(hA32:HA32 A32)(m:Nat):RowOk Tryz.prog 114 (fun{α}=>g114R (g114 A32 m (α:=α))):=row_of (g114Fn A32 hA32 m)
abbrev S_g75(α:Type):Type:=Bool→(List Int)→(Int→Option α)→Option α
def g75b{α:Type}(a:Bool)(b:List Int)(c:Int→Option α):Option α:=cond a (c (-1:Int)) (cond (eqLI b [0,0,0,0,0,0]) (c (0:Int)) (c (1:Int)))
def g75{α:Type}(m:Nat):S_g75 α:=
 g75b
def g75tp:List TP:=[vW]
def g75bp:List BP:=[]
def g75K{α:Type}(G:S_g75 α)(ls:List Lf)(k:KRe α):Option α:=
 G (lf ls 0).bool ((lf ls 1).lst uU)
  (fun a=>k (.vl (.sv (.int .i64 a))) [] [])
def g75R{α:Type}(G:S_g75 α):=rowK g75tp g75bp (g75K G)
def g75hd:Hd where
 call:=fun f args Bs k=>none
 loop:=fun id st k=>none
 ro:=fun f=>[]
def g75h(m:Nat):Hd:=g75hd
theorem g75Main{α:Type}(ls:List Lf)(k:KRe α):
  g75K (g75b) ls k=evFun tab (g75hd) Tryz.f75 (fT g75tp ls) (fB g75tp g75bp ls) k:=by kernel_rfl
theorem g75Calls(m:Nat):(g75h m).CallsOk Tryz.prog:=cok_nil
theorem g75Ok(m:Nat):RowOk Tryz.prog 75 (fun{α}=>g75R (g75 m (α:=α))):=
 rwk (g75Calls m) (lo0 (by kernel_rfl))
  (fun _=>g75Main)
abbrev S_g91(α:Type):Type:=Int→Int→Int→Int→Int→Int→Bool→Nat→Nat→Nat→Int→Nat→Ty0→Ty4→Ty0→(Bool→(List Int)→Bool→Nat→Nat→Nat→Int→Ty4→Ty0→Option α)→Option α
def g91b{α:Type}(G114:Al S_g114)(G33:Al S_g33)(G113:Al S_g113)(G32:Al S_g32)(G42v1:Al S_g42v1)(G75:Al S_g75)(G87v1:Al S_g87v1)(a b:Int)(c d:Int)(e h:Int)(i:Bool)(j l n:Nat)(o:Int)(p:Nat)(q:Ty0)(r:Ty4)(s:Ty0)(t:Bool→(List Int)→Bool→Nat→Nat→Nat→Int→Ty4→Ty0→Option α):Option α:=G114 c i j l n o p q r s (fun u v w x y z a0 b0=>G33 v w x y z p q a0 b0 (fun c0 d0=>cond c0 (t false [0,0,0,0,0,0] v w x y d0 a0 b0) (G113 b v w x y d0 p q a0 b0 (fun e0 h0 i0 j0 l0 n0 o0 p0=>G32 b (IntKind.wrap .i64 ((IntKind.wrap .i64 (h+u))+(3:Int))) h0 i0 j0 l0 n0 p q o0 p0 (fun q0 r0 s0 t0 u0 v0 w0 x0 y0 z0 a1=>G32 c (IntKind.wrap .i64 ((IntKind.wrap .i64 ((IntKind.wrap .i64 (h+e0))+(IntKind.wrap .i64 ((2:Int)*u))))+(4:Int))) s0 t0 u0 v0 w0 p q z0 a1 (fun b1 c1 d1 e1 h1 i1 j1 l1 n1 o1 p1=>G33 d1 e1 h1 i1 j1 p q o1 p1 (fun q1 r1=>cond q1 (t false [0,0,0,0,0,0] d1 e1 h1 i1 r1 o1 p1) (G42v1 q0 r0 (IntKind.wrap .i64 ((IntKind.wrap .i64 ((IntKind.wrap .i64 (h+e0))+u))+(1:Int))) d1 e1 h1 i1 r1 p q o1 p1 (fun s1 t1 u1=>G33 u1 e1 h1 i1 r1 p q o1 p1 (fun v1 w1=>cond v1 (t false [0,0,0,0,0,0] u1 e1 h1 i1 w1 o1 p1) (G75 b1 c1 (fun x1=>cond (x1==(0:Int)) (t false [0,0,0,0,0,0] u1 e1 h1 i1 w1 o1 p1) (G87v1 s1 t1 b1 c1 u1 e1 h1 i1 w1 p q o1 p1 (fun y1 z1 a2=>t y1 z1 a2 e1 h1 i1 w1 o1 p1))))))))))))))
def g91(A32:Al S_g32){α:Type}(m:Nat):S_g91 α:=
 g91b (g114 A32 m) (g33 m) (g113 A32 m) A32 (g42v1 m) (g75 m) (g87v1 m)
def g91tp:List TP:=[(.vl (.sv (.ptr 0 0))),(.vl (.agg [(.one (.int .i8)),(.one (.int .i16)),(.one (.int .i16)),(.one (.int .i64)),(.one (.int .i64))])),tI]
def g91bp:List BP:=[bA,(false,[(.seqv rN)]),(true,[(.mp rP mW)]),(true,[(.gro rP)])]
def g91K{α:Type}(G:S_g91 α)(ls:List Lf)(k:KRe α):Option α:=
 G (lf ls 0).int (lf ls 1).int (lf ls 2).int (lf ls 3).int (lf ls 4).int (lf ls 5).int (lf ls 6).bool (lf ls 7).nat (lf ls 8).nat (lf ls 9).nat (lf ls 10).int (lf ls 11).nat ((lf ls 12).lst rN) ((lf ls 13).map rP mW) ((lf ls 14).lst rP)
  (fun c d e h i j l n o=>k (.vl (.agg [(.one (.bool c)),(.seq uU 6 d)])) [[(.one (.bool e)),(.one (.slc 1 0 5 h i j)),(.one (.mpp 2)),(.one (.gsl 4 2)),(.one (.int .i64 l))],[(.seq rN (lf ls 11).nat ((lf ls 12).lst rN))],[(.mp rP mW n)],[]] [[(.gro rP o)]])
def g91R{α:Type}(G:S_g91 α):=rowK g91tp g91bp (g91K G)
def g91hd(G114:Al S_g114)(G33:Al S_g33)(G113:Al S_g113)(G32:Al S_g32)(G42v1:Al S_g42v1)(G75:Al S_g75)(G87v1:Al S_g87v1):Hd where
 call:=fun f args Bs k=>cond (Nat.beq f 114) (g114R G114 args Bs k) (cond (Nat.beq f 33) (g33R G33 args Bs k) (cond (Nat.beq f 113) (g113R G113 args Bs k) (cond (Nat.beq f 32) (g32R G32 args Bs k) (cond (Nat.beq f 42) (g42v1R G42v1 args Bs k) (cond (Nat.beq f 75) (g75R G75 args Bs k) (cond (Nat.beq f 87) (g87v1R G87v1 args Bs k) (none)))))))
 loop:=fun id st k=>none
 ro:=fun f=>cond (Nat.beq f 32) [1] (cond (Nat.beq f 33) [1,2,3] (cond (Nat.beq f 42) [1,2,3] (cond (Nat.beq f 87) [1,2,3] (cond (Nat.beq f 113) [1] (cond (Nat.beq f 114) [1] ([]))))))
def g91h(A32:Al S_g32)(m:Nat):Hd:=g91hd (g114 A32 m) (g33 m) (g113 A32 m) A32 (g42v1 m) (g75 m) (g87v1 m)
theorem g91Main(G114:Al S_g114)(G33:Al S_g33)(G113:Al S_g113)(G32:Al S_g32)(G42v1:Al S_g42v1)(G75:Al S_g75)(G87v1:Al S_g87v1){α:Type}(ls:List Lf)(k:KRe α):
  g91K (g91b G114 G33 G113 G32 G42v1 G75 G87v1) ls k=evFunM tab (g91hd G114 G33 G113 G32 G42v1 G75 G87v1) Tryz.f91 3 (fT g91tp ls) (fB g91tp g91bp ls) k:=by kernel_rfl
theorem g91Calls(A32:Al S_g32)(hA32:HA32 A32)(m:Nat):(g91h A32 m).CallsOk Tryz.prog:=(cok_cons (g114Ok A32 hA32 m) (cok_cons (g33Ok m) (cok_cons (g113Ok A32 hA32 m) (cok_cons hA32 (cok_cons (g42v1Ok m) (cok_cons (g75Ok m) (cok_cons (g87v1Ok m) cok_nil)))))))
theorem g91Fn(A32:Al S_g32)(hA32:HA32 A32)(m:Nat):FnOk Tryz.prog 91 g91tp g91bp (fun{α}=>g91K (g91 A32 m (α:=α))):=
 fn_okM (tab:=tab) (h:=g91h A32 m) (fn:=Tryz.f91) (F:=fun{α}=>g91K (g91 A32 m (α:=α))) tabOk (g91Calls A32 hA32 m) mixed (by kernel_rfl) (by kernel_rfl) (fun c hc=>by
  rw[bodyOf_some hc]
  exact loopsOk_of _ (fun p hp=>by rw[show loopsOf (bodyOf Tryz.f91)=[] by kernel_rfl] at hp;cases hp))
  (fun _=>g91Main (g114 A32 m) (g33 m) (g113 A32 m) A32 (g42v1 m) (g75 m) (g87v1 m))
theorem g91Ok(A32:Al S_g32)(hA32:HA32 A32)(m:Nat):RowOk Tryz.prog 91 (fun{α}=>g91R (g91 A32 m (α:=α))):=row_of (g91Fn A32 hA32 m)
abbrev S_g92(α:Type):Type:=(List Int)→((List Int)→Option α)→Option α
abbrev S_g92l0(α:Type):Type:=(List Int)→(List Int)→((List Int)→Option α)→Int→(List Int)→Option α
def g92l0b{α:Type}(G43:Al S_g43)(G44:Al S_g44)(G45:Al S_g45)(G85:Al S_g85)(G46:Al S_g46)(a b:List Int)(c:(List Int)→Option α)(d:Int→(List Int)→Option α)(e:Int)(h:List Int):Option α:=cond (decide (e≥(0:Int))) (G43 (fun i=>G44 i e (fun j=>G45 h j (fun l n=>G85 l l (fun o p=>cond (!p) (G46 o a (fun q=>cond (decide (q≤(0:Int))) (d (IntKind.wrap .i64 (e-(1:Int))) l) (d (IntKind.wrap .i64 (e-(1:Int))) h))) (d (IntKind.wrap .i64 (e-(1:Int))) h)))))) (c h)
def g92l0{α:Type}(G43:Al S_g43)(G44:Al S_g44)(G45:Al S_g45)(G85:Al S_g85)(G46:Al S_g46)(a b:List Int)(c:(List Int)→Option α):Nat→Int→(List Int)→Option α
 |0=>fun _ _=>none
 |m+1=>fun d e=>g92l0b G43 G44 G45 G85 G46 a b c (g92l0 G43 G44 G45 G85 G46 a b c m) d e
def g92l0M{α:Type}(m:Nat):S_g92l0 α:=
 fun a b c d e=>g92l0 (g43 m) (g44 m) (g45 m) (g85 m) (g46 m) a b c m d e
def g92l0D:LoopD:={n:=42,low:=[],sl:=[1,2,3,4],bl:=[1000000,1000001,1000002],tp:=[(.vl (.sv (.ptr 1000000 0))),(.vl (.sv (.ptr 1000001 0))),(.vl (.sv (.ptr 1000002 0))),tI],bp:=[b6,b6,b6],xs:=[(2,[2,3])]}
def g92l0K{α:Type}(L:S_g92l0 α)(ls:List Lf)(k:KEx α):Option α:=
 L ((lf ls 1).lst uU) ((lf ls 2).lst uU)
  (fun a=>k .normal (mkSt 42 [2,3] [(.vl (.sv (.ptr 1000000 0))),(.vl (.sv (.ptr 1000001 0)))] [1000000,1000001] [(true,[(.seq uU 6 ((lf ls 2).lst uU))]),(true,[(.seq uU 6 a)])]))
  (lf ls 0).int ((lf ls 3).lst uU)
def g92b{α:Type}(G72:Al S_g72)(G43:Al S_g43)(G44:Al S_g44)(G45:Al S_g45)(G85:Al S_g85)(G46:Al S_g46)(L92l0:Al S_g92l0)(a:List Int)(b:(List Int)→Option α):Option α:=G72 a (fun c=>L92l0 a [0,0,0,0,0,0] (fun d=>b d) (IntKind.wrap .i64 (Int.tdiv (IntKind.wrap .i64 (c+(1:Int))) (2:Int))) [0,0,0,0,0,0])
def g92{α:Type}(m:Nat):S_g92 α:=
 g92b (g72 m) (g43 m) (g44 m) (g45 m) (g85 m) (g46 m) (g92l0M m)
def g92tp:List TP:=[(.vl (.agg [(.seq uU 6)]))]
def g92bp:List BP:=[]
def g92K{α:Type}(G:S_g92 α)(ls:List Lf)(k:KRe α):Option α:=
 G ((lf ls 0).lst uU)
  (fun a=>k (.vl (.agg [(.seq uU 6 a)])) [] [])
def g92R{α:Type}(G:S_g92 α):=rowK g92tp g92bp (g92K G)
def g92hd(G72:Al S_g72)(G43:Al S_g43)(G44:Al S_g44)(G45:Al S_g45)(G85:Al S_g85)(G46:Al S_g46)(L92l0:Al S_g92l0):Hd where
 call:=fun f args Bs k=>cond (Nat.beq f 72) (g72R G72 args Bs k) (cond (Nat.beq f 43) (g43R G43 args Bs k) (cond (Nat.beq f 44) (g44R G44 args Bs k) (cond (Nat.beq f 45) (g45R G45 args Bs k) (cond (Nat.beq f 85) (g85R G85 args Bs k) (cond (Nat.beq f 46) (g46R G46 args Bs k) (none))))))
 loop:=fun id st k=>cond (Nat.beq id 0) (loopH g92l0D (g92l0K L92l0) st k) (none)
 ro:=fun f=>[]
def g92h(m:Nat):Hd:=g92hd (g72 m) (g43 m) (g44 m) (g45 m) (g85 m) (g46 m) (g92l0M m)
theorem g92l0Step(G72:Al S_g72)(G43:Al S_g43)(G44:Al S_g44)(G45:Al S_g45)(G85:Al S_g85)(G46:Al S_g46)(L92l0:Al S_g92l0){α:Type}(L:S_g92l0 α)(ls:List Lf)(k:KEx α):
  g92l0K (fun a b c d e=>g92l0b G43 G44 G45 G85 G46 a b c (L a b c) d e) ls k=ev tab (g92hd G72 G43 G44 G45 G85 G46 L92l0) (bodyAt Tryz.f92 0) (atHead g92l0D ls) (loopK g92l0D 0 (loopH g92l0D (g92l0K L)) k):=by kernel_rfl
theorem g92Main(G72:Al S_g72)(G43:Al S_g43)(G44:Al S_g44)(G45:Al S_g45)(G85:Al S_g85)(G46:Al S_g46)(L92l0:Al S_g92l0){α:Type}(ls:List Lf)(k:KRe α):
  g92K (g92b G72 G43 G44 G45 G85 G46 L92l0) ls k=evFun tab (g92hd G72 G43 G44 G45 G85 G46 L92l0) Tryz.f92 (fT g92tp ls) (fB g92tp g92bp ls) k:=by kernel_rfl
theorem g92Calls(m:Nat):(g92h m).CallsOk Tryz.prog:=(cok_cons (g72Ok m) (cok_cons (g43Ok m) (cok_cons (g44Ok m) (cok_cons (g45Ok m) (cok_cons (g85Ok m) (cok_cons (g46Ok m) cok_nil))))))
theorem g92l0Ok(m:Nat)(α:Type)(st:St)(k:KEx α)(r:α)(h:(g92h m).loop 0 st k=some r):
  LoopS Tryz.prog 0 (bodyAt Tryz.f92 0) st k r:=
 lpk (F:=fun n ls k=>g92l0K (fun a b c d e=>g92l0 (g43 m) (g44 m) (g45 m) (g85 m) (g46 m) a b c n d e) ls k) (g92Calls m) (lb0 (by kernel_rfl))
  (fun _ _=>rfl) (fun n ls k=>g92l0Step (g72 m) (g43 m) (g44 m) (g45 m) (g85 m) (g46 m) (g92l0M m) (fun a b c=>g92l0 (g43 m) (g44 m) (g45 m) (g85 m) (g46 m) a b c n) ls k) (n:=m) h
theorem g92Ok(m:Nat):RowOk Tryz.prog 92 (fun{α}=>g92R (g92 m (α:=α))):=
 rwk (g92Calls m) (lo1 (by kernel_rfl) (g92l0Ok m))
  (fun _=>g92Main (g72 m) (g43 m) (g44 m) (g45 m) (g85 m) (g46 m) (g92l0M m))
abbrev S_g115(α:Type):Type:=Int→Int→Bool→Nat→Nat→Nat→Int→Nat→Ty0→Ty4→Ty0→(Bool→(List Int)→Bool→Option α)→Option α
abbrev S_g115l0(α:Type):Type:=Int→Nat→Nat→Nat→Int→Nat→Ty0→Ty4→Ty0→Bool→(List Int)→(Bool→Bool→(List Int)→Option α)→Int→Bool→(List Int)→Bool→(List Int)→Option α
def g115l0b{α:Type}(G116:Al S_g116)(G73:Al S_g73)(G53v1:Al S_g53v1)(a:Int)(b c d:Nat)(e:Int)(h:Nat)(i:Ty0)(j:Ty4)(l:Ty0)(n:Bool)(o:List Int)(p:Bool→Bool→(List Int)→Option α)(q:Int→Bool→(List Int)→Bool→(List Int)→Option α)(r:Int)(s:Bool)(t:List Int)(u:Bool)(v:List Int):Option α:=cond (!(eqLI t [0,0,0,0,0,0])) (G116 t (IntKind.wrap .u32 ((IntKind.wrap .u32 ((2:Int)*r))+(1:Int))) (fun w x=>G73 ((Int.tmod r (2:Int))==(1:Int)) w (fun y=>G53v1 u v y w s b c d e h i j l (fun z a0 b0=>G116 t (IntKind.wrap .u32 (a*a)) (fun c0 d0=>q (IntKind.wrap .u32 (r+(1:Int))) b0 c0 z a0))))) (p s u v)
def g115l0{α:Type}(G116:Al S_g116)(G73:Al S_g73)(G53v1:Al S_g53v1)(a:Int)(b c d:Nat)(e:Int)(h:Nat)(i:Ty0)(j:Ty4)(l:Ty0)(n:Bool)(o:List Int)(p:Bool→Bool→(List Int)→Option α):Nat→Int→Bool→(List Int)→Bool→(List Int)→Option α
 |0=>fun _ _ _ _ _=>none
 |m+1=>fun q r s t u=>g115l0b G116 G73 G53v1 a b c d e h i j l n o p (g115l0 G116 G73 G53v1 a b c d e h i j l n o p m) q r s t u
def g115l0M{α:Type}(m:Nat):S_g115l0 α:=
 fun a b c d e h i j l n o p q r s t u=>g115l0 (g116 m) (g73 m) (g53v1 m) a b c d e h i j l n o p m q r s t u
def g115l0D:LoopD:={n:=55,low:=[0,1,2,3],sl:=[0,1,6,7,9,10],bl:=[0,1,2,3,1000004,1000005,1000006],tp:=[(.vl (.sv (.ptr 0 0))),(.vl (.sv (.int .u32))),(.vl (.sv (.ptr 1000004 0))),(.vl (.sv (.ptr 1000005 0))),(.vl (.sv (.ptr 1000006 0))),(.vl (.sv (.int .u32)))],bp:=[bA,(false,[(.seqv rN)]),(false,[(.mp rP mW)]),(false,[(.gro rP)]),(true,[(.one .bool),(.seq uU 6)]),b6,(true,[(.one .bool),(.seq uU 6)])],xs:=[(2,[6,9])]}
def g115l0K{α:Type}(L:S_g115l0 α)(ls:List Lf)(k:KEx α):Option α:=
 L (lf ls 0).int (lf ls 3).nat (lf ls 4).nat (lf ls 5).nat (lf ls 6).int (lf ls 7).nat ((lf ls 8).lst rN) ((lf ls 9).map rP mW) ((lf ls 10).lst rP) (lf ls 11).bool ((lf ls 12).lst uU)
  (fun c d e=>k .normal (mkSt 55 [6,9] [(.vl (.sv (.ptr 1000004 0))),(.vl (.sv (.ptr 1000005 0)))] [0,1,2,3,1000004,1000005] [(true,[(.one (.bool c)),(.one (.slc 1 0 5 (lf ls 3).nat (lf ls 4).nat (lf ls 5).nat)),(.one (.mpp 2)),(.one (.gsl 3 2)),(.one (.int .i64 (lf ls 6).int))]),(false,[(.seq rN (lf ls 7).nat ((lf ls 8).lst rN))]),(false,[(.mp rP mW ((lf ls 9).map rP mW))]),(false,[(.gro rP ((lf ls 10).lst rP))]),(true,[(.one (.bool (lf ls 11).bool)),(.seq uU 6 ((lf ls 12).lst uU))]),(true,[(.one (.bool d)),(.seq uU 6 e)])]))
  (lf ls 1).int (lf ls 2).bool ((lf ls 13).lst uU) (lf ls 14).bool ((lf ls 15).lst uU)
def g115b{α:Type}(G43:Al S_g43)(G44:Al S_g44)(G116:Al S_g116)(G73:Al S_g73)(G53v1:Al S_g53v1)(L115l0:Al S_g115l0)(a b:Int)(c:Bool)(d e h:Nat)(i:Int)(j:Nat)(l:Ty0)(n:Ty4)(o:Ty0)(p:Bool→(List Int)→Bool→Option α):Option α:=G43 (fun q=>G44 q (IntKind.wrap .i64 (b+(16:Int))) (fun r=>G116 r a (fun s t=>L115l0 a d e h i j l n o false [0,0,0,0,0,0] (fun u v w=>p v w u) (0:Int) c s false [0,0,0,0,0,0])))
def g115{α:Type}(m:Nat):S_g115 α:=
 g115b (g43 m) (g44 m) (g116 m) (g73 m) (g53v1 m) (g115l0M m)
def g115tp:List TP:=[(.vl (.sv (.ptr 0 0))),(.vl (.sv (.int .u32))),tI]
def g115bp:List BP:=[bA,(false,[(.seqv rN)]),(false,[(.mp rP mW)]),(false,[(.gro rP)])]
def g115K{α:Type}(G:S_g115 α)(ls:List Lf)(k:KRe α):Option α:=
 G (lf ls 0).int (lf ls 1).int (lf ls 2).bool (lf ls 3).nat (lf ls 4).nat (lf ls 5).nat (lf ls 6).int (lf ls 7).nat ((lf ls 8).lst rN) ((lf ls 9).map rP mW) ((lf ls 10).lst rP)
  (fun c d e=>k (.vl (.agg [(.one (.bool c)),(.seq uU 6 d)])) [[(.one (.bool e)),(.one (.slc 1 0 5 (lf ls 3).nat (lf ls 4).nat (lf ls 5).nat)),(.one (.mpp 2)),(.one (.gsl 3 2)),(.one (.int .i64 (lf ls 6).int))],[(.seq rN (lf ls 7).nat ((lf ls 8).lst rN))],[(.mp rP mW ((lf ls 9).map rP mW))],[(.gro rP ((lf ls 10).lst rP))]] [])
def g115R{α:Type}(G:S_g115 α):=rowK g115tp g115bp (g115K G)
def g115hd(G43:Al S_g43)(G44:Al S_g44)(G116:Al S_g116)(G73:Al S_g73)(G53v1:Al S_g53v1)(L115l0:Al S_g115l0):Hd where
 call:=fun f args Bs k=>cond (Nat.beq f 43) (g43R G43 args Bs k) (cond (Nat.beq f 44) (g44R G44 args Bs k) (cond (Nat.beq f 116) (g116R G116 args Bs k) (cond (Nat.beq f 73) (g73R G73 args Bs k) (cond (Nat.beq f 53) (g53v1R G53v1 args Bs k) (none)))))
 loop:=fun id st k=>cond (Nat.beq id 0) (loopH g115l0D (g115l0K L115l0) st k) (none)
 ro:=fun f=>cond (Nat.beq f 53) [1,2,3] ([])
def g115h(m:Nat):Hd:=g115hd (g43 m) (g44 m) (g116 m) (g73 m) (g53v1 m) (g115l0M m)
theorem g115l0Step(G43:Al S_g43)(G44:Al S_g44)(G116:Al S_g116)(G73:Al S_g73)(G53v1:Al S_g53v1)(L115l0:Al S_g115l0){α:Type}(L:S_g115l0 α)(ls:List Lf)(k:KEx α):
  g115l0K (fun a b c d e h i j l n o p q r s t u=>g115l0b G116 G73 G53v1 a b c d e h i j l n o p (L a b c d e h i j l n o p) q r s t u) ls k=ev tab (g115hd G43 G44 G116 G73 G53v1 L115l0) (bodyAt Tryz.f115 0) (atHead g115l0D ls) (loopK g115l0D 0 (loopH g115l0D (g115l0K L)) k):=by kernel_rfl
theorem g115Main(G43:Al S_g43)(G44:Al S_g44)(G116:Al S_g116)(G73:Al S_g73)(G53v1:Al S_g53v1)(L115l0:Al S_g115l0){α:Type}(ls:List Lf)(k:KRe α):
  g115K (g115b G43 G44 G116 G73 G53v1 L115l0) ls k=evFun tab (g115hd G43 G44 G116 G73 G53v1 L115l0) Tryz.f115 (fT g115tp ls) (fB g115tp g115bp ls) k:=by kernel_rfl
theorem g115Calls(m:Nat):(g115h m).CallsOk Tryz.prog:=(cok_cons (g43Ok m) (cok_cons (g44Ok m) (cok_cons (g116Ok m) (cok_cons (g73Ok m) (cok_cons (g53v1Ok m) cok_nil)))))
theorem g115l0Ok(m:Nat)(α:Type)(st:St)(k:KEx α)(r:α)(h:(g115h m).loop 0 st k=some r):
  LoopS Tryz.prog 0 (bodyAt Tryz.f115 0) st k r:=
 lpk (F:=fun n ls k=>g115l0K (fun a b c d e i j l o q s t u v w x y=>g115l0 (g116 m) (g73 m) (g53v1 m) a b c d e i j l o q s t n u v w x y) ls k) (g115Calls m) (lb0 (by kernel_rfl))
  (fun _ _=>rfl) (fun n ls k=>g115l0Step (g43 m) (g44 m) (g116 m) (g73 m) (g53v1 m) (g115l0M m) (fun a b c d e i j l o q s t=>g115l0 (g116 m) (g73 m) (g53v1 m) a b c d e i j l o q s t n) ls k) (n:=m) h
theorem g115Ok(m:Nat):RowOk Tryz.prog 115 (fun{α}=>g115R (g115 m (α:=α))):=
 rwk (g115Calls m) (lo1 (by kernel_rfl) (g115l0Ok m))
  (fun _=>g115Main (g43 m) (g44 m) (g116 m) (g73 m) (g53v1 m) (g115l0M m))
abbrev S_g93(α:Type):Type:=Int→Bool→Nat→Nat→Nat→Int→Nat→Ty0→Ty4→Ty0→(Bool→(List Int)→Bool→Option α)→Option α
def g93b{α:Type}(G55:Al S_g55)(G115:Al S_g115)(G54v1:Al S_g54v1)(G41v1:Al S_g41v1)(G74v1:Al S_g74v1)(a:Int)(b:Bool)(c d e:Nat)(h:Int)(i:Nat)(j:Ty0)(l:Ty4)(n:Ty0)(o:Bool→(List Int)→Bool→Option α):Option α:=G55 (16:Int) (fun p q=>G115 (5:Int) a b c d e h i j l n (fun r s t=>G54v1 p q r s t c d e h i j l n (fun u v w=>G55 (4:Int) (fun x y=>G115 (239:Int) a w c d e h i j l n (fun z a0 b0=>G54v1 x y z a0 b0 c d e h i j l n (fun c0 d0 e0=>G41v1 u v c0 d0 e0 c d e h i j l n (fun h0 i0 j0=>G74v1 h0 i0 (16:Int) j0 c d e h i j l n (fun l0 n0 o0=>o l0 n0 o0))))))))
def g93{α:Type}(m:Nat):S_g93 α:=
 g93b (g55 m) (g115 m) (g54v1 m) (g41v1 m) (g74v1 m)
def g93tp:List TP:=[(.vl (.sv (.ptr 0 0))),tI]
def g93bp:List BP:=[bA,(false,[(.seqv rN)]),(false,[(.mp rP mW)]),(false,[(.gro rP)])]
def g93K{α:Type}(G:S_g93 α)(ls:List Lf)(k:KRe α):Option α:=
 G (lf ls 0).int (lf ls 1).bool (lf ls 2).nat (lf ls 3).nat (lf ls 4).nat (lf ls 5).int (lf ls 6).nat ((lf ls 7).lst rN) ((lf ls 8).map rP mW) ((lf ls 9).lst rP)
  (fun c d e=>k (.vl (.agg [(.one (.bool c)),(.seq uU 6 d)])) [[(.one (.bool e)),(.one (.slc 1 0 5 (lf ls 2).nat (lf ls 3).nat (lf ls 4).nat)),(.one (.mpp 2)),(.one (.gsl 3 2)),(.one (.int .i64 (lf ls 5).int))],[(.seq rN (lf ls 6).nat ((lf ls 7).lst rN))],[(.mp rP mW ((lf ls 8).map rP mW))],[(.gro rP ((lf ls 9).lst rP))]] [])
def g93R{α:Type}(G:S_g93 α):=rowK g93tp g93bp (g93K G)
def g93hd(G55:Al S_g55)(G115:Al S_g115)(G54v1:Al S_g54v1)(G41v1:Al S_g41v1)(G74v1:Al S_g74v1):Hd where
 call:=fun f args Bs k=>cond (Nat.beq f 55) (g55R G55 args Bs k) (cond (Nat.beq f 115) (g115R G115 args Bs k) (cond (Nat.beq f 54) (g54v1R G54v1 args Bs k) (cond (Nat.beq f 41) (g41v1R G41v1 args Bs k) (cond (Nat.beq f 74) (g74v1R G74v1 args Bs k) (none)))))
 loop:=fun id st k=>none
 ro:=fun f=>cond (Nat.beq f 41) [1,2,3] (cond (Nat.beq f 54) [1,2,3] (cond (Nat.beq f 74) [1,2,3] (cond (Nat.beq f 115) [1,2,3] ([]))))
def g93h(m:Nat):Hd:=g93hd (g55 m) (g115 m) (g54v1 m) (g41v1 m) (g74v1 m)
theorem g93Main(G55:Al S_g55)(G115:Al S_g115)(G54v1:Al S_g54v1)(G41v1:Al S_g41v1)(G74v1:Al S_g74v1){α:Type}(ls:List Lf)(k:KRe α):
  g93K (g93b G55 G115 G54v1 G41v1 G74v1) ls k=evFun tab (g93hd G55 G115 G54v1 G41v1 G74v1) Tryz.f93 (fT g93tp ls) (fB g93tp g93bp ls) k:=by kernel_rfl
theorem g93Calls(m:Nat):(g93h m).CallsOk Tryz.prog:=(cok_cons (g55Ok m) (cok_cons (g115Ok m) (cok_cons (g54v1Ok m) (cok_cons (g41v1Ok m) (cok_cons (g74v1Ok m) cok_nil)))))
theorem g93Ok(m:Nat):RowOk Tryz.prog 93 (fun{α}=>g93R (g93 m (α:=α))):=
 rwk (g93Calls m) (lo0 (by kernel_rfl))
  (fun _=>g93Main (g55 m) (g115 m) (g54v1 m) (g41v1 m) (g74v1 m))
abbrev S_g94(α:Type):Type:=Int→Bool→Nat→Nat→Nat→Int→Nat→Ty0→Ty4→Ty0→(Bool→(List Int)→Bool→Option α)→Option α
abbrev S_g94l0(α:Type):Type:=Nat→Nat→Nat→Int→Nat→Ty0→Ty4→Ty0→Bool→(List Int)→(Bool→Bool→(List Int)→Option α)→Int→Bool→(List Int)→Bool→(List Int)→Option α
def g94l0b{α:Type}(G73:Al S_g73)(G53v1:Al S_g53v1)(G116:Al S_g116)(a b c:Nat)(d:Int)(e:Nat)(h:Ty0)(i:Ty4)(j:Ty0)(l:Bool)(n:List Int)(o:Bool→Bool→(List Int)→Option α)(p:Int→Bool→(List Int)→Bool→(List Int)→Option α)(q:Int)(r:Bool)(s:List Int)(t:Bool)(u:List Int):Option α:=cond (!(eqLI s [0,0,0,0,0,0])) (G73 false s (fun v=>G53v1 t u v s r a b c d e h i j (fun w x y=>G116 s q (fun z a0=>p (IntKind.wrap .u32 (q+(1:Int))) y z w x)))) (o r t u)
def g94l0{α:Type}(G73:Al S_g73)(G53v1:Al S_g53v1)(G116:Al S_g116)(a b c:Nat)(d:Int)(e:Nat)(h:Ty0)(i:Ty4)(j:Ty0)(l:Bool)(n:List Int)(o:Bool→Bool→(List Int)→Option α):Nat→Int→Bool→(List Int)→Bool→(List Int)→Option α
 |0=>fun _ _ _ _ _=>none
 |m+1=>fun p q r s t=>g94l0b G73 G53v1 G116 a b c d e h i j l n o (g94l0 G73 G53v1 G116 a b c d e h i j l n o m) p q r s t
def g94l0M{α:Type}(m:Nat):S_g94l0 α:=
 fun a b c d e h i j l n o p q r s t=>g94l0 (g73 m) (g53v1 m) (g116 m) a b c d e h i j l n o m p q r s t
def g94l0D:LoopD:={n:=36,low:=[0,1,2,3],sl:=[0,4,5,6,7],bl:=[0,1,2,3,1000004,1000005,1000006],tp:=[(.vl (.sv (.ptr 0 0))),(.vl (.sv (.ptr 1000004 0))),(.vl (.sv (.ptr 1000005 0))),(.vl (.sv (.ptr 1000006 0))),(.vl (.sv (.int .u32)))],bp:=[bA,(false,[(.seqv rN)]),(false,[(.mp rP mW)]),(false,[(.gro rP)]),(true,[(.one .bool),(.seq uU 6)]),b6,(true,[(.one .bool),(.seq uU 6)])],xs:=[(2,[0,4,6])]}
def g94l0K{α:Type}(L:S_g94l0 α)(ls:List Lf)(k:KEx α):Option α:=
 L (lf ls 2).nat (lf ls 3).nat (lf ls 4).nat (lf ls 5).int (lf ls 6).nat ((lf ls 7).lst rN) ((lf ls 8).map rP mW) ((lf ls 9).lst rP) (lf ls 10).bool ((lf ls 11).lst uU)
  (fun c d e=>k .normal (mkSt 36 [0,4,6] [(.vl (.sv (.ptr 0 0))),(.vl (.sv (.ptr 1000004 0))),(.vl (.sv (.ptr 1000005 0)))] [0,1,2,3,1000004,1000005] [(true,[(.one (.bool c)),(.one (.slc 1 0 5 (lf ls 2).nat (lf ls 3).nat (lf ls 4).nat)),(.one (.mpp 2)),(.one (.gsl 3 2)),(.one (.int .i64 (lf ls 5).int))]),(false,[(.seq rN (lf ls 6).nat ((lf ls 7).lst rN))]),(false,[(.mp rP mW ((lf ls 8).map rP mW))]),(false,[(.gro rP ((lf ls 9).lst rP))]),(true,[(.one (.bool (lf ls 10).bool)),(.seq uU 6 ((lf ls 11).lst uU))]),(true,[(.one (.bool d)),(.seq uU 6 e)])]))
  (lf ls 0).int (lf ls 1).bool ((lf ls 12).lst uU) (lf ls 13).bool ((lf ls 14).lst uU)
def g94b{α:Type}(G43:Al S_g43)(G44:Al S_g44)(G73:Al S_g73)(G53v1:Al S_g53v1)(G116:Al S_g116)(G74v1:Al S_g74v1)(L94l0:Al S_g94l0)(a:Int)(b:Bool)(c d e:Nat)(h:Int)(i:Nat)(j:Ty0)(l:Ty4)(n:Ty0)(o:Bool→(List Int)→Bool→Option α):Option α:=G43 (fun p=>G44 p (IntKind.wrap .i64 (a+(16:Int))) (fun q=>L94l0 c d e h i j l n false [0,0,0,0,0,0] (fun r s t=>G74v1 s t (16:Int) r c d e h i j l n (fun u v w=>o u v w)) (1:Int) b q false [0,0,0,0,0,0]))
def g94{α:Type}(m:Nat):S_g94 α:=
 g94b (g43 m) (g44 m) (g73 m) (g53v1 m) (g116 m) (g74v1 m) (g94l0M m)
def g94tp:List TP:=[(.vl (.sv (.ptr 0 0))),tI]
def g94bp:List BP:=[bA,(false,[(.seqv rN)]),(false,[(.mp rP mW)]),(false,[(.gro rP)])]
def g94K{α:Type}(G:S_g94 α)(ls:List Lf)(k:KRe α):Option α:=
 G (lf ls 0).int (lf ls 1).bool (lf ls 2).nat (lf ls 3).nat (lf ls 4).nat (lf ls 5).int (lf ls 6).nat ((lf ls 7).lst rN) ((lf ls 8).map rP mW) ((lf ls 9).lst rP)
  (fun c d e=>k (.vl (.agg [(.one (.bool c)),(.seq uU 6 d)])) [[(.one (.bool e)),(.one (.slc 1 0 5 (lf ls 2).nat (lf ls 3).nat (lf ls 4).nat)),(.one (.mpp 2)),(.one (.gsl 3 2)),(.one (.int .i64 (lf ls 5).int))],[(.seq rN (lf ls 6).nat ((lf ls 7).lst rN))],[(.mp rP mW ((lf ls 8).map rP mW))],[(.gro rP ((lf ls 9).lst rP))]] [])
def g94R{α:Type}(G:S_g94 α):=rowK g94tp g94bp (g94K G)
def g94hd(G43:Al S_g43)(G44:Al S_g44)(G73:Al S_g73)(G53v1:Al S_g53v1)(G116:Al S_g116)(G74v1:Al S_g74v1)(L94l0:Al S_g94l0):Hd where
 call:=fun f args Bs k=>cond (Nat.beq f 43) (g43R G43 args Bs k) (cond (Nat.beq f 44) (g44R G44 args Bs k) (cond (Nat.beq f 73) (g73R G73 args Bs k) (cond (Nat.beq f 53) (g53v1R G53v1 args Bs k) (cond (Nat.beq f 116) (g116R G116 args Bs k) (cond (Nat.beq f 74) (g74v1R G74v1 args Bs k) (none))))))
 loop:=fun id st k=>cond (Nat.beq id 0) (loopH g94l0D (g94l0K L94l0) st k) (none)
 ro:=fun f=>cond (Nat.beq f 53) [1,2,3] (cond (Nat.beq f 74) [1,2,3] ([]))
def g94h(m:Nat):Hd:=g94hd (g43 m) (g44 m) (g73 m) (g53v1 m) (g116 m) (g74v1 m) (g94l0M m)
theorem g94l0Step(G43:Al S_g43)(G44:Al S_g44)(G73:Al S_g73)(G53v1:Al S_g53v1)(G116:Al S_g116)(G74v1:Al S_g74v1)(L94l0:Al S_g94l0){α:Type}(L:S_g94l0 α)(ls:List Lf)(k:KEx α):
  g94l0K (fun a b c d e h i j l n o p q r s t=>g94l0b G73 G53v1 G116 a b c d e h i j l n o (L a b c d e h i j l n o) p q r s t) ls k=ev tab (g94hd G43 G44 G73 G53v1 G116 G74v1 L94l0) (bodyAt Tryz.f94 0) (atHead g94l0D ls) (loopK g94l0D 0 (loopH g94l0D (g94l0K L)) k):=by kernel_rfl
theorem g94Main(G43:Al S_g43)(G44:Al S_g44)(G73:Al S_g73)(G53v1:Al S_g53v1)(G116:Al S_g116)(G74v1:Al S_g74v1)(L94l0:Al S_g94l0){α:Type}(ls:List Lf)(k:KRe α):
  g94K (g94b G43 G44 G73 G53v1 G116 G74v1 L94l0) ls k=evFun tab (g94hd G43 G44 G73 G53v1 G116 G74v1 L94l0) Tryz.f94 (fT g94tp ls) (fB g94tp g94bp ls) k:=by kernel_rfl
theorem g94Calls(m:Nat):(g94h m).CallsOk Tryz.prog:=(cok_cons (g43Ok m) (cok_cons (g44Ok m) (cok_cons (g73Ok m) (cok_cons (g53v1Ok m) (cok_cons (g116Ok m) (cok_cons (g74v1Ok m) cok_nil))))))
theorem g94l0Ok(m:Nat)(α:Type)(st:St)(k:KEx α)(r:α)(h:(g94h m).loop 0 st k=some r):
  LoopS Tryz.prog 0 (bodyAt Tryz.f94 0) st k r:=
 lpk (F:=fun n ls k=>g94l0K (fun a b c d e i j l o q s t u v w x=>g94l0 (g73 m) (g53v1 m) (g116 m) a b c d e i j l o q s n t u v w x) ls k) (g94Calls m) (lb0 (by kernel_rfl))
  (fun _ _=>rfl) (fun n ls k=>g94l0Step (g43 m) (g44 m) (g73 m) (g53v1 m) (g116 m) (g74v1 m) (g94l0M m) (fun a b c d e i j l o q s=>g94l0 (g73 m) (g53v1 m) (g116 m) a b c d e i j l o q s n) ls k) (n:=m) h
theorem g94Ok(m:Nat):RowOk Tryz.prog 94 (fun{α}=>g94R (g94 m (α:=α))):=
 rwk (g94Calls m) (lo1 (by kernel_rfl) (g94l0Ok m))
  (fun _=>g94Main (g43 m) (g44 m) (g73 m) (g53v1 m) (g116 m) (g74v1 m) (g94l0M m))
abbrev S_g66(α:Type):Type:=Int→Int→Int→Int→Int→Int→Bool→Nat→Nat→Nat→Int→Nat→Ty0→Ty4→Ty0→(Bool→(List Int)→Bool→Nat→Nat→Nat→Int→Ty4→Ty0→Option α)→Option α
def g66b{α:Type}(G55:Al S_g55)(G42v1:Al S_g42v1)(G87v1:Al S_g87v1)(G88:Al S_g88)(G53v1:Al S_g53v1)(G74v1:Al S_g74v1)(G41v1:Al S_g41v1)(G32:Al S_g32)(G71:Al S_g71)(G73:Al S_g73)(G89:Al S_g89)(G90:Al S_g90)(G91:Al S_g91)(G92:Al S_g92)(G93:Al S_g93)(G94:Al S_g94)(a b:Int)(c d:Int)(e h:Int)(i:Bool)(j l n:Nat)(o:Int)(p:Nat)(q:Ty0)(r:Ty4)(s:Ty0)(t:Bool→(List Int)→Bool→Nat→Nat→Nat→Int→Ty4→Ty0→Option α):Option α:=cond (a==(1:Int)) (G55 d (fun u v=>G42v1 u v h i j l n o p q r s (fun w x y=>G55 e (fun z a0=>G87v1 w x z a0 y j l n o p q r s (fun b0 c0 d0=>t b0 c0 d0 j l n o r s))))) (cond (a==(2:Int)) (G88 a b c d e (IntKind.wrap .i64 (h+(2:Int))) i j l n o p q r s (fun e0 h0 i0 j0 l0 n0 o0 p0 q0 r0 s0=>G53v1 e0 h0 i0 j0 l0 n0 o0 p0 q0 p q r0 s0 (fun t0 u0 v0=>G74v1 t0 u0 (2:Int) v0 n0 o0 p0 q0 p q r0 s0 (fun w0 x0 y0=>t w0 x0 y0 n0 o0 p0 q0 r0 s0)))) (cond (a==(3:Int)) (G88 a b c d e (IntKind.wrap .i64 (h+(2:Int))) i j l n o p q r s (fun z0 a1 b1 c1 d1 e1 h1 i1 j1 l1 n1=>G41v1 z0 a1 b1 c1 d1 e1 h1 i1 j1 p q l1 n1 (fun o1 p1 q1=>G74v1 o1 p1 (2:Int) q1 e1 h1 i1 j1 p q l1 n1 (fun r1 s1 t1=>t r1 s1 t1 e1 h1 i1 j1 l1 n1)))) (cond (a==(6:Int)) (G32 b h i j l n o p q r s (fun u1 v1 w1 x1 y1 z1 a2 b2 c2 d2 e2=>G71 u1 v1 (fun h2=>t h2 v1 w1 x1 y1 z1 a2 d2 e2))) (cond (a==(7:Int)) (G32 b h i j l n o p q r s (fun i2 j2 l2 n2 o2 p2 q2 r2 s2 t2 u2=>G73 false j2 (fun v2=>t v2 j2 l2 n2 o2 p2 q2 t2 u2))) (cond (a==(8:Int)) (G88 a b c d e h i j l n o p q r s (fun w2 x2 y2 z2 a3 b3 c3 d3 e3 h3 i3=>G89 w2 x2 y2 z2 (fun j3=>cond ((decide (j3≤(0:Int)))==(a==(8:Int))) (t w2 x2 a3 b3 c3 d3 e3 h3 i3) (t y2 z2 a3 b3 c3 d3 e3 h3 i3)))) (cond (a==(9:Int)) (G88 a b c d e h i j l n o p q r s (fun l3 n3 o3 p3 q3 r3 s3 t3 u3 v3 w3=>G89 l3 n3 o3 p3 (fun x3=>cond ((decide (x3≤(0:Int)))==(a==(8:Int))) (t l3 n3 q3 r3 s3 t3 u3 v3 w3) (t o3 p3 q3 r3 s3 t3 u3 v3 w3)))) (cond (a==(4:Int)) (G90 a b c d e h i j l n o p q r s (fun y3 z3 a4 b4 c4 d4 e4 h4 i4=>t y3 z3 a4 b4 c4 d4 e4 h4 i4)) (cond (a==(5:Int)) (G91 a b c d e h i j l n o p q r s (fun j4 l4 n4 o4 p4 q4 r4 s4 t4=>t j4 l4 n4 o4 p4 q4 r4 s4 t4)) (cond (a==(10:Int)) (G32 b (IntKind.wrap .i64 ((IntKind.wrap .i64 ((2:Int)*h))+(6:Int))) i j l n o p q r s (fun u4 v4 w4 x4 y4 z4 a5 b5 c5 d5 e5=>cond u4 (t false [0,0,0,0,0,0] w4 x4 y4 z4 a5 d5 e5) (G92 v4 (fun h5=>G73 false h5 (fun i5=>G74v1 i5 h5 (3:Int) w4 x4 y4 z4 a5 p q d5 e5 (fun j5 l5 n5=>t j5 l5 n5 x4 y4 z4 a5 d5 e5)))))) (cond (a==(11:Int)) (G93 h i j l n o p q r s (fun o5 p5 q5=>t o5 p5 q5 j l n o r s)) (G94 h i j l n o p q r s (fun r5 s5 t5=>t r5 s5 t5 j l n o r s))))))))))))
def g66(A32:Al S_g32){α:Type}(m:Nat):S_g66 α:=
 g66b (g55 m) (g42v1 m) (g87v1 m) (g88 A32 m) (g53v1 m) (g74v1 m) (g41v1 m) A32 (g71 m) (g73 m) (g89 m) (g90 A32 m) (g91 A32 m) (g92 m) (g93 m) (g94 m)
def g66tp:List TP:=[(.vl (.sv (.ptr 0 0))),(.vl (.agg [(.one (.int .i8)),(.one (.int .i16)),(.one (.int .i16)),(.one (.int .i64)),(.one (.int .i64))])),tI]
def g66bp:List BP:=[bA,(false,[(.seqv rN)]),(true,[(.mp rP mW)]),(true,[(.gro rP)])]
def g66K{α:Type}(G:S_g66 α)(ls:List Lf)(k:KRe α):Option α:=
 G (lf ls 0).int (lf ls 1).int (lf ls 2).int (lf ls 3).int (lf ls 4).int (lf ls 5).int (lf ls 6).bool (lf ls 7).nat (lf ls 8).nat (lf ls 9).nat (lf ls 10).int (lf ls 11).nat ((lf ls 12).lst rN) ((lf ls 13).map rP mW) ((lf ls 14).lst rP)
  (fun c d e h i j l n o=>k (.vl (.agg [(.one (.bool c)),(.seq uU 6 d)])) [[(.one (.bool e)),(.one (.slc 1 0 5 h i j)),(.one (.mpp 2)),(.one (.gsl 4 2)),(.one (.int .i64 l))],[(.seq rN (lf ls 11).nat ((lf ls 12).lst rN))],[(.mp rP mW n)],[]] [[(.gro rP o)]])
def g66R{α:Type}(G:S_g66 α):=rowK g66tp g66bp (g66K G)
def g66hd(G55:Al S_g55)(G42v1:Al S_g42v1)(G87v1:Al S_g87v1)(G88:Al S_g88)(G53v1:Al S_g53v1)(G74v1:Al S_g74v1)(G41v1:Al S_g41v1)(G32:Al S_g32)(G71:Al S_g71)(G73:Al S_g73)(G89:Al S_g89)(G90:Al S_g90)(G91:Al S_g91)(G92:Al S_g92)(G93:Al S_g93)(G94:Al S_g94):Hd where
 call:=fun f args Bs k=>cond (Nat.beq f 55) (g55R G55 args Bs k) (cond (Nat.beq f 42) (g42v1R G42v1 args Bs k) (cond (Nat.beq f 87) (g87v1R G87v1 args Bs k) (cond (Nat.beq f 88) (g88R G88 args Bs k) (cond (Nat.beq f 53) (g53v1R G53v1 args Bs k) (cond (Nat.beq f 74) (g74v1R G74v1 args Bs k) (cond (Nat.beq f 41) (g41v1R G41v1 args Bs k) (cond (Nat.beq f 32) (g32R G32 args Bs k) (cond (Nat.beq f 71) (g71R G71 args Bs k) (cond (Nat.beq f 73) (g73R G73 args Bs k) (cond (Nat.beq f 89) (g89R G89 args Bs k) (cond (Nat.beq f 90) (g90R G90 args Bs k) (cond (Nat.beq f 91) (g91R G91 args Bs k) (cond (Nat.beq f 92) (g92R G92 args Bs k) (cond (Nat.beq f 93) (g93R G93 args Bs k) (cond (Nat.beq f 94) (g94R G94 args Bs k) (none))))))))))))))))
 loop:=fun id st k=>none
 ro:=fun f=>cond (Nat.beq f 32) [1] (cond (Nat.beq f 41) [1,2,3] (cond (Nat.beq f 42) [1,2,3] (cond (Nat.beq f 53) [1,2,3] (cond (Nat.beq f 74) [1,2,3] (cond (Nat.beq f 87) [1,2,3] (cond (Nat.beq f 88) [1] (cond (Nat.beq f 90) [1] (cond (Nat.beq f 91) [1] (cond (Nat.beq f 93) [1,2,3] (cond (Nat.beq f 94) [1,2,3] ([])))))))))))
def g66h(A32:Al S_g32)(m:Nat):Hd:=g66hd (g55 m) (g42v1 m) (g87v1 m) (g88 A32 m) (g53v1 m) (g74v1 m) (g41v1 m) A32 (g71 m) (g73 m) (g89 m) (g90 A32 m) (g91 A32 m) (g92 m) (g93 m) (g94 m)
theorem g66Main(G55:Al S_g55)(G42v1:Al S_g42v1)(G87v1:Al S_g87v1)(G88:Al S_g88)(G53v1:Al S_g53v1)(G74v1:Al S_g74v1)(G41v1:Al S_g41v1)(G32:Al S_g32)(G71:Al S_g71)(G73:Al S_g73)(G89:Al S_g89)(G90:Al S_g90)(G91:Al S_g91)(G92:Al S_g92)(G93:Al S_g93)(G94:Al S_g94){α:Type}(ls:List Lf)(k:KRe α):
  g66K (g66b G55 G42v1 G87v1 G88 G53v1 G74v1 G41v1 G32 G71 G73 G89 G90 G91 G92 G93 G94) ls k=evFunM tab (g66hd G55 G42v1 G87v1 G88 G53v1 G74v1 G41v1 G32 G71 G73 G89 G90 G91 G92 G93 G94) Tryz.f66 3 (fT g66tp ls) (fB g66tp g66bp ls) k:=by kernel_rfl
theorem g66Calls(A32:Al S_g32)(hA32:HA32 A32)(m:Nat):(g66h A32 m).CallsOk Tryz.prog:=(cok_cons (g55Ok m) (cok_cons (g42v1Ok m) (cok_cons (g87v1Ok m) (cok_cons (g88Ok A32 hA32 m) (cok_cons (g53v1Ok m) (cok_cons (g74v1Ok m) (cok_cons (g41v1Ok m) (cok_cons hA32 (cok_cons (g71Ok m) (cok_cons (g73Ok m) (cok_cons (g89Ok m) (cok_cons (g90Ok A32 hA32 m) (cok_cons (g91Ok A32 hA32 m) (cok_cons (g92Ok m) (cok_cons (g93Ok m) (cok_cons (g94Ok m) cok_nil))))))))))))))))
theorem g66Fn(A32:Al S_g32)(hA32:HA32 A32)(m:Nat):FnOk Tryz.prog 66 g66tp g66bp (fun{α}=>g66K (g66 A32 m (α:=α))):=
 fn_okM (tab:=tab) (h:=g66h A32 m) (fn:=Tryz.f66) (F:=fun{α}=>g66K (g66 A32 m (α:=α))) tabOk (g66Calls A32 hA32 m) mixed (by kernel_rfl) (by kernel_rfl) (fun c hc=>by
  rw[bodyOf_some hc]
  exact loopsOk_of _ (fun p hp=>by rw[show loopsOf (bodyOf Tryz.f66)=[] by kernel_rfl] at hp;cases hp))
  (fun _=>g66Main (g55 m) (g42v1 m) (g87v1 m) (g88 A32 m) (g53v1 m) (g74v1 m) (g41v1 m) A32 (g71 m) (g73 m) (g89 m) (g90 A32 m) (g91 A32 m) (g92 m) (g93 m) (g94 m))
theorem g66Ok(A32:Al S_g32)(hA32:HA32 A32)(m:Nat):RowOk Tryz.prog 66 (fun{α}=>g66R (g66 A32 m (α:=α))):=row_of (g66Fn A32 hA32 m)
def g32b{α:Type}(G33:Al S_g33)(G66:Al S_g66)(c d:Int)(e:Bool)(h i j:Nat)(l:Int)(n:Nat)(o:Ty0)(p:Ty4)(q:Ty0)(r:Bool→(List Int)→Bool→Nat→Nat→Nat→Int→Nat→Ty0→Ty4→Ty0→Option α):Option α:=G33 e h i j l n o p q (fun s t=>cond s (r false [0,0,0,0,0,0] e h i j t n o p q) (cond (decide (d>(160:Int))) (r false [0,0,0,0,0,0] e h i j (3:Int) n o p q) (let u:Int:=IntKind.wrap .i16 d;let v:Ty5:=mval [.i16, .i16] mW p [c,u];cond (mhas [.i16, .i16] p [c,u]) (r (v.1) (padI 6 v.2.1) e h i j t n o p q) (if q.length+1≤67108864 then if 0≤c∧c<(i:Nat) then if(h+c.toNat)<n then G66 ((List.getD o (h+c.toNat) []).headD 0) ((List.getD o (h+c.toNat) []).tail.headD 0) ((List.getD o (h+c.toNat) []).tail.tail.headD 0) ((List.getD o (h+c.toNat) []).tail.tail.tail.headD 0) ((List.getD o (h+c.toNat) []).tail.tail.tail.tail.headD 0) d e h i j t n o p (q++[[c,u]]) (fun w x y z a0 b0 c0 d0 e0=>G33 y z a0 b0 c0 n o d0 e0 (fun h0 i0=>cond h0 (r false [0,0,0,0,0,0] y z a0 b0 i0 n o d0 e0) (r w x y z a0 b0 i0 n o (mput [.i16, .i16] d0 [c,u] (w,x,())) e0))) else none else none else none))))
noncomputable def g32(m:Nat):Al S_g32:=
 Nat.rec (motive:=fun _=>Al S_g32) (fun{α}=>fun _ _ _ _ _ _ _ _ _ _ _ _=>none) (fun m ih {α}=>g32b (g33 m) (g66 ih m)) m
def g32hd(G33:Al S_g33)(G66:Al S_g66):Hd where
 call:=fun f args Bs k=>cond (Nat.beq f 33) (g33R G33 args Bs k) (cond (Nat.beq f 66) (g66R G66 args Bs k) (none))
 loop:=fun id st k=>none
 ro:=fun f=>cond (Nat.beq f 33) [1,2,3] (cond (Nat.beq f 66) [1] ([]))
def g32h(A32:Al S_g32)(m:Nat):Hd:=g32hd (g33 m) (g66 A32 m)
theorem g32Main(G33:Al S_g33)(G66:Al S_g66){α:Type}(ls:List Lf)(k:KRe α):
  g32K (g32b G33 G66) ls k=evFunM tab (g32hd G33 G66) Tryz.f32 3 (fT g32tp ls) (fB g32tp g32bp ls) k:=by kernel_rfl
theorem g32Calls(A32:Al S_g32)(hA32:HA32 A32)(m:Nat):(g32h A32 m).CallsOk Tryz.prog:=(cok_cons (g33Ok m) (cok_cons (g66Ok A32 hA32 m) cok_nil))
theorem g32FnS(m:Nat)(hA:RowOk Tryz.prog 32 (fun{α}=>g32R (g32 m (α:=α)))):FnOk Tryz.prog 32 g32tp g32bp (fun{α}=>g32K (g32 (m+1) (α:=α))):=
 fn_okM (tab:=tab) (h:=g32h (g32 m) m) (fn:=Tryz.f32) (F:=fun{α}=>g32K (g32 (m+1) (α:=α))) tabOk (g32Calls (g32 m) hA m) mixed (by kernel_rfl) (by kernel_rfl) (fun c hc=>by
  rw[bodyOf_some hc]
  exact loopsOk_of _ (fun p hp=>by rw[show loopsOf (bodyOf Tryz.f32)=[] by kernel_rfl] at hp;cases hp))
  (fun _=>g32Main (g33 m) (g66 (g32 m) m))
theorem g32Fn:∀m:Nat,FnOk Tryz.prog 32 g32tp g32bp (fun{α}=>g32K (g32 m (α:=α)))
 |0=>fun α ls k r h=>nomatch (show(none:Option α)=some r from h)
 |m+1=>g32FnS m (row_of (g32Fn m))
theorem g32Ok(m:Nat):RowOk Tryz.prog 32 (fun{α}=>g32R (g32 m (α:=α))):=row_of (g32Fn m)
abbrev S_g48(α:Type):Type:=Int→Int→Bool→Nat→Nat→Nat→Int→Nat→Ty0→Ty4→Ty0→(Bool→(List Int)→Bool→Nat→Nat→Nat→Int→Ty4→Ty0→Option α)→Option α
def g48b{α:Type}(G32:Al S_g32)(a b:Int)(c:Bool)(d e h:Nat)(i:Int)(j:Nat)(l:Ty0)(n:Ty4)(o:Ty0)(p:Bool→(List Int)→Bool→Nat→Nat→Nat→Int→Ty4→Ty0→Option α):Option α:=G32 (IntKind.wrap .i16 b) a c d e h i j l n o (fun q r s t u v w x y z a0=>p q r s t u v w z a0)
noncomputable def g48{α:Type}(m:Nat):S_g48 α:=
 g48b (g32 m)
def g48tp:List TP:=[tI,(.vl (.sv (.ptr 0 0))),(.vl (.sv (.ptr 1 0)))]
def g48bp:List BP:=[(false,[(.one (.ptr 2 0))]),(false,[(.one (.int .i64))]),(true,[(.one .bool),(.one (.slc 3 0 5)),(.one (.mpp 4)),(.one (.gsl 5 2)),(.one (.int .i64))]),(false,[(.seqv rN)]),(true,[(.mp rP mW)]),(true,[(.gro rP)])]
def g48K{α:Type}(G:S_g48 α)(ls:List Lf)(k:KRe α):Option α:=
 G (lf ls 0).int (lf ls 1).int (lf ls 2).bool (lf ls 3).nat (lf ls 4).nat (lf ls 5).nat (lf ls 6).int (lf ls 7).nat ((lf ls 8).lst rN) ((lf ls 9).map rP mW) ((lf ls 10).lst rP)
  (fun c d e h i j l n o=>k (.vl (.agg [(.one (.bool c)),(.seq uU 6 d)])) [[(.one (.ptr 2 0))],[(.one (.int .i64 (lf ls 1).int))],[(.one (.bool e)),(.one (.slc 3 0 5 h i j)),(.one (.mpp 4)),(.one (.gsl 6 2)),(.one (.int .i64 l))],[(.seq rN (lf ls 7).nat ((lf ls 8).lst rN))],[(.mp rP mW n)],[]] [[(.gro rP o)]])
def g48R{α:Type}(G:S_g48 α):=rowK g48tp g48bp (g48K G)
def g48hd(G32:Al S_g32):Hd where
 call:=fun f args Bs k=>cond (Nat.beq f 32) (g32R G32 args Bs k) (none)
 loop:=fun id st k=>none
 ro:=fun f=>cond (Nat.beq f 32) [1] ([])
noncomputable def g48h(m:Nat):Hd:=g48hd (g32 m)
theorem g48Main(G32:Al S_g32){α:Type}(ls:List Lf)(k:KRe α):
  g48K (g48b G32) ls k=evFun tab (g48hd G32) Tryz.f48 (fT g48tp ls) (fB g48tp g48bp ls) k:=by kernel_rfl
theorem g48Calls(m:Nat):(g48h m).CallsOk Tryz.prog:=(cok_cons (g32Ok m) cok_nil)
theorem g48Ok(m:Nat):RowOk Tryz.prog 48 (fun{α}=>g48R (g48 m (α:=α))):=
 rwk (g48Calls m) (lo0 (by kernel_rfl))
  (fun _=>g48Main (g32 m))
abbrev S_g47(α:Type):Type:=Int→Bool→Nat→Nat→Nat→Int→Int→Nat→Ty0→Ty4→Ty0→((List Int)→Bool→Nat→Nat→Nat→Int→Ty4→Ty0→Option α)→(Bool→(List Int)→Bool→Nat→Nat→Nat→Int→Ty4→(List Int)→Ty0→Option α)→Option α
abbrev S_g47l0(α:Type):Type:=Int→Int→Nat→Ty0→Bool→(List Int)→Bool→(List Int)→(Bool→Nat→Nat→Nat→Int→Ty4→(List Int)→Ty0→Option α)→(Bool→Nat→Nat→Nat→Int→Ty4→(List Int)→Ty0→Option α)→Int→Bool→Nat→Nat→Nat→Int→Ty4→Bool→(List Int)→(List Int)→Ty0→Option α
def g47l0b{α:Type}(G48:Al S_g48)(G33:Al S_g33)(G55:Al S_g55)(G54v1:Al S_g54v1)(G41v1:Al S_g41v1)(G46:Al S_g46)(G75:Al S_g75)(G53v1:Al S_g53v1)(a b:Int)(c:Nat)(d:Ty0)(e:Bool)(h:List Int)(i:Bool)(j:List Int)(l:Bool→Nat→Nat→Nat→Int→Ty4→(List Int)→Ty0→Option α)(n:Bool→Nat→Nat→Nat→Int→Ty4→(List Int)→Ty0→Option α)(o:Int→Bool→Nat→Nat→Nat→Int→Ty4→Bool→(List Int)→(List Int)→Ty0→Option α)(p:Int)(q:Bool)(r s t:Nat)(u:Int)(v:Ty4)(w:Bool)(x y:List Int)(z:Ty0):Option α:=cond (decide (p≤a)) (G48 (IntKind.wrap .i64 (p+(2:Int))) b q r s t u c d v z (fun a0 b0 c0 d0 e0 h0 i0 j0 l0=>G33 c0 d0 e0 h0 i0 c d j0 l0 (fun n0 o0=>cond n0 (l c0 d0 e0 h0 o0 j0 [0,0,0,0,0,0] l0) (G55 (8:Int) (fun p0 q0=>G54v1 p0 q0 w x c0 d0 e0 h0 o0 c d j0 l0 (fun r0 s0 t0=>G41v1 a0 b0 r0 s0 t0 d0 e0 h0 o0 c d j0 l0 (fun u0 v0 w0=>G46 v0 [(2:Int),0,0,0,0,0] (fun x0=>cond (decide (x0>(0:Int))) (G75 u0 v0 (fun y0=>let z0:Int:=IntKind.wrap .i8 y0;if y.length+1≤67108864 then G55 (2:Int) (fun a1 b1=>G54v1 a1 b1 w x w0 d0 e0 h0 o0 c d j0 l0 (fun c1 d1 e1=>G55 (IntKind.wrap .i64 z0) (fun h1 i1=>G53v1 c1 d1 h1 i1 e1 d0 e0 h0 o0 c d j0 l0 (fun j1 l1 n1=>G33 n1 d0 e0 h0 o0 c d j0 l0 (fun o1 p1=>cond o1 (l n1 d0 e0 h0 p1 j0 [0,0,0,0,0,0] l0) (o (IntKind.wrap .i64 (p+(1:Int))) n1 d0 e0 h0 p1 j0 j1 l1 (y++[z0]) l0)))))) else none)) (if y.length+1≤67108864 then G55 (2:Int) (fun q1 r1=>G54v1 q1 r1 w x w0 d0 e0 h0 o0 c d j0 l0 (fun s1 t1 u1=>G55 (0:Int) (fun v1 w1=>G53v1 s1 t1 v1 w1 u1 d0 e0 h0 o0 c d j0 l0 (fun x1 y1 z1=>G33 z1 d0 e0 h0 o0 c d j0 l0 (fun a2 b2=>cond a2 (l z1 d0 e0 h0 b2 j0 [0,0,0,0,0,0] l0) (o (IntKind.wrap .i64 (p+(1:Int))) z1 d0 e0 h0 b2 j0 x1 y1 (y++[(0:Int)]) l0)))))) else none))))))))) (n q r s t u v y z)
def g47l0{α:Type}(G48:Al S_g48)(G33:Al S_g33)(G55:Al S_g55)(G54v1:Al S_g54v1)(G41v1:Al S_g41v1)(G46:Al S_g46)(G75:Al S_g75)(G53v1:Al S_g53v1)(a b:Int)(c:Nat)(d:Ty0)(e:Bool)(h:List Int)(i:Bool)(j:List Int)(l:Bool→Nat→Nat→Nat→Int→Ty4→(List Int)→Ty0→Option α)(n:Bool→Nat→Nat→Nat→Int→Ty4→(List Int)→Ty0→Option α):Nat→Int→Bool→Nat→Nat→Nat→Int→Ty4→Bool→(List Int)→(List Int)→Ty0→Option α
 |0=>fun _ _ _ _ _ _ _ _ _ _ _=>none
 |m+1=>fun o p q r s t u v w x y=>g47l0b G48 G33 G55 G54v1 G41v1 G46 G75 G53v1 a b c d e h i j l n (g47l0 G48 G33 G55 G54v1 G41v1 G46 G75 G53v1 a b c d e h i j l n m) o p q r s t u v w x y
noncomputable def g47l0M{α:Type}(m:Nat):S_g47l0 α:=
 fun a b c d e h i j l n o p q r s t u v w x y=>g47l0 (g48 m) (g33 m) (g55 m) (g54v1 m) (g41v1 m) (g46 m) (g75 m) (g53v1 m) a b c d e h i j l n m o p q r s t u v w x y
def g47l0D:LoopD:={n:=68,low:=[0,1,2,3,4,5],sl:=[0,1,2,3,8,10,11,12,13],bl:=[0,1,2,3,4,5,1000006,1000007,1000008,1000009,1000010],tp:=[(.vl (.sv (.ptr 0 0))),tI,(.vl (.sv (.clo 48 [(1,0),(2,0)]))),(.vl (.sv (.clb 33 0 0))),(.vl (.sv (.ptr 1000006 0))),(.vl (.sv (.ptr 1000007 0))),(.vl (.sv (.ptr 1000008 0))),(.vl (.sv (.gsl 1000009 1))),tI],bp:=[(true,[(.one .bool),(.one (.slc 3 0 5)),(.one (.mpp 4)),(.one (.gsl 1000010 2)),(.one (.int .i64))]),(false,[(.one (.ptr 0 0))]),(false,[(.one (.int .i64))]),(false,[(.seqv rN)]),(true,[(.mp rP mW)]),(true,[]),(true,[(.one .bool),(.seq uU 6)]),(true,[(.one .bool),(.seq uU 6)]),(true,[(.one .bool),(.seq uU 6)]),(true,[(.gro (.int .i8))]),(true,[(.gro rP)])],xs:=[(1,[8,9]),(2,[8,10,12])]}
def g47l0K{α:Type}(L:S_g47l0 α)(ls:List Lf)(k:KEx α):Option α:=
 L (lf ls 0).int (lf ls 7).int (lf ls 8).nat ((lf ls 9).lst rN) (lf ls 11).bool ((lf ls 12).lst uU) (lf ls 13).bool ((lf ls 14).lst uU)
  (fun c d e h i j l n=>k .ret (mkSt 68 [8,9] [(.vl (.sv (.ptr 1000006 0))),(.vl (.sv .nils))] [0,1,2,3,4,5,1000006,1000007] [(true,[(.one (.bool c)),(.one (.slc 3 0 5 d e h)),(.one (.mpp 4)),(.one (.gsl 1000007 2)),(.one (.int .i64 i))]),(false,[(.one (.ptr 0 0))]),(false,[(.one (.int .i64 (lf ls 7).int))]),(false,[(.seq rN (lf ls 8).nat ((lf ls 9).lst rN))]),(true,[(.mp rP mW j)]),(true,[]),(true,[(.one (.bool false)),(.seq uU 6 l)]),(true,[(.gro rP n)])]))
  (fun c d e h i j o p=>k .normal (mkSt 68 [8,10,12] [(.vl (.sv (.ptr 1000006 0))),(.vl (.sv (.ptr 1000007 0))),(.vl (.sv (.gsl 1000008 1)))] [0,1,2,3,4,5,1000006,1000007,1000008,1000009] [(true,[(.one (.bool c)),(.one (.slc 3 0 5 d e h)),(.one (.mpp 4)),(.one (.gsl 1000009 2)),(.one (.int .i64 i))]),(false,[(.one (.ptr 0 0))]),(false,[(.one (.int .i64 (lf ls 7).int))]),(false,[(.seq rN (lf ls 8).nat ((lf ls 9).lst rN))]),(true,[(.mp rP mW j)]),(true,[]),(true,[(.one (.bool (lf ls 11).bool)),(.seq uU 6 ((lf ls 12).lst uU))]),(true,[(.one (.bool (lf ls 13).bool)),(.seq uU 6 ((lf ls 14).lst uU))]),(true,[(.gro (.int .i8) o)]),(true,[(.gro rP p)])]))
  (lf ls 1).int (lf ls 2).bool (lf ls 3).nat (lf ls 4).nat (lf ls 5).nat (lf ls 6).int ((lf ls 10).map rP mW) (lf ls 15).bool ((lf ls 16).lst uU) ((lf ls 17).lst (.int .i8)) ((lf ls 18).lst rP)
def g47b{α:Type}(G48:Al S_g48)(G74v1:Al S_g74v1)(G33:Al S_g33)(G55:Al S_g55)(G54v1:Al S_g54v1)(G41v1:Al S_g41v1)(G46:Al S_g46)(G75:Al S_g75)(G53v1:Al S_g53v1)(L47l0:Al S_g47l0)(a:Int)(b:Bool)(c d e:Nat)(h i:Int)(j:Nat)(l:Ty0)(n:Ty4)(o:Ty0)(p:(List Int)→Bool→Nat→Nat→Nat→Int→Ty4→Ty0→Option α)(q:Bool→(List Int)→Bool→Nat→Nat→Nat→Int→Ty4→(List Int)→Ty0→Option α):Option α:=G48 (2:Int) i b c d e h j l n o (fun r s t u v w x y z=>G74v1 r s (2:Int) t u v w x j l y z (fun a0 b0 c0=>L47l0 a i j l false [0,0,0,0,0,0] a0 b0 (fun d0 e0 h0 i0 j0 l0 n0 o0=>p n0 d0 e0 h0 i0 j0 l0 o0) (fun p0 q0 r0 s0 t0 u0 v0 w0=>q a0 b0 p0 q0 r0 s0 t0 u0 v0 w0) (1:Int) c0 u v w x y a0 b0 [] z))
noncomputable def g47{α:Type}(m:Nat):S_g47 α:=
 g47b (g48 m) (g74v1 m) (g33 m) (g55 m) (g54v1 m) (g41v1 m) (g46 m) (g75 m) (g53v1 m) (g47l0M m)
def g47tp:List TP:=[(.vl (.sv (.ptr 0 0))),tI,(.vl (.sv (.clo 48 [(1,0),(2,0)]))),(.vl (.sv (.clb 33 0 0)))]
def g47bp:List BP:=[(true,[(.one .bool),(.one (.slc 3 0 5)),(.one (.mpp 4)),(.one (.gsl 5 2)),(.one (.int .i64))]),(false,[(.one (.ptr 0 0))]),(false,[(.one (.int .i64))]),(false,[(.seqv rN)]),(true,[(.mp rP mW)]),(true,[(.gro rP)])]
def g47K{α:Type}(G:S_g47 α)(ls:List Lf)(k:KRe α):Option α:=
 G (lf ls 0).int (lf ls 1).bool (lf ls 2).nat (lf ls 3).nat (lf ls 4).nat (lf ls 5).int (lf ls 6).int (lf ls 7).nat ((lf ls 8).lst rN) ((lf ls 9).map rP mW) ((lf ls 10).lst rP)
  (fun c d e h i j l n=>k (.tup [(.agg [(.one (.bool false)),(.seq uU 6 c)]),(.sv .nils)]) [[(.one (.bool d)),(.one (.slc 3 0 5 e h i)),(.one (.mpp 4)),(.one (.gsl 6 2)),(.one (.int .i64 j))],[(.one (.ptr 0 0))],[(.one (.int .i64 (lf ls 6).int))],[(.seq rN (lf ls 7).nat ((lf ls 8).lst rN))],[(.mp rP mW l)],[]] [[(.gro rP n)]])
  (fun o c d e h i j l n p=>k (.tup [(.agg [(.one (.bool o)),(.seq uU 6 c)]),(.sv (.gsl 6 1))]) [[(.one (.bool d)),(.one (.slc 3 0 5 e h i)),(.one (.mpp 4)),(.one (.gsl 7 2)),(.one (.int .i64 j))],[(.one (.ptr 0 0))],[(.one (.int .i64 (lf ls 6).int))],[(.seq rN (lf ls 7).nat ((lf ls 8).lst rN))],[(.mp rP mW l)],[]] [[(.gro (.int .i8) n)],[(.gro rP p)]])
def g47R{α:Type}(G:S_g47 α):=rowK g47tp g47bp (g47K G)
def g47hd(G48:Al S_g48)(G74v1:Al S_g74v1)(G33:Al S_g33)(G55:Al S_g55)(G54v1:Al S_g54v1)(G41v1:Al S_g41v1)(G46:Al S_g46)(G75:Al S_g75)(G53v1:Al S_g53v1)(L47l0:Al S_g47l0):Hd where
 call:=fun f args Bs k=>cond (Nat.beq f 48) (g48R G48 args Bs k) (cond (Nat.beq f 74) (g74v1R G74v1 args Bs k) (cond (Nat.beq f 33) (g33R G33 args Bs k) (cond (Nat.beq f 55) (g55R G55 args Bs k) (cond (Nat.beq f 54) (g54v1R G54v1 args Bs k) (cond (Nat.beq f 41) (g41v1R G41v1 args Bs k) (cond (Nat.beq f 46) (g46R G46 args Bs k) (cond (Nat.beq f 75) (g75R G75 args Bs k) (cond (Nat.beq f 53) (g53v1R G53v1 args Bs k) (none)))))))))
 loop:=fun id st k=>cond (Nat.beq id 0) (loopH g47l0D (g47l0K L47l0) st k) (none)
 ro:=fun f=>cond (Nat.beq f 33) [1,2,3] (cond (Nat.beq f 41) [1,2,3] (cond (Nat.beq f 48) [0,1,3] (cond (Nat.beq f 53) [1,2,3] (cond (Nat.beq f 54) [1,2,3] (cond (Nat.beq f 74) [1,2,3] ([]))))))
noncomputable def g47h(m:Nat):Hd:=g47hd (g48 m) (g74v1 m) (g33 m) (g55 m) (g54v1 m) (g41v1 m) (g46 m) (g75 m) (g53v1 m) (g47l0M m)
theorem g47l0Step(G48:Al S_g48)(G74v1:Al S_g74v1)(G33:Al S_g33)(G55:Al S_g55)(G54v1:Al S_g54v1)(G41v1:Al S_g41v1)(G46:Al S_g46)(G75:Al S_g75)(G53v1:Al S_g53v1)(L47l0:Al S_g47l0){α:Type}(L:S_g47l0 α)(ls:List Lf)(k:KEx α):
  g47l0K (fun a b c d e h i j l n o p q r s t u v w x y=>g47l0b G48 G33 G55 G54v1 G41v1 G46 G75 G53v1 a b c d e h i j l n (L a b c d e h i j l n) o p q r s t u v w x y) ls k=ev tab (g47hd G48 G74v1 G33 G55 G54v1 G41v1 G46 G75 G53v1 L47l0) (bodyAt Tryz.f47 0) (atHead g47l0D ls) (loopK g47l0D 0 (loopH g47l0D (g47l0K L)) k):=by kernel_rfl
theorem g47Main(G48:Al S_g48)(G74v1:Al S_g74v1)(G33:Al S_g33)(G55:Al S_g55)(G54v1:Al S_g54v1)(G41v1:Al S_g41v1)(G46:Al S_g46)(G75:Al S_g75)(G53v1:Al S_g53v1)(L47l0:Al S_g47l0){α:Type}(ls:List Lf)(k:KRe α):
  g47K (g47b G48 G74v1 G33 G55 G54v1 G41v1 G46 G75 G53v1 L47l0) ls k=evFun tab (g47hd G48 G74v1 G33 G55 G54v1 G41v1 G46 G75 G53v1 L47l0) Tryz.f47 (fT g47tp ls) (fB g47tp g47bp ls) k:=by kernel_rfl
theorem g47Calls(m:Nat):(g47h m).CallsOk Tryz.prog:=(cok_cons (g48Ok m) (cok_cons (g74v1Ok m) (cok_cons (g33Ok m) (cok_cons (g55Ok m) (cok_cons (g54v1Ok m) (cok_cons (g41v1Ok m) (cok_cons (g46Ok m) (cok_cons (g75Ok m) (cok_cons (g53v1Ok m) cok_nil)))))))))
theorem g47l0Ok(m:Nat)(α:Type)(st:St)(k:KEx α)(r:α)(h:(g47h m).loop 0 st k=some r):
  LoopS Tryz.prog 0 (bodyAt Tryz.f47 0) st k r:=
 lpk (F:=fun n ls k=>g47l0K (fun a b c d e i j l o q s t u v w x y z a0 b0 c0=>g47l0 (g48 m) (g33 m) (g55 m) (g54v1 m) (g41v1 m) (g46 m) (g75 m) (g53v1 m) a b c d e i j l o q n s t u v w x y z a0 b0 c0) ls k) (g47Calls m) (lb0 (by kernel_rfl))
  (fun _ _=>rfl) (fun n ls k=>g47l0Step (g48 m) (g74v1 m) (g33 m) (g55 m) (g54v1 m) (g41v1 m) (g46 m) (g75 m) (g53v1 m) (g47l0M m) (fun a b c d e i j l o q=>g47l0 (g48 m) (g33 m) (g55 m) (g54v1 m) (g41v1 m) (g46 m) (g75 m) (g53v1 m) a b c d e i j l o q n) ls k) (n:=m) h
theorem g47Ok(m:Nat):RowOk Tryz.prog 47 (fun{α}=>g47R (g47 m (α:=α))):=
 rwk (g47Calls m) (lo1 (by kernel_rfl) (g47l0Ok m))
  (fun _=>g47Main (g48 m) (g74v1 m) (g33 m) (g55 m) (g54v1 m) (g41v1 m) (g46 m) (g75 m) (g53v1 m) (g47l0M m))
abbrev S_g16(α:Type):Type:=Nat→Nat→Nat→Int→Int→Nat→Ty0→((List Int)→Int→Option α)→(Bool→(List Int)→(List Int)→Option α)→Option α
def g16b{α:Type}(G31:Al S_g31)(G47:Al S_g47)(G33:Al S_g33)(a b c:Nat)(d e:Int)(h:Nat)(i:Ty0)(j:(List Int)→Int→Option α)(l:Bool→(List Int)→(List Int)→Option α):Option α:=G31 a b c e (64:Int) 0 1 1 h i [d] (fun n=>cond (n !=(0:Int)) (j [0,0,0,0,0,0] n) (none)) (fun o p=>G47 e false a b c (0:Int) d h i o p (fun q r s t u v w x=>G33 r s t u v h i w x (fun y z=>cond y (j [0,0,0,0,0,0] z) (j q (0:Int)))) (fun a0 b0 c0 d0 e0 h0 i0 j0 l0 n0=>G33 c0 d0 e0 h0 i0 h i j0 n0 (fun o0 p0=>cond o0 (j [0,0,0,0,0,0] p0) (l a0 b0 l0))))
noncomputable def g16{α:Type}(m:Nat):S_g16 α:=
 g16b (g31 m) (g47 m) (g33 m)
def g16tp:List TP:=[(.vl (.sv (.slc 0 0 5))),tI,tI]
def g16bp:List BP:=[(false,[(.seqv rN)])]
def g16K{α:Type}(G:S_g16 α)(ls:List Lf)(k:KRe α):Option α:=
 G (lf ls 0).nat (lf ls 1).nat (lf ls 2).nat (lf ls 3).int (lf ls 4).int (lf ls 5).nat ((lf ls 6).lst rN)
  (fun a b=>k (.tup [(.agg [(.one (.bool false)),(.seq uU 6 a)]),(.sv .nils),(.sv (.int .i64 b))]) [[(.seq rN (lf ls 5).nat ((lf ls 6).lst rN))]] [])
  (fun c a d=>k (.tup [(.agg [(.one (.bool c)),(.seq uU 6 a)]),(.sv (.gsl 1 1)),(.sv (.int .i64 (0:Int)))]) [[(.seq rN (lf ls 5).nat ((lf ls 6).lst rN))]] [[(.gro (.int .i8) d)]])
def g16R{α:Type}(G:S_g16 α):=rowK g16tp g16bp (g16K G)
def g16hd(G31:Al S_g31)(G47:Al S_g47)(G33:Al S_g33):Hd where
 call:=fun f args Bs k=>cond (Nat.beq f 31) (g31R G31 args Bs k) (cond (Nat.beq f 47) (g47R G47 args Bs k) (cond (Nat.beq f 33) (g33R G33 args Bs k) (none)))
 loop:=fun id st k=>none
 ro:=fun f=>cond (Nat.beq f 31) [0,1] (cond (Nat.beq f 33) [1,2,3] (cond (Nat.beq f 47) [1,2,3] ([])))
noncomputable def g16h(m:Nat):Hd:=g16hd (g31 m) (g47 m) (g33 m)
theorem g16Main(G31:Al S_g31)(G47:Al S_g47)(G33:Al S_g33){α:Type}(ls:List Lf)(k:KRe α):
  g16K (g16b G31 G47 G33) ls k=evFun tab (g16hd G31 G47 G33) Tryz.f16 (fT g16tp ls) (fB g16tp g16bp ls) k:=by kernel_rfl
theorem g16Calls(m:Nat):(g16h m).CallsOk Tryz.prog:=(cok_cons (g31Ok m) (cok_cons (g47Ok m) (cok_cons (g33Ok m) cok_nil)))
theorem g16Ok(m:Nat):RowOk Tryz.prog 16 (fun{α}=>g16R (g16 m (α:=α))):=
 rwk (g16Calls m) (lo0 (by kernel_rfl))
  (fun _=>g16Main (g31 m) (g47 m) (g33 m))
end Go.Proofs.YtlmmgjngihlpeaaGreat.Sx
