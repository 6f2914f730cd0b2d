/- Functions. Printed by our own sx.py. -/
import Derived.Test.YtlmmgjngihlpeaaSxV2
namespace Go.Proofs.Ytlmmgjngihlpeaa.Sx
open Go
set_option linter.unusedVariables false
set_option maxRecDepth 100000
abbrev S_g91(α:Type):Type:=Int→Int→Int→Nat→Nat→Nat→Nat→Nat→Nat→Nat→Ty0→Ty1→Ty0→(Bool→(List Int)→Int→Nat→Nat→Nat→Nat→Nat→Nat→Ty1→Ty0→Option α)→Option α
def g91b{α:Type}(G85:Al S_g85)(G121:Al S_g121)(G65:Al S_g65)(a b c:Int)(d e:Nat)(h i:Nat)(j l n:Nat)(o:Ty0)(p:Ty1)(q:Ty0)(r:Bool→(List Int)→Int→Nat→Nat→Nat→Nat→Nat→Nat→Ty1→Ty0→Option α):Option α:=G85 a c d e h i j l n o p q (fun s t u v w x y z a0 b0 c0 d0 e0=>cond (u !=(0:Int)) (r false [0,0,0,0,0,0] u v w x y z a0 d0 e0) (G85 b c v w x y z a0 n o d0 e0 (fun h0 i0 j0 l0 n0 o0 p0 q0 r0 s0 t0 u0 v0=>cond (j0 !=(0:Int)) (r false [0,0,0,0,0,0] j0 l0 n0 o0 p0 q0 r0 u0 v0) (G121 s t (fun w0=>G65 h0 i0 w0 t (fun x0 y0 z0=>r x0 y0 z0 l0 n0 o0 p0 q0 r0 u0 v0))))))
noncomputable def g91{α:Type}(m:Nat):S_g91 α:=
 g91b (g85 m) (g121 m) (g65 m)
def g91tp:List TP:=[(.vl (.sv (.ptr 0 0))),tI,tI,tI]
def g91bp:List BP:=[(true,[(.one (.slc 1 0 5)),(.one (.slc 2 0 1)),(.one (.gsl 3 2))]),(false,[(.seqv rN)]),(true,[(.rws mK)]),(true,[(.gro rP)])]
def g91K{α:Type}(G:S_g91 α)(ls:List Lf)(k:KRe α):Option α:=
 G (lf ls 0).int (lf ls 1).int (lf ls 2).int (lf ls 3).nat (lf ls 4).nat (lf ls 5).nat (lf ls 6).nat (lf ls 7).nat (lf ls 8).nat (lf ls 9).nat ((lf ls 10).lst rN) ((lf ls 11).rows mK) ((lf ls 12).lst rP)
  (fun c d e h j l n o p q r=>k (.tup [(.agg [(.one (.bool c)),(.seq uU 6 d)]),(.sv (.int .i64 e))]) [[(.one (.slc 1 0 5 h j l)),(.one (.slc 2 0 1 n o p)),(.one (.gsl 4 2))],[(.seq rN (lf ls 9).nat ((lf ls 10).lst rN))],[(.rws mK q none)],[]] [[(.gro rP r)]])
def g91R{α:Type}(G:S_g91 α):=rowK g91tp g91bp (g91K G)
def g91hd(G85:Al S_g85)(G121:Al S_g121)(G65:Al S_g65):Hd where
 call:=fun f args Bs k=>cond (Nat.beq f 85) (g85R G85 args Bs k) (cond (Nat.beq f 121) (g121R G121 args Bs k) (cond (Nat.beq f 65) (g65R G65 args Bs k) (none)))
 loop:=fun id st k=>none
 ro:=fun f=>cond (Nat.beq f 85) [1] ([])
noncomputable def g91h(m:Nat):Hd:=g91hd (g85 m) (g121 m) (g65 m)
theorem g91Main(G85:Al S_g85)(G121:Al S_g121)(G65:Al S_g65){α:Type}(ls:List Lf)(k:KRe α):
  g91K (g91b G85 G121 G65) ls k=evFunM tab (g91hd G85 G121 G65) Try.f91 3 (fT g91tp ls) (fB g91tp g91bp ls) k:=by kernel_rfl
theorem g91Calls(m:Nat):(g91h m).CallsOk Try.prog:=(cok_cons (g85Ok m) (cok_cons (g121Ok m) (cok_cons (g65Ok m) cok_nil)))
theorem g91Fn(m:Nat):FnOk Try.prog 91 g91tp g91bp (fun{α}=>g91K (g91 m (α:=α))):=
 fn_okM (tab:=tab) (h:=g91h m) (fn:=Try.f91) (F:=fun{α}=>g91K (g91 m (α:=α))) tabOk (g91Calls m) mixed (by kernel_rfl) (by kernel_rfl) (fun c hc=>by
  rw[bodyOf_some hc]
  exact loopsOk_of _ (fun p hp=>by rw[show loopsOf (bodyOf Try.f91)=[] by kernel_rfl] at hp;cases hp))
  (fun _=>g91Main (g85 m) (g121 m) (g65 m))
theorem g91Ok(m:Nat):RowOk Try.prog 91 (fun{α}=>g91R (g91 m (α:=α))):=row_of (g91Fn m)
abbrev S_g42(α:Type):Type:=Nat→Nat→Nat→Int→Int→Int→Int→Nat→Ty0→(Int→Int→Int→Option α)→Option α
abbrev S_g42l0(α:Type):Type:=Int→Int→Int→Int→Nat→Ty0→(Int→Int→Int→Option α)→(Option α)→Int→Nat→Nat→Nat→Nat→Nat→Nat→Ty1→Ty0→Option α
def g42l0b{α:Type}(G91:Al S_g91)(G88:Al S_g88)(a b:Int)(c d:Int)(e:Nat)(h:Ty0)(i:Int→Int→Int→Option α)(j:Option α)(l:Int→Nat→Nat→Nat→Nat→Nat→Nat→Ty1→Ty0→Option α)(n:Int)(o p:Nat)(q r:Nat)(s t:Nat)(u:Ty1)(v:Ty0):Option α:=cond (decide (n≤d)) (G91 a c (IntKind.wrap .i64 (n+(2:Int))) o p q r s t e h u v (fun w x y z a0 b0 c0 d0 e0 h0 i0=>cond (y !=(0:Int)) (i (0:Int) (0:Int) y) (G91 c b (IntKind.wrap .i64 (n+(2:Int))) z a0 b0 c0 d0 e0 e h h0 i0 (fun j0 l0 n0 o0 p0 q0 r0 s0 t0 u0 v0=>cond (n0 !=(0:Int)) (i (0:Int) (0:Int) n0) (G88 w x (3:Int) (fun w0=>cond w0 (cond (!w) (i (1:Int) n (0:Int)) (G88 j0 l0 (3:Int) (fun x0=>cond x0 (cond (!j0) (i (2:Int) n (0:Int)) (l (IntKind.wrap .i64 (n+(1:Int))) o0 p0 q0 r0 s0 t0 u0 v0)) (l (IntKind.wrap .i64 (n+(1:Int))) o0 p0 q0 r0 s0 t0 u0 v0)))) (G88 j0 l0 (3:Int) (fun y0=>cond y0 (cond (!j0) (i (2:Int) n (0:Int)) (l (IntKind.wrap .i64 (n+(1:Int))) o0 p0 q0 r0 s0 t0 u0 v0)) (l (IntKind.wrap .i64 (n+(1:Int))) o0 p0 q0 r0 s0 t0 u0 v0))))))))) (j)
def g42l0{α:Type}(G91:Al S_g91)(G88:Al S_g88)(a b:Int)(c d:Int)(e:Nat)(h:Ty0)(i:Int→Int→Int→Option α)(j:Option α):Nat→Int→Nat→Nat→Nat→Nat→Nat→Nat→Ty1→Ty0→Option α
 |0=>fun _ _ _ _ _ _ _ _ _=>none
 |m+1=>fun l n o p q r s t u=>g42l0b G91 G88 a b c d e h i j (g42l0 G91 G88 a b c d e h i j m) l n o p q r s t u
noncomputable def g42l0M{α:Type}(m:Nat):S_g42l0 α:=
 fun a b c d e h i j l n o p q r s t u=>g42l0 (g91 m) (g88 m) a b c d e h i j m l n o p q r s t u
def g42l0D:LoopD:={n:=84,low:=[0],sl:=[1,2,3,4,14,15],bl:=[0,1000001,1000002,1000003],tp:=[tI,tI,tI,tI,(.vl (.sv (.ptr 1000001 0))),tI],bp:=[(false,[(.seqv rN)]),(true,[(.one (.slc 0 0 5)),(.one (.slc 1000002 0 1)),(.one (.gsl 1000003 2))]),(true,[(.rws mK)]),(true,[(.gro rP)])],xs:=[(1,[10,11,12]),(2,[])]}
def g42l0K{α:Type}(L:S_g42l0 α)(ls:List Lf)(k:KEx α):Option α:=
 L (lf ls 0).int (lf ls 1).int (lf ls 2).int (lf ls 3).int (lf ls 5).nat ((lf ls 6).lst rN)
  (fun c d e=>k .ret (mkSt 84 [10,11,12] [(.vl (.sv (.int .i64 c))),(.vl (.sv (.int .i64 d))),(.vl (.sv (.int .i64 e)))] [0] [(false,[(.seq rN (lf ls 5).nat ((lf ls 6).lst rN))])]))
  (k .normal (mkSt 84 [] [] [0] [(false,[(.seq rN (lf ls 5).nat ((lf ls 6).lst rN))])]))
  (lf ls 4).int (lf ls 7).nat (lf ls 8).nat (lf ls 9).nat (lf ls 10).nat (lf ls 11).nat (lf ls 12).nat ((lf ls 13).rows mK) ((lf ls 14).lst rP)
def g42b{α:Type}(G75:Al S_g75)(G90:Al S_g90)(G76:Al S_g76)(G91:Al S_g91)(G88:Al S_g88)(L42l0:Al S_g42l0)(a b c:Nat)(d e:Int)(h i:Int)(j:Nat)(l:Ty0)(n:Int→Int→Int→Option α):Option α:=G75 a b c d i j l (fun o=>cond (o !=(0:Int)) (n (0:Int) (0:Int) o) (G90 a b c e j l (fun p=>cond (!p) (n (0:Int) (0:Int) (2:Int)) (G90 a b c h j l (fun q=>cond (!q) (n (0:Int) (0:Int) (2:Int)) (G76 a b c j l (fun r s=>L42l0 d e h i j l (fun t u v=>n t u v) (n (0:Int) (0:Int) (7:Int)) (0:Int) a b c 0 b b r s)))))))
noncomputable def g42{α:Type}(m:Nat):S_g42 α:=
 g42b (g75 m) (g90 m) (g76 m) (g91 m) (g88 m) (g42l0M m)
def g42tp:List TP:=[(.vl (.sv (.slc 0 0 5))),tI,tI,tI,tI]
def g42bp:List BP:=[(false,[(.seqv rN)])]
def g42K{α:Type}(G:S_g42 α)(ls:List Lf)(k:KRe α):Option α:=
 G (lf ls 0).nat (lf ls 1).nat (lf ls 2).nat (lf ls 3).int (lf ls 4).int (lf ls 5).int (lf ls 6).int (lf ls 7).nat ((lf ls 8).lst rN)
  (fun a b c=>k (.tup [(.sv (.int .i64 a)),(.sv (.int .i64 b)),(.sv (.int .i64 c))]) [[(.seq rN (lf ls 7).nat ((lf ls 8).lst rN))]] [])
def g42R{α:Type}(G:S_g42 α):=rowK g42tp g42bp (g42K G)
def g42hd(G75:Al S_g75)(G90:Al S_g90)(G76:Al S_g76)(G91:Al S_g91)(G88:Al S_g88)(L42l0:Al S_g42l0):Hd where
 call:=fun f args Bs k=>cond (Nat.beq f 75) (g75R G75 args Bs k) (cond (Nat.beq f 90) (g90R G90 args Bs k) (cond (Nat.beq f 76) (g76R G76 args Bs k) (cond (Nat.beq f 91) (g91R G91 args Bs k) (cond (Nat.beq f 88) (g88R G88 args Bs k) (none)))))
 loop:=fun id st k=>cond (Nat.beq id 0) (loopH g42l0D (g42l0K L42l0) st k) (none)
 ro:=fun f=>cond (Nat.beq f 75) [0] (cond (Nat.beq f 76) [0] (cond (Nat.beq f 90) [0] (cond (Nat.beq f 91) [1] ([]))))
noncomputable def g42h(m:Nat):Hd:=g42hd (g75 m) (g90 m) (g76 m) (g91 m) (g88 m) (g42l0M m)
theorem g42l0Step(G75:Al S_g75)(G90:Al S_g90)(G76:Al S_g76)(G91:Al S_g91)(G88:Al S_g88)(L42l0:Al S_g42l0){α:Type}(L:S_g42l0 α)(ls:List Lf)(k:KEx α):
  g42l0K (fun a b c d e h i j l n o p q r s t u=>g42l0b G91 G88 a b c d e h i j (L a b c d e h i j) l n o p q r s t u) ls k=ev tab (g42hd G75 G90 G76 G91 G88 L42l0) (bodyAt Try.f42 0) (atHead g42l0D ls) (loopK g42l0D 0 (loopH g42l0D (g42l0K L)) k):=by kernel_rfl
theorem g42Main(G75:Al S_g75)(G90:Al S_g90)(G76:Al S_g76)(G91:Al S_g91)(G88:Al S_g88)(L42l0:Al S_g42l0){α:Type}(ls:List Lf)(k:KRe α):
  g42K (g42b G75 G90 G76 G91 G88 L42l0) ls k=evFun tab (g42hd G75 G90 G76 G91 G88 L42l0) Try.f42 (fT g42tp ls) (fB g42tp g42bp ls) k:=by kernel_rfl
theorem g42Calls(m:Nat):(g42h m).CallsOk Try.prog:=(cok_cons (g75Ok m) (cok_cons (g90Ok m) (cok_cons (g76Ok m) (cok_cons (g91Ok m) (cok_cons (g88Ok m) cok_nil)))))
theorem g42l0Ok(m:Nat)(α:Type)(st:St)(k:KEx α)(r:α)(h:(g42h m).loop 0 st k=some r):
  LoopS Try.prog 0 (bodyAt Try.f42 0) st k r:=
 lpk (F:=fun n ls k=>g42l0K (fun a b c d e i j l o q s t u v w x y=>g42l0 (g91 m) (g88 m) a b c d e i j l n o q s t u v w x y) ls k) (g42Calls m) (lb0 (by kernel_rfl))
  (fun _ _=>rfl) (fun n ls k=>g42l0Step (g75 m) (g90 m) (g76 m) (g91 m) (g88 m) (g42l0M m) (fun a b c d e i j l=>g42l0 (g91 m) (g88 m) a b c d e i j l n) ls k) (n:=m) h
theorem g42Ok(m:Nat):RowOk Try.prog 42 (fun{α}=>g42R (g42 m (α:=α))):=
 rwk (g42Calls m) (lo1 (by kernel_rfl) (g42l0Ok m))
  (fun _=>g42Main (g75 m) (g90 m) (g76 m) (g91 m) (g88 m) (g42l0M m))
abbrev S_g114v1(α:Type):Type:=Nat→Nat→Nat→Nat→Nat→Nat→Nat→Ty0→(List Int)→(Bool→Option α)→Option α
abbrev S_g114v1l0(α:Type):Type:=Nat→Nat→Nat→Nat→Nat→Nat→Int→Nat→Ty0→(List Int)→(Option α)→(Option α)→Int→Option α
def g114v1l0b{α:Type}(G68:Al S_g68)(a b:Nat)(c d:Nat)(e h:Nat)(i:Int)(j:Nat)(l:Ty0)(n:List Int)(o p:Option α)(q:Int→Option α)(r:Int):Option α:=cond (decide (r<i)) (if 0≤r∧r<(e:Nat) then if(d+r.toNat)<3 then G68 (List.getD n (d+r.toNat) 0) (0:Int) (IntKind.wrap .i64 (((b:Nat):Int)-(1:Int))) (fun s=>cond (!s) (o) (q (IntKind.wrap .i64 (r+(1:Int))))) else none else none) (p)
def g114v1l0{α:Type}(G68:Al S_g68)(a b:Nat)(c d:Nat)(e h:Nat)(i:Int)(j:Nat)(l:Ty0)(n:List Int)(o p:Option α):Nat→Int→Option α
 |0=>fun _=>none
 |m+1=>fun q=>g114v1l0b G68 a b c d e h i j l n o p (g114v1l0 G68 a b c d e h i j l n o p m) q
def g114v1l0M{α:Type}(m:Nat):S_g114v1l0 α:=
 fun a b c d e h i j l n o p q=>g114v1l0 (g68 m) a b c d e h i j l n o p m q
def g114v1l0D:LoopD:={n:=20,low:=[0,1],sl:=[0,7,8,9],bl:=[0,1],tp:=[(.vl (.sv (.slc 0 0 5))),(.vl (.sv (.slc 1 0 1))),tI,tI],bp:=[(false,[(.seqv rN)]),(false,[(.seq (.int .i64) 3)])],xs:=[(1,[4]),(2,[])]}
def g114v1l0K{α:Type}(L:S_g114v1l0 α)(ls:List Lf)(k:KEx α):Option α:=
 L (lf ls 0).nat (lf ls 1).nat (lf ls 2).nat (lf ls 3).nat (lf ls 4).nat (lf ls 5).nat (lf ls 6).int (lf ls 8).nat ((lf ls 9).lst rN) ((lf ls 10).lst (.int .i64))
  (k .ret (mkSt 20 [4] [(.vl (.sv (.bool false)))] [0,1] [(false,[(.seq rN (lf ls 8).nat ((lf ls 9).lst rN))]),(false,[(.seq (.int .i64) 3 ((lf ls 10).lst (.int .i64)))])]))
  (k .normal (mkSt 20 [] [] [0,1] [(false,[(.seq rN (lf ls 8).nat ((lf ls 9).lst rN))]),(false,[(.seq (.int .i64) 3 ((lf ls 10).lst (.int .i64)))])]))
  (lf ls 7).int
def g114v1b{α:Type}(G68:Al S_g68)(L114v1l0:Al S_g114v1l0)(a b:Nat)(c d:Nat)(e h i:Nat)(j:Ty0)(l:List Int)(n:Bool→Option α):Option α:=L114v1l0 a b c d e h ((e:Nat):Int) i j l (n false) (n true) (0:Int)
def g114v1{α:Type}(m:Nat):S_g114v1 α:=
 g114v1b (g68 m) (g114v1l0M m)
def g114v1tp:List TP:=[(.vl (.sv (.slc 0 0 5))),(.vl (.sv (.slc 1 0 1)))]
def g114v1bp:List BP:=[(false,[(.seqv rN)]),(false,[(.seq (.int .i64) 3)])]
def g114v1K{α:Type}(G:S_g114v1 α)(ls:List Lf)(k:KRe α):Option α:=
 G (lf ls 0).nat (lf ls 1).nat (lf ls 2).nat (lf ls 3).nat (lf ls 4).nat (lf ls 5).nat (lf ls 6).nat ((lf ls 7).lst rN) ((lf ls 8).lst (.int .i64))
  (fun a=>k (.vl (.sv (.bool a))) [[(.seq rN (lf ls 6).nat ((lf ls 7).lst rN))],[(.seq (.int .i64) 3 ((lf ls 8).lst (.int .i64)))]] [])
def g114v1R{α:Type}(G:S_g114v1 α):=rowK g114v1tp g114v1bp (g114v1K G)
def g114v1hd(G68:Al S_g68)(L114v1l0:Al S_g114v1l0):Hd where
 call:=fun f args Bs k=>cond (Nat.beq f 68) (g68R G68 args Bs k) (none)
 loop:=fun id st k=>cond (Nat.beq id 0) (loopH g114v1l0D (g114v1l0K L114v1l0) st k) (none)
 ro:=fun f=>[]
def g114v1h(m:Nat):Hd:=g114v1hd (g68 m) (g114v1l0M m)
theorem g114v1l0Step(G68:Al S_g68)(L114v1l0:Al S_g114v1l0){α:Type}(L:S_g114v1l0 α)(ls:List Lf)(k:KEx α):
  g114v1l0K (fun a b c d e h i j l n o p q=>g114v1l0b G68 a b c d e h i j l n o p (L a b c d e h i j l n o p) q) ls k=ev tab (g114v1hd G68 L114v1l0) (bodyAt Try.f114 0) (atHead g114v1l0D ls) (loopK g114v1l0D 0 (loopH g114v1l0D (g114v1l0K L)) k):=by kernel_rfl
theorem g114v1Main(G68:Al S_g68)(L114v1l0:Al S_g114v1l0){α:Type}(ls:List Lf)(k:KRe α):
  g114v1K (g114v1b G68 L114v1l0) ls k=evFun tab (g114v1hd G68 L114v1l0) Try.f114 (fT g114v1tp ls) (fB g114v1tp g114v1bp ls) k:=by kernel_rfl
theorem g114v1Calls(m:Nat):(g114v1h m).CallsOk Try.prog:=(cok_cons (g68Ok m) cok_nil)
theorem g114v1l0Ok(m:Nat)(α:Type)(st:St)(k:KEx α)(r:α)(h:(g114v1h m).loop 0 st k=some r):
  LoopS Try.prog 0 (bodyAt Try.f114 0) st k r:=
 lpk (F:=fun n ls k=>g114v1l0K (fun a b c d e i j l o q s t u=>g114v1l0 (g68 m) a b c d e i j l o q s t n u) ls k) (g114v1Calls m) (lb0 (by kernel_rfl))
  (fun _ _=>rfl) (fun n ls k=>g114v1l0Step (g68 m) (g114v1l0M m) (fun a b c d e i j l o q s t=>g114v1l0 (g68 m) a b c d e i j l o q s t n) ls k) (n:=m) h
theorem g114v1Ok(m:Nat):RowOk Try.prog 114 (fun{α}=>g114v1R (g114v1 m (α:=α))):=
 rwk (g114v1Calls m) (lo1 (by kernel_rfl) (g114v1l0Ok m))
  (fun _=>g114v1Main (g68 m) (g114v1l0M m))
abbrev S_g79v1(α:Type):Type:=Nat→Nat→Nat→Int→Int→Nat→Nat→Nat→Nat→Ty0→(List Int)→(Int→Option α)→(Ty4→Ty0→Option α)→Option α
def g79v1b{α:Type}(G113:Al S_g113)(G114v1:Al S_g114v1)(G68:Al S_g68)(G115:Al S_g115)(a b c:Nat)(d e:Int)(h i:Nat)(j l:Nat)(n:Ty0)(o:List Int)(p:Int→Option α)(q:Ty4→Ty0→Option α):Option α:=G113 a b c l n (fun r=>cond (!r) (p (1:Int)) (G114v1 a b c h i j l n o (fun s=>cond (!s) (p (2:Int)) (G68 d (0:Int) e (fun t=>cond (!t) (p (2:Int)) (G115 a b c l n (fun u v=>q u v)))))))
def g79v1{α:Type}(m:Nat):S_g79v1 α:=
 g79v1b (g113 m) (g114v1 m) (g68 m) (g115 m)
def g79v1tp:List TP:=[(.vl (.sv (.slc 0 0 5))),tI,tI,(.vl (.sv (.slc 1 0 1)))]
def g79v1bp:List BP:=[(false,[(.seqv rN)]),(false,[(.seq (.int .i64) 3)])]
def g79v1K{α:Type}(G:S_g79v1 α)(ls:List Lf)(k:KRe α):Option α:=
 G (lf ls 0).nat (lf ls 1).nat (lf ls 2).nat (lf ls 3).int (lf ls 4).int (lf ls 5).nat (lf ls 6).nat (lf ls 7).nat (lf ls 8).nat ((lf ls 9).lst rN) ((lf ls 10).lst (.int .i64))
  (fun c=>k (.tup [(.sv .nilp),(.sv (.int .i64 c))]) [[(.seq rN (lf ls 8).nat ((lf ls 9).lst rN))],[(.seq (.int .i64) 3 ((lf ls 10).lst (.int .i64)))]] [])
  (fun d e=>k (.tup [(.sv (.ptr 2 0)),(.sv (.int .i64 (0:Int)))]) [[(.seq rN (lf ls 8).nat ((lf ls 9).lst rN))],[(.seq (.int .i64) 3 ((lf ls 10).lst (.int .i64)))]] [[(.one (.bool false)),(.one (.slc 0 0 5 (lf ls 0).nat (lf ls 1).nat (lf ls 2).nat)),(.one (.mpp 3)),(.one (.gsl 4 2)),(.one (.int .i64 (0:Int)))],[(.mp rP mW d)],[(.gro rP e)]])
def g79v1R{α:Type}(G:S_g79v1 α):=rowK g79v1tp g79v1bp (g79v1K G)
def g79v1hd(G113:Al S_g113)(G114v1:Al S_g114v1)(G68:Al S_g68)(G115:Al S_g115):Hd where
 call:=fun f args Bs k=>cond (Nat.beq f 113) (g113R G113 args Bs k) (cond (Nat.beq f 114) (g114v1R G114v1 args Bs k) (cond (Nat.beq f 68) (g68R G68 args Bs k) (cond (Nat.beq f 115) (g115R G115 args Bs k) (none))))
 loop:=fun id st k=>none
 ro:=fun f=>cond (Nat.beq f 113) [0] (cond (Nat.beq f 114) [0,1] (cond (Nat.beq f 115) [0] ([])))
def g79v1h(m:Nat):Hd:=g79v1hd (g113 m) (g114v1 m) (g68 m) (g115 m)
theorem g79v1Main(G113:Al S_g113)(G114v1:Al S_g114v1)(G68:Al S_g68)(G115:Al S_g115){α:Type}(ls:List Lf)(k:KRe α):
  g79v1K (g79v1b G113 G114v1 G68 G115) ls k=evFun tab (g79v1hd G113 G114v1 G68 G115) Try.f79 (fT g79v1tp ls) (fB g79v1tp g79v1bp ls) k:=by kernel_rfl
theorem g79v1Calls(m:Nat):(g79v1h m).CallsOk Try.prog:=(cok_cons (g113Ok m) (cok_cons (g114v1Ok m) (cok_cons (g68Ok m) (cok_cons (g115Ok m) cok_nil))))
theorem g79v1Ok(m:Nat):RowOk Try.prog 79 (fun{α}=>g79v1R (g79v1 m (α:=α))):=
 rwk (g79v1Calls m) (lo0 (by kernel_rfl))
  (fun _=>g79v1Main (g113 m) (g114v1 m) (g68 m) (g115 m))
abbrev S_g92(α:Type):Type:=Bool→(List Int)→Bool→(List Int)→Bool→Nat→Nat→Nat→Int→Nat→Ty0→Ty4→Ty0→(Int→Bool→Option α)→Option α
def g92b{α:Type}(G63v1:Al S_g63v1)(G89:Al S_g89)(G54:Al S_g54)(a:Bool)(b:List Int)(c:Bool)(d:List Int)(e:Bool)(h i j:Nat)(l:Int)(n:Nat)(o:Ty0)(p:Ty4)(q:Ty0)(r:Int→Bool→Option α):Option α:=G63v1 c d a b e h i j l n o p q (fun s t u=>G89 t [(3:Int),0,0,0,0,0] (fun v=>cond (decide (v<(0:Int))) (r (0:Int) u) (G54 s t (fun w=>r w u))))
def g92{α:Type}(m:Nat):S_g92 α:=
 g92b (g63v1 m) (g89 m) (g54 m)
def g92tp:List TP:=[(.vl (.sv (.ptr 0 0))),vW,vW]
def g92bp:List BP:=[bA,(false,[(.seqv rN)]),(false,[(.mp rP mW)]),(false,[(.gro rP)])]
def g92K{α:Type}(G:S_g92 α)(ls:List Lf)(k:KRe α):Option α:=
 G (lf ls 0).bool ((lf ls 1).lst uU) (lf ls 2).bool ((lf ls 3).lst uU) (lf ls 4).bool (lf ls 5).nat (lf ls 6).nat (lf ls 7).nat (lf ls 8).int (lf ls 9).nat ((lf ls 10).lst rN) ((lf ls 11).map rP mW) ((lf ls 12).lst rP)
  (fun c d=>k (.vl (.sv (.int .i64 c))) [[(.one (.bool d)),(.one (.slc 1 0 5 (lf ls 5).nat (lf ls 6).nat (lf ls 7).nat)),(.one (.mpp 2)),(.one (.gsl 3 2)),(.one (.int .i64 (lf ls 8).int))],[(.seq rN (lf ls 9).nat ((lf ls 10).lst rN))],[(.mp rP mW ((lf ls 11).map rP mW))],[(.gro rP ((lf ls 12).lst rP))]] [])
def g92R{α:Type}(G:S_g92 α):=rowK g92tp g92bp (g92K G)
def g92hd(G63v1:Al S_g63v1)(G89:Al S_g89)(G54:Al S_g54):Hd where
 call:=fun f args Bs k=>cond (Nat.beq f 63) (g63v1R G63v1 args Bs k) (cond (Nat.beq f 89) (g89R G89 args Bs k) (cond (Nat.beq f 54) (g54R G54 args Bs k) (none)))
 loop:=fun id st k=>none
 ro:=fun f=>cond (Nat.beq f 63) [1,2,3] ([])
def g92h(m:Nat):Hd:=g92hd (g63v1 m) (g89 m) (g54 m)
theorem g92Main(G63v1:Al S_g63v1)(G89:Al S_g89)(G54:Al S_g54){α:Type}(ls:List Lf)(k:KRe α):
  g92K (g92b G63v1 G89 G54) ls k=evFun tab (g92hd G63v1 G89 G54) Try.f92 (fT g92tp ls) (fB g92tp g92bp ls) k:=by kernel_rfl
theorem g92Calls(m:Nat):(g92h m).CallsOk Try.prog:=(cok_cons (g63v1Ok m) (cok_cons (g89Ok m) (cok_cons (g54Ok m) cok_nil)))
theorem g92Ok(m:Nat):RowOk Try.prog 92 (fun{α}=>g92R (g92 m (α:=α))):=
 rwk (g92Calls m) (lo0 (by kernel_rfl))
  (fun _=>g92Main (g63v1 m) (g89 m) (g54 m))
abbrev S_g43(α:Type):Type:=Nat→Nat→Nat→Int→Int→Int→Int→Nat→Ty0→(Int→Int→Int→Option α)→Option α
abbrev S_g43l0(α:Type):Type:=Int→Int→Int→Int→Int→Nat→Ty0→(Option α)→Option α
def g43l0b{α:Type}(a b:Int)(c d e:Int)(h:Nat)(i:Ty0)(j l:Option α):Option α:=cond (decide (e≤d)) (none) (j)
def g43l0{α:Type}(a b:Int)(c d e:Int)(h:Nat)(i:Ty0)(j:Option α):Nat→Option α
 |0=>none
 |m+1=>g43l0b a b c d e h i j (g43l0 a b c d e h i j m)
def g43l0M{α:Type}(m:Nat):S_g43l0 α:=
 fun a b c d e h i j=>g43l0 a b c d e h i j m
def g43l0D:LoopD:={n:=80,low:=[0],sl:=[1,2,3,4,13,15],bl:=[0],tp:=[tI,tI,tI,tI,(.vl (.sv .nilp)),tI],bp:=[(false,[(.seqv rN)])],xs:=[(2,[])]}
def g43l0K{α:Type}(L:S_g43l0 α)(ls:List Lf)(k:KEx α):Option α:=
 L (lf ls 0).int (lf ls 1).int (lf ls 2).int (lf ls 3).int (lf ls 4).int (lf ls 5).nat ((lf ls 6).lst rN)
  (k .normal (mkSt 80 [] [] [0] [(false,[(.seq rN (lf ls 5).nat ((lf ls 6).lst rN))])]))
abbrev S_g43l0v1(α:Type):Type:=Int→Int→Int→Int→Nat→Ty0→(Int→Int→Int→Option α)→(Option α)→Int→Bool→Nat→Nat→Nat→Int→Ty4→Ty0→Option α
def g43l0v1b{α:Type}(G86:Al S_g86)(G92:Al S_g92)(G81:Al S_g81)(a b:Int)(c d:Int)(e:Nat)(h:Ty0)(i:Int→Int→Int→Option α)(j:Option α)(l:Int→Bool→Nat→Nat→Nat→Int→Ty4→Ty0→Option α)(n:Int)(o:Bool)(p q r:Nat)(s:Int)(t:Ty4)(u:Ty0):Option α:=cond (decide (n≤d)) (G86 (IntKind.wrap .i16 a) (IntKind.wrap .i64 (n+(2:Int))) o p q r s e h t u (fun v w x y z a0 b0 c0 d0 e0 h0=>G86 (IntKind.wrap .i16 c) (IntKind.wrap .i64 (n+(2:Int))) x y z a0 b0 e h e0 h0 (fun i0 j0 l0 n0 o0 p0 q0 r0 s0 t0 u0=>G86 (IntKind.wrap .i16 b) (IntKind.wrap .i64 (n+(2:Int))) l0 n0 o0 p0 q0 e h t0 u0 (fun v0 w0 x0 y0 z0 a1 b1 c1 d1 e1 h1=>G92 v w i0 j0 x0 y0 z0 a1 b1 e h e1 h1 (fun i1 j1=>G92 i0 j0 v0 w0 j1 y0 z0 a1 b1 e h e1 h1 (fun l1 n1=>G81 n1 y0 z0 a1 b1 e h e1 h1 (fun o1 p1=>cond o1 (i (0:Int) (0:Int) p1) (cond (decide (i1>(0:Int))) (i (1:Int) n (0:Int)) (cond (decide (l1>(0:Int))) (i (2:Int) n (0:Int)) (l (IntKind.wrap .i64 (n+(1:Int))) n1 y0 z0 a1 p1 e1 h1)))))))))) (j)
def g43l0v1{α:Type}(G86:Al S_g86)(G92:Al S_g92)(G81:Al S_g81)(a b:Int)(c d:Int)(e:Nat)(h:Ty0)(i:Int→Int→Int→Option α)(j:Option α):Nat→Int→Bool→Nat→Nat→Nat→Int→Ty4→Ty0→Option α
 |0=>fun _ _ _ _ _ _ _ _=>none
 |m+1=>fun l n o p q r s t=>g43l0v1b G86 G92 G81 a b c d e h i j (g43l0v1 G86 G92 G81 a b c d e h i j m) l n o p q r s t
noncomputable def g43l0v1M{α:Type}(m:Nat):S_g43l0v1 α:=
 fun a b c d e h i j l n o p q r s t=>g43l0v1 (g86 m) (g92 m) (g81 m) a b c d e h i j m l n o p q r s t
def g43l0v1D:LoopD:={n:=80,low:=[0],sl:=[1,2,3,4,13,15],bl:=[0,1000001,1000002,1000003],tp:=[tI,tI,tI,tI,(.vl (.sv (.ptr 1000001 0))),tI],bp:=[(false,[(.seqv rN)]),(true,[(.one .bool),(.one (.slc 0 0 5)),(.one (.mpp 1000002)),(.one (.gsl 1000003 2)),(.one (.int .i64))]),(true,[(.mp rP mW)]),(true,[(.gro rP)])],xs:=[(1,[10,11,12]),(2,[])]}
def g43l0v1K{α:Type}(L:S_g43l0v1 α)(ls:List Lf)(k:KEx α):Option α:=
 L (lf ls 0).int (lf ls 1).int (lf ls 2).int (lf ls 3).int (lf ls 5).nat ((lf ls 6).lst rN)
  (fun c d e=>k .ret (mkSt 80 [10,11,12] [(.vl (.sv (.int .i64 c))),(.vl (.sv (.int .i64 d))),(.vl (.sv (.int .i64 e)))] [0] [(false,[(.seq rN (lf ls 5).nat ((lf ls 6).lst rN))])]))
  (k .normal (mkSt 80 [] [] [0] [(false,[(.seq rN (lf ls 5).nat ((lf ls 6).lst rN))])]))
  (lf ls 4).int (lf ls 7).bool (lf ls 8).nat (lf ls 9).nat (lf ls 10).nat (lf ls 11).int ((lf ls 12).map rP mW) ((lf ls 13).lst rP)
def g43b{α:Type}(G79v1:Al S_g79v1)(G86:Al S_g86)(G92:Al S_g92)(G81:Al S_g81)(L43l0:Al S_g43l0)(L43l0v1:Al S_g43l0v1)(a b c:Nat)(d e:Int)(h i:Int)(j:Nat)(l:Ty0)(n:Int→Int→Int→Option α):Option α:=G79v1 a b c i (64:Int) 0 3 3 j l [d,e,h] (fun o=>cond (o !=(0:Int)) (n (0:Int) (0:Int) o) (L43l0 d e h i (0:Int) j l (n (0:Int) (0:Int) (7:Int)))) (fun p q=>L43l0v1 d e h i j l (fun r s t=>n r s t) (n (0:Int) (0:Int) (7:Int)) (0:Int) false a b c (0:Int) p q)
noncomputable def g43{α:Type}(m:Nat):S_g43 α:=
 g43b (g79v1 m) (g86 m) (g92 m) (g81 m) (g43l0M m) (g43l0v1M m)
def g43tp:List TP:=[(.vl (.sv (.slc 0 0 5))),tI,tI,tI,tI]
def g43bp:List BP:=[(false,[(.seqv rN)])]
def g43K{α:Type}(G:S_g43 α)(ls:List Lf)(k:KRe α):Option α:=
 G (lf ls 0).nat (lf ls 1).nat (lf ls 2).nat (lf ls 3).int (lf ls 4).int (lf ls 5).int (lf ls 6).int (lf ls 7).nat ((lf ls 8).lst rN)
  (fun a b c=>k (.tup [(.sv (.int .i64 a)),(.sv (.int .i64 b)),(.sv (.int .i64 c))]) [[(.seq rN (lf ls 7).nat ((lf ls 8).lst rN))]] [])
def g43R{α:Type}(G:S_g43 α):=rowK g43tp g43bp (g43K G)
def g43hd(G79v1:Al S_g79v1)(G86:Al S_g86)(G92:Al S_g92)(G81:Al S_g81)(L43l0:Al S_g43l0)(L43l0v1:Al S_g43l0v1):Hd where
 call:=fun f args Bs k=>cond (Nat.beq f 79) (g79v1R G79v1 args Bs k) (cond (Nat.beq f 86) (g86R G86 args Bs k) (cond (Nat.beq f 92) (g92R G92 args Bs k) (cond (Nat.beq f 81) (g81R G81 args Bs k) (none))))
 loop:=fun id st k=>cond (Nat.beq id 0) (loopE g43l0D (g43l0K L43l0) (loopH g43l0v1D (g43l0v1K L43l0v1)) st k) (none)
 ro:=fun f=>cond (Nat.beq f 79) [0,1] (cond (Nat.beq f 81) [1,2,3] (cond (Nat.beq f 86) [1] (cond (Nat.beq f 92) [1,2,3] ([]))))
noncomputable def g43h(m:Nat):Hd:=g43hd (g79v1 m) (g86 m) (g92 m) (g81 m) (g43l0M m) (g43l0v1M m)
theorem g43l0Step(G79v1:Al S_g79v1)(G86:Al S_g86)(G92:Al S_g92)(G81:Al S_g81)(L43l0:Al S_g43l0)(L43l0v1:Al S_g43l0v1){α:Type}(L:S_g43l0 α)(ls:List Lf)(k:KEx α):
  g43l0K (fun a b c d e h i j=>g43l0b a b c d e h i j (L a b c d e h i j)) ls k=ev tab (g43hd G79v1 G86 G92 G81 L43l0 L43l0v1) (bodyAt Try.f43 0) (atHead g43l0D ls) (loopK g43l0D 0 (loopH g43l0D (g43l0K L)) k):=by kernel_rfl
theorem g43l0v1Step(G79v1:Al S_g79v1)(G86:Al S_g86)(G92:Al S_g92)(G81:Al S_g81)(L43l0:Al S_g43l0)(L43l0v1:Al S_g43l0v1){α:Type}(L:S_g43l0v1 α)(ls:List Lf)(k:KEx α):
  g43l0v1K (fun a b c d e h i j l n o p q r s t=>g43l0v1b G86 G92 G81 a b c d e h i j (L a b c d e h i j) l n o p q r s t) ls k=ev tab (g43hd G79v1 G86 G92 G81 L43l0 L43l0v1) (bodyAt Try.f43 0) (atHead g43l0v1D ls) (loopK g43l0v1D 0 (loopH g43l0v1D (g43l0v1K L)) k):=by kernel_rfl
theorem g43Main(G79v1:Al S_g79v1)(G86:Al S_g86)(G92:Al S_g92)(G81:Al S_g81)(L43l0:Al S_g43l0)(L43l0v1:Al S_g43l0v1){α:Type}(ls:List Lf)(k:KRe α):
  g43K (g43b G79v1 G86 G92 G81 L43l0 L43l0v1) ls k=evFun tab (g43hd G79v1 G86 G92 G81 L43l0 L43l0v1) Try.f43 (fT g43tp ls) (fB g43tp g43bp ls) k:=by kernel_rfl
theorem g43Calls(m:Nat):(g43h m).CallsOk Try.prog:=(cok_cons (g79v1Ok m) (cok_cons (g86Ok m) (cok_cons (g92Ok m) (cok_cons (g81Ok m) cok_nil))))
theorem g43l0OkV(m:Nat)(α:Type)(st:St)(k:KEx α)(r:α)(h:loopH g43l0D (g43l0K (g43l0M m)) st k=some r):
  LoopS Try.prog 0 (bodyAt Try.f43 0) st k r:=
 lpk (F:=fun n ls k=>g43l0K (fun a b c d e i j l=>g43l0 a b c d e i j l n) ls k) (g43Calls m) (lb0 (by kernel_rfl))
  (fun _ _=>rfl) (fun n ls k=>g43l0Step (g79v1 m) (g86 m) (g92 m) (g81 m) (g43l0M m) (g43l0v1M m) (fun a b c d e i j l=>g43l0 a b c d e i j l n) ls k) (n:=m) h
theorem g43l0v1OkV(m:Nat)(α:Type)(st:St)(k:KEx α)(r:α)(h:loopH g43l0v1D (g43l0v1K (g43l0v1M m)) st k=some r):
  LoopS Try.prog 0 (bodyAt Try.f43 0) st k r:=
 lpk (F:=fun n ls k=>g43l0v1K (fun a b c d e i j l o q s t u v w x=>g43l0v1 (g86 m) (g92 m) (g81 m) a b c d e i j l n o q s t u v w x) ls k) (g43Calls m) (lb0 (by kernel_rfl))
  (fun _ _=>rfl) (fun n ls k=>g43l0v1Step (g79v1 m) (g86 m) (g92 m) (g81 m) (g43l0M m) (g43l0v1M m) (fun a b c d e i j l=>g43l0v1 (g86 m) (g92 m) (g81 m) a b c d e i j l n) ls k) (n:=m) h
theorem g43l0Ok(m:Nat)(α:Type)(st:St)(k:KEx α)(r:α)(h:(g43h m).loop 0 st k=some r):
  LoopS Try.prog 0 (bodyAt Try.f43 0) st k r:=by
 replace h:(loopE g43l0D (g43l0K (g43l0M m)) (loopH g43l0v1D (g43l0v1K (g43l0v1M m)))) st k=some r:=h
 exact(loop_else h).elim (fun h=>g43l0OkV m α st k r h) (fun h=>g43l0v1OkV m α st k r h)
theorem g43Ok(m:Nat):RowOk Try.prog 43 (fun{α}=>g43R (g43 m (α:=α))):=
 rwk (g43Calls m) (lo1 (by kernel_rfl) (g43l0Ok m))
  (fun _=>g43Main (g79v1 m) (g86 m) (g92 m) (g81 m) (g43l0M m) (g43l0v1M m))
abbrev S_g8(α:Type):Type:=Nat→Nat→Nat→Int→Int→Int→Int→Nat→Ty0→(Bool→Option α)→Option α
def g8b{α:Type}(G30:Al S_g30)(G32:Al S_g32)(G42:Al S_g42)(G43:Al S_g43)(G34:Al S_g34)(a b c:Nat)(d e:Int)(h i:Int)(j:Nat)(l:Ty0)(n:Bool→Option α):Option α:=G30 a b c (1048576:Int) j l (fun o=>cond (decide (o<(0:Int))) (n true) (G32 a b c j l (fun p=>G42 0 b b d e h i b p (fun q r s=>G32 a b c j l (fun t=>G43 0 b b d e h i b t (fun u v w=>cond (u !=q) (n false) (cond (v !=r) (n false) (cond (w !=s) (n false) (G32 a b c j l (fun x=>G34 0 b b 0 b b b t b x (fun y=>cond (!y) (n false) (n true))))))))))))
noncomputable def g8{α:Type}(m:Nat):S_g8 α:=
 g8b (g30 m) (g32 m) (g42 m) (g43 m) (g34 m)
def g8tp:List TP:=[(.vl (.sv (.sla 0 0 5))),tI,tI,tI,tI]
def g8bp:List BP:=[(false,[(.seqv rN)])]
def g8K{α:Type}(G:S_g8 α)(ls:List Lf)(k:KRe α):Option α:=
 G (lf ls 0).nat (lf ls 1).nat (lf ls 2).nat (lf ls 3).int (lf ls 4).int (lf ls 5).int (lf ls 6).int (lf ls 7).nat ((lf ls 8).lst rN)
  (fun a=>k (.vl (.sv (.bool a))) [[(.seq rN (lf ls 7).nat ((lf ls 8).lst rN))]] [])
def g8hd(G30:Al S_g30)(G32:Al S_g32)(G42:Al S_g42)(G43:Al S_g43)(G34:Al S_g34):Hd where
 call:=fun f args Bs k=>cond (Nat.beq f 30) (g30R G30 args Bs k) (cond (Nat.beq f 32) (g32R G32 args Bs k) (cond (Nat.beq f 42) (g42R G42 args Bs k) (cond (Nat.beq f 43) (g43R G43 args Bs k) (cond (Nat.beq f 34) (g34R G34 args Bs k) (none)))))
 loop:=fun id st k=>none
 ro:=fun f=>cond (Nat.beq f 30) [0] (cond (Nat.beq f 32) [0] (cond (Nat.beq f 34) [0,1] (cond (Nat.beq f 42) [0] (cond (Nat.beq f 43) [0] ([])))))
noncomputable def g8h(m:Nat):Hd:=g8hd (g30 m) (g32 m) (g42 m) (g43 m) (g34 m)
theorem g8Main(G30:Al S_g30)(G32:Al S_g32)(G42:Al S_g42)(G43:Al S_g43)(G34:Al S_g34){α:Type}(ls:List Lf)(k:KRe α):
  g8K (g8b G30 G32 G42 G43 G34) ls k=evFun tab (g8hd G30 G32 G42 G43 G34) Try.f8 (fT g8tp ls) (fB g8tp g8bp ls) k:=by kernel_rfl
theorem g8Calls(m:Nat):(g8h m).CallsOk Try.prog:=(cok_cons (g30Ok m) (cok_cons (g32Ok m) (cok_cons (g42Ok m) (cok_cons (g43Ok m) (cok_cons (g34Ok m) cok_nil)))))
theorem g8Fn(m:Nat):FnOk Try.prog 8 g8tp g8bp (fun{α}=>g8K (g8 m (α:=α))):=
 fnk (g8Calls m) (lo0 (by kernel_rfl))
  (fun _=>g8Main (g30 m) (g32 m) (g42 m) (g43 m) (g34 m))
end Go.Proofs.Ytlmmgjngihlpeaa.Sx
