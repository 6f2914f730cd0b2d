/- Functions. Printed by our own sx.py. -/
import Derived.Test.YtlmmgjngihlpeaaGreatSxV0
namespace Go.Proofs.YtlmmgjngihlpeaaGreat.Sx
open Go
set_option linter.unusedVariables false
set_option maxRecDepth 100000
abbrev S_g33(α:Type):Type:=Bool→Int→Ty0→Ty1→Ty0→(Bool→Int→Option α)→Option α
def g33b{α:Type}(a:Bool)(b:Int)(c:Ty0)(d:Ty1)(e:Ty0)(h:Bool→Int→Option α):Option α:=cond (b==(0:Int)) (cond a (h true (3:Int)) (h (b !=(0:Int)) b)) (h (b !=(0:Int)) b)
def g33{α:Type}(m:Nat):S_g33 α:=
 g33b
def g33tp:List TP:=[(.vl (.sv (.ptr 0 0)))]
def g33bp:List BP:=[(true,[(.one .bool),(.one (.gsl 1 5)),(.one (.mpp 2)),(.one (.gsl 3 2)),(.one (.int .i64))]),(false,[(.gro rN)]),(false,[(.mp rP mW)]),(false,[(.gro rP)])]
def g33K{α:Type}(G:S_g33 α)(ls:List Lf)(k:KRe α):Option α:=
 G (lf ls 0).bool (lf ls 1).int ((lf ls 2).lst rN) ((lf ls 3).map rP mW) ((lf ls 4).lst rP)
  (fun c d=>k (.vl (.sv (.bool c))) [[(.one (.bool (lf ls 0).bool)),(.one (.gsl 1 5)),(.one (.mpp 2)),(.one (.gsl 3 2)),(.one (.int .i64 d))],[(.gro rN ((lf ls 2).lst rN))],[(.mp rP mW ((lf ls 3).map rP mW))],[(.gro rP ((lf ls 4).lst rP))]] [])
def g33R{α:Type}(G:S_g33 α):=rowK g33tp g33bp (g33K G)
def g33hd:Hd where
 call:=fun f args Bs k=>none
 loop:=fun id st k=>none
 ro:=fun f=>[]
def g33h(m:Nat):Hd:=g33hd
theorem g33Main{α:Type}(ls:List Lf)(k:KRe α):
  g33K (g33b) ls k=evFun tab (g33hd) Tryz.f33 (fT g33tp ls) (fB g33tp g33bp ls) k:=by kernel_rfl
theorem g33Calls(m:Nat):(g33h m).CallsOk Tryz.prog:=cok_nil
theorem g33Ok(m:Nat):RowOk Tryz.prog 33 (fun{α}=>g33R (g33 m (α:=α))):=
 rwk (g33Calls m) (lo0 (by kernel_rfl))
  (fun _=>g33Main)
abbrev S_g42v1(α:Type):Type:=Bool→(List Int)→Int→Bool→Int→Ty0→Ty1→Ty0→(Bool→(List Int)→Bool→Option α)→Option α
def g42v1b{α:Type}(G72:Al S_g72)(G44:Al S_g44)(G73:Al S_g73)(a:Bool)(b:List Int)(c:Int)(d:Bool)(e:Int)(h:Ty0)(i:Ty1)(j:Ty0)(l:Bool→(List Int)→Bool→Option α):Option α:=cond (decide (c>(191:Int))) (l false [0,0,0,0,0,0] true) (G72 b (fun n=>cond (decide ((IntKind.wrap .i64 (n+c))>(192:Int))) (l false [0,0,0,0,0,0] true) (G44 b c (fun o=>G73 a o (fun p=>l p o d)))))
def g42v1{α:Type}(m:Nat):S_g42v1 α:=
 g42v1b (g72 m) (g44 m) (g73 m)
def g42v1tp:List TP:=[(.vl (.sv (.ptr 0 0))),vW,tI]
def g42v1bp:List BP:=[(true,[(.one .bool),(.one (.gsl 1 5)),(.one (.mpp 2)),(.one (.gsl 3 2)),(.one (.int .i64))]),(false,[(.gro rN)]),(false,[(.mp rP mW)]),(false,[(.gro rP)])]
def g42v1K{α:Type}(G:S_g42v1 α)(ls:List Lf)(k:KRe α):Option α:=
 G (lf ls 0).bool ((lf ls 1).lst uU) (lf ls 2).int (lf ls 3).bool (lf ls 4).int ((lf ls 5).lst rN) ((lf ls 6).map rP mW) ((lf ls 7).lst rP)
  (fun c d e=>k (.vl (.agg [(.one (.bool c)),(.seq uU 6 d)])) [[(.one (.bool e)),(.one (.gsl 1 5)),(.one (.mpp 2)),(.one (.gsl 3 2)),(.one (.int .i64 (lf ls 4).int))],[(.gro rN ((lf ls 5).lst rN))],[(.mp rP mW ((lf ls 6).map rP mW))],[(.gro rP ((lf ls 7).lst rP))]] [])
def g42v1R{α:Type}(G:S_g42v1 α):=rowK g42v1tp g42v1bp (g42v1K G)
def g42v1hd(G72:Al S_g72)(G44:Al S_g44)(G73:Al S_g73):Hd where
 call:=fun f args Bs k=>cond (Nat.beq f 72) (g72R G72 args Bs k) (cond (Nat.beq f 44) (g44R G44 args Bs k) (cond (Nat.beq f 73) (g73R G73 args Bs k) (none)))
 loop:=fun id st k=>none
 ro:=fun f=>[]
def g42v1h(m:Nat):Hd:=g42v1hd (g72 m) (g44 m) (g73 m)
theorem g42v1Main(G72:Al S_g72)(G44:Al S_g44)(G73:Al S_g73){α:Type}(ls:List Lf)(k:KRe α):
  g42v1K (g42v1b G72 G44 G73) ls k=evFun tab (g42v1hd G72 G44 G73) Tryz.f42 (fT g42v1tp ls) (fB g42v1tp g42v1bp ls) k:=by kernel_rfl
theorem g42v1Calls(m:Nat):(g42v1h m).CallsOk Tryz.prog:=(cok_cons (g72Ok m) (cok_cons (g44Ok m) (cok_cons (g73Ok m) cok_nil)))
theorem g42v1Ok(m:Nat):RowOk Tryz.prog 42 (fun{α}=>g42v1R (g42v1 m (α:=α))):=
 rwk (g42v1Calls m) (lo0 (by kernel_rfl))
  (fun _=>g42v1Main (g72 m) (g44 m) (g73 m))
abbrev S_g53v1(α:Type):Type:=Bool→(List Int)→Bool→(List Int)→Bool→Int→Ty0→Ty1→Ty0→(Bool→(List Int)→Bool→Option α)→Option α
def g53v1b{α:Type}(G45:Al S_g45)(G73:Al S_g73)(G46:Al S_g46)(G84:Al S_g84)(a:Bool)(b:List Int)(c:Bool)(d:List Int)(e:Bool)(h:Int)(i:Ty0)(j:Ty1)(l:Ty0)(n:Bool→(List Int)→Bool→Option α):Option α:=cond (a==c) (G45 b d (fun o p=>cond e (G73 a o (fun q=>n q o true)) (G73 a o (fun r=>n r o p)))) (G46 b d (fun s=>cond (decide (s<(0:Int))) (G84 d b (fun t=>G73 c t (fun u=>n u t e))) (G84 b d (fun v=>G73 a v (fun w=>n w v e)))))
def g53v1{α:Type}(m:Nat):S_g53v1 α:=
 g53v1b (g45 m) (g73 m) (g46 m) (g84 m)
def g53v1tp:List TP:=[(.vl (.sv (.ptr 0 0))),vW,vW]
def g53v1bp:List BP:=[(true,[(.one .bool),(.one (.gsl 1 5)),(.one (.mpp 2)),(.one (.gsl 3 2)),(.one (.int .i64))]),(false,[(.gro rN)]),(false,[(.mp rP mW)]),(false,[(.gro rP)])]
def g53v1K{α:Type}(G:S_g53v1 α)(ls:List Lf)(k:KRe α):Option α:=
 G (lf ls 0).bool ((lf ls 1).lst uU) (lf ls 2).bool ((lf ls 3).lst uU) (lf ls 4).bool (lf ls 5).int ((lf ls 6).lst rN) ((lf ls 7).map rP mW) ((lf ls 8).lst rP)
  (fun c d e=>k (.vl (.agg [(.one (.bool c)),(.seq uU 6 d)])) [[(.one (.bool e)),(.one (.gsl 1 5)),(.one (.mpp 2)),(.one (.gsl 3 2)),(.one (.int .i64 (lf ls 5).int))],[(.gro rN ((lf ls 6).lst rN))],[(.mp rP mW ((lf ls 7).map rP mW))],[(.gro rP ((lf ls 8).lst rP))]] [])
def g53v1R{α:Type}(G:S_g53v1 α):=rowK g53v1tp g53v1bp (g53v1K G)
def g53v1hd(G45:Al S_g45)(G73:Al S_g73)(G46:Al S_g46)(G84:Al S_g84):Hd where
 call:=fun f args Bs k=>cond (Nat.beq f 45) (g45R G45 args Bs k) (cond (Nat.beq f 73) (g73R G73 args Bs k) (cond (Nat.beq f 46) (g46R G46 args Bs k) (cond (Nat.beq f 84) (g84R G84 args Bs k) (none))))
 loop:=fun id st k=>none
 ro:=fun f=>[]
def g53v1h(m:Nat):Hd:=g53v1hd (g45 m) (g73 m) (g46 m) (g84 m)
theorem g53v1Main(G45:Al S_g45)(G73:Al S_g73)(G46:Al S_g46)(G84:Al S_g84){α:Type}(ls:List Lf)(k:KRe α):
  g53v1K (g53v1b G45 G73 G46 G84) ls k=evFun tab (g53v1hd G45 G73 G46 G84) Tryz.f53 (fT g53v1tp ls) (fB g53v1tp g53v1bp ls) k:=by kernel_rfl
theorem g53v1Calls(m:Nat):(g53v1h m).CallsOk Tryz.prog:=(cok_cons (g45Ok m) (cok_cons (g73Ok m) (cok_cons (g46Ok m) (cok_cons (g84Ok m) cok_nil))))
theorem g53v1Ok(m:Nat):RowOk Tryz.prog 53 (fun{α}=>g53v1R (g53v1 m (α:=α))):=
 rwk (g53v1Calls m) (lo0 (by kernel_rfl))
  (fun _=>g53v1Main (g45 m) (g73 m) (g46 m) (g84 m))
abbrev S_g87v1(α:Type):Type:=Bool→(List Int)→Bool→(List Int)→Bool→Int→Ty0→Ty1→Ty0→(Bool→(List Int)→Bool→Option α)→Option α
def g87v1b{α:Type}(G112:Al S_g112)(G84:Al S_g84)(G46:Al S_g46)(G55:Al S_g55)(G53v1:Al S_g53v1)(a:Bool)(b:List Int)(c:Bool)(d:List Int)(e:Bool)(h:Int)(i:Ty0)(j:Ty1)(l:Ty0)(n:Bool→(List Int)→Bool→Option α):Option α:=G112 a b c d (fun o p q r=>G84 d r (fun s=>G46 r s (fun t=>cond (decide (t<(0:Int))) (n o p e) (G55 (1:Int) (fun u v=>G53v1 o p u v e h i j l (fun w x y=>n w x y))))))
def g87v1{α:Type}(m:Nat):S_g87v1 α:=
 g87v1b (g112 m) (g84 m) (g46 m) (g55 m) (g53v1 m)
def g87v1tp:List TP:=[(.vl (.sv (.ptr 0 0))),vW,vW]
def g87v1bp:List BP:=[(true,[(.one .bool),(.one (.gsl 1 5)),(.one (.mpp 2)),(.one (.gsl 3 2)),(.one (.int .i64))]),(false,[(.gro rN)]),(false,[(.mp rP mW)]),(false,[(.gro rP)])]
def g87v1K{α:Type}(G:S_g87v1 α)(ls:List Lf)(k:KRe α):Option α:=
 G (lf ls 0).bool ((lf ls 1).lst uU) (lf ls 2).bool ((lf ls 3).lst uU) (lf ls 4).bool (lf ls 5).int ((lf ls 6).lst rN) ((lf ls 7).map rP mW) ((lf ls 8).lst rP)
  (fun c d e=>k (.vl (.agg [(.one (.bool c)),(.seq uU 6 d)])) [[(.one (.bool e)),(.one (.gsl 1 5)),(.one (.mpp 2)),(.one (.gsl 3 2)),(.one (.int .i64 (lf ls 5).int))],[(.gro rN ((lf ls 6).lst rN))],[(.mp rP mW ((lf ls 7).map rP mW))],[(.gro rP ((lf ls 8).lst rP))]] [])
def g87v1R{α:Type}(G:S_g87v1 α):=rowK g87v1tp g87v1bp (g87v1K G)
def g87v1hd(G112:Al S_g112)(G84:Al S_g84)(G46:Al S_g46)(G55:Al S_g55)(G53v1:Al S_g53v1):Hd where
 call:=fun f args Bs k=>cond (Nat.beq f 112) (g112R G112 args Bs k) (cond (Nat.beq f 84) (g84R G84 args Bs k) (cond (Nat.beq f 46) (g46R G46 args Bs k) (cond (Nat.beq f 55) (g55R G55 args Bs k) (cond (Nat.beq f 53) (g53v1R G53v1 args Bs k) (none)))))
 loop:=fun id st k=>none
 ro:=fun f=>cond (Nat.beq f 53) [1,2,3] ([])
def g87v1h(m:Nat):Hd:=g87v1hd (g112 m) (g84 m) (g46 m) (g55 m) (g53v1 m)
theorem g87v1Main(G112:Al S_g112)(G84:Al S_g84)(G46:Al S_g46)(G55:Al S_g55)(G53v1:Al S_g53v1){α:Type}(ls:List Lf)(k:KRe α):
  g87v1K (g87v1b G112 G84 G46 G55 G53v1) ls k=evFun tab (g87v1hd G112 G84 G46 G55 G53v1) Tryz.f87 (fT g87v1tp ls) (fB g87v1tp g87v1bp ls) k:=by kernel_rfl
theorem g87v1Calls(m:Nat):(g87v1h m).CallsOk Tryz.prog:=(cok_cons (g112Ok m) (cok_cons (g84Ok m) (cok_cons (g46Ok m) (cok_cons (g55Ok m) (cok_cons (g53v1Ok m) cok_nil)))))
theorem g87v1Ok(m:Nat):RowOk Tryz.prog 87 (fun{α}=>g87v1R (g87v1 m (α:=α))):=
 rwk (g87v1Calls m) (lo0 (by kernel_rfl))
  (fun _=>g87v1Main (g112 m) (g84 m) (g46 m) (g55 m) (g53v1 m))
abbrev S_g32(α:Type):Type:=Int→Int→Bool→Int→Ty0→Ty1→Ty0→(Bool→(List Int)→Bool→Int→Ty0→Ty1→Ty0→Option α)→Option α
def g32tp:List TP:=[(.vl (.sv (.ptr 0 0))),(.vl (.sv (.int .i16))),tI]
def g32bp:List BP:=[(true,[(.one .bool),(.one (.gsl 1 5)),(.one (.mpp 2)),(.one (.gsl 3 2)),(.one (.int .i64))]),(false,[(.gro rN)]),(true,[(.mp rP mW)]),(true,[(.gro rP)])]
def g32K{α:Type}(G:S_g32 α)(ls:List Lf)(k:KRe α):Option α:=
 G (lf ls 0).int (lf ls 1).int (lf ls 2).bool (lf ls 3).int ((lf ls 4).lst rN) ((lf ls 5).map rP mW) ((lf ls 6).lst rP)
  (fun c d e h i j l=>k (.vl (.agg [(.one (.bool c)),(.seq uU 6 d)])) [[(.one (.bool e)),(.one (.gsl 1 5)),(.one (.mpp 2)),(.one (.gsl 4 2)),(.one (.int .i64 h))],[(.gro rN i)],[(.mp rP mW j)],[]] [[(.gro rP l)]])
abbrev HA32(A32:Al S_g32):Prop:=RowOk Tryz.prog 32 (fun{α}=>rowK g32tp g32bp (g32K (A32 (α:=α))))
def g32R{α:Type}(G:S_g32 α):=rowK g32tp g32bp (g32K G)
abbrev S_g88(α:Type):Type:=Int→Int→Int→Int→Int→Int→Bool→Int→Ty0→Ty1→Ty0→(Bool→(List Int)→Bool→(List Int)→Bool→Int→Ty1→Ty0→Option α)→Option α
def g88b{α:Type}(G32:Al S_g32)(a b:Int)(c d:Int)(e h:Int)(i:Bool)(j:Int)(l:Ty0)(n:Ty1)(o:Ty0)(p:Bool→(List Int)→Bool→(List Int)→Bool→Int→Ty1→Ty0→Option α):Option α:=G32 b h i j l n o (fun q r s t u v w=>G32 c h s t l v w (fun x y z a0 b0 c0 d0=>p q r x y z a0 c0 d0))
def g88(A32:Al S_g32){α:Type}(m:Nat):S_g88 α:=
 g88b A32
def g88tp:List TP:=[(.vl (.sv (.ptr 0 0))),(.vl (.agg [(.one (.int .i8)),(.one (.int .i16)),(.one (.int .i16)),(.one (.int .i64)),(.one (.int .i64))])),tI]
def g88bp:List BP:=[(true,[(.one .bool),(.one (.gsl 1 5)),(.one (.mpp 2)),(.one (.gsl 3 2)),(.one (.int .i64))]),(false,[(.gro rN)]),(true,[(.mp rP mW)]),(true,[(.gro rP)])]
def g88K{α:Type}(G:S_g88 α)(ls:List Lf)(k:KRe α):Option α:=
 G (lf ls 0).int (lf ls 1).int (lf ls 2).int (lf ls 3).int (lf ls 4).int (lf ls 5).int (lf ls 6).bool (lf ls 7).int ((lf ls 8).lst rN) ((lf ls 9).map rP mW) ((lf ls 10).lst rP)
  (fun c d e h i j l n=>k (.tup [(.agg [(.one (.bool c)),(.seq uU 6 d)]),(.agg [(.one (.bool e)),(.seq uU 6 h)])]) [[(.one (.bool i)),(.one (.gsl 1 5)),(.one (.mpp 2)),(.one (.gsl 4 2)),(.one (.int .i64 j))],[(.gro rN ((lf ls 8).lst rN))],[(.mp rP mW l)],[]] [[(.gro rP n)]])
def g88R{α:Type}(G:S_g88 α):=rowK g88tp g88bp (g88K G)
def g88hd(G32:Al S_g32):Hd where
 call:=fun f args Bs k=>cond (Nat.beq f 32) (g32R G32 args Bs k) (none)
 loop:=fun id st k=>none
 ro:=fun f=>cond (Nat.beq f 32) [1] ([])
def g88h(A32:Al S_g32)(m:Nat):Hd:=g88hd A32
theorem g88Main(G32:Al S_g32){α:Type}(ls:List Lf)(k:KRe α):
  g88K (g88b G32) ls k=evFunM tab (g88hd G32) Tryz.f88 3 (fT g88tp ls) (fB g88tp g88bp ls) k:=by kernel_rfl
theorem g88Calls(A32:Al S_g32)(hA32:HA32 A32)(m:Nat):(g88h A32 m).CallsOk Tryz.prog:=(cok_cons hA32 cok_nil)
theorem g88Fn(A32:Al S_g32)(hA32:HA32 A32)(m:Nat):FnOk Tryz.prog 88 g88tp g88bp (fun{α}=>g88K (g88 A32 m (α:=α))):=
 fn_okM (tab:=tab) (h:=g88h A32 m) (fn:=Tryz.f88) (F:=fun{α}=>g88K (g88 A32 m (α:=α))) tabOk (g88Calls A32 hA32 m) mixed (by kernel_rfl) (by kernel_rfl) (fun c hc=>by
  rw[bodyOf_some hc]
  exact loopsOk_of _ (fun p hp=>by rw[show loopsOf (bodyOf Tryz.f88)=[] by kernel_rfl] at hp;cases hp))
  (fun _=>g88Main A32)
theorem g88Ok(A32:Al S_g32)(hA32:HA32 A32)(m:Nat):RowOk Tryz.prog 88 (fun{α}=>g88R (g88 A32 m (α:=α))):=row_of (g88Fn A32 hA32 m)
abbrev S_g74v1(α:Type):Type:=Bool→(List Int)→Int→Bool→Int→Ty0→Ty1→Ty0→(Bool→(List Int)→Bool→Option α)→Option α
def g74v1b{α:Type}(G105:Al S_g105)(G43:Al S_g43)(G44:Al S_g44)(G84:Al S_g84)(G46:Al S_g46)(G45:Al S_g45)(G73:Al S_g73)(a:Bool)(b:List Int)(c:Int)(d:Bool)(e:Int)(h:Ty0)(i:Ty1)(j:Ty0)(l:Bool→(List Int)→Bool→Option α):Option α:=cond (decide (c>(191:Int))) (l false [0,0,0,0,0,0] true) (G105 b c (fun n=>cond (c==(0:Int)) (l a b d) (G43 (fun o=>G44 o (IntKind.wrap .i64 (c-(1:Int))) (fun p=>G44 n c (fun q=>G84 b q (fun r=>G46 r p (fun s=>cond (decide (s>(0:Int))) (G43 (fun t=>G45 n t (fun u v=>G73 a u (fun w=>l w u d)))) (cond (s==(0:Int)) (cond (!a) (G43 (fun x=>G45 n x (fun y z=>G73 a y (fun a0=>l a0 y d)))) (G73 a n (fun b0=>l b0 n d))) (G73 a n (fun c0=>l c0 n d)))))))))))
def g74v1{α:Type}(m:Nat):S_g74v1 α:=
 g74v1b (g105 m) (g43 m) (g44 m) (g84 m) (g46 m) (g45 m) (g73 m)
def g74v1tp:List TP:=[(.vl (.sv (.ptr 0 0))),vW,tI]
def g74v1bp:List BP:=[(true,[(.one .bool),(.one (.gsl 1 5)),(.one (.mpp 2)),(.one (.gsl 3 2)),(.one (.int .i64))]),(false,[(.gro rN)]),(false,[(.mp rP mW)]),(false,[(.gro rP)])]
def g74v1K{α:Type}(G:S_g74v1 α)(ls:List Lf)(k:KRe α):Option α:=
 G (lf ls 0).bool ((lf ls 1).lst uU) (lf ls 2).int (lf ls 3).bool (lf ls 4).int ((lf ls 5).lst rN) ((lf ls 6).map rP mW) ((lf ls 7).lst rP)
  (fun c d e=>k (.vl (.agg [(.one (.bool c)),(.seq uU 6 d)])) [[(.one (.bool e)),(.one (.gsl 1 5)),(.one (.mpp 2)),(.one (.gsl 3 2)),(.one (.int .i64 (lf ls 4).int))],[(.gro rN ((lf ls 5).lst rN))],[(.mp rP mW ((lf ls 6).map rP mW))],[(.gro rP ((lf ls 7).lst rP))]] [])
def g74v1R{α:Type}(G:S_g74v1 α):=rowK g74v1tp g74v1bp (g74v1K G)
def g74v1hd(G105:Al S_g105)(G43:Al S_g43)(G44:Al S_g44)(G84:Al S_g84)(G46:Al S_g46)(G45:Al S_g45)(G73:Al S_g73):Hd where
 call:=fun f args Bs k=>cond (Nat.beq f 105) (g105R G105 args Bs k) (cond (Nat.beq f 43) (g43R G43 args Bs k) (cond (Nat.beq f 44) (g44R G44 args Bs k) (cond (Nat.beq f 84) (g84R G84 args Bs k) (cond (Nat.beq f 46) (g46R G46 args Bs k) (cond (Nat.beq f 45) (g45R G45 args Bs k) (cond (Nat.beq f 73) (g73R G73 args Bs k) (none)))))))
 loop:=fun id st k=>none
 ro:=fun f=>[]
def g74v1h(m:Nat):Hd:=g74v1hd (g105 m) (g43 m) (g44 m) (g84 m) (g46 m) (g45 m) (g73 m)
theorem g74v1Main(G105:Al S_g105)(G43:Al S_g43)(G44:Al S_g44)(G84:Al S_g84)(G46:Al S_g46)(G45:Al S_g45)(G73:Al S_g73){α:Type}(ls:List Lf)(k:KRe α):
  g74v1K (g74v1b G105 G43 G44 G84 G46 G45 G73) ls k=evFun tab (g74v1hd G105 G43 G44 G84 G46 G45 G73) Tryz.f74 (fT g74v1tp ls) (fB g74v1tp g74v1bp ls) k:=by kernel_rfl
theorem g74v1Calls(m:Nat):(g74v1h m).CallsOk Tryz.prog:=(cok_cons (g105Ok m) (cok_cons (g43Ok m) (cok_cons (g44Ok m) (cok_cons (g84Ok m) (cok_cons (g46Ok m) (cok_cons (g45Ok m) (cok_cons (g73Ok m) cok_nil)))))))
theorem g74v1Ok(m:Nat):RowOk Tryz.prog 74 (fun{α}=>g74v1R (g74v1 m (α:=α))):=
 rwk (g74v1Calls m) (lo0 (by kernel_rfl))
  (fun _=>g74v1Main (g105 m) (g43 m) (g44 m) (g84 m) (g46 m) (g45 m) (g73 m))
abbrev S_g41v1(α:Type):Type:=Bool→(List Int)→Bool→(List Int)→Bool→Int→Ty0→Ty1→Ty0→(Bool→(List Int)→Bool→Option α)→Option α
def g41v1b{α:Type}(G71:Al S_g71)(G53v1:Al S_g53v1)(a:Bool)(b:List Int)(c:Bool)(d:List Int)(e:Bool)(h:Int)(i:Ty0)(j:Ty1)(l:Ty0)(n:Bool→(List Int)→Bool→Option α):Option α:=G71 c d (fun o=>G53v1 a b o d e h i j l (fun p q r=>n p q r))
def g41v1{α:Type}(m:Nat):S_g41v1 α:=
 g41v1b (g71 m) (g53v1 m)
def g41v1tp:List TP:=[(.vl (.sv (.ptr 0 0))),vW,vW]
def g41v1bp:List BP:=[(true,[(.one .bool),(.one (.gsl 1 5)),(.one (.mpp 2)),(.one (.gsl 3 2)),(.one (.int .i64))]),(false,[(.gro rN)]),(false,[(.mp rP mW)]),(false,[(.gro rP)])]
def g41v1K{α:Type}(G:S_g41v1 α)(ls:List Lf)(k:KRe α):Option α:=
 G (lf ls 0).bool ((lf ls 1).lst uU) (lf ls 2).bool ((lf ls 3).lst uU) (lf ls 4).bool (lf ls 5).int ((lf ls 6).lst rN) ((lf ls 7).map rP mW) ((lf ls 8).lst rP)
  (fun c d e=>k (.vl (.agg [(.one (.bool c)),(.seq uU 6 d)])) [[(.one (.bool e)),(.one (.gsl 1 5)),(.one (.mpp 2)),(.one (.gsl 3 2)),(.one (.int .i64 (lf ls 5).int))],[(.gro rN ((lf ls 6).lst rN))],[(.mp rP mW ((lf ls 7).map rP mW))],[(.gro rP ((lf ls 8).lst rP))]] [])
def g41v1R{α:Type}(G:S_g41v1 α):=rowK g41v1tp g41v1bp (g41v1K G)
def g41v1hd(G71:Al S_g71)(G53v1:Al S_g53v1):Hd where
 call:=fun f args Bs k=>cond (Nat.beq f 71) (g71R G71 args Bs k) (cond (Nat.beq f 53) (g53v1R G53v1 args Bs k) (none))
 loop:=fun id st k=>none
 ro:=fun f=>cond (Nat.beq f 53) [1,2,3] ([])
def g41v1h(m:Nat):Hd:=g41v1hd (g71 m) (g53v1 m)
theorem g41v1Main(G71:Al S_g71)(G53v1:Al S_g53v1){α:Type}(ls:List Lf)(k:KRe α):
  g41v1K (g41v1b G71 G53v1) ls k=evFun tab (g41v1hd G71 G53v1) Tryz.f41 (fT g41v1tp ls) (fB g41v1tp g41v1bp ls) k:=by kernel_rfl
theorem g41v1Calls(m:Nat):(g41v1h m).CallsOk Tryz.prog:=(cok_cons (g71Ok m) (cok_cons (g53v1Ok m) cok_nil))
theorem g41v1Ok(m:Nat):RowOk Tryz.prog 41 (fun{α}=>g41v1R (g41v1 m (α:=α))):=
 rwk (g41v1Calls m) (lo0 (by kernel_rfl))
  (fun _=>g41v1Main (g71 m) (g53v1 m))
abbrev S_g89(α:Type):Type:=Bool→(List Int)→Bool→(List Int)→(Int→Option α)→Option α
def g89b{α:Type}(G46:Al S_g46)(a:Bool)(b:List Int)(c:Bool)(d:List Int)(e:Int→Option α):Option α:=cond (!(a==c)) (cond a (e (-1:Int)) (cond (!(a==c)) (e (1:Int)) (cond a (G46 d b (fun h=>e h)) (G46 b d (fun i=>e i))))) (cond (!(a==c)) (e (1:Int)) (cond a (G46 d b (fun j=>e j)) (G46 b d (fun l=>e l))))
def g89{α:Type}(m:Nat):S_g89 α:=
 g89b (g46 m)
def g89tp:List TP:=[vW,vW]
def g89bp:List BP:=[]
def g89K{α:Type}(G:S_g89 α)(ls:List Lf)(k:KRe α):Option α:=
 G (lf ls 0).bool ((lf ls 1).lst uU) (lf ls 2).bool ((lf ls 3).lst uU)
  (fun a=>k (.vl (.sv (.int .i64 a))) [] [])
def g89R{α:Type}(G:S_g89 α):=rowK g89tp g89bp (g89K G)
def g89hd(G46:Al S_g46):Hd where
 call:=fun f args Bs k=>cond (Nat.beq f 46) (g46R G46 args Bs k) (none)
 loop:=fun id st k=>none
 ro:=fun f=>[]
def g89h(m:Nat):Hd:=g89hd (g46 m)
theorem g89Main(G46:Al S_g46){α:Type}(ls:List Lf)(k:KRe α):
  g89K (g89b G46) ls k=evFun tab (g89hd G46) Tryz.f89 (fT g89tp ls) (fB g89tp g89bp ls) k:=by kernel_rfl
theorem g89Calls(m:Nat):(g89h m).CallsOk Tryz.prog:=(cok_cons (g46Ok m) cok_nil)
theorem g89Ok(m:Nat):RowOk Tryz.prog 89 (fun{α}=>g89R (g89 m (α:=α))):=
 rwk (g89Calls m) (lo0 (by kernel_rfl))
  (fun _=>g89Main (g46 m))
abbrev S_g113(α:Type):Type:=Int→Bool→Int→Ty0→Ty1→Ty0→(Int→Bool→Int→Ty1→Ty0→Option α)→Option α
def g113b{α:Type}(G32:Al S_g32)(G72:Al S_g72)(a:Int)(b:Bool)(c:Int)(d:Ty0)(e:Ty1)(h:Ty0)(i:Int→Bool→Int→Ty1→Ty0→Option α):Option α:=G32 a (0:Int) b c d e h (fun j l n o p q r=>G72 l (fun s=>i s n o q r))
def g113(A32:Al S_g32){α:Type}(m:Nat):S_g113 α:=
 g113b A32 (g72 m)
def g113tp:List TP:=[(.vl (.sv (.ptr 0 0))),(.vl (.sv (.int .i16)))]
def g113bp:List BP:=[(true,[(.one .bool),(.one (.gsl 1 5)),(.one (.mpp 2)),(.one (.gsl 3 2)),(.one (.int .i64))]),(false,[(.gro rN)]),(true,[(.mp rP mW)]),(true,[(.gro rP)])]
def g113K{α:Type}(G:S_g113 α)(ls:List Lf)(k:KRe α):Option α:=
 G (lf ls 0).int (lf ls 1).bool (lf ls 2).int ((lf ls 3).lst rN) ((lf ls 4).map rP mW) ((lf ls 5).lst rP)
  (fun c d e h i=>k (.vl (.sv (.int .i64 c))) [[(.one (.bool d)),(.one (.gsl 1 5)),(.one (.mpp 2)),(.one (.gsl 4 2)),(.one (.int .i64 e))],[(.gro rN ((lf ls 3).lst rN))],[(.mp rP mW h)],[]] [[(.gro rP i)]])
def g113R{α:Type}(G:S_g113 α):=rowK g113tp g113bp (g113K G)
def g113hd(G32:Al S_g32)(G72:Al S_g72):Hd where
 call:=fun f args Bs k=>cond (Nat.beq f 32) (g32R G32 args Bs k) (cond (Nat.beq f 72) (g72R G72 args Bs k) (none))
 loop:=fun id st k=>none
 ro:=fun f=>cond (Nat.beq f 32) [1] ([])
def g113h(A32:Al S_g32)(m:Nat):Hd:=g113hd A32 (g72 m)
theorem g113Main(G32:Al S_g32)(G72:Al S_g72){α:Type}(ls:List Lf)(k:KRe α):
  g113K (g113b G32 G72) ls k=evFunM tab (g113hd G32 G72) Tryz.f113 3 (fT g113tp ls) (fB g113tp g113bp ls) k:=by kernel_rfl
theorem g113Calls(A32:Al S_g32)(hA32:HA32 A32)(m:Nat):(g113h A32 m).CallsOk Tryz.prog:=(cok_cons hA32 (cok_cons (g72Ok m) cok_nil))
theorem g113Fn(A32:Al S_g32)(hA32:HA32 A32)(m:Nat):FnOk Tryz.prog 113 g113tp g113bp (fun{α}=>g113K (g113 A32 m (α:=α))):=
 fn_okM (tab:=tab) (h:=g113h A32 m) (fn:=Tryz.f113) (F:=fun{α}=>g113K (g113 A32 m (α:=α))) tabOk (g113Calls A32 hA32 m) mixed (by kernel_rfl) (by kernel_rfl) (fun c hc=>by
  rw[bodyOf_some hc]
  exact loopsOk_of _ (fun p hp=>by rw[show loopsOf (bodyOf Tryz.f113)=[] by kernel_rfl] at hp;cases hp))
  (fun _=>g113Main A32 (g72 m))
theorem g113Ok(A32:Al S_g32)(hA32:HA32 A32)(m:Nat):RowOk Tryz.prog 113 (fun{α}=>g113R (g113 A32 m (α:=α))):=row_of (g113Fn A32 hA32 m)
abbrev S_g54v1(α:Type):Type:=Bool→(List Int)→Bool→(List Int)→Bool→Int→Ty0→Ty1→Ty0→(Bool→(List Int)→Bool→Option α)→Option α
def g54v1b{α:Type}(G85:Al S_g85)(G73:Al S_g73)(a:Bool)(b:List Int)(c:Bool)(d:List Int)(e:Bool)(h:Int)(i:Ty0)(j:Ty1)(l:Ty0)(n:Bool→(List Int)→Bool→Option α):Option α:=G85 b d (fun o p=>cond e (G73 (!(a==c)) o (fun q=>n q o true)) (G73 (!(a==c)) o (fun r=>n r o p)))
def g54v1{α:Type}(m:Nat):S_g54v1 α:=
 g54v1b (g85 m) (g73 m)
def g54v1tp:List TP:=[(.vl (.sv (.ptr 0 0))),vW,vW]
def g54v1bp:List BP:=[(true,[(.one .bool),(.one (.gsl 1 5)),(.one (.mpp 2)),(.one (.gsl 3 2)),(.one (.int .i64))]),(false,[(.gro rN)]),(false,[(.mp rP mW)]),(false,[(.gro rP)])]
def g54v1K{α:Type}(G:S_g54v1 α)(ls:List Lf)(k:KRe α):Option α:=
 G (lf ls 0).bool ((lf ls 1).lst uU) (lf ls 2).bool ((lf ls 3).lst uU) (lf ls 4).bool (lf ls 5).int ((lf ls 6).lst rN) ((lf ls 7).map rP mW) ((lf ls 8).lst rP)
  (fun c d e=>k (.vl (.agg [(.one (.bool c)),(.seq uU 6 d)])) [[(.one (.bool e)),(.one (.gsl 1 5)),(.one (.mpp 2)),(.one (.gsl 3 2)),(.one (.int .i64 (lf ls 5).int))],[(.gro rN ((lf ls 6).lst rN))],[(.mp rP mW ((lf ls 7).map rP mW))],[(.gro rP ((lf ls 8).lst rP))]] [])
def g54v1R{α:Type}(G:S_g54v1 α):=rowK g54v1tp g54v1bp (g54v1K G)
def g54v1hd(G85:Al S_g85)(G73:Al S_g73):Hd where
 call:=fun f args Bs k=>cond (Nat.beq f 85) (g85R G85 args Bs k) (cond (Nat.beq f 73) (g73R G73 args Bs k) (none))
 loop:=fun id st k=>none
 ro:=fun f=>[]
def g54v1h(m:Nat):Hd:=g54v1hd (g85 m) (g73 m)
theorem g54v1Main(G85:Al S_g85)(G73:Al S_g73){α:Type}(ls:List Lf)(k:KRe α):
  g54v1K (g54v1b G85 G73) ls k=evFun tab (g54v1hd G85 G73) Tryz.f54 (fT g54v1tp ls) (fB g54v1tp g54v1bp ls) k:=by kernel_rfl
theorem g54v1Calls(m:Nat):(g54v1h m).CallsOk Tryz.prog:=(cok_cons (g85Ok m) (cok_cons (g73Ok m) cok_nil))
theorem g54v1Ok(m:Nat):RowOk Tryz.prog 54 (fun{α}=>g54v1R (g54v1 m (α:=α))):=
 rwk (g54v1Calls m) (lo0 (by kernel_rfl))
  (fun _=>g54v1Main (g85 m) (g73 m))
abbrev S_g90(α:Type):Type:=Int→Int→Int→Int→Int→Int→Bool→Int→Ty0→Ty1→Ty0→(Bool→(List Int)→Bool→Int→Ty1→Ty0→Option α)→Option α
def g90b{α:Type}(G113:Al S_g113)(G32:Al S_g32)(G33:Al S_g33)(G54v1:Al S_g54v1)(G74v1:Al S_g74v1)(a b:Int)(c d:Int)(e h:Int)(i:Bool)(j:Int)(l:Ty0)(n:Ty1)(o:Ty0)(p:Bool→(List Int)→Bool→Int→Ty1→Ty0→Option α):Option α:=G113 b i j l n o (fun q r s t u=>G113 c r s l t u (fun v w x y z=>G32 b (IntKind.wrap .i64 ((IntKind.wrap .i64 (h+v))+(3:Int))) w x l y z (fun a0 b0 c0 d0 e0 h0 i0=>G32 c (IntKind.wrap .i64 ((IntKind.wrap .i64 (h+q))+(3:Int))) c0 d0 l h0 i0 (fun j0 l0 n0 o0 p0 q0 r0=>G33 n0 o0 l q0 r0 (fun s0 t0=>cond s0 (p false [0,0,0,0,0,0] n0 t0 q0 r0) (G54v1 a0 b0 j0 l0 n0 t0 l q0 r0 (fun u0 v0 w0=>G74v1 u0 v0 (IntKind.wrap .i64 ((IntKind.wrap .i64 ((IntKind.wrap .i64 (h+q))+v))+(6:Int))) w0 t0 l q0 r0 (fun x0 y0 z0=>p x0 y0 z0 t0 q0 r0))))))))
def g90(A32:Al S_g32){α:Type}(m:Nat):S_g90 α:=
 g90b (g113 A32 m) A32 (g33 m) (g54v1 m) (g74v1 m)
def g90tp:List TP:=[(.vl (.sv (.ptr 0 0))),(.vl (.agg [(.one (.int .i8)),(.one (.int .i16)),(.one (.int .i16)),(.one (.int .i64)),(.one (.int .i64))])),tI]
def g90bp:List BP:=[(true,[(.one .bool),(.one (.gsl 1 5)),(.one (.mpp 2)),(.one (.gsl 3 2)),(.one (.int .i64))]),(false,[(.gro rN)]),(true,[(.mp rP mW)]),(true,[(.gro rP)])]
def g90K{α:Type}(G:S_g90 α)(ls:List Lf)(k:KRe α):Option α:=
 G (lf ls 0).int (lf ls 1).int (lf ls 2).int (lf ls 3).int (lf ls 4).int (lf ls 5).int (lf ls 6).bool (lf ls 7).int ((lf ls 8).lst rN) ((lf ls 9).map rP mW) ((lf ls 10).lst rP)
  (fun c d e h i j=>k (.vl (.agg [(.one (.bool c)),(.seq uU 6 d)])) [[(.one (.bool e)),(.one (.gsl 1 5)),(.one (.mpp 2)),(.one (.gsl 4 2)),(.one (.int .i64 h))],[(.gro rN ((lf ls 8).lst rN))],[(.mp rP mW i)],[]] [[(.gro rP j)]])
def g90R{α:Type}(G:S_g90 α):=rowK g90tp g90bp (g90K G)
def g90hd(G113:Al S_g113)(G32:Al S_g32)(G33:Al S_g33)(G54v1:Al S_g54v1)(G74v1:Al S_g74v1):Hd where
 call:=fun f args Bs k=>cond (Nat.beq f 113) (g113R G113 args Bs k) (cond (Nat.beq f 32) (g32R G32 args Bs k) (cond (Nat.beq f 33) (g33R G33 args Bs k) (cond (Nat.beq f 54) (g54v1R G54v1 args Bs k) (cond (Nat.beq f 74) (g74v1R G74v1 args Bs k) (none)))))
 loop:=fun id st k=>none
 ro:=fun f=>cond (Nat.beq f 32) [1] (cond (Nat.beq f 33) [1,2,3] (cond (Nat.beq f 54) [1,2,3] (cond (Nat.beq f 74) [1,2,3] (cond (Nat.beq f 113) [1] ([])))))
def g90h(A32:Al S_g32)(m:Nat):Hd:=g90hd (g113 A32 m) A32 (g33 m) (g54v1 m) (g74v1 m)
theorem g90Main(G113:Al S_g113)(G32:Al S_g32)(G33:Al S_g33)(G54v1:Al S_g54v1)(G74v1:Al S_g74v1){α:Type}(ls:List Lf)(k:KRe α):
  g90K (g90b G113 G32 G33 G54v1 G74v1) ls k=evFunM tab (g90hd G113 G32 G33 G54v1 G74v1) Tryz.f90 3 (fT g90tp ls) (fB g90tp g90bp ls) k:=by kernel_rfl
theorem g90Calls(A32:Al S_g32)(hA32:HA32 A32)(m:Nat):(g90h A32 m).CallsOk Tryz.prog:=(cok_cons (g113Ok A32 hA32 m) (cok_cons hA32 (cok_cons (g33Ok m) (cok_cons (g54v1Ok m) (cok_cons (g74v1Ok m) cok_nil)))))
theorem g90Fn(A32:Al S_g32)(hA32:HA32 A32)(m:Nat):FnOk Tryz.prog 90 g90tp g90bp (fun{α}=>g90K (g90 A32 m (α:=α))):=
 fn_okM (tab:=tab) (h:=g90h A32 m) (fn:=Tryz.f90) (F:=fun{α}=>g90K (g90 A32 m (α:=α))) tabOk (g90Calls A32 hA32 m) mixed (by kernel_rfl) (by kernel_rfl) (fun c hc=>by
  rw[bodyOf_some hc]
  exact loopsOk_of _ (fun p hp=>by rw[show loopsOf (bodyOf Tryz.f90)=[] by kernel_rfl] at hp;cases hp))
  (fun _=>g90Main (g113 A32 m) A32 (g33 m) (g54v1 m) (g74v1 m))
theorem g90Ok(A32:Al S_g32)(hA32:HA32 A32)(m:Nat):RowOk Tryz.prog 90 (fun{α}=>g90R (g90 A32 m (α:=α))):=row_of (g90Fn A32 hA32 m)
abbrev S_g114(α:Type):Type:=Int→Bool→Int→Ty0→Ty1→Ty0→(Int→Bool→Int→Ty1→Ty0→Option α)→Option α
abbrev S_g114l0(α:Type):Type:=Int→Ty0→(Int→Bool→Int→Ty1→Ty0→Option α)→(Bool→Int→Ty1→Ty0→Option α)→Int→Bool→Int→Ty1→Ty0→Option α
def g114l0b{α:Type}(G32:Al S_g32)(G33:Al S_g33)(G46:Al S_g46)(a:Int)(b:Ty0)(c:Int→Bool→Int→Ty1→Ty0→Option α)(d:Bool→Int→Ty1→Ty0→Option α)(e:Int→Bool→Int→Ty1→Ty0→Option α)(h:Int)(i:Bool)(j:Int)(l:Ty1)(n:Ty0):Option α:=cond (decide (h≤(40:Int))) (G32 a (IntKind.wrap .i64 (h+(2:Int))) i j b l n (fun o p q r s t u=>G33 q r b t u (fun v w=>cond v (c (0:Int) q w t u) (G46 p [(5:Int),0,0,0,0,0] (fun x=>cond (decide (x≥(0:Int))) (c h q w t u) (e (IntKind.wrap .i64 (h+(1:Int))) q w t u)))))) (d i j l n)
def g114l0{α:Type}(G32:Al S_g32)(G33:Al S_g33)(G46:Al S_g46)(a:Int)(b:Ty0)(c:Int→Bool→Int→Ty1→Ty0→Option α)(d:Bool→Int→Ty1→Ty0→Option α):Nat→Int→Bool→Int→Ty1→Ty0→Option α
 |0=>fun _ _ _ _ _=>none
 |m+1=>fun e h i j l=>g114l0b G32 G33 G46 a b c d (g114l0 G32 G33 G46 a b c d m) e h i j l
def g114l0M(A32:Al S_g32){α:Type}(m:Nat):S_g114l0 α:=
 fun a b c d e h i j l=>g114l0 A32 (g33 m) (g46 m) a b c d m e h i j l
def g114l0D:LoopD:={n:=27,low:=[0,1,2,3],sl:=[0,1,5],bl:=[0,1,2,3,1000004],tp:=[(.vl (.sv (.ptr 0 0))),(.vl (.sv (.int .i16))),tI],bp:=[(true,[(.one .bool),(.one (.gsl 1 5)),(.one (.mpp 2)),(.one (.gsl 1000004 2)),(.one (.int .i64))]),(false,[(.gro rN)]),(true,[(.mp rP mW)]),(true,[]),(true,[(.gro rP)])],xs:=[(1,[4]),(2,[0])]}
def g114l0K{α:Type}(L:S_g114l0 α)(ls:List Lf)(k:KEx α):Option α:=
 L (lf ls 0).int ((lf ls 4).lst rN)
  (fun c d e h i=>k .ret (mkSt 27 [4] [(.vl (.sv (.int .i64 c)))] [0,1,2,3,1000004] [(true,[(.one (.bool d)),(.one (.gsl 1 5)),(.one (.mpp 2)),(.one (.gsl 1000004 2)),(.one (.int .i64 e))]),(false,[(.gro rN ((lf ls 4).lst rN))]),(true,[(.mp rP mW h)]),(true,[]),(true,[(.gro rP i)])]))
  (fun c d j h=>k .normal (mkSt 27 [0] [(.vl (.sv (.ptr 0 0)))] [0,1,2,3,1000004] [(true,[(.one (.bool c)),(.one (.gsl 1 5)),(.one (.mpp 2)),(.one (.gsl 1000004 2)),(.one (.int .i64 d))]),(false,[(.gro rN ((lf ls 4).lst rN))]),(true,[(.mp rP mW j)]),(true,[]),(true,[(.gro rP h)])]))
  (lf ls 1).int (lf ls 2).bool (lf ls 3).int ((lf ls 5).map rP mW) ((lf ls 6).lst rP)
def g114b{α:Type}(G32:Al S_g32)(G33:Al S_g33)(G46:Al S_g46)(L114l0:Al S_g114l0)(a:Int)(b:Bool)(c:Int)(d:Ty0)(e:Ty1)(h:Ty0)(i:Int→Bool→Int→Ty1→Ty0→Option α):Option α:=L114l0 a d (fun j l n o p=>i j l n o p) (fun q r s t=>i (0:Int) q (7:Int) s t) (0:Int) b c e h
def g114(A32:Al S_g32){α:Type}(m:Nat):S_g114 α:=
 g114b A32 (g33 m) (g46 m) (g114l0M A32 m)
def g114tp:List TP:=[(.vl (.sv (.ptr 0 0))),(.vl (.sv (.int .i16)))]
def g114bp:List BP:=[(true,[(.one .bool),(.one (.gsl 1 5)),(.one (.mpp 2)),(.one (.gsl 3 2)),(.one (.int .i64))]),(false,[(.gro rN)]),(true,[(.mp rP mW)]),(true,[(.gro rP)])]
def g114K{α:Type}(G:S_g114 α)(ls:List Lf)(k:KRe α):Option α:=
 G (lf ls 0).int (lf ls 1).bool (lf ls 2).int ((lf ls 3).lst rN) ((lf ls 4).map rP mW) ((lf ls 5).lst rP)
  (fun c d e h i=>k (.vl (.sv (.int .i64 c))) [[(.one (.bool d)),(.one (.gsl 1 5)),(.one (.mpp 2)),(.one (.gsl 4 2)),(.one (.int .i64 e))],[(.gro rN ((lf ls 3).lst rN))],[(.mp rP mW h)],[]] [[(.gro rP i)]])
def g114R{α:Type}(G:S_g114 α):=rowK g114tp g114bp (g114K G)
def g114hd(G32:Al S_g32)(G33:Al S_g33)(G46:Al S_g46)(L114l0:Al S_g114l0):Hd where
 call:=fun f args Bs k=>cond (Nat.beq f 32) (g32R G32 args Bs k) (cond (Nat.beq f 33) (g33R G33 args Bs k) (cond (Nat.beq f 46) (g46R G46 args Bs k) (none)))
 loop:=fun id st k=>cond (Nat.beq id 0) (loopH g114l0D (g114l0K L114l0) st k) (none)
 ro:=fun f=>cond (Nat.beq f 32) [1] (cond (Nat.beq f 33) [1,2,3] ([]))
def g114h(A32:Al S_g32)(m:Nat):Hd:=g114hd A32 (g33 m) (g46 m) (g114l0M A32 m)
theorem g114l0Step(G32:Al S_g32)(G33:Al S_g33)(G46:Al S_g46)(L114l0:Al S_g114l0){α:Type}(L:S_g114l0 α)(ls:List Lf)(k:KEx α):
  g114l0K (fun a b c d e h i j l=>g114l0b G32 G33 G46 a b c d (L a b c d) e h i j l) ls k=ev tab (g114hd G32 G33 G46 L114l0) (bodyAt Tryz.f114 0) (atHead g114l0D ls) (loopK g114l0D 0 (loopH g114l0D (g114l0K L)) k):=by kernel_rfl
theorem g114Main(G32:Al S_g32)(G33:Al S_g33)(G46:Al S_g46)(L114l0:Al S_g114l0){α:Type}(ls:List Lf)(k:KRe α):
  g114K (g114b G32 G33 G46 L114l0) ls k=evFunM tab (g114hd G32 G33 G46 L114l0) Tryz.f114 3 (fT g114tp ls) (fB g114tp g114bp ls) k:=by kernel_rfl
theorem g114Calls(A32:Al S_g32)(hA32:HA32 A32)(m:Nat):(g114h A32 m).CallsOk Tryz.prog:=(cok_cons hA32 (cok_cons (g33Ok m) (cok_cons (g46Ok m) cok_nil)))
theorem g114l0Ok(A32:Al S_g32)(hA32:HA32 A32)(m:Nat)(α:Type)(st:St)(k:KEx α)(r:α)(h:(g114h A32 m).loop 0 st k=some r):
  LoopS Tryz.prog 0 (bodyAt Tryz.f114 0) st k r:=
 lpk (F:=fun n ls k=>g114l0K (fun a b c d e i j l o=>g114l0 A32 (g33 m) (g46 m) a b c d n e i j l o) ls k) (g114Calls A32 hA32 m) (lb0 (by kernel_rfl))
  (fun _ _=>rfl) (fun n ls k=>g114l0Step A32 (g33 m) (g46 m) (g114l0M A32 m) (fun a b c d=>g114l0 A32 (g33 m) (g46 m) a b c d n) ls k) (n:=m) h
theorem g114Fn(A32:Al S_g32)(hA32:HA32 A32)(m:Nat):FnOk Tryz.prog 114 g114tp g114bp (fun{α}=>g114K (g114 A32 m (α:=α))):=
 fn_okM (tab:=tab) (h:=g114h A32 m) (fn:=Tryz.f114) (F:=fun{α}=>g114K (g114 A32 m (α:=α))) tabOk (g114Calls A32 hA32 m) mixed (by kernel_rfl) (by kernel_rfl) (fun c hc=>by
  rw[bodyOf_some hc]
  exact loopsOk_of _ (fun p hp=>by
  rw[show loopsOf (bodyOf Tryz.f114)=[(0,bodyAt Tryz.f114 0)] by kernel_rfl] at hp
  simp only[List.mem_cons,List.not_mem_nil,or_false] at hp
  rcases hp with rfl
  exact g114l0Ok A32 hA32 m))
  (fun _=>g114Main A32 (g33 m) (g46 m) (g114l0M A32 m))
theorem g114Ok(A32:Al S_g32)(hA32:HA32 A32)(m:Nat):RowOk Tryz.prog 114 (fun{α}=>g114R (g114 A32 m (α:=α))):=row_of (g114Fn A32 hA32 m)
abbrev S_g75(α:Type):Type:=Bool→(List Int)→(Int→Option α)→Option α
def g75b{α:Type}(a:Bool)(b:List Int)(c:Int→Option α):Option α:=cond a (c (-1:Int)) (cond (eqLI b [0,0,0,0,0,0]) (c (0:Int)) (c (1:Int)))
def g75{α:Type}(m:Nat):S_g75 α:=
 g75b
def g75tp:List TP:=[vW]
def g75bp:List BP:=[]
def g75K{α:Type}(G:S_g75 α)(ls:List Lf)(k:KRe α):Option α:=
 G (lf ls 0).bool ((lf ls 1).lst uU)
  (fun a=>k (.vl (.sv (.int .i64 a))) [] [])
def g75R{α:Type}(G:S_g75 α):=rowK g75tp g75bp (g75K G)
def g75hd:Hd where
 call:=fun f args Bs k=>none
 loop:=fun id st k=>none
 ro:=fun f=>[]
def g75h(m:Nat):Hd:=g75hd
theorem g75Main{α:Type}(ls:List Lf)(k:KRe α):
  g75K (g75b) ls k=evFun tab (g75hd) Tryz.f75 (fT g75tp ls) (fB g75tp g75bp ls) k:=by kernel_rfl
theorem g75Calls(m:Nat):(g75h m).CallsOk Tryz.prog:=cok_nil
theorem g75Ok(m:Nat):RowOk Tryz.prog 75 (fun{α}=>g75R (g75 m (α:=α))):=
 rwk (g75Calls m) (lo0 (by kernel_rfl))
  (fun _=>g75Main)
abbrev S_g91(α:Type):Type:=Int→Int→Int→Int→Int→Int→Bool→Int→Ty0→Ty1→Ty0→(Bool→(List Int)→Bool→Int→Ty1→Ty0→Option α)→Option α
def g91b{α:Type}(G114:Al S_g114)(G33:Al S_g33)(G113:Al S_g113)(G32:Al S_g32)(G42v1:Al S_g42v1)(G75:Al S_g75)(G87v1:Al S_g87v1)(a b:Int)(c d:Int)(e h:Int)(i:Bool)(j:Int)(l:Ty0)(n:Ty1)(o:Ty0)(p:Bool→(List Int)→Bool→Int→Ty1→Ty0→Option α):Option α:=G114 c i j l n o (fun q r s t u=>G33 r s l t u (fun v w=>cond v (p false [0,0,0,0,0,0] r w t u) (G113 b r w l t u (fun x y z a0 b0=>G32 b (IntKind.wrap .i64 ((IntKind.wrap .i64 (h+q))+(3:Int))) y z l a0 b0 (fun c0 d0 e0 h0 i0 j0 l0=>G32 c (IntKind.wrap .i64 ((IntKind.wrap .i64 ((IntKind.wrap .i64 (h+x))+(IntKind.wrap .i64 ((2:Int)*q))))+(4:Int))) e0 h0 l j0 l0 (fun n0 o0 p0 q0 r0 s0 t0=>G33 p0 q0 l s0 t0 (fun u0 v0=>cond u0 (p false [0,0,0,0,0,0] p0 v0 s0 t0) (G42v1 c0 d0 (IntKind.wrap .i64 ((IntKind.wrap .i64 ((IntKind.wrap .i64 (h+x))+q))+(1:Int))) p0 v0 l s0 t0 (fun w0 x0 y0=>G33 y0 v0 l s0 t0 (fun z0 a1=>cond z0 (p false [0,0,0,0,0,0] y0 a1 s0 t0) (G75 n0 o0 (fun b1=>cond (b1==(0:Int)) (p false [0,0,0,0,0,0] y0 a1 s0 t0) (G87v1 w0 x0 n0 o0 y0 a1 l s0 t0 (fun c1 d1 e1=>p c1 d1 e1 a1 s0 t0))))))))))))))
def g91(A32:Al S_g32){α:Type}(m:Nat):S_g91 α:=
 g91b (g114 A32 m) (g33 m) (g113 A32 m) A32 (g42v1 m) (g75 m) (g87v1 m)
def g91tp:List TP:=[(.vl (.sv (.ptr 0 0))),(.vl (.agg [(.one (.int .i8)),(.one (.int .i16)),(.one (.int .i16)),(.one (.int .i64)),(.one (.int .i64))])),tI]
def g91bp:List BP:=[(true,[(.one .bool),(.one (.gsl 1 5)),(.one (.mpp 2)),(.one (.gsl 3 2)),(.one (.int .i64))]),(false,[(.gro rN)]),(true,[(.mp rP mW)]),(true,[(.gro rP)])]
def g91K{α:Type}(G:S_g91 α)(ls:List Lf)(k:KRe α):Option α:=
 G (lf ls 0).int (lf ls 1).int (lf ls 2).int (lf ls 3).int (lf ls 4).int (lf ls 5).int (lf ls 6).bool (lf ls 7).int ((lf ls 8).lst rN) ((lf ls 9).map rP mW) ((lf ls 10).lst rP)
  (fun c d e h i j=>k (.vl (.agg [(.one (.bool c)),(.seq uU 6 d)])) [[(.one (.bool e)),(.one (.gsl 1 5)),(.one (.mpp 2)),(.one (.gsl 4 2)),(.one (.int .i64 h))],[(.gro rN ((lf ls 8).lst rN))],[(.mp rP mW i)],[]] [[(.gro rP j)]])
def g91R{α:Type}(G:S_g91 α):=rowK g91tp g91bp (g91K G)
def g91hd(G114:Al S_g114)(G33:Al S_g33)(G113:Al S_g113)(G32:Al S_g32)(G42v1:Al S_g42v1)(G75:Al S_g75)(G87v1:Al S_g87v1):Hd where
 call:=fun f args Bs k=>cond (Nat.beq f 114) (g114R G114 args Bs k) (cond (Nat.beq f 33) (g33R G33 args Bs k) (cond (Nat.beq f 113) (g113R G113 args Bs k) (cond (Nat.beq f 32) (g32R G32 args Bs k) (cond (Nat.beq f 42) (g42v1R G42v1 args Bs k) (cond (Nat.beq f 75) (g75R G75 args Bs k) (cond (Nat.beq f 87) (g87v1R G87v1 args Bs k) (none)))))))
 loop:=fun id st k=>none
 ro:=fun f=>cond (Nat.beq f 32) [1] (cond (Nat.beq f 33) [1,2,3] (cond (Nat.beq f 42) [1,2,3] (cond (Nat.beq f 87) [1,2,3] (cond (Nat.beq f 113) [1] (cond (Nat.beq f 114) [1] ([]))))))
def g91h(A32:Al S_g32)(m:Nat):Hd:=g91hd (g114 A32 m) (g33 m) (g113 A32 m) A32 (g42v1 m) (g75 m) (g87v1 m)
theorem g91Main(G114:Al S_g114)(G33:Al S_g33)(G113:Al S_g113)(G32:Al S_g32)(G42v1:Al S_g42v1)(G75:Al S_g75)(G87v1:Al S_g87v1){α:Type}(ls:List Lf)(k:KRe α):
  g91K (g91b G114 G33 G113 G32 G42v1 G75 G87v1) ls k=evFunM tab (g91hd G114 G33 G113 G32 G42v1 G75 G87v1) Tryz.f91 3 (fT g91tp ls) (fB g91tp g91bp ls) k:=by kernel_rfl
theorem g91Calls(A32:Al S_g32)(hA32:HA32 A32)(m:Nat):(g91h A32 m).CallsOk Tryz.prog:=(cok_cons (g114Ok A32 hA32 m) (cok_cons (g33Ok m) (cok_cons (g113Ok A32 hA32 m) (cok_cons hA32 (cok_cons (g42v1Ok m) (cok_cons (g75Ok m) (cok_cons (g87v1Ok m) cok_nil)))))))
theorem g91Fn(A32:Al S_g32)(hA32:HA32 A32)(m:Nat):FnOk Tryz.prog 91 g91tp g91bp (fun{α}=>g91K (g91 A32 m (α:=α))):=
 fn_okM (tab:=tab) (h:=g91h A32 m) (fn:=Tryz.f91) (F:=fun{α}=>g91K (g91 A32 m (α:=α))) tabOk (g91Calls A32 hA32 m) mixed (by kernel_rfl) (by kernel_rfl) (fun c hc=>by
  rw[bodyOf_some hc]
  exact loopsOk_of _ (fun p hp=>by rw[show loopsOf (bodyOf Tryz.f91)=[] by kernel_rfl] at hp;cases hp))
  (fun _=>g91Main (g114 A32 m) (g33 m) (g113 A32 m) A32 (g42v1 m) (g75 m) (g87v1 m))
theorem g91Ok(A32:Al S_g32)(hA32:HA32 A32)(m:Nat):RowOk Tryz.prog 91 (fun{α}=>g91R (g91 A32 m (α:=α))):=row_of (g91Fn A32 hA32 m)
abbrev S_g92(α:Type):Type:=(List Int)→((List Int)→Option α)→Option α
abbrev S_g92l0(α:Type):Type:=(List Int)→(List Int)→((List Int)→Option α)→Int→(List Int)→Option α
def g92l0b{α:Type}(G43:Al S_g43)(G44:Al S_g44)(G45:Al S_g45)(G85:Al S_g85)(G46:Al S_g46)(a b:List Int)(c:(List Int)→Option α)(d:Int→(List Int)→Option α)(e:Int)(h:List Int):Option α:=cond (decide (e≥(0:Int))) (G43 (fun i=>G44 i e (fun j=>G45 h j (fun l n=>G85 l l (fun o p=>cond (!p) (G46 o a (fun q=>cond (decide (q≤(0:Int))) (d (IntKind.wrap .i64 (e-(1:Int))) l) (d (IntKind.wrap .i64 (e-(1:Int))) h))) (d (IntKind.wrap .i64 (e-(1:Int))) h)))))) (c h)
def g92l0{α:Type}(G43:Al S_g43)(G44:Al S_g44)(G45:Al S_g45)(G85:Al S_g85)(G46:Al S_g46)(a b:List Int)(c:(List Int)→Option α):Nat→Int→(List Int)→Option α
 |0=>fun _ _=>none
 |m+1=>fun d e=>g92l0b G43 G44 G45 G85 G46 a b c (g92l0 G43 G44 G45 G85 G46 a b c m) d e
def g92l0M{α:Type}(m:Nat):S_g92l0 α:=
 fun a b c d e=>g92l0 (g43 m) (g44 m) (g45 m) (g85 m) (g46 m) a b c m d e
def g92l0D:LoopD:={n:=42,low:=[],sl:=[1,2,3,4],bl:=[1000000,1000001,1000002],tp:=[(.vl (.sv (.ptr 1000000 0))),(.vl (.sv (.ptr 1000001 0))),(.vl (.sv (.ptr 1000002 0))),tI],bp:=[b6,b6,b6],xs:=[(2,[2,3])]}
def g92l0K{α:Type}(L:S_g92l0 α)(ls:List Lf)(k:KEx α):Option α:=
 L ((lf ls 1).lst uU) ((lf ls 2).lst uU)
  (fun a=>k .normal (mkSt 42 [2,3] [(.vl (.sv (.ptr 1000000 0))),(.vl (.sv (.ptr 1000001 0)))] [1000000,1000001] [(true,[(.seq uU 6 ((lf ls 2).lst uU))]),(true,[(.seq uU 6 a)])]))
  (lf ls 0).int ((lf ls 3).lst uU)
def g92b{α:Type}(G72:Al S_g72)(G43:Al S_g43)(G44:Al S_g44)(G45:Al S_g45)(G85:Al S_g85)(G46:Al S_g46)(L92l0:Al S_g92l0)(a:List Int)(b:(List Int)→Option α):Option α:=G72 a (fun c=>L92l0 a [0,0,0,0,0,0] (fun d=>b d) (IntKind.wrap .i64 (Int.tdiv (IntKind.wrap .i64 (c+(1:Int))) (2:Int))) [0,0,0,0,0,0])
def g92{α:Type}(m:Nat):S_g92 α:=
 g92b (g72 m) (g43 m) (g44 m) (g45 m) (g85 m) (g46 m) (g92l0M m)
def g92tp:List TP:=[(.vl (.agg [(.seq uU 6)]))]
def g92bp:List BP:=[]
def g92K{α:Type}(G:S_g92 α)(ls:List Lf)(k:KRe α):Option α:=
 G ((lf ls 0).lst uU)
  (fun a=>k (.vl (.agg [(.seq uU 6 a)])) [] [])
def g92R{α:Type}(G:S_g92 α):=rowK g92tp g92bp (g92K G)
def g92hd(G72:Al S_g72)(G43:Al S_g43)(G44:Al S_g44)(G45:Al S_g45)(G85:Al S_g85)(G46:Al S_g46)(L92l0:Al S_g92l0):Hd where
 call:=fun f args Bs k=>cond (Nat.beq f 72) (g72R G72 args Bs k) (cond (Nat.beq f 43) (g43R G43 args Bs k) (cond (Nat.beq f 44) (g44R G44 args Bs k) (cond (Nat.beq f 45) (g45R G45 args Bs k) (cond (Nat.beq f 85) (g85R G85 args Bs k) (cond (Nat.beq f 46) (g46R G46 args Bs k) (none))))))
 loop:=fun id st k=>cond (Nat.beq id 0) (loopH g92l0D (g92l0K L92l0) st k) (none)
 ro:=fun f=>[]
def g92h(m:Nat):Hd:=g92hd (g72 m) (g43 m) (g44 m) (g45 m) (g85 m) (g46 m) (g92l0M m)
theorem g92l0Step(G72:Al S_g72)(G43:Al S_g43)(G44:Al S_g44)(G45:Al S_g45)(G85:Al S_g85)(G46:Al S_g46)(L92l0:Al S_g92l0){α:Type}(L:S_g92l0 α)(ls:List Lf)(k:KEx α):
  g92l0K (fun a b c d e=>g92l0b G43 G44 G45 G85 G46 a b c (L a b c) d e) ls k=ev tab (g92hd G72 G43 G44 G45 G85 G46 L92l0) (bodyAt Tryz.f92 0) (atHead g92l0D ls) (loopK g92l0D 0 (loopH g92l0D (g92l0K L)) k):=by kernel_rfl
theorem g92Main(G72:Al S_g72)(G43:Al S_g43)(G44:Al S_g44)(G45:Al S_g45)(G85:Al S_g85)(G46:Al S_g46)(L92l0:Al S_g92l0){α:Type}(ls:List Lf)(k:KRe α):
  g92K (g92b G72 G43 G44 G45 G85 G46 L92l0) ls k=evFun tab (g92hd G72 G43 G44 G45 G85 G46 L92l0) Tryz.f92 (fT g92tp ls) (fB g92tp g92bp ls) k:=by kernel_rfl
theorem g92Calls(m:Nat):(g92h m).CallsOk Tryz.prog:=(cok_cons (g72Ok m) (cok_cons (g43Ok m) (cok_cons (g44Ok m) (cok_cons (g45Ok m) (cok_cons (g85Ok m) (cok_cons (g46Ok m) cok_nil))))))
theorem g92l0Ok(m:Nat)(α:Type)(st:St)(k:KEx α)(r:α)(h:(g92h m).loop 0 st k=some r):
  LoopS Tryz.prog 0 (bodyAt Tryz.f92 0) st k r:=
 lpk (F:=fun n ls k=>g92l0K (fun a b c d e=>g92l0 (g43 m) (g44 m) (g45 m) (g85 m) (g46 m) a b c n d e) ls k) (g92Calls m) (lb0 (by kernel_rfl))
  (fun _ _=>rfl) (fun n ls k=>g92l0Step (g72 m) (g43 m) (g44 m) (g45 m) (g85 m) (g46 m) (g92l0M m) (fun a b c=>g92l0 (g43 m) (g44 m) (g45 m) (g85 m) (g46 m) a b c n) ls k) (n:=m) h
theorem g92Ok(m:Nat):RowOk Tryz.prog 92 (fun{α}=>g92R (g92 m (α:=α))):=
 rwk (g92Calls m) (lo1 (by kernel_rfl) (g92l0Ok m))
  (fun _=>g92Main (g72 m) (g43 m) (g44 m) (g45 m) (g85 m) (g46 m) (g92l0M m))
abbrev S_g115(α:Type):Type:=Int→Int→Bool→Int→Ty0→Ty1→Ty0→(Bool→(List Int)→Bool→Option α)→Option α
abbrev S_g115l0(α:Type):Type:=Int→Int→Ty0→Ty1→Ty0→Bool→(List Int)→(Bool→Bool→(List Int)→Option α)→Int→Bool→(List Int)→Bool→(List Int)→Option α
def g115l0b{α:Type}(G116:Al S_g116)(G73:Al S_g73)(G53v1:Al S_g53v1)(a b:Int)(c:Ty0)(d:Ty1)(e:Ty0)(h:Bool)(i:List Int)(j:Bool→Bool→(List Int)→Option α)(l:Int→Bool→(List Int)→Bool→(List Int)→Option α)(n:Int)(o:Bool)(p:List Int)(q:Bool)(r:List Int):Option α:=cond (!(eqLI p [0,0,0,0,0,0])) (G116 p (IntKind.wrap .u32 ((IntKind.wrap .u32 ((2:Int)*n))+(1:Int))) (fun s t=>G73 ((Int.tmod n (2:Int))==(1:Int)) s (fun u=>G53v1 q r u s o b c d e (fun v w x=>G116 p (IntKind.wrap .u32 (a*a)) (fun y z=>l (IntKind.wrap .u32 (n+(1:Int))) x y v w))))) (j o q r)
def g115l0{α:Type}(G116:Al S_g116)(G73:Al S_g73)(G53v1:Al S_g53v1)(a b:Int)(c:Ty0)(d:Ty1)(e:Ty0)(h:Bool)(i:List Int)(j:Bool→Bool→(List Int)→Option α):Nat→Int→Bool→(List Int)→Bool→(List Int)→Option α
 |0=>fun _ _ _ _ _=>none
 |m+1=>fun l n o p q=>g115l0b G116 G73 G53v1 a b c d e h i j (g115l0 G116 G73 G53v1 a b c d e h i j m) l n o p q
def g115l0M{α:Type}(m:Nat):S_g115l0 α:=
 fun a b c d e h i j l n o p q=>g115l0 (g116 m) (g73 m) (g53v1 m) a b c d e h i j m l n o p q
def g115l0D:LoopD:={n:=55,low:=[0,1,2,3],sl:=[0,1,6,7,9,10],bl:=[0,1,2,3,1000004,1000005,1000006],tp:=[(.vl (.sv (.ptr 0 0))),(.vl (.sv (.int .u32))),(.vl (.sv (.ptr 1000004 0))),(.vl (.sv (.ptr 1000005 0))),(.vl (.sv (.ptr 1000006 0))),(.vl (.sv (.int .u32)))],bp:=[(true,[(.one .bool),(.one (.gsl 1 5)),(.one (.mpp 2)),(.one (.gsl 3 2)),(.one (.int .i64))]),(false,[(.gro rN)]),(false,[(.mp rP mW)]),(false,[(.gro rP)]),(true,[(.one .bool),(.seq uU 6)]),b6,(true,[(.one .bool),(.seq uU 6)])],xs:=[(2,[6,9])]}
def g115l0K{α:Type}(L:S_g115l0 α)(ls:List Lf)(k:KEx α):Option α:=
 L (lf ls 0).int (lf ls 3).int ((lf ls 4).lst rN) ((lf ls 5).map rP mW) ((lf ls 6).lst rP) (lf ls 7).bool ((lf ls 8).lst uU)
  (fun c d e=>k .normal (mkSt 55 [6,9] [(.vl (.sv (.ptr 1000004 0))),(.vl (.sv (.ptr 1000005 0)))] [0,1,2,3,1000004,1000005] [(true,[(.one (.bool c)),(.one (.gsl 1 5)),(.one (.mpp 2)),(.one (.gsl 3 2)),(.one (.int .i64 (lf ls 3).int))]),(false,[(.gro rN ((lf ls 4).lst rN))]),(false,[(.mp rP mW ((lf ls 5).map rP mW))]),(false,[(.gro rP ((lf ls 6).lst rP))]),(true,[(.one (.bool (lf ls 7).bool)),(.seq uU 6 ((lf ls 8).lst uU))]),(true,[(.one (.bool d)),(.seq uU 6 e)])]))
  (lf ls 1).int (lf ls 2).bool ((lf ls 9).lst uU) (lf ls 10).bool ((lf ls 11).lst uU)
def g115b{α:Type}(G43:Al S_g43)(G44:Al S_g44)(G116:Al S_g116)(G73:Al S_g73)(G53v1:Al S_g53v1)(L115l0:Al S_g115l0)(a b:Int)(c:Bool)(d:Int)(e:Ty0)(h:Ty1)(i:Ty0)(j:Bool→(List Int)→Bool→Option α):Option α:=G43 (fun l=>G44 l (IntKind.wrap .i64 (b+(16:Int))) (fun n=>G116 n a (fun o p=>L115l0 a d e h i false [0,0,0,0,0,0] (fun q r s=>j r s q) (0:Int) c o false [0,0,0,0,0,0])))
def g115{α:Type}(m:Nat):S_g115 α:=
 g115b (g43 m) (g44 m) (g116 m) (g73 m) (g53v1 m) (g115l0M m)
def g115tp:List TP:=[(.vl (.sv (.ptr 0 0))),(.vl (.sv (.int .u32))),tI]
def g115bp:List BP:=[(true,[(.one .bool),(.one (.gsl 1 5)),(.one (.mpp 2)),(.one (.gsl 3 2)),(.one (.int .i64))]),(false,[(.gro rN)]),(false,[(.mp rP mW)]),(false,[(.gro rP)])]
def g115K{α:Type}(G:S_g115 α)(ls:List Lf)(k:KRe α):Option α:=
 G (lf ls 0).int (lf ls 1).int (lf ls 2).bool (lf ls 3).int ((lf ls 4).lst rN) ((lf ls 5).map rP mW) ((lf ls 6).lst rP)
  (fun c d e=>k (.vl (.agg [(.one (.bool c)),(.seq uU 6 d)])) [[(.one (.bool e)),(.one (.gsl 1 5)),(.one (.mpp 2)),(.one (.gsl 3 2)),(.one (.int .i64 (lf ls 3).int))],[(.gro rN ((lf ls 4).lst rN))],[(.mp rP mW ((lf ls 5).map rP mW))],[(.gro rP ((lf ls 6).lst rP))]] [])
def g115R{α:Type}(G:S_g115 α):=rowK g115tp g115bp (g115K G)
def g115hd(G43:Al S_g43)(G44:Al S_g44)(G116:Al S_g116)(G73:Al S_g73)(G53v1:Al S_g53v1)(L115l0:Al S_g115l0):Hd where
 call:=fun f args Bs k=>cond (Nat.beq f 43) (g43R G43 args Bs k) (cond (Nat.beq f 44) (g44R G44 args Bs k) (cond (Nat.beq f 116) (g116R G116 args Bs k) (cond (Nat.beq f 73) (g73R G73 args Bs k) (cond (Nat.beq f 53) (g53v1R G53v1 args Bs k) (none)))))
 loop:=fun id st k=>cond (Nat.beq id 0) (loopH g115l0D (g115l0K L115l0) st k) (none)
 ro:=fun f=>cond (Nat.beq f 53) [1,2,3] ([])
def g115h(m:Nat):Hd:=g115hd (g43 m) (g44 m) (g116 m) (g73 m) (g53v1 m) (g115l0M m)
theorem g115l0Step(G43:Al S_g43)(G44:Al S_g44)(G116:Al S_g116)(G73:Al S_g73)(G53v1:Al S_g53v1)(L115l0:Al S_g115l0){α:Type}(L:S_g115l0 α)(ls:List Lf)(k:KEx α):
  g115l0K (fun a b c d e h i j l n o p q=>g115l0b G116 G73 G53v1 a b c d e h i j (L a b c d e h i j) l n o p q) ls k=ev tab (g115hd G43 G44 G116 G73 G53v1 L115l0) (bodyAt Tryz.f115 0) (atHead g115l0D ls) (loopK g115l0D 0 (loopH g115l0D (g115l0K L)) k):=by kernel_rfl
theorem g115Main(G43:Al S_g43)(G44:Al S_g44)(G116:Al S_g116)(G73:Al S_g73)(G53v1:Al S_g53v1)(L115l0:Al S_g115l0){α:Type}(ls:List Lf)(k:KRe α):
  g115K (g115b G43 G44 G116 G73 G53v1 L115l0) ls k=evFun tab (g115hd G43 G44 G116 G73 G53v1 L115l0) Tryz.f115 (fT g115tp ls) (fB g115tp g115bp ls) k:=by kernel_rfl
theorem g115Calls(m:Nat):(g115h m).CallsOk Tryz.prog:=(cok_cons (g43Ok m) (cok_cons (g44Ok m) (cok_cons (g116Ok m) (cok_cons (g73Ok m) (cok_cons (g53v1Ok m) cok_nil)))))
theorem g115l0Ok(m:Nat)(α:Type)(st:St)(k:KEx α)(r:α)(h:(g115h m).loop 0 st k=some r):
  LoopS Tryz.prog 0 (bodyAt Tryz.f115 0) st k r:=
 lpk (F:=fun n ls k=>g115l0K (fun a b c d e i j l o q s t u=>g115l0 (g116 m) (g73 m) (g53v1 m) a b c d e i j l n o q s t u) ls k) (g115Calls m) (lb0 (by kernel_rfl))
  (fun _ _=>rfl) (fun n ls k=>g115l0Step (g43 m) (g44 m) (g116 m) (g73 m) (g53v1 m) (g115l0M m) (fun a b c d e i j l=>g115l0 (g116 m) (g73 m) (g53v1 m) a b c d e i j l n) ls k) (n:=m) h
theorem g115Ok(m:Nat):RowOk Tryz.prog 115 (fun{α}=>g115R (g115 m (α:=α))):=
 rwk (g115Calls m) (lo1 (by kernel_rfl) (g115l0Ok m))
  (fun _=>g115Main (g43 m) (g44 m) (g116 m) (g73 m) (g53v1 m) (g115l0M m))
abbrev S_g93(α:Type):Type:=Int→Bool→Int→Ty0→Ty1→Ty0→(Bool→(List Int)→Bool→Option α)→Option α
def g93b{α:Type}(G55:Al S_g55)(G115:Al S_g115)(G54v1:Al S_g54v1)(G41v1:Al S_g41v1)(G74v1:Al S_g74v1)(a:Int)(b:Bool)(c:Int)(d:Ty0)(e:Ty1)(h:Ty0)(i:Bool→(List Int)→Bool→Option α):Option α:=G55 (16:Int) (fun j l=>G115 (5:Int) a b c d e h (fun n o p=>G54v1 j l n o p c d e h (fun q r s=>G55 (4:Int) (fun t u=>G115 (239:Int) a s c d e h (fun v w x=>G54v1 t u v w x c d e h (fun y z a0=>G41v1 q r y z a0 c d e h (fun b0 c0 d0=>G74v1 b0 c0 (16:Int) d0 c d e h (fun e0 h0 i0=>i e0 h0 i0))))))))
def g93{α:Type}(m:Nat):S_g93 α:=
 g93b (g55 m) (g115 m) (g54v1 m) (g41v1 m) (g74v1 m)
def g93tp:List TP:=[(.vl (.sv (.ptr 0 0))),tI]
def g93bp:List BP:=[(true,[(.one .bool),(.one (.gsl 1 5)),(.one (.mpp 2)),(.one (.gsl 3 2)),(.one (.int .i64))]),(false,[(.gro rN)]),(false,[(.mp rP mW)]),(false,[(.gro rP)])]
def g93K{α:Type}(G:S_g93 α)(ls:List Lf)(k:KRe α):Option α:=
 G (lf ls 0).int (lf ls 1).bool (lf ls 2).int ((lf ls 3).lst rN) ((lf ls 4).map rP mW) ((lf ls 5).lst rP)
  (fun c d e=>k (.vl (.agg [(.one (.bool c)),(.seq uU 6 d)])) [[(.one (.bool e)),(.one (.gsl 1 5)),(.one (.mpp 2)),(.one (.gsl 3 2)),(.one (.int .i64 (lf ls 2).int))],[(.gro rN ((lf ls 3).lst rN))],[(.mp rP mW ((lf ls 4).map rP mW))],[(.gro rP ((lf ls 5).lst rP))]] [])
def g93R{α:Type}(G:S_g93 α):=rowK g93tp g93bp (g93K G)
def g93hd(G55:Al S_g55)(G115:Al S_g115)(G54v1:Al S_g54v1)(G41v1:Al S_g41v1)(G74v1:Al S_g74v1):Hd where
 call:=fun f args Bs k=>cond (Nat.beq f 55) (g55R G55 args Bs k) (cond (Nat.beq f 115) (g115R G115 args Bs k) (cond (Nat.beq f 54) (g54v1R G54v1 args Bs k) (cond (Nat.beq f 41) (g41v1R G41v1 args Bs k) (cond (Nat.beq f 74) (g74v1R G74v1 args Bs k) (none)))))
 loop:=fun id st k=>none
 ro:=fun f=>cond (Nat.beq f 41) [1,2,3] (cond (Nat.beq f 54) [1,2,3] (cond (Nat.beq f 74) [1,2,3] (cond (Nat.beq f 115) [1,2,3] ([]))))
def g93h(m:Nat):Hd:=g93hd (g55 m) (g115 m) (g54v1 m) (g41v1 m) (g74v1 m)
theorem g93Main(G55:Al S_g55)(G115:Al S_g115)(G54v1:Al S_g54v1)(G41v1:Al S_g41v1)(G74v1:Al S_g74v1){α:Type}(ls:List Lf)(k:KRe α):
  g93K (g93b G55 G115 G54v1 G41v1 G74v1) ls k=evFun tab (g93hd G55 G115 G54v1 G41v1 G74v1) Tryz.f93 (fT g93tp ls) (fB g93tp g93bp ls) k:=by kernel_rfl
theorem g93Calls(m:Nat):(g93h m).CallsOk Tryz.prog:=(cok_cons (g55Ok m) (cok_cons (g115Ok m) (cok_cons (g54v1Ok m) (cok_cons (g41v1Ok m) (cok_cons (g74v1Ok m) cok_nil)))))
theorem g93Ok(m:Nat):RowOk Tryz.prog 93 (fun{α}=>g93R (g93 m (α:=α))):=
 rwk (g93Calls m) (lo0 (by kernel_rfl))
  (fun _=>g93Main (g55 m) (g115 m) (g54v1 m) (g41v1 m) (g74v1 m))
abbrev S_g94(α:Type):Type:=Int→Bool→Int→Ty0→Ty1→Ty0→(Bool→(List Int)→Bool→Option α)→Option α
abbrev S_g94l0(α:Type):Type:=Int→Ty0→Ty1→Ty0→Bool→(List Int)→(Bool→Bool→(List Int)→Option α)→Int→Bool→(List Int)→Bool→(List Int)→Option α
def g94l0b{α:Type}(G73:Al S_g73)(G53v1:Al S_g53v1)(G116:Al S_g116)(a:Int)(b:Ty0)(c:Ty1)(d:Ty0)(e:Bool)(h:List Int)(i:Bool→Bool→(List Int)→Option α)(j:Int→Bool→(List Int)→Bool→(List Int)→Option α)(l:Int)(n:Bool)(o:List Int)(p:Bool)(q:List Int):Option α:=cond (!(eqLI o [0,0,0,0,0,0])) (G73 false o (fun r=>G53v1 p q r o n a b c d (fun s t u=>G116 o l (fun v w=>j (IntKind.wrap .u32 (l+(1:Int))) u v s t)))) (i n p q)
def g94l0{α:Type}(G73:Al S_g73)(G53v1:Al S_g53v1)(G116:Al S_g116)(a:Int)(b:Ty0)(c:Ty1)(d:Ty0)(e:Bool)(h:List Int)(i:Bool→Bool→(List Int)→Option α):Nat→Int→Bool→(List Int)→Bool→(List Int)→Option α
 |0=>fun _ _ _ _ _=>none
 |m+1=>fun j l n o p=>g94l0b G73 G53v1 G116 a b c d e h i (g94l0 G73 G53v1 G116 a b c d e h i m) j l n o p
def g94l0M{α:Type}(m:Nat):S_g94l0 α:=
 fun a b c d e h i j l n o p=>g94l0 (g73 m) (g53v1 m) (g116 m) a b c d e h i m j l n o p
def g94l0D:LoopD:={n:=36,low:=[0,1,2,3],sl:=[0,4,5,6,7],bl:=[0,1,2,3,1000004,1000005,1000006],tp:=[(.vl (.sv (.ptr 0 0))),(.vl (.sv (.ptr 1000004 0))),(.vl (.sv (.ptr 1000005 0))),(.vl (.sv (.ptr 1000006 0))),(.vl (.sv (.int .u32)))],bp:=[(true,[(.one .bool),(.one (.gsl 1 5)),(.one (.mpp 2)),(.one (.gsl 3 2)),(.one (.int .i64))]),(false,[(.gro rN)]),(false,[(.mp rP mW)]),(false,[(.gro rP)]),(true,[(.one .bool),(.seq uU 6)]),b6,(true,[(.one .bool),(.seq uU 6)])],xs:=[(2,[0,4,6])]}
def g94l0K{α:Type}(L:S_g94l0 α)(ls:List Lf)(k:KEx α):Option α:=
 L (lf ls 2).int ((lf ls 3).lst rN) ((lf ls 4).map rP mW) ((lf ls 5).lst rP) (lf ls 6).bool ((lf ls 7).lst uU)
  (fun c d e=>k .normal (mkSt 36 [0,4,6] [(.vl (.sv (.ptr 0 0))),(.vl (.sv (.ptr 1000004 0))),(.vl (.sv (.ptr 1000005 0)))] [0,1,2,3,1000004,1000005] [(true,[(.one (.bool c)),(.one (.gsl 1 5)),(.one (.mpp 2)),(.one (.gsl 3 2)),(.one (.int .i64 (lf ls 2).int))]),(false,[(.gro rN ((lf ls 3).lst rN))]),(false,[(.mp rP mW ((lf ls 4).map rP mW))]),(false,[(.gro rP ((lf ls 5).lst rP))]),(true,[(.one (.bool (lf ls 6).bool)),(.seq uU 6 ((lf ls 7).lst uU))]),(true,[(.one (.bool d)),(.seq uU 6 e)])]))
  (lf ls 0).int (lf ls 1).bool ((lf ls 8).lst uU) (lf ls 9).bool ((lf ls 10).lst uU)
def g94b{α:Type}(G43:Al S_g43)(G44:Al S_g44)(G73:Al S_g73)(G53v1:Al S_g53v1)(G116:Al S_g116)(G74v1:Al S_g74v1)(L94l0:Al S_g94l0)(a:Int)(b:Bool)(c:Int)(d:Ty0)(e:Ty1)(h:Ty0)(i:Bool→(List Int)→Bool→Option α):Option α:=G43 (fun j=>G44 j (IntKind.wrap .i64 (a+(16:Int))) (fun l=>L94l0 c d e h false [0,0,0,0,0,0] (fun n o p=>G74v1 o p (16:Int) n c d e h (fun q r s=>i q r s)) (1:Int) b l false [0,0,0,0,0,0]))
def g94{α:Type}(m:Nat):S_g94 α:=
 g94b (g43 m) (g44 m) (g73 m) (g53v1 m) (g116 m) (g74v1 m) (g94l0M m)
def g94tp:List TP:=[(.vl (.sv (.ptr 0 0))),tI]
def g94bp:List BP:=[(true,[(.one .bool),(.one (.gsl 1 5)),(.one (.mpp 2)),(.one (.gsl 3 2)),(.one (.int .i64))]),(false,[(.gro rN)]),(false,[(.mp rP mW)]),(false,[(.gro rP)])]
def g94K{α:Type}(G:S_g94 α)(ls:List Lf)(k:KRe α):Option α:=
 G (lf ls 0).int (lf ls 1).bool (lf ls 2).int ((lf ls 3).lst rN) ((lf ls 4).map rP mW) ((lf ls 5).lst rP)
  (fun c d e=>k (.vl (.agg [(.one (.bool c)),(.seq uU 6 d)])) [[(.one (.bool e)),(.one (.gsl 1 5)),(.one (.mpp 2)),(.one (.gsl 3 2)),(.one (.int .i64 (lf ls 2).int))],[(.gro rN ((lf ls 3).lst rN))],[(.mp rP mW ((lf ls 4).map rP mW))],[(.gro rP ((lf ls 5).lst rP))]] [])
def g94R{α:Type}(G:S_g94 α):=rowK g94tp g94bp (g94K G)
def g94hd(G43:Al S_g43)(G44:Al S_g44)(G73:Al S_g73)(G53v1:Al S_g53v1)(G116:Al S_g116)(G74v1:Al S_g74v1)(L94l0:Al S_g94l0):Hd where
 call:=fun f args Bs k=>cond (Nat.beq f 43) (g43R G43 args Bs k) (cond (Nat.beq f 44) (g44R G44 args Bs k) (cond (Nat.beq f 73) (g73R G73 args Bs k) (cond (Nat.beq f 53) (g53v1R G53v1 args Bs k) (cond (Nat.beq f 116) (g116R G116 args Bs k) (cond (Nat.beq f 74) (g74v1R G74v1 args Bs k) (none))))))
 loop:=fun id st k=>cond (Nat.beq id 0) (loopH g94l0D (g94l0K L94l0) st k) (none)
 ro:=fun f=>cond (Nat.beq f 53) [1,2,3] (cond (Nat.beq f 74) [1,2,3] ([]))
def g94h(m:Nat):Hd:=g94hd (g43 m) (g44 m) (g73 m) (g53v1 m) (g116 m) (g74v1 m) (g94l0M m)
theorem g94l0Step(G43:Al S_g43)(G44:Al S_g44)(G73:Al S_g73)(G53v1:Al S_g53v1)(G116:Al S_g116)(G74v1:Al S_g74v1)(L94l0:Al S_g94l0){α:Type}(L:S_g94l0 α)(ls:List Lf)(k:KEx α):
  g94l0K (fun a b c d e h i j l n o p=>g94l0b G73 G53v1 G116 a b c d e h i (L a b c d e h i) j l n o p) ls k=ev tab (g94hd G43 G44 G73 G53v1 G116 G74v1 L94l0) (bodyAt Tryz.f94 0) (atHead g94l0D ls) (loopK g94l0D 0 (loopH g94l0D (g94l0K L)) k):=by kernel_rfl
theorem g94Main(G43:Al S_g43)(G44:Al S_g44)(G73:Al S_g73)(G53v1:Al S_g53v1)(G116:Al S_g116)(G74v1:Al S_g74v1)(L94l0:Al S_g94l0){α:Type}(ls:List Lf)(k:KRe α):
  g94K (g94b G43 G44 G73 G53v1 G116 G74v1 L94l0) ls k=evFun tab (g94hd G43 G44 G73 G53v1 G116 G74v1 L94l0) Tryz.f94 (fT g94tp ls) (fB g94tp g94bp ls) k:=by kernel_rfl
theorem g94Calls(m:Nat):(g94h m).CallsOk Tryz.prog:=(cok_cons (g43Ok m) (cok_cons (g44Ok m) (cok_cons (g73Ok m) (cok_cons (g53v1Ok m) (cok_cons (g116Ok m) (cok_cons (g74v1Ok m) cok_nil))))))
theorem g94l0Ok(m:Nat)(α:Type)(st:St)(k:KEx α)(r:α)(h:(g94h m).loop 0 st k=some r):
  LoopS Tryz.prog 0 (bodyAt Tryz.f94 0) st k r:=
 lpk (F:=fun n ls k=>g94l0K (fun a b c d e i j l o q s t=>g94l0 (g73 m) (g53v1 m) (g116 m) a b c d e i j n l o q s t) ls k) (g94Calls m) (lb0 (by kernel_rfl))
  (fun _ _=>rfl) (fun n ls k=>g94l0Step (g43 m) (g44 m) (g73 m) (g53v1 m) (g116 m) (g74v1 m) (g94l0M m) (fun a b c d e i j=>g94l0 (g73 m) (g53v1 m) (g116 m) a b c d e i j n) ls k) (n:=m) h
theorem g94Ok(m:Nat):RowOk Tryz.prog 94 (fun{α}=>g94R (g94 m (α:=α))):=
 rwk (g94Calls m) (lo1 (by kernel_rfl) (g94l0Ok m))
  (fun _=>g94Main (g43 m) (g44 m) (g73 m) (g53v1 m) (g116 m) (g74v1 m) (g94l0M m))
abbrev S_g66(α:Type):Type:=Int→Int→Int→Int→Int→Int→Bool→Int→Ty0→Ty1→Ty0→(Bool→(List Int)→Bool→Int→Ty1→Ty0→Option α)→Option α
def g66b{α:Type}(G55:Al S_g55)(G42v1:Al S_g42v1)(G87v1:Al S_g87v1)(G88:Al S_g88)(G53v1:Al S_g53v1)(G74v1:Al S_g74v1)(G41v1:Al S_g41v1)(G32:Al S_g32)(G71:Al S_g71)(G73:Al S_g73)(G89:Al S_g89)(G90:Al S_g90)(G91:Al S_g91)(G92:Al S_g92)(G93:Al S_g93)(G94:Al S_g94)(a b:Int)(c d:Int)(e h:Int)(i:Bool)(j:Int)(l:Ty0)(n:Ty1)(o:Ty0)(p:Bool→(List Int)→Bool→Int→Ty1→Ty0→Option α):Option α:=cond (a==(1:Int)) (G55 d (fun q r=>G42v1 q r h i j l n o (fun s t u=>G55 e (fun v w=>G87v1 s t v w u j l n o (fun x y z=>p x y z j n o))))) (cond (a==(2:Int)) (G88 a b c d e (IntKind.wrap .i64 (h+(2:Int))) i j l n o (fun a0 b0 c0 d0 e0 h0 i0 j0=>G53v1 a0 b0 c0 d0 e0 h0 l i0 j0 (fun l0 n0 o0=>G74v1 l0 n0 (2:Int) o0 h0 l i0 j0 (fun p0 q0 r0=>p p0 q0 r0 h0 i0 j0)))) (cond (a==(3:Int)) (G88 a b c d e (IntKind.wrap .i64 (h+(2:Int))) i j l n o (fun s0 t0 u0 v0 w0 x0 y0 z0=>G41v1 s0 t0 u0 v0 w0 x0 l y0 z0 (fun a1 b1 c1=>G74v1 a1 b1 (2:Int) c1 x0 l y0 z0 (fun d1 e1 h1=>p d1 e1 h1 x0 y0 z0)))) (cond (a==(6:Int)) (G32 b h i j l n o (fun i1 j1 l1 n1 o1 p1 q1=>G71 i1 j1 (fun r1=>p r1 j1 l1 n1 p1 q1))) (cond (a==(7:Int)) (G32 b h i j l n o (fun s1 t1 u1 v1 w1 x1 y1=>G73 false t1 (fun z1=>p z1 t1 u1 v1 x1 y1))) (cond (a==(8:Int)) (G88 a b c d e h i j l n o (fun a2 b2 c2 d2 e2 h2 i2 j2=>G89 a2 b2 c2 d2 (fun l2=>cond ((decide (l2≤(0:Int)))==(a==(8:Int))) (p a2 b2 e2 h2 i2 j2) (p c2 d2 e2 h2 i2 j2)))) (cond (a==(9:Int)) (G88 a b c d e h i j l n o (fun n2 o2 p2 q2 r2 s2 t2 u2=>G89 n2 o2 p2 q2 (fun v2=>cond ((decide (v2≤(0:Int)))==(a==(8:Int))) (p n2 o2 r2 s2 t2 u2) (p p2 q2 r2 s2 t2 u2)))) (cond (a==(4:Int)) (G90 a b c d e h i j l n o (fun w2 x2 y2 z2 a3 b3=>p w2 x2 y2 z2 a3 b3)) (cond (a==(5:Int)) (G91 a b c d e h i j l n o (fun c3 d3 e3 h3 i3 j3=>p c3 d3 e3 h3 i3 j3)) (cond (a==(10:Int)) (G32 b (IntKind.wrap .i64 ((IntKind.wrap .i64 ((2:Int)*h))+(6:Int))) i j l n o (fun l3 n3 o3 p3 q3 r3 s3=>cond l3 (p false [0,0,0,0,0,0] o3 p3 r3 s3) (G92 n3 (fun t3=>G73 false t3 (fun u3=>G74v1 u3 t3 (3:Int) o3 p3 l r3 s3 (fun v3 w3 x3=>p v3 w3 x3 p3 r3 s3)))))) (cond (a==(11:Int)) (G93 h i j l n o (fun y3 z3 a4=>p y3 z3 a4 j n o)) (G94 h i j l n o (fun b4 c4 d4=>p b4 c4 d4 j n o))))))))))))
def g66(A32:Al S_g32){α:Type}(m:Nat):S_g66 α:=
 g66b (g55 m) (g42v1 m) (g87v1 m) (g88 A32 m) (g53v1 m) (g74v1 m) (g41v1 m) A32 (g71 m) (g73 m) (g89 m) (g90 A32 m) (g91 A32 m) (g92 m) (g93 m) (g94 m)
def g66tp:List TP:=[(.vl (.sv (.ptr 0 0))),(.vl (.agg [(.one (.int .i8)),(.one (.int .i16)),(.one (.int .i16)),(.one (.int .i64)),(.one (.int .i64))])),tI]
def g66bp:List BP:=[(true,[(.one .bool),(.one (.gsl 1 5)),(.one (.mpp 2)),(.one (.gsl 3 2)),(.one (.int .i64))]),(false,[(.gro rN)]),(true,[(.mp rP mW)]),(true,[(.gro rP)])]
def g66K{α:Type}(G:S_g66 α)(ls:List Lf)(k:KRe α):Option α:=
 G (lf ls 0).int (lf ls 1).int (lf ls 2).int (lf ls 3).int (lf ls 4).int (lf ls 5).int (lf ls 6).bool (lf ls 7).int ((lf ls 8).lst rN) ((lf ls 9).map rP mW) ((lf ls 10).lst rP)
  (fun c d e h i j=>k (.vl (.agg [(.one (.bool c)),(.seq uU 6 d)])) [[(.one (.bool e)),(.one (.gsl 1 5)),(.one (.mpp 2)),(.one (.gsl 4 2)),(.one (.int .i64 h))],[(.gro rN ((lf ls 8).lst rN))],[(.mp rP mW i)],[]] [[(.gro rP j)]])
def g66R{α:Type}(G:S_g66 α):=rowK g66tp g66bp (g66K G)
def g66hd(G55:Al S_g55)(G42v1:Al S_g42v1)(G87v1:Al S_g87v1)(G88:Al S_g88)(G53v1:Al S_g53v1)(G74v1:Al S_g74v1)(G41v1:Al S_g41v1)(G32:Al S_g32)(G71:Al S_g71)(G73:Al S_g73)(G89:Al S_g89)(G90:Al S_g90)(G91:Al S_g91)(G92:Al S_g92)(G93:Al S_g93)(G94:Al S_g94):Hd where
 call:=fun f args Bs k=>cond (Nat.beq f 55) (g55R G55 args Bs k) (cond (Nat.beq f 42) (g42v1R G42v1 args Bs k) (cond (Nat.beq f 87) (g87v1R G87v1 args Bs k) (cond (Nat.beq f 88) (g88R G88 args Bs k) (cond (Nat.beq f 53) (g53v1R G53v1 args Bs k) (cond (Nat.beq f 74) (g74v1R G74v1 args Bs k) (cond (Nat.beq f 41) (g41v1R G41v1 args Bs k) (cond (Nat.beq f 32) (g32R G32 args Bs k) (cond (Nat.beq f 71) (g71R G71 args Bs k) (cond (Nat.beq f 73) (g73R G73 args Bs k) (cond (Nat.beq f 89) (g89R G89 args Bs k) (cond (Nat.beq f 90) (g90R G90 args Bs k) (cond (Nat.beq f 91) (g91R G91 args Bs k) (cond (Nat.beq f 92) (g92R G92 args Bs k) (cond (Nat.beq f 93) (g93R G93 args Bs k) (cond (Nat.beq f 94) (g94R G94 args Bs k) (none))))))))))))))))
 loop:=fun id st k=>none
 ro:=fun f=>cond (Nat.beq f 32) [1] (cond (Nat.beq f 41) [1,2,3] (cond (Nat.beq f 42) [1,2,3] (cond (Nat.beq f 53) [1,2,3] (cond (Nat.beq f 74) [1,2,3] (cond (Nat.beq f 87) [1,2,3] (cond (Nat.beq f 88) [1] (cond (Nat.beq f 90) [1] (cond (Nat.beq f 91) [1] (cond (Nat.beq f 93) [1,2,3] (cond (Nat.beq f 94) [1,2,3] ([])))))))))))
def g66h(A32:Al S_g32)(m:Nat):Hd:=g66hd (g55 m) (g42v1 m) (g87v1 m) (g88 A32 m) (g53v1 m) (g74v1 m) (g41v1 m) A32 (g71 m) (g73 m) (g89 m) (g90 A32 m) (g91 A32 m) (g92 m) (g93 m) (g94 m)
theorem g66Main(G55:Al S_g55)(G42v1:Al S_g42v1)(G87v1:Al S_g87v1)(G88:Al S_g88)(G53v1:Al S_g53v1)(G74v1:Al S_g74v1)(G41v1:Al S_g41v1)(G32:Al S_g32)(G71:Al S_g71)(G73:Al S_g73)(G89:Al S_g89)(G90:Al S_g90)(G91:Al S_g91)(G92:Al S_g92)(G93:Al S_g93)(G94:Al S_g94){α:Type}(ls:List Lf)(k:KRe α):
  g66K (g66b G55 G42v1 G87v1 G88 G53v1 G74v1 G41v1 G32 G71 G73 G89 G90 G91 G92 G93 G94) ls k=evFunM tab (g66hd G55 G42v1 G87v1 G88 G53v1 G74v1 G41v1 G32 G71 G73 G89 G90 G91 G92 G93 G94) Tryz.f66 3 (fT g66tp ls) (fB g66tp g66bp ls) k:=by kernel_rfl
theorem g66Calls(A32:Al S_g32)(hA32:HA32 A32)(m:Nat):(g66h A32 m).CallsOk Tryz.prog:=(cok_cons (g55Ok m) (cok_cons (g42v1Ok m) (cok_cons (g87v1Ok m) (cok_cons (g88Ok A32 hA32 m) (cok_cons (g53v1Ok m) (cok_cons (g74v1Ok m) (cok_cons (g41v1Ok m) (cok_cons hA32 (cok_cons (g71Ok m) (cok_cons (g73Ok m) (cok_cons (g89Ok m) (cok_cons (g90Ok A32 hA32 m) (cok_cons (g91Ok A32 hA32 m) (cok_cons (g92Ok m) (cok_cons (g93Ok m) (cok_cons (g94Ok m) cok_nil))))))))))))))))
theorem g66Fn(A32:Al S_g32)(hA32:HA32 A32)(m:Nat):FnOk Tryz.prog 66 g66tp g66bp (fun{α}=>g66K (g66 A32 m (α:=α))):=
 fn_okM (tab:=tab) (h:=g66h A32 m) (fn:=Tryz.f66) (F:=fun{α}=>g66K (g66 A32 m (α:=α))) tabOk (g66Calls A32 hA32 m) mixed (by kernel_rfl) (by kernel_rfl) (fun c hc=>by
  rw[bodyOf_some hc]
  exact loopsOk_of _ (fun p hp=>by rw[show loopsOf (bodyOf Tryz.f66)=[] by kernel_rfl] at hp;cases hp))
  (fun _=>g66Main (g55 m) (g42v1 m) (g87v1 m) (g88 A32 m) (g53v1 m) (g74v1 m) (g41v1 m) A32 (g71 m) (g73 m) (g89 m) (g90 A32 m) (g91 A32 m) (g92 m) (g93 m) (g94 m))
theorem g66Ok(A32:Al S_g32)(hA32:HA32 A32)(m:Nat):RowOk Tryz.prog 66 (fun{α}=>g66R (g66 A32 m (α:=α))):=row_of (g66Fn A32 hA32 m)
def g32b{α:Type}(G33:Al S_g33)(G66:Al S_g66)(c d:Int)(e:Bool)(h:Int)(i:Ty0)(j:Ty1)(l:Ty0)(n:Bool→(List Int)→Bool→Int→Ty0→Ty1→Ty0→Option α):Option α:=G33 e h i j l (fun o p=>cond o (n false [0,0,0,0,0,0] e p i j l) (cond (decide (d>(160:Int))) (n false [0,0,0,0,0,0] e (3:Int) i j l) (let q:Int:=IntKind.wrap .i16 d;let r:Ty2:=mval [.i16, .i16] mW j [c,q];cond (mhas [.i16, .i16] j [c,q]) (n (r.1) (padI 6 r.2.1) e p i j l) (if l.length+1≤67108864 then if 0≤c∧c<(i.length:Nat) then if c.toNat<i.length then G66 ((List.getD i c.toNat []).headD 0) ((List.getD i c.toNat []).tail.headD 0) ((List.getD i c.toNat []).tail.tail.headD 0) ((List.getD i c.toNat []).tail.tail.tail.headD 0) ((List.getD i c.toNat []).tail.tail.tail.tail.headD 0) d e p i j (l++[[c,q]]) (fun s t u v w x=>G33 u v i w x (fun y z=>cond y (n false [0,0,0,0,0,0] u z i w x) (n s t u z i (mput [.i16, .i16] w [c,q] (s,t,())) x))) else none else none else none))))
noncomputable def g32(m:Nat):Al S_g32:=
 Nat.rec (motive:=fun _=>Al S_g32) (fun{α}=>fun _ _ _ _ _ _ _ _=>none) (fun m ih {α}=>g32b (g33 m) (g66 ih m)) m
def g32hd(G33:Al S_g33)(G66:Al S_g66):Hd where
 call:=fun f args Bs k=>cond (Nat.beq f 33) (g33R G33 args Bs k) (cond (Nat.beq f 66) (g66R G66 args Bs k) (none))
 loop:=fun id st k=>none
 ro:=fun f=>cond (Nat.beq f 33) [1,2,3] (cond (Nat.beq f 66) [1] ([]))
def g32h(A32:Al S_g32)(m:Nat):Hd:=g32hd (g33 m) (g66 A32 m)
theorem g32Main(G33:Al S_g33)(G66:Al S_g66){α:Type}(ls:List Lf)(k:KRe α):
  g32K (g32b G33 G66) ls k=evFunM tab (g32hd G33 G66) Tryz.f32 3 (fT g32tp ls) (fB g32tp g32bp ls) k:=by kernel_rfl
theorem g32Calls(A32:Al S_g32)(hA32:HA32 A32)(m:Nat):(g32h A32 m).CallsOk Tryz.prog:=(cok_cons (g33Ok m) (cok_cons (g66Ok A32 hA32 m) cok_nil))
theorem g32FnS(m:Nat)(hA:RowOk Tryz.prog 32 (fun{α}=>g32R (g32 m (α:=α)))):FnOk Tryz.prog 32 g32tp g32bp (fun{α}=>g32K (g32 (m+1) (α:=α))):=
 fn_okM (tab:=tab) (h:=g32h (g32 m) m) (fn:=Tryz.f32) (F:=fun{α}=>g32K (g32 (m+1) (α:=α))) tabOk (g32Calls (g32 m) hA m) mixed (by kernel_rfl) (by kernel_rfl) (fun c hc=>by
  rw[bodyOf_some hc]
  exact loopsOk_of _ (fun p hp=>by rw[show loopsOf (bodyOf Tryz.f32)=[] by kernel_rfl] at hp;cases hp))
  (fun _=>g32Main (g33 m) (g66 (g32 m) m))
theorem g32Fn:∀m:Nat,FnOk Tryz.prog 32 g32tp g32bp (fun{α}=>g32K (g32 m (α:=α)))
 |0=>fun α ls k r h=>nomatch (show(none:Option α)=some r from h)
 |m+1=>g32FnS m (row_of (g32Fn m))
theorem g32Ok(m:Nat):RowOk Tryz.prog 32 (fun{α}=>g32R (g32 m (α:=α))):=row_of (g32Fn m)
abbrev S_g8(α:Type):Type:=Int→Int→Ty0→(Bool→(List Int)→Int→Option α)→Option α
def g8b{α:Type}(G31:Al S_g31)(G32:Al S_g32)(G33:Al S_g33)(a b:Int)(c:Ty0)(d:Bool→(List Int)→Int→Option α):Option α:=G31 b (64:Int) 0 1 1 c [a] (fun e=>cond (e !=(0:Int)) (d false [0,0,0,0,0,0] e) (none)) (fun h i=>G32 (IntKind.wrap .i16 a) b false (0:Int) c h i (fun j l n o p q r=>G33 n o c q r (fun s t=>cond s (d false [0,0,0,0,0,0] t) (d j l (0:Int)))))
noncomputable def g8{α:Type}(m:Nat):S_g8 α:=
 g8b (g31 m) (g32 m) (g33 m)
def g8tp:List TP:=[(.vl (.sv (.gsl 0 5))),tI,tI]
def g8bp:List BP:=[(false,[(.gro rN)])]
def g8K{α:Type}(G:S_g8 α)(ls:List Lf)(k:KRe α):Option α:=
 G (lf ls 0).int (lf ls 1).int ((lf ls 2).lst rN)
  (fun a b c=>k (.tup [(.agg [(.one (.bool a)),(.seq uU 6 b)]),(.sv (.int .i64 c))]) [[(.gro rN ((lf ls 2).lst rN))]] [])
def g8R{α:Type}(G:S_g8 α):=rowK g8tp g8bp (g8K G)
def g8hd(G31:Al S_g31)(G32:Al S_g32)(G33:Al S_g33):Hd where
 call:=fun f args Bs k=>cond (Nat.beq f 31) (g31R G31 args Bs k) (cond (Nat.beq f 32) (g32R G32 args Bs k) (cond (Nat.beq f 33) (g33R G33 args Bs k) (none)))
 loop:=fun id st k=>none
 ro:=fun f=>cond (Nat.beq f 31) [0,1] (cond (Nat.beq f 32) [1] (cond (Nat.beq f 33) [1,2,3] ([])))
noncomputable def g8h(m:Nat):Hd:=g8hd (g31 m) (g32 m) (g33 m)
theorem g8Main(G31:Al S_g31)(G32:Al S_g32)(G33:Al S_g33){α:Type}(ls:List Lf)(k:KRe α):
  g8K (g8b G31 G32 G33) ls k=evFun tab (g8hd G31 G32 G33) Tryz.f8 (fT g8tp ls) (fB g8tp g8bp ls) k:=by kernel_rfl
theorem g8Calls(m:Nat):(g8h m).CallsOk Tryz.prog:=(cok_cons (g31Ok m) (cok_cons (g32Ok m) (cok_cons (g33Ok m) cok_nil)))
theorem g8Ok(m:Nat):RowOk Tryz.prog 8 (fun{α}=>g8R (g8 m (α:=α))):=
 rwk (g8Calls m) (lo0 (by kernel_rfl))
  (fun _=>g8Main (g31 m) (g32 m) (g33 m))
abbrev S_g95(α:Type):Type:=Int→Int→Int→(Bool→Option α)→Option α
def g95b{α:Type}(a b c:Int)(d:Bool→Option α):Option α:=cond (decide (a≥b)) (d (decide (a≤c))) (d false)
def g95{α:Type}(m:Nat):S_g95 α:=
 g95b
def g95tp:List TP:=[tI,tI,tI]
def g95bp:List BP:=[]
def g95K{α:Type}(G:S_g95 α)(ls:List Lf)(k:KRe α):Option α:=
 G (lf ls 0).int (lf ls 1).int (lf ls 2).int
  (fun a=>k (.vl (.sv (.bool a))) [] [])
def g95R{α:Type}(G:S_g95 α):=rowK g95tp g95bp (g95K G)
def g95hd:Hd where
 call:=fun f args Bs k=>none
 loop:=fun id st k=>none
 ro:=fun f=>[]
def g95h(m:Nat):Hd:=g95hd
theorem g95Main{α:Type}(ls:List Lf)(k:KRe α):
  g95K (g95b) ls k=evFun tab (g95hd) Tryz.f95 (fT g95tp ls) (fB g95tp g95bp ls) k:=by kernel_rfl
theorem g95Calls(m:Nat):(g95h m).CallsOk Tryz.prog:=cok_nil
theorem g95Ok(m:Nat):RowOk Tryz.prog 95 (fun{α}=>g95R (g95 m (α:=α))):=
 rwk (g95Calls m) (lo0 (by kernel_rfl))
  (fun _=>g95Main)
abbrev S_g117(α:Type):Type:=Int→(Bool→Option α)→Option α
def g117b{α:Type}(a:Int)(b:Bool→Option α):Option α:=cond (a==(6:Int)) (b true) (cond (a==(7:Int)) (b true) (b (a==(10:Int))))
def g117{α:Type}(m:Nat):S_g117 α:=
 g117b
def g117tp:List TP:=[(.vl (.sv (.int .i8)))]
def g117bp:List BP:=[]
def g117K{α:Type}(G:S_g117 α)(ls:List Lf)(k:KRe α):Option α:=
 G (lf ls 0).int
  (fun a=>k (.vl (.sv (.bool a))) [] [])
def g117R{α:Type}(G:S_g117 α):=rowK g117tp g117bp (g117K G)
def g117hd:Hd where
 call:=fun f args Bs k=>none
 loop:=fun id st k=>none
 ro:=fun f=>[]
def g117h(m:Nat):Hd:=g117hd
theorem g117Main{α:Type}(ls:List Lf)(k:KRe α):
  g117K (g117b) ls k=evFun tab (g117hd) Tryz.f117 (fT g117tp ls) (fB g117tp g117bp ls) k:=by kernel_rfl
theorem g117Calls(m:Nat):(g117h m).CallsOk Tryz.prog:=cok_nil
theorem g117Ok(m:Nat):RowOk Tryz.prog 117 (fun{α}=>g117R (g117 m (α:=α))):=
 rwk (g117Calls m) (lo0 (by kernel_rfl))
  (fun _=>g117Main)
abbrev S_g96(α:Type):Type:=Nat→Int→Ty0→(Bool→Option α)→Option α
def g96b{α:Type}(G117:Al S_g117)(G95:Al S_g95)(G62:Al S_g62)(a:Nat)(b:Int)(c:Ty0)(d:Bool→Option α):Option α:=if a<c.length then cond (decide (((List.getD c a []).headD 0)<(1:Int))) (d false) (if a<c.length then cond (decide (((List.getD c a []).headD 0)>(12:Int))) (d false) (if a<c.length then G117 ((List.getD c a []).headD 0) (fun e=>cond e (if a<c.length then G95 (IntKind.wrap .i64 (((List.getD c a []).tail).headD 0)) (0:Int) (IntKind.wrap .i64 (b-(1:Int))) (fun h=>cond (!h) (d false) (if a<c.length then cond ((((List.getD c a []).tail.tail.tail).headD 0) !=(0:Int)) (d false) (if a<c.length then cond ((((List.getD c a []).tail.tail.tail.tail).headD 0) !=(0:Int)) (d false) (if a<c.length then G62 ((List.getD c a []).headD 0) (fun i=>cond i (if a<c.length then G95 (IntKind.wrap .i64 (((List.getD c a []).tail.tail).headD 0)) (0:Int) (IntKind.wrap .i64 (b-(1:Int))) (fun j=>d j) else none) (if a<c.length then d ((((List.getD c a []).tail.tail).headD 0)==(0:Int)) else none)) else none) else none) else none)) else none) (if a<c.length then G62 ((List.getD c a []).headD 0) (fun l=>cond l (if a<c.length then G95 (IntKind.wrap .i64 (((List.getD c a []).tail).headD 0)) (0:Int) (IntKind.wrap .i64 (b-(1:Int))) (fun n=>cond (!n) (d false) (if a<c.length then cond ((((List.getD c a []).tail.tail.tail).headD 0) !=(0:Int)) (d false) (if a<c.length then cond ((((List.getD c a []).tail.tail.tail.tail).headD 0) !=(0:Int)) (d false) (if a<c.length then G62 ((List.getD c a []).headD 0) (fun o=>cond o (if a<c.length then G95 (IntKind.wrap .i64 (((List.getD c a []).tail.tail).headD 0)) (0:Int) (IntKind.wrap .i64 (b-(1:Int))) (fun p=>d p) else none) (if a<c.length then d ((((List.getD c a []).tail.tail).headD 0)==(0:Int)) else none)) else none) else none) else none)) else none) (if a<c.length then cond ((((List.getD c a []).tail).headD 0) !=(0:Int)) (d false) (if a<c.length then cond ((((List.getD c a []).tail.tail).headD 0) !=(0:Int)) (d false) (if a<c.length then cond (((List.getD c a []).headD 0)==(1:Int)) (if a<c.length then G95 (((List.getD c a []).tail.tail.tail).headD 0) (-1000000000:Int) (1000000000:Int) (fun q=>cond q (if a<c.length then G95 (((List.getD c a []).tail.tail.tail.tail).headD 0) (1:Int) (1000000000:Int) (fun r=>d r) else none) (d false)) else none) (if a<c.length then cond ((((List.getD c a []).tail.tail.tail).headD 0)==(0:Int)) (if a<c.length then d ((((List.getD c a []).tail.tail.tail.tail).headD 0)==(0:Int)) else none) (d false) else none) else none) else none) else none)) else none)) else none) else none) else none
def g96{α:Type}(m:Nat):S_g96 α:=
 g96b (g117 m) (g95 m) (g62 m)
def g96tp:List TP:=[(.vl (.sv (.el 0 0 5 0))),tI]
def g96bp:List BP:=[(false,[(.gro rN)])]
def g96K{α:Type}(G:S_g96 α)(ls:List Lf)(k:KRe α):Option α:=
 G (lf ls 0).nat (lf ls 1).int ((lf ls 2).lst rN)
  (fun a=>k (.vl (.sv (.bool a))) [[(.gro rN ((lf ls 2).lst rN))]] [])
def g96R{α:Type}(G:S_g96 α):=rowK g96tp g96bp (g96K G)
def g96hd(G117:Al S_g117)(G95:Al S_g95)(G62:Al S_g62):Hd where
 call:=fun f args Bs k=>cond (Nat.beq f 117) (g117R G117 args Bs k) (cond (Nat.beq f 95) (g95R G95 args Bs k) (cond (Nat.beq f 62) (g62R G62 args Bs k) (none)))
 loop:=fun id st k=>none
 ro:=fun f=>[]
def g96h(m:Nat):Hd:=g96hd (g117 m) (g95 m) (g62 m)
theorem g96Main(G117:Al S_g117)(G95:Al S_g95)(G62:Al S_g62){α:Type}(ls:List Lf)(k:KRe α):
  g96K (g96b G117 G95 G62) ls k=evFun tab (g96hd G117 G95 G62) Tryz.f96 (fT g96tp ls) (fB g96tp g96bp ls) k:=by kernel_rfl
theorem g96Calls(m:Nat):(g96h m).CallsOk Tryz.prog:=(cok_cons (g117Ok m) (cok_cons (g95Ok m) (cok_cons (g62Ok m) cok_nil)))
theorem g96Ok(m:Nat):RowOk Tryz.prog 96 (fun{α}=>g96R (g96 m (α:=α))):=
 rwk (g96Calls m) (lo0 (by kernel_rfl))
  (fun _=>g96Main (g117 m) (g95 m) (g62 m))
abbrev S_g67(α:Type):Type:=Ty0→(Bool→Option α)→Option α
abbrev S_g67l0(α:Type):Type:=Ty0→(Option α)→(Option α)→Int→Option α
def g67l0b{α:Type}(G96:Al S_g96)(a:Ty0)(b c:Option α)(d:Int→Option α)(e:Int):Option α:=cond (decide (e<((a.length:Nat):Int))) (if 0≤e∧e<(a.length:Nat) then G96 (e.toNat) e a (fun h=>cond (!h) (b) (d (IntKind.wrap .i64 (e+(1:Int))))) else none) (c)
def g67l0{α:Type}(G96:Al S_g96)(a:Ty0)(b c:Option α):Nat→Int→Option α
 |0=>fun _=>none
 |m+1=>fun d=>g67l0b G96 a b c (g67l0 G96 a b c m) d
def g67l0M{α:Type}(m:Nat):S_g67l0 α:=
 fun a b c d=>g67l0 (g96 m) a b c m d
def g67l0D:LoopD:={n:=20,low:=[0],sl:=[0,3],bl:=[0],tp:=[(.vl (.sv (.gsl 0 5))),tI],bp:=[(false,[(.gro rN)])],xs:=[(1,[2]),(2,[])]}
def g67l0K{α:Type}(L:S_g67l0 α)(ls:List Lf)(k:KEx α):Option α:=
 L ((lf ls 1).lst rN)
  (k .ret (mkSt 20 [2] [(.vl (.sv (.bool false)))] [0] [(false,[(.gro rN ((lf ls 1).lst rN))])]))
  (k .normal (mkSt 20 [] [] [0] [(false,[(.gro rN ((lf ls 1).lst rN))])]))
  (lf ls 0).int
def g67b{α:Type}(G95:Al S_g95)(G96:Al S_g96)(L67l0:Al S_g67l0)(a:Ty0)(b:Bool→Option α):Option α:=G95 ((a.length:Nat):Int) (1:Int) (40:Int) (fun c=>cond (!c) (b false) (L67l0 a (b false) (b true) (0:Int)))
def g67{α:Type}(m:Nat):S_g67 α:=
 g67b (g95 m) (g96 m) (g67l0M m)
def g67tp:List TP:=[(.vl (.sv (.gsl 0 5)))]
def g67bp:List BP:=[(false,[(.gro rN)])]
def g67K{α:Type}(G:S_g67 α)(ls:List Lf)(k:KRe α):Option α:=
 G ((lf ls 0).lst rN)
  (fun a=>k (.vl (.sv (.bool a))) [[(.gro rN ((lf ls 0).lst rN))]] [])
def g67R{α:Type}(G:S_g67 α):=rowK g67tp g67bp (g67K G)
def g67hd(G95:Al S_g95)(G96:Al S_g96)(L67l0:Al S_g67l0):Hd where
 call:=fun f args Bs k=>cond (Nat.beq f 95) (g95R G95 args Bs k) (cond (Nat.beq f 96) (g96R G96 args Bs k) (none))
 loop:=fun id st k=>cond (Nat.beq id 0) (loopH g67l0D (g67l0K L67l0) st k) (none)
 ro:=fun f=>cond (Nat.beq f 96) [0] ([])
def g67h(m:Nat):Hd:=g67hd (g95 m) (g96 m) (g67l0M m)
theorem g67l0Step(G95:Al S_g95)(G96:Al S_g96)(L67l0:Al S_g67l0){α:Type}(L:S_g67l0 α)(ls:List Lf)(k:KEx α):
  g67l0K (fun a b c d=>g67l0b G96 a b c (L a b c) d) ls k=ev tab (g67hd G95 G96 L67l0) (bodyAt Tryz.f67 0) (atHead g67l0D ls) (loopK g67l0D 0 (loopH g67l0D (g67l0K L)) k):=by kernel_rfl
theorem g67Main(G95:Al S_g95)(G96:Al S_g96)(L67l0:Al S_g67l0){α:Type}(ls:List Lf)(k:KRe α):
  g67K (g67b G95 G96 L67l0) ls k=evFun tab (g67hd G95 G96 L67l0) Tryz.f67 (fT g67tp ls) (fB g67tp g67bp ls) k:=by kernel_rfl
theorem g67Calls(m:Nat):(g67h m).CallsOk Tryz.prog:=(cok_cons (g95Ok m) (cok_cons (g96Ok m) cok_nil))
theorem g67l0Ok(m:Nat)(α:Type)(st:St)(k:KEx α)(r:α)(h:(g67h m).loop 0 st k=some r):
  LoopS Tryz.prog 0 (bodyAt Tryz.f67 0) st k r:=
 lpk (F:=fun n ls k=>g67l0K (fun a b c d=>g67l0 (g96 m) a b c n d) ls k) (g67Calls m) (lb0 (by kernel_rfl))
  (fun _ _=>rfl) (fun n ls k=>g67l0Step (g95 m) (g96 m) (g67l0M m) (fun a b c=>g67l0 (g96 m) a b c n) ls k) (n:=m) h
theorem g67Ok(m:Nat):RowOk Tryz.prog 67 (fun{α}=>g67R (g67 m (α:=α))):=
 rwk (g67Calls m) (lo1 (by kernel_rfl) (g67l0Ok m))
  (fun _=>g67Main (g95 m) (g96 m) (g67l0M m))
abbrev S_g68(α:Type):Type:=Int→Ty0→(Bool→Option α)→Option α
def g68b{α:Type}(G95:Al S_g95)(a:Int)(b:Ty0)(c:Bool→Option α):Option α:=G95 a (0:Int) (IntKind.wrap .i64 (((b.length:Nat):Int)-(1:Int))) (fun d=>c d)
def g68{α:Type}(m:Nat):S_g68 α:=
 g68b (g95 m)
def g68tp:List TP:=[(.vl (.sv (.gsl 0 5))),tI]
def g68bp:List BP:=[(false,[(.gro rN)])]
def g68K{α:Type}(G:S_g68 α)(ls:List Lf)(k:KRe α):Option α:=
 G (lf ls 0).int ((lf ls 1).lst rN)
  (fun a=>k (.vl (.sv (.bool a))) [[(.gro rN ((lf ls 1).lst rN))]] [])
def g68R{α:Type}(G:S_g68 α):=rowK g68tp g68bp (g68K G)
def g68hd(G95:Al S_g95):Hd where
 call:=fun f args Bs k=>cond (Nat.beq f 95) (g95R G95 args Bs k) (none)
 loop:=fun id st k=>none
 ro:=fun f=>[]
def g68h(m:Nat):Hd:=g68hd (g95 m)
theorem g68Main(G95:Al S_g95){α:Type}(ls:List Lf)(k:KRe α):
  g68K (g68b G95) ls k=evFun tab (g68hd G95) Tryz.f68 (fT g68tp ls) (fB g68tp g68bp ls) k:=by kernel_rfl
theorem g68Calls(m:Nat):(g68h m).CallsOk Tryz.prog:=(cok_cons (g95Ok m) cok_nil)
theorem g68Ok(m:Nat):RowOk Tryz.prog 68 (fun{α}=>g68R (g68 m (α:=α))):=
 rwk (g68Calls m) (lo0 (by kernel_rfl))
  (fun _=>g68Main (g95 m))
abbrev S_g69(α:Type):Type:=Int→(Bool→Option α)→Option α
def g69b{α:Type}(G95:Al S_g95)(a:Int)(b:Bool→Option α):Option α:=G95 a (0:Int) (64:Int) (fun c=>b c)
def g69{α:Type}(m:Nat):S_g69 α:=
 g69b (g95 m)
def g69tp:List TP:=[tI]
def g69bp:List BP:=[]
def g69K{α:Type}(G:S_g69 α)(ls:List Lf)(k:KRe α):Option α:=
 G (lf ls 0).int
  (fun a=>k (.vl (.sv (.bool a))) [] [])
def g69R{α:Type}(G:S_g69 α):=rowK g69tp g69bp (g69K G)
def g69hd(G95:Al S_g95):Hd where
 call:=fun f args Bs k=>cond (Nat.beq f 95) (g95R G95 args Bs k) (none)
 loop:=fun id st k=>none
 ro:=fun f=>[]
def g69h(m:Nat):Hd:=g69hd (g95 m)
theorem g69Main(G95:Al S_g95){α:Type}(ls:List Lf)(k:KRe α):
  g69K (g69b G95) ls k=evFun tab (g69hd G95) Tryz.f69 (fT g69tp ls) (fB g69tp g69bp ls) k:=by kernel_rfl
theorem g69Calls(m:Nat):(g69h m).CallsOk Tryz.prog:=(cok_cons (g95Ok m) cok_nil)
theorem g69Ok(m:Nat):RowOk Tryz.prog 69 (fun{α}=>g69R (g69 m (α:=α))):=
 rwk (g69Calls m) (lo0 (by kernel_rfl))
  (fun _=>g69Main (g95 m))
abbrev S_g34(α:Type):Type:=Int→Int→Ty0→(Int→Option α)→Option α
def g34b{α:Type}(G67:Al S_g67)(G68:Al S_g68)(G69:Al S_g69)(a b:Int)(c:Ty0)(d:Int→Option α):Option α:=G67 c (fun e=>cond (!e) (d (1:Int)) (G68 a c (fun h=>cond (!h) (d (2:Int)) (G69 b (fun i=>cond (!i) (d (2:Int)) (d (0:Int)))))))
def g34{α:Type}(m:Nat):S_g34 α:=
 g34b (g67 m) (g68 m) (g69 m)
def g34tp:List TP:=[(.vl (.sv (.gsl 0 5))),tI,tI]
def g34bp:List BP:=[(false,[(.gro rN)])]
def g34K{α:Type}(G:S_g34 α)(ls:List Lf)(k:KRe α):Option α:=
 G (lf ls 0).int (lf ls 1).int ((lf ls 2).lst rN)
  (fun a=>k (.vl (.sv (.int .i64 a))) [[(.gro rN ((lf ls 2).lst rN))]] [])
def g34R{α:Type}(G:S_g34 α):=rowK g34tp g34bp (g34K G)
def g34hd(G67:Al S_g67)(G68:Al S_g68)(G69:Al S_g69):Hd where
 call:=fun f args Bs k=>cond (Nat.beq f 67) (g67R G67 args Bs k) (cond (Nat.beq f 68) (g68R G68 args Bs k) (cond (Nat.beq f 69) (g69R G69 args Bs k) (none)))
 loop:=fun id st k=>none
 ro:=fun f=>cond (Nat.beq f 67) [0] (cond (Nat.beq f 68) [0] ([]))
def g34h(m:Nat):Hd:=g34hd (g67 m) (g68 m) (g69 m)
theorem g34Main(G67:Al S_g67)(G68:Al S_g68)(G69:Al S_g69){α:Type}(ls:List Lf)(k:KRe α):
  g34K (g34b G67 G68 G69) ls k=evFun tab (g34hd G67 G68 G69) Tryz.f34 (fT g34tp ls) (fB g34tp g34bp ls) k:=by kernel_rfl
theorem g34Calls(m:Nat):(g34h m).CallsOk Tryz.prog:=(cok_cons (g67Ok m) (cok_cons (g68Ok m) (cok_cons (g69Ok m) cok_nil)))
theorem g34Ok(m:Nat):RowOk Tryz.prog 34 (fun{α}=>g34R (g34 m (α:=α))):=
 rwk (g34Calls m) (lo0 (by kernel_rfl))
  (fun _=>g34Main (g67 m) (g68 m) (g69 m))
abbrev S_g35(α:Type):Type:=Ty0→(Nat→Nat→Ty3→Ty0→Option α)→Option α
def g35b{α:Type}(a:Ty0)(b:Nat→Nat→Ty3→Ty0→Option α):Option α:=if((a.length:Nat):Int)=((a.length:Nat):Int)∧0≤((a.length:Nat):Int)∧((a.length:Nat):Int)≤1048576 then let c:Nat:=a.length;b c c (List.replicate c []) [] else none
def g35{α:Type}(m:Nat):S_g35 α:=
 g35b
def g35tp:List TP:=[(.vl (.sv (.gsl 0 5)))]
def g35bp:List BP:=[(false,[(.gro rN)])]
def g35K{α:Type}(G:S_g35 α)(ls:List Lf)(k:KRe α):Option α:=
 G ((lf ls 0).lst rN)
  (fun c d e h=>k (.vl (.sv (.ptr 1 0))) [[(.gro rN ((lf ls 0).lst rN))]] [[(.one (.gsl 0 5)),(.one (.slc 2 0 1 0 c d)),(.one (.gsl 3 2))],[(.rws mK e none)],[(.gro rP h)]])
def g35R{α:Type}(G:S_g35 α):=rowK g35tp g35bp (g35K G)
def g35hd:Hd where
 call:=fun f args Bs k=>none
 loop:=fun id st k=>none
 ro:=fun f=>[]
def g35h(m:Nat):Hd:=g35hd
theorem g35Main{α:Type}(ls:List Lf)(k:KRe α):
  g35K (g35b) ls k=evFun tab (g35hd) Tryz.f35 (fT g35tp ls) (fB g35tp g35bp ls) k:=by kernel_rfl
theorem g35Calls(m:Nat):(g35h m).CallsOk Tryz.prog:=cok_nil
theorem g35Ok(m:Nat):RowOk Tryz.prog 35 (fun{α}=>g35R (g35 m (α:=α))):=
 rwk (g35Calls m) (lo0 (by kernel_rfl))
  (fun _=>g35Main)
abbrev S_g126(α:Type):Type:=(List Int)→(Bool→Option α)→Option α
def g126b{α:Type}(a:List Int)(b:Bool→Option α):Option α:=b (eqLI a [0,0,0,0,0,0])
def g126{α:Type}(m:Nat):S_g126 α:=
 g126b
def g126tp:List TP:=[(.vl (.sv (.ptr 0 0)))]
def g126bp:List BP:=[(false,[(.seq uU 6)])]
def g126K{α:Type}(G:S_g126 α)(ls:List Lf)(k:KRe α):Option α:=
 G ((lf ls 0).lst uU)
  (fun a=>k (.vl (.sv (.bool a))) [[(.seq uU 6 ((lf ls 0).lst uU))]] [])
def g126R{α:Type}(G:S_g126 α):=rowK g126tp g126bp (g126K G)
def g126hd:Hd where
 call:=fun f args Bs k=>none
 loop:=fun id st k=>none
 ro:=fun f=>[]
def g126h(m:Nat):Hd:=g126hd
theorem g126Main{α:Type}(ls:List Lf)(k:KRe α):
  g126K (g126b) ls k=evFun tab (g126hd) Tryz.f126 (fT g126tp ls) (fB g126tp g126bp ls) k:=by kernel_rfl
theorem g126Calls(m:Nat):(g126h m).CallsOk Tryz.prog:=cok_nil
theorem g126Ok(m:Nat):RowOk Tryz.prog 126 (fun{α}=>g126R (g126 m (α:=α))):=
 rwk (g126Calls m) (lo0 (by kernel_rfl))
  (fun _=>g126Main)
abbrev S_g110(α:Type):Type:=Bool→(List Int)→(Bool→Option α)→Option α
def g110b{α:Type}(G126:Al S_g126)(a:Bool)(b:List Int)(c:Bool→Option α):Option α:=cond a (G126 b (fun d=>c (!d))) (c false)
def g110{α:Type}(m:Nat):S_g110 α:=
 g110b (g126 m)
def g110tp:List TP:=[(.vl (.sv .bool)),(.vl (.agg [(.seq uU 6)]))]
def g110bp:List BP:=[]
def g110K{α:Type}(G:S_g110 α)(ls:List Lf)(k:KRe α):Option α:=
 G (lf ls 0).bool ((lf ls 1).lst uU)
  (fun a=>k (.vl (.agg [(.one (.bool a)),(.seq uU 6 ((lf ls 1).lst uU))])) [] [])
def g110R{α:Type}(G:S_g110 α):=rowK g110tp g110bp (g110K G)
def g110hd(G126:Al S_g126):Hd where
 call:=fun f args Bs k=>cond (Nat.beq f 126) (g126R G126 args Bs k) (none)
 loop:=fun id st k=>none
 ro:=fun f=>cond (Nat.beq f 126) [0] ([])
def g110h(m:Nat):Hd:=g110hd (g126 m)
theorem g110Main(G126:Al S_g126){α:Type}(ls:List Lf)(k:KRe α):
  g110K (g110b G126) ls k=evFun tab (g110hd G126) Tryz.f110 (fT g110tp ls) (fB g110tp g110bp ls) k:=by kernel_rfl
theorem g110Calls(m:Nat):(g110h m).CallsOk Tryz.prog:=(cok_cons (g126Ok m) cok_nil)
theorem g110Ok(m:Nat):RowOk Tryz.prog 110 (fun{α}=>g110R (g110 m (α:=α))):=
 rwk (g110Calls m) (lo0 (by kernel_rfl))
  (fun _=>g110Main (g126 m))
abbrev S_g80(α:Type):Type:=Int→(Bool→(List Int)→Option α)→Option α
def g80b{α:Type}(G110:Al S_g110)(a:Int)(b:Bool→(List Int)→Option α):Option α:=let c:Int:=IntKind.wrap .u64 a;cond (decide (a<(0:Int))) (let d:Int:=IntKind.wrap .u64 (0-c);let e:List Int:=List.set (List.set [0,0,0,0,0,0] 0 (IntKind.wrap .u32 d)) 1 (IntKind.wrap .u32 (Int.fdiv d (2^32)));G110 (decide (a<(0:Int))) e (fun h=>b h e)) (let i:List Int:=List.set (List.set [0,0,0,0,0,0] 0 (IntKind.wrap .u32 c)) 1 (IntKind.wrap .u32 (Int.fdiv c (2^32)));G110 (decide (a<(0:Int))) i (fun j=>b j i))
def g80{α:Type}(m:Nat):S_g80 α:=
 g80b (g110 m)
def g80tp:List TP:=[tI]
def g80bp:List BP:=[]
def g80K{α:Type}(G:S_g80 α)(ls:List Lf)(k:KRe α):Option α:=
 G (lf ls 0).int
  (fun a b=>k (.vl (.agg [(.one (.bool a)),(.seq uU 6 b)])) [] [])
def g80R{α:Type}(G:S_g80 α):=rowK g80tp g80bp (g80K G)
def g80hd(G110:Al S_g110):Hd where
 call:=fun f args Bs k=>cond (Nat.beq f 110) (g110R G110 args Bs k) (none)
 loop:=fun id st k=>none
 ro:=fun f=>[]
def g80h(m:Nat):Hd:=g80hd (g110 m)
theorem g80Main(G110:Al S_g110){α:Type}(ls:List Lf)(k:KRe α):
  g80K (g80b G110) ls k=evFun tab (g80hd G110) Tryz.f80 (fT g80tp ls) (fB g80tp g80bp ls) k:=by kernel_rfl
theorem g80Calls(m:Nat):(g80h m).CallsOk Tryz.prog:=(cok_cons (g110Ok m) cok_nil)
theorem g80Ok(m:Nat):RowOk Tryz.prog 80 (fun{α}=>g80R (g80 m (α:=α))):=
 rwk (g80Calls m) (lo0 (by kernel_rfl))
  (fun _=>g80Main (g110 m))
abbrev S_g122(α:Type):Type:=(List Int)→(Int→Option α)→Option α
abbrev S_g122l2(α:Type):Type:=Int→(List Int)→(Int→Option α)→Int→Int→Option α
def g122l2b{α:Type}(a:Int)(b:List Int)(c:Int→Option α)(d:Int→Int→Option α)(e h:Int):Option α:=cond (decide (h>(0:Int))) (d (IntKind.wrap .i64 (e+(1:Int))) (Int.fdiv h (2^1))) (c e)
def g122l2{α:Type}(a:Int)(b:List Int)(c:Int→Option α):Nat→Int→Int→Option α
 |0=>fun _ _=>none
 |m+1=>fun d e=>g122l2b a b c (g122l2 a b c m) d e
def g122l2M{α:Type}(m:Nat):S_g122l2 α:=
 fun a b c d e=>g122l2 a b c m d e
def g122l2D:LoopD:={n:=31,low:=[0],sl:=[3,4,5],bl:=[0],tp:=[tI,tI,(.vl (.sv (.int .u32)))],bp:=[(false,[(.seq uU 6)])],xs:=[(4,[3,4])]}
def g122l2K{α:Type}(L:S_g122l2 α)(ls:List Lf)(k:KEx α):Option α:=
 L (lf ls 0).int ((lf ls 3).lst uU)
  (fun a=>k .normal (mkSt 31 [3,4] [(.vl (.sv (.int .i64 (lf ls 0).int))),(.vl (.sv (.int .i64 a)))] [0] [(false,[(.seq uU 6 ((lf ls 3).lst uU))])]))
  (lf ls 1).int (lf ls 2).int
abbrev S_g122l0(α:Type):Type:=(List Int)→(Int→Option α)→(Option α)→Int→Option α
def g122l0b{α:Type}(L122l2:Al S_g122l2)(a:List Int)(b:Int→Option α)(c:Option α)(d:Int→Option α)(e:Int):Option α:=cond (decide (e≥(0:Int))) (if 0≤e∧e<(6:Nat) then if e.toNat<6 then cond ((List.getD a e.toNat 0)==(0:Int)) (d (IntKind.wrap .i64 (e-(1:Int)))) (if 0≤e∧e<(6:Nat) then if e.toNat<6 then L122l2 e a (fun h=>b (IntKind.wrap .i64 ((IntKind.wrap .i64 ((32:Int)*e))+h))) (0:Int) (List.getD a e.toNat 0) else none else none) else none else none) (c)
def g122l0{α:Type}(L122l2:Al S_g122l2)(a:List Int)(b:Int→Option α)(c:Option α):Nat→Int→Option α
 |0=>fun _=>none
 |m+1=>fun d=>g122l0b L122l2 a b c (g122l0 L122l2 a b c m) d
def g122l0M{α:Type}(m:Nat):S_g122l0 α:=
 fun a b c d=>g122l0 (g122l2M m) a b c m d
def g122l0D:LoopD:={n:=31,low:=[0],sl:=[0,3],bl:=[0],tp:=[(.vl (.sv (.ptr 0 0))),tI],bp:=[(false,[(.seq uU 6)])],xs:=[(1,[2]),(2,[])]}
def g122l0K{α:Type}(L:S_g122l0 α)(ls:List Lf)(k:KEx α):Option α:=
 L ((lf ls 1).lst uU)
  (fun a=>k .ret (mkSt 31 [2] [(.vl (.sv (.int .i64 a)))] [0] [(false,[(.seq uU 6 ((lf ls 1).lst uU))])]))
  (k .normal (mkSt 31 [] [] [0] [(false,[(.seq uU 6 ((lf ls 1).lst uU))])]))
  (lf ls 0).int
def g122b{α:Type}(L122l2:Al S_g122l2)(L122l0:Al S_g122l0)(a:List Int)(b:Int→Option α):Option α:=L122l0 a (fun c=>b c) (b (0:Int)) (5:Int)
def g122{α:Type}(m:Nat):S_g122 α:=
 g122b (g122l2M m) (g122l0M m)
def g122tp:List TP:=[(.vl (.sv (.ptr 0 0)))]
def g122bp:List BP:=[(false,[(.seq uU 6)])]
def g122K{α:Type}(G:S_g122 α)(ls:List Lf)(k:KRe α):Option α:=
 G ((lf ls 0).lst uU)
  (fun a=>k (.vl (.sv (.int .i64 a))) [[(.seq uU 6 ((lf ls 0).lst uU))]] [])
def g122R{α:Type}(G:S_g122 α):=rowK g122tp g122bp (g122K G)
def g122hd(L122l2:Al S_g122l2)(L122l0:Al S_g122l0):Hd where
 call:=fun f args Bs k=>none
 loop:=fun id st k=>cond (Nat.beq id 2) (loopH g122l2D (g122l2K L122l2) st k) (cond (Nat.beq id 0) (loopH g122l0D (g122l0K L122l0) st k) (none))
 ro:=fun f=>[]
def g122h(m:Nat):Hd:=g122hd (g122l2M m) (g122l0M m)
theorem g122l2Step(L122l2:Al S_g122l2)(L122l0:Al S_g122l0){α:Type}(L:S_g122l2 α)(ls:List Lf)(k:KEx α):
  g122l2K (fun a b c d e=>g122l2b a b c (L a b c) d e) ls k=ev tab (g122hd L122l2 L122l0) (bodyAt Tryz.f122 2) (atHead g122l2D ls) (loopK g122l2D 2 (loopH g122l2D (g122l2K L)) k):=by kernel_rfl
theorem g122l0Step(L122l2:Al S_g122l2)(L122l0:Al S_g122l0){α:Type}(L:S_g122l0 α)(ls:List Lf)(k:KEx α):
  g122l0K (fun a b c d=>g122l0b L122l2 a b c (L a b c) d) ls k=ev tab (g122hd L122l2 L122l0) (bodyAt Tryz.f122 0) (atHead g122l0D ls) (loopK g122l0D 0 (loopH g122l0D (g122l0K L)) k):=by kernel_rfl
theorem g122Main(L122l2:Al S_g122l2)(L122l0:Al S_g122l0){α:Type}(ls:List Lf)(k:KRe α):
  g122K (g122b L122l2 L122l0) ls k=evFun tab (g122hd L122l2 L122l0) Tryz.f122 (fT g122tp ls) (fB g122tp g122bp ls) k:=by kernel_rfl
theorem g122Calls(m:Nat):(g122h m).CallsOk Tryz.prog:=cok_nil
theorem g122l2Ok(m:Nat)(α:Type)(st:St)(k:KEx α)(r:α)(h:(g122h m).loop 2 st k=some r):
  LoopS Tryz.prog 2 (bodyAt Tryz.f122 2) st k r:=
 lpk (F:=fun n ls k=>g122l2K (fun a b c d e=>g122l2 a b c n d e) ls k) (g122Calls m) (lb0 (by kernel_rfl))
  (fun _ _=>rfl) (fun n ls k=>g122l2Step (g122l2M m) (g122l0M m) (fun a b c=>g122l2 a b c n) ls k) (n:=m) h
theorem g122l0Ok(m:Nat)(α:Type)(st:St)(k:KEx α)(r:α)(h:(g122h m).loop 0 st k=some r):
  LoopS Tryz.prog 0 (bodyAt Tryz.f122 0) st k r:=
 lpk (F:=fun n ls k=>g122l0K (fun a b c d=>g122l0 (g122l2M m) a b c n d) ls k) (g122Calls m) (loopsOk_of _ (fun p hp=>by
  rw[show loopsOf (bodyAt Tryz.f122 0)=[(2,bodyAt Tryz.f122 2)] by kernel_rfl] at hp
  simp only[List.mem_cons,List.not_mem_nil,or_false] at hp
  rcases hp with rfl
  exact g122l2Ok m))
  (fun _ _=>rfl) (fun n ls k=>g122l0Step (g122l2M m) (g122l0M m) (fun a b c=>g122l0 (g122l2M m) a b c n) ls k) (n:=m) h
theorem g122Ok(m:Nat):RowOk Tryz.prog 122 (fun{α}=>g122R (g122 m (α:=α))):=
 rwk (g122Calls m) (lo1 (by kernel_rfl) (g122l0Ok m))
  (fun _=>g122Main (g122l2M m) (g122l0M m))
abbrev S_g107(α:Type):Type:=Int→(List Int)→((List Int)→Bool→Option α)→Option α
abbrev S_g107l0(α:Type):Type:=Int→(List Int)→(List Int)→((List Int)→Option α)→Int→(List Int)→Option α
def g107l0b{α:Type}(a:Int)(b c:List Int)(d:(List Int)→Option α)(e:Int→(List Int)→Option α)(h:Int)(i:List Int):Option α:=cond (decide (h<(6:Int))) (let j:Int:=IntKind.wrap .i64 (h+(IntKind.wrap .i64 (Int.tdiv a (32:Int))));cond (decide (j≥(6:Int))) (d i) (if 0≤h∧h<(6:Nat) then if h.toNat<6 then let l:Int:=IntKind.wrap .u64 (Int.tmod a (32:Int));if l<0 then none else let n:Int:=IntKind.wrap .u64 ((IntKind.wrap .u64 (List.getD b h.toNat 0))*2^(min l.toNat 64));if 0≤j∧j<(6:Nat) then if j.toNat<6 then if 0≤j∧j<(6:Nat) then if j.toNat<6 then let o:List Int:=List.set i (j.toNat) (ibits .or .u32 (List.getD i j.toNat 0) (IntKind.wrap .u32 n));cond (decide ((IntKind.wrap .i64 (j+(1:Int)))<(6:Int))) (let p:Int:=IntKind.wrap .i64 (j+(1:Int));if 0≤p∧p<(6:Nat) then if p.toNat<6 then if 0≤p∧p<(6:Nat) then if p.toNat<6 then e (IntKind.wrap .i64 (h+(1:Int))) (List.set o (p.toNat) (ibits .or .u32 (List.getD o p.toNat 0) (IntKind.wrap .u32 (Int.fdiv n (2^32))))) else none else none else none else none) (e (IntKind.wrap .i64 (h+(1:Int))) o) else none else none else none else none else none else none)) (d i)
def g107l0{α:Type}(a:Int)(b c:List Int)(d:(List Int)→Option α):Nat→Int→(List Int)→Option α
 |0=>fun _ _=>none
 |m+1=>fun e h=>g107l0b a b c d (g107l0 a b c d m) e h
def g107l0M{α:Type}(m:Nat):S_g107l0 α:=
 fun a b c d e h=>g107l0 a b c d m e h
def g107l0D:LoopD:={n:=62,low:=[0],sl:=[0,1,4,6,7],bl:=[0,1000001,1000002],tp:=[(.vl (.sv (.ptr 0 0))),tI,(.vl (.sv (.ptr 1000001 0))),(.vl (.sv (.ptr 1000002 0))),tI],bp:=[(false,[(.seq uU 6)]),b6,b6],xs:=[(2,[4,6])]}
def g107l0K{α:Type}(L:S_g107l0 α)(ls:List Lf)(k:KEx α):Option α:=
 L (lf ls 0).int ((lf ls 2).lst uU) ((lf ls 3).lst uU)
  (fun a=>k .normal (mkSt 62 [4,6] [(.vl (.sv (.ptr 1000001 0))),(.vl (.sv (.ptr 1000002 0)))] [0,1000001,1000002] [(false,[(.seq uU 6 ((lf ls 2).lst uU))]),(true,[(.seq uU 6 ((lf ls 3).lst uU))]),(true,[(.seq uU 6 a)])]))
  (lf ls 1).int ((lf ls 4).lst uU)
def g107b{α:Type}(G122:Al S_g122)(G126:Al S_g126)(L107l0:Al S_g107l0)(a:Int)(b:List Int)(c:(List Int)→Bool→Option α):Option α:=G122 b (fun d=>cond (decide ((IntKind.wrap .i64 (d+a))>(192:Int))) (G126 b (fun e=>cond (!e) (c [0,0,0,0,0,0] false) (L107l0 a b [0,0,0,0,0,0] (fun h=>c h true) (0:Int) [0,0,0,0,0,0]))) (L107l0 a b [0,0,0,0,0,0] (fun i=>c i true) (0:Int) [0,0,0,0,0,0]))
def g107{α:Type}(m:Nat):S_g107 α:=
 g107b (g122 m) (g126 m) (g107l0M m)
def g107tp:List TP:=[(.vl (.sv (.ptr 0 0))),tI]
def g107bp:List BP:=[(false,[(.seq uU 6)])]
def g107K{α:Type}(G:S_g107 α)(ls:List Lf)(k:KRe α):Option α:=
 G (lf ls 0).int ((lf ls 1).lst uU)
  (fun a b=>k (.tup [(.agg [(.seq uU 6 a)]),(.sv (.bool b))]) [[(.seq uU 6 ((lf ls 1).lst uU))]] [])
def g107R{α:Type}(G:S_g107 α):=rowK g107tp g107bp (g107K G)
def g107hd(G122:Al S_g122)(G126:Al S_g126)(L107l0:Al S_g107l0):Hd where
 call:=fun f args Bs k=>cond (Nat.beq f 122) (g122R G122 args Bs k) (cond (Nat.beq f 126) (g126R G126 args Bs k) (none))
 loop:=fun id st k=>cond (Nat.beq id 0) (loopH g107l0D (g107l0K L107l0) st k) (none)
 ro:=fun f=>cond (Nat.beq f 122) [0] (cond (Nat.beq f 126) [0] ([]))
def g107h(m:Nat):Hd:=g107hd (g122 m) (g126 m) (g107l0M m)
theorem g107l0Step(G122:Al S_g122)(G126:Al S_g126)(L107l0:Al S_g107l0){α:Type}(L:S_g107l0 α)(ls:List Lf)(k:KEx α):
  g107l0K (fun a b c d e h=>g107l0b a b c d (L a b c d) e h) ls k=ev tab (g107hd G122 G126 L107l0) (bodyAt Tryz.f107 0) (atHead g107l0D ls) (loopK g107l0D 0 (loopH g107l0D (g107l0K L)) k):=by kernel_rfl
theorem g107Main(G122:Al S_g122)(G126:Al S_g126)(L107l0:Al S_g107l0){α:Type}(ls:List Lf)(k:KRe α):
  g107K (g107b G122 G126 L107l0) ls k=evFun tab (g107hd G122 G126 L107l0) Tryz.f107 (fT g107tp ls) (fB g107tp g107bp ls) k:=by kernel_rfl
theorem g107Calls(m:Nat):(g107h m).CallsOk Tryz.prog:=(cok_cons (g122Ok m) (cok_cons (g126Ok m) cok_nil))
theorem g107l0Ok(m:Nat)(α:Type)(st:St)(k:KEx α)(r:α)(h:(g107h m).loop 0 st k=some r):
  LoopS Tryz.prog 0 (bodyAt Tryz.f107 0) st k r:=
 lpk (F:=fun n ls k=>g107l0K (fun a b c d e i=>g107l0 a b c d n e i) ls k) (g107Calls m) (lb0 (by kernel_rfl))
  (fun _ _=>rfl) (fun n ls k=>g107l0Step (g122 m) (g126 m) (g107l0M m) (fun a b c d=>g107l0 a b c d n) ls k) (n:=m) h
theorem g107Ok(m:Nat):RowOk Tryz.prog 107 (fun{α}=>g107R (g107 m (α:=α))):=
 rwk (g107Calls m) (lo1 (by kernel_rfl) (g107l0Ok m))
  (fun _=>g107Main (g122 m) (g126 m) (g107l0M m))
abbrev S_g77(α:Type):Type:=Bool→(List Int)→Int→(Bool→(List Int)→Int→Option α)→Option α
def g77b{α:Type}(G107:Al S_g107)(G110:Al S_g110)(a:Bool)(b:List Int)(c:Int)(d:Bool→(List Int)→Int→Option α):Option α:=G107 c b (fun e h=>cond (!h) (d false [0,0,0,0,0,0] (3:Int)) (G110 a e (fun i=>d i e (0:Int))))
def g77{α:Type}(m:Nat):S_g77 α:=
 g77b (g107 m) (g110 m)
def g77tp:List TP:=[vW,tI]
def g77bp:List BP:=[]
def g77K{α:Type}(G:S_g77 α)(ls:List Lf)(k:KRe α):Option α:=
 G (lf ls 0).bool ((lf ls 1).lst uU) (lf ls 2).int
  (fun a b c=>k (.tup [(.agg [(.one (.bool a)),(.seq uU 6 b)]),(.sv (.int .i64 c))]) [] [])
def g77R{α:Type}(G:S_g77 α):=rowK g77tp g77bp (g77K G)
def g77hd(G107:Al S_g107)(G110:Al S_g110):Hd where
 call:=fun f args Bs k=>cond (Nat.beq f 107) (g107R G107 args Bs k) (cond (Nat.beq f 110) (g110R G110 args Bs k) (none))
 loop:=fun id st k=>none
 ro:=fun f=>cond (Nat.beq f 107) [0] ([])
def g77h(m:Nat):Hd:=g77hd (g107 m) (g110 m)
theorem g77Main(G107:Al S_g107)(G110:Al S_g110){α:Type}(ls:List Lf)(k:KRe α):
  g77K (g77b G107 G110) ls k=evFun tab (g77hd G107 G110) Tryz.f77 (fT g77tp ls) (fB g77tp g77bp ls) k:=by kernel_rfl
theorem g77Calls(m:Nat):(g77h m).CallsOk Tryz.prog:=(cok_cons (g107Ok m) (cok_cons (g110Ok m) cok_nil))
theorem g77Ok(m:Nat):RowOk Tryz.prog 77 (fun{α}=>g77R (g77 m (α:=α))):=
 rwk (g77Calls m) (lo0 (by kernel_rfl))
  (fun _=>g77Main (g107 m) (g110 m))
abbrev S_g97(α:Type):Type:=Bool→(List Int)→Int→(Bool→(List Int)→Int→Option α)→Option α
def g97b{α:Type}(G77:Al S_g77)(a:Bool)(b:List Int)(c:Int)(d:Bool→(List Int)→Int→Option α):Option α:=cond (decide (c>(191:Int))) (d false [0,0,0,0,0,0] (3:Int)) (G77 a b c (fun e h i=>d e h i))
def g97{α:Type}(m:Nat):S_g97 α:=
 g97b (g77 m)
def g97tp:List TP:=[vW,tI]
def g97bp:List BP:=[]
def g97K{α:Type}(G:S_g97 α)(ls:List Lf)(k:KRe α):Option α:=
 G (lf ls 0).bool ((lf ls 1).lst uU) (lf ls 2).int
  (fun a b c=>k (.tup [(.agg [(.one (.bool a)),(.seq uU 6 b)]),(.sv (.int .i64 c))]) [] [])
def g97R{α:Type}(G:S_g97 α):=rowK g97tp g97bp (g97K G)
def g97hd(G77:Al S_g77):Hd where
 call:=fun f args Bs k=>cond (Nat.beq f 77) (g77R G77 args Bs k) (none)
 loop:=fun id st k=>none
 ro:=fun f=>[]
def g97h(m:Nat):Hd:=g97hd (g77 m)
theorem g97Main(G77:Al S_g77){α:Type}(ls:List Lf)(k:KRe α):
  g97K (g97b G77) ls k=evFun tab (g97hd G77) Tryz.f97 (fT g97tp ls) (fB g97tp g97bp ls) k:=by kernel_rfl
theorem g97Calls(m:Nat):(g97h m).CallsOk Tryz.prog:=(cok_cons (g77Ok m) cok_nil)
theorem g97Ok(m:Nat):RowOk Tryz.prog 97 (fun{α}=>g97R (g97 m (α:=α))):=
 rwk (g97Calls m) (lo0 (by kernel_rfl))
  (fun _=>g97Main (g77 m))
abbrev S_g108(α:Type):Type:=(List Int)→(List Int)→((List Int)→Option α)→Option α
abbrev S_g108l0(α:Type):Type:=(List Int)→(List Int)→(List Int)→((List Int)→Option α)→Int→Int→(List Int)→Option α
def g108l0b{α:Type}(a b c:List Int)(d:(List Int)→Option α)(e:Int→Int→(List Int)→Option α)(h i:Int)(j:List Int):Option α:=cond (decide (i<(6:Int))) (if 0≤i∧i<(6:Nat) then if i.toNat<6 then if 0≤i∧i<(6:Nat) then if i.toNat<6 then let l:Int:=IntKind.wrap .i64 ((IntKind.wrap .i64 ((IntKind.wrap .i64 (List.getD a i.toNat 0))-(IntKind.wrap .i64 (List.getD b i.toNat 0))))-h);cond (decide (l<(0:Int))) (if 0≤i∧i<(6:Nat) then if i.toNat<6 then e (1:Int) (IntKind.wrap .i64 (i+(1:Int))) (List.set j (i.toNat) (IntKind.wrap .u32 (IntKind.wrap .i64 (l+(4294967296:Int))))) else none else none) (if 0≤i∧i<(6:Nat) then if i.toNat<6 then e (0:Int) (IntKind.wrap .i64 (i+(1:Int))) (List.set j (i.toNat) (IntKind.wrap .u32 l)) else none else none) else none else none else none else none) (d j)
def g108l0{α:Type}(a b c:List Int)(d:(List Int)→Option α):Nat→Int→Int→(List Int)→Option α
 |0=>fun _ _ _=>none
 |m+1=>fun e h i=>g108l0b a b c d (g108l0 a b c d m) e h i
def g108l0M{α:Type}(m:Nat):S_g108l0 α:=
 fun a b c d e h i=>g108l0 a b c d m e h i
def g108l0D:LoopD:={n:=38,low:=[0,1],sl:=[0,1,4,5,6,7],bl:=[0,1,1000002,1000003],tp:=[(.vl (.sv (.ptr 0 0))),(.vl (.sv (.ptr 1 0))),(.vl (.sv (.ptr 1000002 0))),(.vl (.sv (.ptr 1000003 0))),tI,tI],bp:=[(false,[(.seq uU 6)]),(false,[(.seq uU 6)]),b6,b6],xs:=[(2,[4,5])]}
def g108l0K{α:Type}(L:S_g108l0 α)(ls:List Lf)(k:KEx α):Option α:=
 L ((lf ls 2).lst uU) ((lf ls 3).lst uU) ((lf ls 4).lst uU)
  (fun a=>k .normal (mkSt 38 [4,5] [(.vl (.sv (.ptr 1000002 0))),(.vl (.sv (.ptr 1000003 0)))] [0,1,1000002,1000003] [(false,[(.seq uU 6 ((lf ls 2).lst uU))]),(false,[(.seq uU 6 ((lf ls 3).lst uU))]),(true,[(.seq uU 6 ((lf ls 4).lst uU))]),(true,[(.seq uU 6 a)])]))
  (lf ls 0).int (lf ls 1).int ((lf ls 5).lst uU)
def g108b{α:Type}(L108l0:Al S_g108l0)(a b:List Int)(c:(List Int)→Option α):Option α:=L108l0 a b [0,0,0,0,0,0] (fun d=>c d) (0:Int) (0:Int) [0,0,0,0,0,0]
def g108{α:Type}(m:Nat):S_g108 α:=
 g108b (g108l0M m)
def g108tp:List TP:=[(.vl (.sv (.ptr 0 0))),(.vl (.sv (.ptr 1 0)))]
def g108bp:List BP:=[(false,[(.seq uU 6)]),(false,[(.seq uU 6)])]
def g108K{α:Type}(G:S_g108 α)(ls:List Lf)(k:KRe α):Option α:=
 G ((lf ls 0).lst uU) ((lf ls 1).lst uU)
  (fun a=>k (.vl (.agg [(.seq uU 6 a)])) [[(.seq uU 6 ((lf ls 0).lst uU))],[(.seq uU 6 ((lf ls 1).lst uU))]] [])
def g108R{α:Type}(G:S_g108 α):=rowK g108tp g108bp (g108K G)
def g108hd(L108l0:Al S_g108l0):Hd where
 call:=fun f args Bs k=>none
 loop:=fun id st k=>cond (Nat.beq id 0) (loopH g108l0D (g108l0K L108l0) st k) (none)
 ro:=fun f=>[]
def g108h(m:Nat):Hd:=g108hd (g108l0M m)
theorem g108l0Step(L108l0:Al S_g108l0){α:Type}(L:S_g108l0 α)(ls:List Lf)(k:KEx α):
  g108l0K (fun a b c d e h i=>g108l0b a b c d (L a b c d) e h i) ls k=ev tab (g108hd L108l0) (bodyAt Tryz.f108 0) (atHead g108l0D ls) (loopK g108l0D 0 (loopH g108l0D (g108l0K L)) k):=by kernel_rfl
theorem g108Main(L108l0:Al S_g108l0){α:Type}(ls:List Lf)(k:KRe α):
  g108K (g108b L108l0) ls k=evFun tab (g108hd L108l0) Tryz.f108 (fT g108tp ls) (fB g108tp g108bp ls) k:=by kernel_rfl
theorem g108Calls(m:Nat):(g108h m).CallsOk Tryz.prog:=cok_nil
theorem g108l0Ok(m:Nat)(α:Type)(st:St)(k:KEx α)(r:α)(h:(g108h m).loop 0 st k=some r):
  LoopS Tryz.prog 0 (bodyAt Tryz.f108 0) st k r:=
 lpk (F:=fun n ls k=>g108l0K (fun a b c d e i j=>g108l0 a b c d n e i j) ls k) (g108Calls m) (lb0 (by kernel_rfl))
  (fun _ _=>rfl) (fun n ls k=>g108l0Step (g108l0M m) (fun a b c d=>g108l0 a b c d n) ls k) (n:=m) h
theorem g108Ok(m:Nat):RowOk Tryz.prog 108 (fun{α}=>g108R (g108 m (α:=α))):=
 rwk (g108Calls m) (lo1 (by kernel_rfl) (g108l0Ok m))
  (fun _=>g108Main (g108l0M m))
abbrev S_g111(α:Type):Type:=(List Int)→(List Int)→(Int→Option α)→Option α
abbrev S_g111l0(α:Type):Type:=(List Int)→(List Int)→(Int→Option α)→(Option α)→Int→Option α
def g111l0b{α:Type}(a b:List Int)(c:Int→Option α)(d:Option α)(e:Int→Option α)(h:Int):Option α:=cond (decide (h≥(0:Int))) (if 0≤h∧h<(6:Nat) then if h.toNat<6 then if 0≤h∧h<(6:Nat) then if h.toNat<6 then cond (decide ((List.getD a h.toNat 0)<(List.getD b h.toNat 0))) (c (-1:Int)) (if 0≤h∧h<(6:Nat) then if h.toNat<6 then if 0≤h∧h<(6:Nat) then if h.toNat<6 then cond (decide ((List.getD a h.toNat 0)>(List.getD b h.toNat 0))) (c (1:Int)) (e (IntKind.wrap .i64 (h-(1:Int)))) else none else none else none else none) else none else none else none else none) (d)
def g111l0{α:Type}(a b:List Int)(c:Int→Option α)(d:Option α):Nat→Int→Option α
 |0=>fun _=>none
 |m+1=>fun e=>g111l0b a b c d (g111l0 a b c d m) e
def g111l0M{α:Type}(m:Nat):S_g111l0 α:=
 fun a b c d e=>g111l0 a b c d m e
def g111l0D:LoopD:={n:=32,low:=[0,1],sl:=[0,1,5],bl:=[0,1],tp:=[(.vl (.sv (.ptr 0 0))),(.vl (.sv (.ptr 1 0))),tI],bp:=[(false,[(.seq uU 6)]),(false,[(.seq uU 6)])],xs:=[(1,[4]),(2,[])]}
def g111l0K{α:Type}(L:S_g111l0 α)(ls:List Lf)(k:KEx α):Option α:=
 L ((lf ls 1).lst uU) ((lf ls 2).lst uU)
  (fun a=>k .ret (mkSt 32 [4] [(.vl (.sv (.int .i64 a)))] [0,1] [(false,[(.seq uU 6 ((lf ls 1).lst uU))]),(false,[(.seq uU 6 ((lf ls 2).lst uU))])]))
  (k .normal (mkSt 32 [] [] [0,1] [(false,[(.seq uU 6 ((lf ls 1).lst uU))]),(false,[(.seq uU 6 ((lf ls 2).lst uU))])]))
  (lf ls 0).int
def g111b{α:Type}(L111l0:Al S_g111l0)(a b:List Int)(c:Int→Option α):Option α:=L111l0 a b (fun d=>c d) (c (0:Int)) (5:Int)
def g111{α:Type}(m:Nat):S_g111 α:=
 g111b (g111l0M m)
def g111tp:List TP:=[(.vl (.sv (.ptr 0 0))),(.vl (.sv (.ptr 1 0)))]
def g111bp:List BP:=[(false,[(.seq uU 6)]),(false,[(.seq uU 6)])]
def g111K{α:Type}(G:S_g111 α)(ls:List Lf)(k:KRe α):Option α:=
 G ((lf ls 0).lst uU) ((lf ls 1).lst uU)
  (fun a=>k (.vl (.sv (.int .i64 a))) [[(.seq uU 6 ((lf ls 0).lst uU))],[(.seq uU 6 ((lf ls 1).lst uU))]] [])
def g111R{α:Type}(G:S_g111 α):=rowK g111tp g111bp (g111K G)
def g111hd(L111l0:Al S_g111l0):Hd where
 call:=fun f args Bs k=>none
 loop:=fun id st k=>cond (Nat.beq id 0) (loopH g111l0D (g111l0K L111l0) st k) (none)
 ro:=fun f=>[]
def g111h(m:Nat):Hd:=g111hd (g111l0M m)
theorem g111l0Step(L111l0:Al S_g111l0){α:Type}(L:S_g111l0 α)(ls:List Lf)(k:KEx α):
  g111l0K (fun a b c d e=>g111l0b a b c d (L a b c d) e) ls k=ev tab (g111hd L111l0) (bodyAt Tryz.f111 0) (atHead g111l0D ls) (loopK g111l0D 0 (loopH g111l0D (g111l0K L)) k):=by kernel_rfl
theorem g111Main(L111l0:Al S_g111l0){α:Type}(ls:List Lf)(k:KRe α):
  g111K (g111b L111l0) ls k=evFun tab (g111hd L111l0) Tryz.f111 (fT g111tp ls) (fB g111tp g111bp ls) k:=by kernel_rfl
theorem g111Calls(m:Nat):(g111h m).CallsOk Tryz.prog:=cok_nil
theorem g111l0Ok(m:Nat)(α:Type)(st:St)(k:KEx α)(r:α)(h:(g111h m).loop 0 st k=some r):
  LoopS Tryz.prog 0 (bodyAt Tryz.f111 0) st k r:=
 lpk (F:=fun n ls k=>g111l0K (fun a b c d e=>g111l0 a b c d n e) ls k) (g111Calls m) (lb0 (by kernel_rfl))
  (fun _ _=>rfl) (fun n ls k=>g111l0Step (g111l0M m) (fun a b c d=>g111l0 a b c d n) ls k) (n:=m) h
theorem g111Ok(m:Nat):RowOk Tryz.prog 111 (fun{α}=>g111R (g111 m (α:=α))):=
 rwk (g111Calls m) (lo1 (by kernel_rfl) (g111l0Ok m))
  (fun _=>g111Main (g111l0M m))
end Go.Proofs.YtlmmgjngihlpeaaGreat.Sx
