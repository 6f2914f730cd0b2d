/- Functions. Printed by our own sx.py. -/
import Derived.Test.YtlmmgjngihlpeaaSxV2
namespace Go.Proofs.Ytlmmgjngihlpeaa.Sx
open Go
set_option linter.unusedVariables false
set_option maxRecDepth 100000
abbrev S_g44(α:Type):Type:=Nat→Nat→Nat→Int→Int→Nat→Ty0→(Int→Ty0→Option α)→Option α
def g44b{α:Type}(G75:Al S_g75)(G76:Al S_g76)(G85:Al S_g85)(a b c:Nat)(d e:Int)(h:Nat)(i:Ty0)(j:Int→Ty0→Option α):Option α:=G75 a b c d e h i (fun l=>cond (l !=(0:Int)) (j l []) (G76 a b c h i (fun n o=>G85 d e a b c 0 b b h i n o (fun p q r s t u v w x y z a0 b0=>cond (r !=(0:Int)) (j r []) (j (0:Int) b0)))))
noncomputable def g44{α:Type}(m:Nat):S_g44 α:=
 g44b (g75 m) (g76 m) (g85 m)
def g44tp:List TP:=[(.vl (.sv (.slc 0 0 5))),tI,tI]
def g44bp:List BP:=[(false,[(.seqv rN)])]
def g44K{α:Type}(G:S_g44 α)(ls:List Lf)(k:KRe α):Option α:=
 G (lf ls 0).nat (lf ls 1).nat (lf ls 2).nat (lf ls 3).int (lf ls 4).int (lf ls 5).nat ((lf ls 6).lst rN)
  (fun a b=>k (.tup [(.sv (.gsl 1 2)),(.sv (.int .i64 a))]) [[(.seq rN (lf ls 5).nat ((lf ls 6).lst rN))]] [[(.gro rP b)]])
def g44R{α:Type}(G:S_g44 α):=rowK g44tp g44bp (g44K G)
def g44hd(G75:Al S_g75)(G76:Al S_g76)(G85:Al S_g85):Hd where
 call:=fun f args Bs k=>cond (Nat.beq f 75) (g75R G75 args Bs k) (cond (Nat.beq f 76) (g76R G76 args Bs k) (cond (Nat.beq f 85) (g85R G85 args Bs k) (none)))
 loop:=fun id st k=>none
 ro:=fun f=>cond (Nat.beq f 75) [0] (cond (Nat.beq f 76) [0] (cond (Nat.beq f 85) [1] ([])))
noncomputable def g44h(m:Nat):Hd:=g44hd (g75 m) (g76 m) (g85 m)
theorem g44Main(G75:Al S_g75)(G76:Al S_g76)(G85:Al S_g85){α:Type}(ls:List Lf)(k:KRe α):
  g44K (g44b G75 G76 G85) ls k=evFun tab (g44hd G75 G76 G85) Try.f44 (fT g44tp ls) (fB g44tp g44bp ls) k:=by kernel_rfl
theorem g44Calls(m:Nat):(g44h m).CallsOk Try.prog:=(cok_cons (g75Ok m) (cok_cons (g76Ok m) (cok_cons (g85Ok m) cok_nil)))
theorem g44Ok(m:Nat):RowOk Try.prog 44 (fun{α}=>g44R (g44 m (α:=α))):=
 rwk (g44Calls m) (lo0 (by kernel_rfl))
  (fun _=>g44Main (g75 m) (g76 m) (g85 m))
abbrev S_g45(α:Type):Type:=Nat→Nat→Nat→Int→Int→Nat→Ty0→(Int→Option α)→(Ty0→Option α)→Option α
def g45b{α:Type}(G79:Al S_g79)(G86:Al S_g86)(G81:Al S_g81)(a b c:Nat)(d e:Int)(h:Nat)(i:Ty0)(j:Int→Option α)(l:Ty0→Option α):Option α:=G79 a b c e (64:Int) 0 1 1 h i [d] (fun n=>cond (n !=(0:Int)) (j n) (none)) (fun o p=>G86 (IntKind.wrap .i16 d) e false a b c (0:Int) h i o p (fun q r s t u v w x y z a0=>G81 s t u v w h i z a0 (fun b0 c0=>cond b0 (j c0) (l a0))))
noncomputable def g45{α:Type}(m:Nat):S_g45 α:=
 g45b (g79 m) (g86 m) (g81 m)
def g45tp:List TP:=[(.vl (.sv (.slc 0 0 5))),tI,tI]
def g45bp:List BP:=[(false,[(.seqv rN)])]
def g45K{α:Type}(G:S_g45 α)(ls:List Lf)(k:KRe α):Option α:=
 G (lf ls 0).nat (lf ls 1).nat (lf ls 2).nat (lf ls 3).int (lf ls 4).int (lf ls 5).nat ((lf ls 6).lst rN)
  (fun a=>k (.tup [(.sv .nils),(.sv (.int .i64 a))]) [[(.seq rN (lf ls 5).nat ((lf ls 6).lst rN))]] [])
  (fun b=>k (.tup [(.sv (.gsl 1 2)),(.sv (.int .i64 (0:Int)))]) [[(.seq rN (lf ls 5).nat ((lf ls 6).lst rN))]] [[(.gro rP b)]])
def g45R{α:Type}(G:S_g45 α):=rowK g45tp g45bp (g45K G)
def g45hd(G79:Al S_g79)(G86:Al S_g86)(G81:Al S_g81):Hd where
 call:=fun f args Bs k=>cond (Nat.beq f 79) (g79R G79 args Bs k) (cond (Nat.beq f 86) (g86R G86 args Bs k) (cond (Nat.beq f 81) (g81R G81 args Bs k) (none)))
 loop:=fun id st k=>none
 ro:=fun f=>cond (Nat.beq f 79) [0,1] (cond (Nat.beq f 81) [1,2,3] (cond (Nat.beq f 86) [1] ([])))
noncomputable def g45h(m:Nat):Hd:=g45hd (g79 m) (g86 m) (g81 m)
theorem g45Main(G79:Al S_g79)(G86:Al S_g86)(G81:Al S_g81){α:Type}(ls:List Lf)(k:KRe α):
  g45K (g45b G79 G86 G81) ls k=evFun tab (g45hd G79 G86 G81) Try.f45 (fT g45tp ls) (fB g45tp g45bp ls) k:=by kernel_rfl
theorem g45Calls(m:Nat):(g45h m).CallsOk Try.prog:=(cok_cons (g79Ok m) (cok_cons (g86Ok m) (cok_cons (g81Ok m) cok_nil)))
theorem g45Ok(m:Nat):RowOk Try.prog 45 (fun{α}=>g45R (g45 m (α:=α))):=
 rwk (g45Calls m) (lo0 (by kernel_rfl))
  (fun _=>g45Main (g79 m) (g86 m) (g81 m))
abbrev S_g46(α:Type):Type:=Ty0→(Bool→Option α)→Option α
abbrev S_g46l0(α:Type):Type:=Int→Ty0→(Option α)→Option α
def g46l0b{α:Type}(a:Int)(b:Ty0)(c d:Option α):Option α:=cond (decide (a<(0:Int))) (none) (c)
def g46l0{α:Type}(a:Int)(b:Ty0)(c:Option α):Nat→Option α
 |0=>none
 |m+1=>g46l0b a b c (g46l0 a b c m)
def g46l0M{α:Type}(m:Nat):S_g46l0 α:=
 fun a b c=>g46l0 a b c m
def g46l0D:LoopD:={n:=27,low:=[0],sl:=[0,1,5],bl:=[0],tp:=[(.vl (.sv .nils)),(.vl (.sv (.gsl 0 2))),tI],bp:=[(false,[(.gro rP)])],xs:=[(2,[])]}
def g46l0K{α:Type}(L:S_g46l0 α)(ls:List Lf)(k:KEx α):Option α:=
 L (lf ls 0).int ((lf ls 1).lst rP)
  (k .normal (mkSt 27 [] [] [0] [(false,[(.gro rP ((lf ls 1).lst rP))])]))
def g46b{α:Type}(L46l0:Al S_g46l0)(a:Ty0)(b:Bool→Option α):Option α:=cond ((0:Int) !=((a.length:Nat):Int)) (b false) (L46l0 (0:Int) a (b true))
def g46{α:Type}(m:Nat):S_g46 α:=
 g46b (g46l0M m)
def g46tp:List TP:=[(.vl (.sv .nils)),(.vl (.sv (.gsl 0 2)))]
def g46bp:List BP:=[(false,[(.gro rP)])]
def g46K{α:Type}(G:S_g46 α)(ls:List Lf)(k:KRe α):Option α:=
 G ((lf ls 0).lst rP)
  (fun a=>k (.vl (.sv (.bool a))) [[(.gro rP ((lf ls 0).lst rP))]] [])
def g46R{α:Type}(G:S_g46 α):=rowK g46tp g46bp (g46K G)
def g46hd(L46l0:Al S_g46l0):Hd where
 call:=fun f args Bs k=>none
 loop:=fun id st k=>cond (Nat.beq id 0) (loopH g46l0D (g46l0K L46l0) st k) (none)
 ro:=fun f=>[]
def g46h(m:Nat):Hd:=g46hd (g46l0M m)
theorem g46l0Step(L46l0:Al S_g46l0){α:Type}(L:S_g46l0 α)(ls:List Lf)(k:KEx α):
  g46l0K (fun a b c=>g46l0b a b c (L a b c)) ls k=ev tab (g46hd L46l0) (bodyAt Try.f46 0) (atHead g46l0D ls) (loopK g46l0D 0 (loopH g46l0D (g46l0K L)) k):=by kernel_rfl
theorem g46Main(L46l0:Al S_g46l0){α:Type}(ls:List Lf)(k:KRe α):
  g46K (g46b L46l0) ls k=evFun tab (g46hd L46l0) Try.f46 (fT g46tp ls) (fB g46tp g46bp ls) k:=by kernel_rfl
theorem g46Calls(m:Nat):(g46h m).CallsOk Try.prog:=cok_nil
theorem g46l0Ok(m:Nat)(α:Type)(st:St)(k:KEx α)(r:α)(h:(g46h m).loop 0 st k=some r):
  LoopS Try.prog 0 (bodyAt Try.f46 0) st k r:=
 lpk (F:=fun n ls k=>g46l0K (fun a b c=>g46l0 a b c n) ls k) (g46Calls m) (lb0 (by kernel_rfl))
  (fun _ _=>rfl) (fun n ls k=>g46l0Step (g46l0M m) (fun a b c=>g46l0 a b c n) ls k) (n:=m) h
theorem g46Ok(m:Nat):RowOk Try.prog 46 (fun{α}=>g46R (g46 m (α:=α))):=
 rwk (g46Calls m) (lo1 (by kernel_rfl) (g46l0Ok m))
  (fun _=>g46Main (g46l0M m))
abbrev S_g47(α:Type):Type:=Nat→Nat→Nat→Int→Nat→Ty0→(Int→Ty0→Option α)→Option α
abbrev S_g47l0(α:Type):Type:=Nat→Nat→Nat→Nat→(Int→Ty0→Option α)→Int→Int→Ty0→Option α
def g47l0b{α:Type}(a b:Nat)(c d:Nat)(e:Int→Ty0→Option α)(h:Int→Int→Ty0→Option α)(i j:Int)(l:Ty0):Option α:=cond (decide (j<((b:Nat):Int))) (if 0≤j∧j<(b:Nat) then if(a+j.toNat)<d then let n:Ty0:=List.set l (a+j.toNat) [(IntKind.wrap .i8 i),(List.getD l (a+j.toNat) []).tail.headD 0,(List.getD l (a+j.toNat) []).tail.tail.headD 0,(List.getD l (a+j.toNat) []).tail.tail.tail.headD 0,(List.getD l (a+j.toNat) []).tail.tail.tail.tail.headD 0];let o:Int:=IntKind.wrap .i64 (i+(1:Int));if 0≤j∧j<(b:Nat) then if(a+j.toNat)<d then let p:Ty0:=List.set n (a+j.toNat) [(List.getD n (a+j.toNat) []).headD 0,(IntKind.wrap .i16 o),(List.getD n (a+j.toNat) []).tail.tail.headD 0,(List.getD n (a+j.toNat) []).tail.tail.tail.headD 0,(List.getD n (a+j.toNat) []).tail.tail.tail.tail.headD 0];let q:Int:=IntKind.wrap .i64 (o+(1:Int));if 0≤j∧j<(b:Nat) then if(a+j.toNat)<d then let r:Ty0:=List.set p (a+j.toNat) [(List.getD p (a+j.toNat) []).headD 0,(List.getD p (a+j.toNat) []).tail.headD 0,(IntKind.wrap .i16 q),(List.getD p (a+j.toNat) []).tail.tail.tail.headD 0,(List.getD p (a+j.toNat) []).tail.tail.tail.tail.headD 0];let s:Int:=IntKind.wrap .i64 (q+(1:Int));if 0≤j∧j<(b:Nat) then if(a+j.toNat)<d then let t:Ty0:=List.set r (a+j.toNat) [(List.getD r (a+j.toNat) []).headD 0,(List.getD r (a+j.toNat) []).tail.headD 0,(List.getD r (a+j.toNat) []).tail.tail.headD 0,s,(List.getD r (a+j.toNat) []).tail.tail.tail.tail.headD 0];let u:Int:=IntKind.wrap .i64 (s+(1:Int));if 0≤j∧j<(b:Nat) then if(a+j.toNat)<d then h (IntKind.wrap .i64 (u+(1:Int))) (IntKind.wrap .i64 (j+(1:Int))) (List.set t (a+j.toNat) [(List.getD t (a+j.toNat) []).headD 0,(List.getD t (a+j.toNat) []).tail.headD 0,(List.getD t (a+j.toNat) []).tail.tail.headD 0,(List.getD t (a+j.toNat) []).tail.tail.tail.headD 0,u]) else none else none else none else none else none else none else none else none else none else none) (e i l)
def g47l0{α:Type}(a b:Nat)(c d:Nat)(e:Int→Ty0→Option α):Nat→Int→Int→Ty0→Option α
 |0=>fun _ _ _=>none
 |m+1=>fun h i j=>g47l0b a b c d e (g47l0 a b c d e m) h i j
def g47l0M{α:Type}(m:Nat):S_g47l0 α:=
 fun a b c d e h i j=>g47l0 a b c d e m h i j
def g47l0D:LoopD:={n:=51,low:=[0],sl:=[0,1,5],bl:=[0],tp:=[(.vl (.sv (.slc 0 0 5))),tI,tI],bp:=[(true,[(.seqv rN)])],xs:=[(2,[1])]}
def g47l0K{α:Type}(L:S_g47l0 α)(ls:List Lf)(k:KEx α):Option α:=
 L (lf ls 0).nat (lf ls 1).nat (lf ls 2).nat (lf ls 5).nat
  (fun a b=>k .normal (mkSt 51 [1] [(.vl (.sv (.int .i64 a)))] [0] [(true,[(.seq rN (lf ls 5).nat b)])]))
  (lf ls 3).int (lf ls 4).int ((lf ls 6).lst rN)
def g47b{α:Type}(L47l0:Al S_g47l0)(a b c:Nat)(d:Int)(e:Nat)(h:Ty0)(i:Int→Ty0→Option α):Option α:=L47l0 a b c e (fun j l=>i j l) d (0:Int) h
def g47{α:Type}(m:Nat):S_g47 α:=
 g47b (g47l0M m)
def g47tp:List TP:=[(.vl (.sv (.slc 0 0 5))),tI]
def g47bp:List BP:=[(true,[(.seqv rN)])]
def g47K{α:Type}(G:S_g47 α)(ls:List Lf)(k:KRe α):Option α:=
 G (lf ls 0).nat (lf ls 1).nat (lf ls 2).nat (lf ls 3).int (lf ls 4).nat ((lf ls 5).lst rN)
  (fun a b=>k (.vl (.sv (.int .i64 a))) [[(.seq rN (lf ls 4).nat b)]] [])
def g47R{α:Type}(G:S_g47 α):=rowK g47tp g47bp (g47K G)
def g47hd(L47l0:Al S_g47l0):Hd where
 call:=fun f args Bs k=>none
 loop:=fun id st k=>cond (Nat.beq id 0) (loopH g47l0D (g47l0K L47l0) st k) (none)
 ro:=fun f=>[]
def g47h(m:Nat):Hd:=g47hd (g47l0M m)
theorem g47l0Step(L47l0:Al S_g47l0){α:Type}(L:S_g47l0 α)(ls:List Lf)(k:KEx α):
  g47l0K (fun a b c d e h i j=>g47l0b a b c d e (L a b c d e) h i j) ls k=ev tab (g47hd L47l0) (bodyAt Try.f47 0) (atHead g47l0D ls) (loopK g47l0D 0 (loopH g47l0D (g47l0K L)) k):=by kernel_rfl
theorem g47Main(L47l0:Al S_g47l0){α:Type}(ls:List Lf)(k:KRe α):
  g47K (g47b L47l0) ls k=evFun tab (g47hd L47l0) Try.f47 (fT g47tp ls) (fB g47tp g47bp ls) k:=by kernel_rfl
theorem g47Calls(m:Nat):(g47h m).CallsOk Try.prog:=cok_nil
theorem g47l0Ok(m:Nat)(α:Type)(st:St)(k:KEx α)(r:α)(h:(g47h m).loop 0 st k=some r):
  LoopS Try.prog 0 (bodyAt Try.f47 0) st k r:=
 lpk (F:=fun n ls k=>g47l0K (fun a b c d e i j l=>g47l0 a b c d e n i j l) ls k) (g47Calls m) (lb0 (by kernel_rfl))
  (fun _ _=>rfl) (fun n ls k=>g47l0Step (g47l0M m) (fun a b c d e=>g47l0 a b c d e n) ls k) (n:=m) h
theorem g47Ok(m:Nat):RowOk Try.prog 47 (fun{α}=>g47R (g47 m (α:=α))):=
 rwk (g47Calls m) (lo1 (by kernel_rfl) (g47l0Ok m))
  (fun _=>g47Main (g47l0M m))
abbrev S_g48(α:Type):Type:=Int→(Option α)→Option α
abbrev S_g48l0(α:Type):Type:=Int→Int→(Option α)→Option α
def g48l0b{α:Type}(a b:Int)(c d:Option α):Option α:=cond (decide (b<(0:Int))) (none) (c)
def g48l0{α:Type}(a b:Int)(c:Option α):Nat→Option α
 |0=>none
 |m+1=>g48l0b a b c (g48l0 a b c m)
def g48l0M{α:Type}(m:Nat):S_g48l0 α:=
 fun a b c=>g48l0 a b c m
def g48l0D:LoopD:={n:=29,low:=[],sl:=[0,1,5],bl:=[],tp:=[(.vl (.sv .nils)),tI,tI],bp:=[],xs:=[(2,[1])]}
def g48l0K{α:Type}(L:S_g48l0 α)(ls:List Lf)(k:KEx α):Option α:=
 L (lf ls 0).int (lf ls 1).int
  (k .normal (mkSt 29 [1] [(.vl (.sv (.int .i64 (lf ls 0).int)))] [] []))
def g48b{α:Type}(L48l0:Al S_g48l0)(a:Int)(b:Option α):Option α:=L48l0 a (0:Int) (b)
def g48{α:Type}(m:Nat):S_g48 α:=
 g48b (g48l0M m)
def g48tp:List TP:=[(.vl (.sv .nils)),tI]
def g48bp:List BP:=[]
def g48K{α:Type}(G:S_g48 α)(ls:List Lf)(k:KRe α):Option α:=
 G (lf ls 0).int
  (k (.vl (.sv (.int .i64 (lf ls 0).int))) [] [])
def g48R{α:Type}(G:S_g48 α):=rowK g48tp g48bp (g48K G)
def g48hd(L48l0:Al S_g48l0):Hd where
 call:=fun f args Bs k=>none
 loop:=fun id st k=>cond (Nat.beq id 0) (loopH g48l0D (g48l0K L48l0) st k) (none)
 ro:=fun f=>[]
def g48h(m:Nat):Hd:=g48hd (g48l0M m)
theorem g48l0Step(L48l0:Al S_g48l0){α:Type}(L:S_g48l0 α)(ls:List Lf)(k:KEx α):
  g48l0K (fun a b c=>g48l0b a b c (L a b c)) ls k=ev tab (g48hd L48l0) (bodyAt Try.f48 0) (atHead g48l0D ls) (loopK g48l0D 0 (loopH g48l0D (g48l0K L)) k):=by kernel_rfl
theorem g48Main(L48l0:Al S_g48l0){α:Type}(ls:List Lf)(k:KRe α):
  g48K (g48b L48l0) ls k=evFun tab (g48hd L48l0) Try.f48 (fT g48tp ls) (fB g48tp g48bp ls) k:=by kernel_rfl
theorem g48Calls(m:Nat):(g48h m).CallsOk Try.prog:=cok_nil
theorem g48l0Ok(m:Nat)(α:Type)(st:St)(k:KEx α)(r:α)(h:(g48h m).loop 0 st k=some r):
  LoopS Try.prog 0 (bodyAt Try.f48 0) st k r:=
 lpk (F:=fun n ls k=>g48l0K (fun a b c=>g48l0 a b c n) ls k) (g48Calls m) (lb0 (by kernel_rfl))
  (fun _ _=>rfl) (fun n ls k=>g48l0Step (g48l0M m) (fun a b c=>g48l0 a b c n) ls k) (n:=m) h
theorem g48Ok(m:Nat):RowOk Try.prog 48 (fun{α}=>g48R (g48 m (α:=α))):=
 rwk (g48Calls m) (lo1 (by kernel_rfl) (g48l0Ok m))
  (fun _=>g48Main (g48l0M m))
abbrev S_g49(α:Type):Type:=Int→(Option α)→Option α
abbrev S_g49l0(α:Type):Type:=Int→Int→(Option α)→Option α
def g49l0b{α:Type}(a b:Int)(c d:Option α):Option α:=cond (decide (b<(0:Int))) (none) (c)
def g49l0{α:Type}(a b:Int)(c:Option α):Nat→Option α
 |0=>none
 |m+1=>g49l0b a b c (g49l0 a b c m)
def g49l0M{α:Type}(m:Nat):S_g49l0 α:=
 fun a b c=>g49l0 a b c m
def g49l0D:LoopD:={n:=33,low:=[],sl:=[0,1,5],bl:=[],tp:=[(.vl (.sv .nils)),tI,tI],bp:=[],xs:=[(2,[1])]}
def g49l0K{α:Type}(L:S_g49l0 α)(ls:List Lf)(k:KEx α):Option α:=
 L (lf ls 0).int (lf ls 1).int
  (k .normal (mkSt 33 [1] [(.vl (.sv (.int .i64 (lf ls 0).int)))] [] []))
def g49b{α:Type}(L49l0:Al S_g49l0)(a:Int)(b:Option α):Option α:=L49l0 a (0:Int) (b)
def g49{α:Type}(m:Nat):S_g49 α:=
 g49b (g49l0M m)
def g49tp:List TP:=[(.vl (.sv .nils)),tI]
def g49bp:List BP:=[]
def g49K{α:Type}(G:S_g49 α)(ls:List Lf)(k:KRe α):Option α:=
 G (lf ls 0).int
  (k (.vl (.sv (.int .i64 (lf ls 0).int))) [] [])
def g49R{α:Type}(G:S_g49 α):=rowK g49tp g49bp (g49K G)
def g49hd(L49l0:Al S_g49l0):Hd where
 call:=fun f args Bs k=>none
 loop:=fun id st k=>cond (Nat.beq id 0) (loopH g49l0D (g49l0K L49l0) st k) (none)
 ro:=fun f=>[]
def g49h(m:Nat):Hd:=g49hd (g49l0M m)
theorem g49l0Step(L49l0:Al S_g49l0){α:Type}(L:S_g49l0 α)(ls:List Lf)(k:KEx α):
  g49l0K (fun a b c=>g49l0b a b c (L a b c)) ls k=ev tab (g49hd L49l0) (bodyAt Try.f49 0) (atHead g49l0D ls) (loopK g49l0D 0 (loopH g49l0D (g49l0K L)) k):=by kernel_rfl
theorem g49Main(L49l0:Al S_g49l0){α:Type}(ls:List Lf)(k:KRe α):
  g49K (g49b L49l0) ls k=evFun tab (g49hd L49l0) Try.f49 (fT g49tp ls) (fB g49tp g49bp ls) k:=by kernel_rfl
theorem g49Calls(m:Nat):(g49h m).CallsOk Try.prog:=cok_nil
theorem g49l0Ok(m:Nat)(α:Type)(st:St)(k:KEx α)(r:α)(h:(g49h m).loop 0 st k=some r):
  LoopS Try.prog 0 (bodyAt Try.f49 0) st k r:=
 lpk (F:=fun n ls k=>g49l0K (fun a b c=>g49l0 a b c n) ls k) (g49Calls m) (lb0 (by kernel_rfl))
  (fun _ _=>rfl) (fun n ls k=>g49l0Step (g49l0M m) (fun a b c=>g49l0 a b c n) ls k) (n:=m) h
theorem g49Ok(m:Nat):RowOk Try.prog 49 (fun{α}=>g49R (g49 m (α:=α))):=
 rwk (g49Calls m) (lo1 (by kernel_rfl) (g49l0Ok m))
  (fun _=>g49Main (g49l0M m))
abbrev S_g93(α:Type):Type:=Int→Int→Int→Int→(Bool→Option α)→Option α
def g93b{α:Type}(a b:Int)(c d:Int)(e:Bool→Option α):Option α:=cond (a !=c) (e false) (cond (b !=d) (e false) (e true))
def g93{α:Type}(m:Nat):S_g93 α:=
 g93b
def g93tp:List TP:=[(.vl (.agg [(.one (.int .i16)),(.one (.int .i16))])),(.vl (.agg [(.one (.int .i16)),(.one (.int .i16))]))]
def g93bp:List BP:=[]
def g93K{α:Type}(G:S_g93 α)(ls:List Lf)(k:KRe α):Option α:=
 G (lf ls 0).int (lf ls 1).int (lf ls 2).int (lf ls 3).int
  (fun a=>k (.vl (.sv (.bool a))) [] [])
def g93R{α:Type}(G:S_g93 α):=rowK g93tp g93bp (g93K G)
def g93hd:Hd where
 call:=fun f args Bs k=>none
 loop:=fun id st k=>none
 ro:=fun f=>[]
def g93h(m:Nat):Hd:=g93hd
theorem g93Main{α:Type}(ls:List Lf)(k:KRe α):
  g93K (g93b) ls k=evFun tab (g93hd) Try.f93 (fT g93tp ls) (fB g93tp g93bp ls) k:=by kernel_rfl
theorem g93Calls(m:Nat):(g93h m).CallsOk Try.prog:=cok_nil
theorem g93Ok(m:Nat):RowOk Try.prog 93 (fun{α}=>g93R (g93 m (α:=α))):=
 rwk (g93Calls m) (lo0 (by kernel_rfl))
  (fun _=>g93Main)
abbrev S_g46v1(α:Type):Type:=Ty0→Ty0→(Bool→Option α)→Option α
abbrev S_g46v1l0(α:Type):Type:=Ty0→Ty0→(Option α)→(Option α)→Int→Option α
def g46v1l0b{α:Type}(G93:Al S_g93)(a b:Ty0)(c d:Option α)(e:Int→Option α)(h:Int):Option α:=cond (decide (h<((a.length:Nat):Int))) (if 0≤h∧h<(a.length:Nat) then if h.toNat<a.length then if 0≤h∧h<(b.length:Nat) then if h.toNat<b.length then G93 ((List.getD a h.toNat []).headD 0) ((List.getD a h.toNat []).tail.headD 0) ((List.getD b h.toNat []).headD 0) ((List.getD b h.toNat []).tail.headD 0) (fun i=>cond (!i) (c) (e (IntKind.wrap .i64 (h+(1:Int))))) else none else none else none else none) (d)
def g46v1l0{α:Type}(G93:Al S_g93)(a b:Ty0)(c d:Option α):Nat→Int→Option α
 |0=>fun _=>none
 |m+1=>fun e=>g46v1l0b G93 a b c d (g46v1l0 G93 a b c d m) e
def g46v1l0M{α:Type}(m:Nat):S_g46v1l0 α:=
 fun a b c d e=>g46v1l0 (g93 m) a b c d m e
def g46v1l0D:LoopD:={n:=27,low:=[0,1],sl:=[0,1,5],bl:=[0,1],tp:=[(.vl (.sv (.gsl 0 2))),(.vl (.sv (.gsl 1 2))),tI],bp:=[(false,[(.gro rP)]),(false,[(.gro rP)])],xs:=[(1,[4]),(2,[])]}
def g46v1l0K{α:Type}(L:S_g46v1l0 α)(ls:List Lf)(k:KEx α):Option α:=
 L ((lf ls 1).lst rP) ((lf ls 2).lst rP)
  (k .ret (mkSt 27 [4] [(.vl (.sv (.bool false)))] [0,1] [(false,[(.gro rP ((lf ls 1).lst rP))]),(false,[(.gro rP ((lf ls 2).lst rP))])]))
  (k .normal (mkSt 27 [] [] [0,1] [(false,[(.gro rP ((lf ls 1).lst rP))]),(false,[(.gro rP ((lf ls 2).lst rP))])]))
  (lf ls 0).int
def g46v1b{α:Type}(G93:Al S_g93)(L46v1l0:Al S_g46v1l0)(a b:Ty0)(c:Bool→Option α):Option α:=cond (((a.length:Nat):Int) !=((b.length:Nat):Int)) (c false) (L46v1l0 a b (c false) (c true) (0:Int))
def g46v1{α:Type}(m:Nat):S_g46v1 α:=
 g46v1b (g93 m) (g46v1l0M m)
def g46v1tp:List TP:=[(.vl (.sv (.gsl 0 2))),(.vl (.sv (.gsl 1 2)))]
def g46v1bp:List BP:=[(false,[(.gro rP)]),(false,[(.gro rP)])]
def g46v1K{α:Type}(G:S_g46v1 α)(ls:List Lf)(k:KRe α):Option α:=
 G ((lf ls 0).lst rP) ((lf ls 1).lst rP)
  (fun a=>k (.vl (.sv (.bool a))) [[(.gro rP ((lf ls 0).lst rP))],[(.gro rP ((lf ls 1).lst rP))]] [])
def g46v1R{α:Type}(G:S_g46v1 α):=rowK g46v1tp g46v1bp (g46v1K G)
def g46v1hd(G93:Al S_g93)(L46v1l0:Al S_g46v1l0):Hd where
 call:=fun f args Bs k=>cond (Nat.beq f 93) (g93R G93 args Bs k) (none)
 loop:=fun id st k=>cond (Nat.beq id 0) (loopH g46v1l0D (g46v1l0K L46v1l0) st k) (none)
 ro:=fun f=>[]
def g46v1h(m:Nat):Hd:=g46v1hd (g93 m) (g46v1l0M m)
theorem g46v1l0Step(G93:Al S_g93)(L46v1l0:Al S_g46v1l0){α:Type}(L:S_g46v1l0 α)(ls:List Lf)(k:KEx α):
  g46v1l0K (fun a b c d e=>g46v1l0b G93 a b c d (L a b c d) e) ls k=ev tab (g46v1hd G93 L46v1l0) (bodyAt Try.f46 0) (atHead g46v1l0D ls) (loopK g46v1l0D 0 (loopH g46v1l0D (g46v1l0K L)) k):=by kernel_rfl
theorem g46v1Main(G93:Al S_g93)(L46v1l0:Al S_g46v1l0){α:Type}(ls:List Lf)(k:KRe α):
  g46v1K (g46v1b G93 L46v1l0) ls k=evFun tab (g46v1hd G93 L46v1l0) Try.f46 (fT g46v1tp ls) (fB g46v1tp g46v1bp ls) k:=by kernel_rfl
theorem g46v1Calls(m:Nat):(g46v1h m).CallsOk Try.prog:=(cok_cons (g93Ok m) cok_nil)
theorem g46v1l0Ok(m:Nat)(α:Type)(st:St)(k:KEx α)(r:α)(h:(g46v1h m).loop 0 st k=some r):
  LoopS Try.prog 0 (bodyAt Try.f46 0) st k r:=
 lpk (F:=fun n ls k=>g46v1l0K (fun a b c d e=>g46v1l0 (g93 m) a b c d n e) ls k) (g46v1Calls m) (lb0 (by kernel_rfl))
  (fun _ _=>rfl) (fun n ls k=>g46v1l0Step (g93 m) (g46v1l0M m) (fun a b c d=>g46v1l0 (g93 m) a b c d n) ls k) (n:=m) h
theorem g46v1Ok(m:Nat):RowOk Try.prog 46 (fun{α}=>g46v1R (g46v1 m (α:=α))):=
 rwk (g46v1Calls m) (lo1 (by kernel_rfl) (g46v1l0Ok m))
  (fun _=>g46v1Main (g93 m) (g46v1l0M m))
abbrev S_g48v1(α:Type):Type:=Int→Ty0→(Int→Ty0→Option α)→Option α
abbrev S_g48v1l0(α:Type):Type:=(Int→Ty0→Option α)→Int→Int→Ty0→Option α
def g48v1l0b{α:Type}(a:Int→Ty0→Option α)(b:Int→Int→Ty0→Option α)(c d:Int)(e:Ty0):Option α:=cond (decide (d<((e.length:Nat):Int))) (if 0≤d∧d<(e.length:Nat) then if d.toNat<e.length then let h:Ty0:=List.set e (d.toNat) [(IntKind.wrap .i16 c),(List.getD e d.toNat []).tail.headD 0];let i:Int:=IntKind.wrap .i64 (c+(1:Int));if 0≤d∧d<(h.length:Nat) then if d.toNat<h.length then b (IntKind.wrap .i64 (i+(1:Int))) (IntKind.wrap .i64 (d+(1:Int))) (List.set h (d.toNat) [(List.getD h d.toNat []).headD 0,(IntKind.wrap .i16 i)]) else none else none else none else none) (a c e)
def g48v1l0{α:Type}(a:Int→Ty0→Option α):Nat→Int→Int→Ty0→Option α
 |0=>fun _ _ _=>none
 |m+1=>fun b c d=>g48v1l0b a (g48v1l0 a m) b c d
def g48v1l0M{α:Type}(m:Nat):S_g48v1l0 α:=
 fun a b c d=>g48v1l0 a m b c d
def g48v1l0D:LoopD:={n:=29,low:=[0],sl:=[0,1,5],bl:=[0],tp:=[(.vl (.sv (.gsl 0 2))),tI,tI],bp:=[(true,[(.gro rP)])],xs:=[(2,[1])]}
def g48v1l0K{α:Type}(L:S_g48v1l0 α)(ls:List Lf)(k:KEx α):Option α:=
 L
  (fun a b=>k .normal (mkSt 29 [1] [(.vl (.sv (.int .i64 a)))] [0] [(true,[(.gro rP b)])]))
  (lf ls 0).int (lf ls 1).int ((lf ls 2).lst rP)
def g48v1b{α:Type}(L48v1l0:Al S_g48v1l0)(a:Int)(b:Ty0)(c:Int→Ty0→Option α):Option α:=L48v1l0 (fun d e=>c d e) a (0:Int) b
def g48v1{α:Type}(m:Nat):S_g48v1 α:=
 g48v1b (g48v1l0M m)
def g48v1tp:List TP:=[(.vl (.sv (.gsl 0 2))),tI]
def g48v1bp:List BP:=[(true,[(.gro rP)])]
def g48v1K{α:Type}(G:S_g48v1 α)(ls:List Lf)(k:KRe α):Option α:=
 G (lf ls 0).int ((lf ls 1).lst rP)
  (fun a b=>k (.vl (.sv (.int .i64 a))) [[(.gro rP b)]] [])
def g48v1R{α:Type}(G:S_g48v1 α):=rowK g48v1tp g48v1bp (g48v1K G)
def g48v1hd(L48v1l0:Al S_g48v1l0):Hd where
 call:=fun f args Bs k=>none
 loop:=fun id st k=>cond (Nat.beq id 0) (loopH g48v1l0D (g48v1l0K L48v1l0) st k) (none)
 ro:=fun f=>[]
def g48v1h(m:Nat):Hd:=g48v1hd (g48v1l0M m)
theorem g48v1l0Step(L48v1l0:Al S_g48v1l0){α:Type}(L:S_g48v1l0 α)(ls:List Lf)(k:KEx α):
  g48v1l0K (fun a b c d=>g48v1l0b a (L a) b c d) ls k=ev tab (g48v1hd L48v1l0) (bodyAt Try.f48 0) (atHead g48v1l0D ls) (loopK g48v1l0D 0 (loopH g48v1l0D (g48v1l0K L)) k):=by kernel_rfl
theorem g48v1Main(L48v1l0:Al S_g48v1l0){α:Type}(ls:List Lf)(k:KRe α):
  g48v1K (g48v1b L48v1l0) ls k=evFun tab (g48v1hd L48v1l0) Try.f48 (fT g48v1tp ls) (fB g48v1tp g48v1bp ls) k:=by kernel_rfl
theorem g48v1Calls(m:Nat):(g48v1h m).CallsOk Try.prog:=cok_nil
theorem g48v1l0Ok(m:Nat)(α:Type)(st:St)(k:KEx α)(r:α)(h:(g48v1h m).loop 0 st k=some r):
  LoopS Try.prog 0 (bodyAt Try.f48 0) st k r:=
 lpk (F:=fun n ls k=>g48v1l0K (fun a b c d=>g48v1l0 a n b c d) ls k) (g48v1Calls m) (lb0 (by kernel_rfl))
  (fun _ _=>rfl) (fun n ls k=>g48v1l0Step (g48v1l0M m) (fun a=>g48v1l0 a n) ls k) (n:=m) h
theorem g48v1Ok(m:Nat):RowOk Try.prog 48 (fun{α}=>g48v1R (g48v1 m (α:=α))):=
 rwk (g48v1Calls m) (lo1 (by kernel_rfl) (g48v1l0Ok m))
  (fun _=>g48v1Main (g48v1l0M m))
abbrev S_g49v1(α:Type):Type:=Int→Ty0→(Int→Option α)→Option α
abbrev S_g49v1l0(α:Type):Type:=Ty0→(Option α)→(Int→Option α)→Int→Int→Option α
def g49v1l0b{α:Type}(a:Ty0)(b:Option α)(c:Int→Option α)(d:Int→Int→Option α)(e h:Int):Option α:=cond (decide (h<((a.length:Nat):Int))) (if 0≤h∧h<(a.length:Nat) then if h.toNat<a.length then cond (((List.getD a h.toNat []).headD 0) !=(IntKind.wrap .i16 e)) (b) (let i:Int:=IntKind.wrap .i64 (e+(1:Int));if 0≤h∧h<(a.length:Nat) then if h.toNat<a.length then cond ((((List.getD a h.toNat []).tail).headD 0) !=(IntKind.wrap .i16 i)) (b) (d (IntKind.wrap .i64 (i+(1:Int))) (IntKind.wrap .i64 (h+(1:Int)))) else none else none) else none else none) (c e)
def g49v1l0{α:Type}(a:Ty0)(b:Option α)(c:Int→Option α):Nat→Int→Int→Option α
 |0=>fun _ _=>none
 |m+1=>fun d e=>g49v1l0b a b c (g49v1l0 a b c m) d e
def g49v1l0M{α:Type}(m:Nat):S_g49v1l0 α:=
 fun a b c d e=>g49v1l0 a b c m d e
def g49v1l0D:LoopD:={n:=33,low:=[0],sl:=[0,1,5],bl:=[0],tp:=[(.vl (.sv (.gsl 0 2))),tI,tI],bp:=[(false,[(.gro rP)])],xs:=[(1,[4]),(2,[1])]}
def g49v1l0K{α:Type}(L:S_g49v1l0 α)(ls:List Lf)(k:KEx α):Option α:=
 L ((lf ls 2).lst rP)
  (k .ret (mkSt 33 [4] [(.vl (.sv (.int .i64 (-1:Int))))] [0] [(false,[(.gro rP ((lf ls 2).lst rP))])]))
  (fun a=>k .normal (mkSt 33 [1] [(.vl (.sv (.int .i64 a)))] [0] [(false,[(.gro rP ((lf ls 2).lst rP))])]))
  (lf ls 0).int (lf ls 1).int
def g49v1b{α:Type}(L49v1l0:Al S_g49v1l0)(a:Int)(b:Ty0)(c:Int→Option α):Option α:=L49v1l0 b (c (-1:Int)) (fun d=>c d) a (0:Int)
def g49v1{α:Type}(m:Nat):S_g49v1 α:=
 g49v1b (g49v1l0M m)
def g49v1tp:List TP:=[(.vl (.sv (.gsl 0 2))),tI]
def g49v1bp:List BP:=[(false,[(.gro rP)])]
def g49v1K{α:Type}(G:S_g49v1 α)(ls:List Lf)(k:KRe α):Option α:=
 G (lf ls 0).int ((lf ls 1).lst rP)
  (fun a=>k (.vl (.sv (.int .i64 a))) [[(.gro rP ((lf ls 1).lst rP))]] [])
def g49v1R{α:Type}(G:S_g49v1 α):=rowK g49v1tp g49v1bp (g49v1K G)
def g49v1hd(L49v1l0:Al S_g49v1l0):Hd where
 call:=fun f args Bs k=>none
 loop:=fun id st k=>cond (Nat.beq id 0) (loopH g49v1l0D (g49v1l0K L49v1l0) st k) (none)
 ro:=fun f=>[]
def g49v1h(m:Nat):Hd:=g49v1hd (g49v1l0M m)
theorem g49v1l0Step(L49v1l0:Al S_g49v1l0){α:Type}(L:S_g49v1l0 α)(ls:List Lf)(k:KEx α):
  g49v1l0K (fun a b c d e=>g49v1l0b a b c (L a b c) d e) ls k=ev tab (g49v1hd L49v1l0) (bodyAt Try.f49 0) (atHead g49v1l0D ls) (loopK g49v1l0D 0 (loopH g49v1l0D (g49v1l0K L)) k):=by kernel_rfl
theorem g49v1Main(L49v1l0:Al S_g49v1l0){α:Type}(ls:List Lf)(k:KRe α):
  g49v1K (g49v1b L49v1l0) ls k=evFun tab (g49v1hd L49v1l0) Try.f49 (fT g49v1tp ls) (fB g49v1tp g49v1bp ls) k:=by kernel_rfl
theorem g49v1Calls(m:Nat):(g49v1h m).CallsOk Try.prog:=cok_nil
theorem g49v1l0Ok(m:Nat)(α:Type)(st:St)(k:KEx α)(r:α)(h:(g49v1h m).loop 0 st k=some r):
  LoopS Try.prog 0 (bodyAt Try.f49 0) st k r:=
 lpk (F:=fun n ls k=>g49v1l0K (fun a b c d e=>g49v1l0 a b c n d e) ls k) (g49v1Calls m) (lb0 (by kernel_rfl))
  (fun _ _=>rfl) (fun n ls k=>g49v1l0Step (g49v1l0M m) (fun a b c=>g49v1l0 a b c n) ls k) (n:=m) h
theorem g49v1Ok(m:Nat):RowOk Try.prog 49 (fun{α}=>g49v1R (g49v1 m (α:=α))):=
 rwk (g49v1Calls m) (lo1 (by kernel_rfl) (g49v1l0Ok m))
  (fun _=>g49v1Main (g49v1l0M m))
abbrev S_g9(α:Type):Type:=Nat→Nat→Nat→Int→Int→Nat→Ty0→(Bool→Option α)→Option α
def g9b{α:Type}(G30:Al S_g30)(G32:Al S_g32)(G44:Al S_g44)(G45:Al S_g45)(G46:Al S_g46)(G34:Al S_g34)(G47:Al S_g47)(G48:Al S_g48)(G49:Al S_g49)(G46v1:Al S_g46v1)(G48v1:Al S_g48v1)(G49v1:Al S_g49v1)(a b c:Nat)(d e:Int)(h:Nat)(i:Ty0)(j:Bool→Option α):Option α:=G30 a b c (1048576:Int) h i (fun l=>cond (decide (l<(0:Int))) (j true) (G32 a b c h i (fun n=>G44 0 b b d e b n (fun o p=>G32 a b c h i (fun q=>G45 0 b b d e b q (fun r=>G46 p (fun s=>cond (!s) (j false) (cond (r !=o) (j false) (G32 a b c h i (fun t=>G34 0 b b 0 b b b q b t (fun u=>cond (!u) (j false) (G47 0 b b (1:Int) b q (fun v w=>cond (decide (v<(0:Int))) (j false) (G46 p (fun x=>cond (!x) (j false) (cond (r !=o) (j false) (G48 (1:Int) (G49 (1:Int) (G32 a b c h i (fun y=>G45 0 b b d e b y (fun z=>G46 p (fun a0=>cond (!a0) (j false) (cond (z !=o) (j false) (G49 (1:Int) (j true))))) (fun b0=>G46v1 b0 p (fun c0=>cond (!c0) (j false) (cond ((0:Int) !=o) (j false) (G49 (1:Int) (j true)))))))))))))))))))) (fun d0=>G46v1 d0 p (fun e0=>cond (!e0) (j false) (cond ((0:Int) !=o) (j false) (G32 a b c h i (fun h0=>G34 0 b b 0 b b b q b h0 (fun i0=>cond (!i0) (j false) (G47 0 b b (1:Int) b q (fun j0 l0=>cond (decide (j0<(0:Int))) (j false) (G46v1 d0 p (fun n0=>cond (!n0) (j false) (cond ((0:Int) !=o) (j false) (G48v1 (1:Int) d0 (fun o0 p0=>G49v1 (1:Int) p0 (fun q0=>cond (decide (q0<(0:Int))) (j false) (cond (q0 !=o0) (j false) (G32 a b c h i (fun r0=>G45 0 b b d e b r0 (fun s0=>G46 p (fun t0=>cond (!t0) (j false) (cond (s0 !=o) (j false) (G49v1 (1:Int) p0 (fun u0=>cond (decide (u0<(0:Int))) (j false) (cond (u0 !=o0) (j false) (j true))))))) (fun v0=>G46v1 v0 p (fun w0=>cond (!w0) (j false) (cond ((0:Int) !=o) (j false) (G49v1 (1:Int) p0 (fun x0=>cond (decide (x0<(0:Int))) (j false) (cond (x0 !=o0) (j false) (j true)))))))))))))))))))))))))))))
noncomputable def g9{α:Type}(m:Nat):S_g9 α:=
 g9b (g30 m) (g32 m) (g44 m) (g45 m) (g46 m) (g34 m) (g47 m) (g48 m) (g49 m) (g46v1 m) (g48v1 m) (g49v1 m)
def g9tp:List TP:=[(.vl (.sv (.sla 0 0 5))),tI,tI]
def g9bp:List BP:=[(false,[(.seqv rN)])]
def g9K{α:Type}(G:S_g9 α)(ls:List Lf)(k:KRe α):Option α:=
 G (lf ls 0).nat (lf ls 1).nat (lf ls 2).nat (lf ls 3).int (lf ls 4).int (lf ls 5).nat ((lf ls 6).lst rN)
  (fun a=>k (.vl (.sv (.bool a))) [[(.seq rN (lf ls 5).nat ((lf ls 6).lst rN))]] [])
def g9hd(G30:Al S_g30)(G32:Al S_g32)(G44:Al S_g44)(G45:Al S_g45)(G46:Al S_g46)(G34:Al S_g34)(G47:Al S_g47)(G48:Al S_g48)(G49:Al S_g49)(G46v1:Al S_g46v1)(G48v1:Al S_g48v1)(G49v1:Al S_g49v1):Hd where
 call:=fun f args Bs k=>cond (Nat.beq f 30) (g30R G30 args Bs k) (cond (Nat.beq f 32) (g32R G32 args Bs k) (cond (Nat.beq f 44) (g44R G44 args Bs k) (cond (Nat.beq f 45) (g45R G45 args Bs k) (cond (Nat.beq f 46) (rowE g46tp g46bp (g46K G46) (g46v1R G46v1) args Bs k) (cond (Nat.beq f 34) (g34R G34 args Bs k) (cond (Nat.beq f 47) (g47R G47 args Bs k) (cond (Nat.beq f 48) (rowE g48tp g48bp (g48K G48) (g48v1R G48v1) args Bs k) (cond (Nat.beq f 49) (rowE g49tp g49bp (g49K G49) (g49v1R G49v1) args Bs k) (none)))))))))
 loop:=fun id st k=>none
 ro:=fun f=>cond (Nat.beq f 30) [0] (cond (Nat.beq f 32) [0] (cond (Nat.beq f 34) [0,1] (cond (Nat.beq f 44) [0] (cond (Nat.beq f 45) [0] (cond (Nat.beq f 46) [0,1] (cond (Nat.beq f 49) [0] ([])))))))
noncomputable def g9h(m:Nat):Hd:=g9hd (g30 m) (g32 m) (g44 m) (g45 m) (g46 m) (g34 m) (g47 m) (g48 m) (g49 m) (g46v1 m) (g48v1 m) (g49v1 m)
theorem g9Main(G30:Al S_g30)(G32:Al S_g32)(G44:Al S_g44)(G45:Al S_g45)(G46:Al S_g46)(G34:Al S_g34)(G47:Al S_g47)(G48:Al S_g48)(G49:Al S_g49)(G46v1:Al S_g46v1)(G48v1:Al S_g48v1)(G49v1:Al S_g49v1){α:Type}(ls:List Lf)(k:KRe α):
  g9K (g9b G30 G32 G44 G45 G46 G34 G47 G48 G49 G46v1 G48v1 G49v1) ls k=evFun tab (g9hd G30 G32 G44 G45 G46 G34 G47 G48 G49 G46v1 G48v1 G49v1) Try.f9 (fT g9tp ls) (fB g9tp g9bp ls) k:=by kernel_rfl
theorem g9Calls(m:Nat):(g9h m).CallsOk Try.prog:=(cok_cons (g30Ok m) (cok_cons (g32Ok m) (cok_cons (g44Ok m) (cok_cons (g45Ok m) (cok_cons (row_else (g46Ok m) (g46v1Ok m)) (cok_cons (g34Ok m) (cok_cons (g47Ok m) (cok_cons (row_else (g48Ok m) (g48v1Ok m)) (cok_cons (row_else (g49Ok m) (g49v1Ok m)) cok_nil)))))))))
theorem g9Fn(m:Nat):FnOk Try.prog 9 g9tp g9bp (fun{α}=>g9K (g9 m (α:=α))):=
 fnk (g9Calls m) (lo0 (by kernel_rfl))
  (fun _=>g9Main (g30 m) (g32 m) (g44 m) (g45 m) (g46 m) (g34 m) (g47 m) (g48 m) (g49 m) (g46v1 m) (g48v1 m) (g49v1 m))
end Go.Proofs.Ytlmmgjngihlpeaa.Sx
