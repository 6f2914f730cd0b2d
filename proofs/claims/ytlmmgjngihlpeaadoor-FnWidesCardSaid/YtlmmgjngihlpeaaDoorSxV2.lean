/- Functions. Printed by our own sx.py. -/
import Derived.Test.YtlmmgjngihlpeaaDoorSxV1
namespace Go.Proofs.YtlmmgjngihlpeaaDoor.Sx
open Go
set_option linter.unusedVariables false
set_option maxRecDepth 100000
abbrev S_g14(α:Type):Type:=Bool→(List Int)→(ByteArray→Option α)→Option α
abbrev S_g14l0(α:Type):Type:=Bool→(List Int)→(ByteArray→Option α)→ByteArray→(List Int)→Option α
def g14l0b{α:Type}(G49:Al S_g49)(G43:Al S_g43)(G50:Al S_g50)(a:Bool)(b:List Int)(c:ByteArray→Option α)(d:ByteArray→(List Int)→Option α)(e:ByteArray)(h:List Int):Option α:=G49 h (1000000000:Int) (fun i j=>G43 (IntKind.wrap .i64 j) (fun l=>cond (eqLI i [0,0,0,0,0,0]) (if l.size+e.size≤9223372036854775807 then c (l++e) else none) (G50 (⟨#[48]⟩:ByteArray) (IntKind.wrap .i64 ((9:Int)-((l.size:Nat):Int))) (fun n=>if n.size+l.size≤9223372036854775807 then let o:ByteArray:=n++l;if o.size+e.size≤9223372036854775807 then d (o++e) i else none else none))))
def g14l0{α:Type}(G49:Al S_g49)(G43:Al S_g43)(G50:Al S_g50)(a:Bool)(b:List Int)(c:ByteArray→Option α):Nat→ByteArray→(List Int)→Option α
 |0=>fun _ _=>none
 |m+1=>fun d e=>g14l0b G49 G43 G50 a b c (g14l0 G49 G43 G50 a b c m) d e
def g14l0M{α:Type}(m:Nat):S_g14l0 α:=
 fun a b c d e=>g14l0 (g49 m) (g43 m) (g50 m) a b c m d e
def g14l0D:LoopD:={n:=39,low:=[],sl:=[1,3,4],bl:=[1000000,1000001],tp:=[(.vl (.sv (.ptr 1000000 0))),(.vl (.sv (.ptr 1000001 0))),(.vl (.sv .str))],bp:=[(true,[(.one .bool),(.seq uU 6)]),b6],xs:=[(2,[1,4])]}
def g14l0K{α:Type}(L:S_g14l0 α)(ls:List Lf)(k:KEx α):Option α:=
 L (lf ls 1).bool ((lf ls 2).lst uU)
  (fun a=>k .normal (mkSt 39 [1,4] [(.vl (.sv (.ptr 1000000 0))),(.vl (.sv (.str a)))] [1000000] [(true,[(.one (.bool (lf ls 1).bool)),(.seq uU 6 ((lf ls 2).lst uU))])]))
  (lf ls 0).str ((lf ls 3).lst uU)
def g14b{α:Type}(G20:Al S_g20)(G49:Al S_g49)(G43:Al S_g43)(G50:Al S_g50)(L14l0:Al S_g14l0)(a:Bool)(b:List Int)(c:ByteArray→Option α):Option α:=G20 a b (fun d=>cond (!d) (c (⟨#[]⟩:ByteArray)) (L14l0 a b (fun e=>cond a (if(⟨#[45]⟩:ByteArray).size+e.size≤9223372036854775807 then c ((⟨#[45]⟩:ByteArray)++e) else none) (c e)) (⟨#[]⟩:ByteArray) b))
def g14{α:Type}(m:Nat):S_g14 α:=
 g14b (g20 m) (g49 m) (g43 m) (g50 m) (g14l0M m)
def g14tp:List TP:=[vW]
def g14bp:List BP:=[]
def g14K{α:Type}(G:S_g14 α)(ls:List Lf)(k:KRe α):Option α:=
 G (lf ls 0).bool ((lf ls 1).lst uU)
  (fun a=>k (.vl (.sv (.str a))) [] [])
def g14R{α:Type}(G:S_g14 α):=rowK g14tp g14bp (g14K G)
def g14hd(G20:Al S_g20)(G49:Al S_g49)(G43:Al S_g43)(G50:Al S_g50)(L14l0:Al S_g14l0):Hd where
 call:=fun f args Bs k=>cond (Nat.beq f 20) (g20R G20 args Bs k) (cond (Nat.beq f 49) (g49R G49 args Bs k) (cond (Nat.beq f 43) (g43R G43 args Bs k) (cond (Nat.beq f 50) (g50R G50 args Bs k) (none))))
 loop:=fun id st k=>cond (Nat.beq id 0) (loopH g14l0D (g14l0K L14l0) st k) (none)
 ro:=fun f=>[]
def g14h(m:Nat):Hd:=g14hd (g20 m) (g49 m) (g43 m) (g50 m) (g14l0M m)
theorem g14l0Step(G20:Al S_g20)(G49:Al S_g49)(G43:Al S_g43)(G50:Al S_g50)(L14l0:Al S_g14l0){α:Type}(L:S_g14l0 α)(ls:List Lf)(k:KEx α):
  g14l0K (fun a b c d e=>g14l0b G49 G43 G50 a b c (L a b c) d e) ls k=ev tab (g14hd G20 G49 G43 G50 L14l0) (bodyAt Tryd.f14 0) (atHead g14l0D ls) (loopK g14l0D 0 (loopH g14l0D (g14l0K L)) k):=by kernel_rfl
theorem g14Main(G20:Al S_g20)(G49:Al S_g49)(G43:Al S_g43)(G50:Al S_g50)(L14l0:Al S_g14l0){α:Type}(ls:List Lf)(k:KRe α):
  g14K (g14b G20 G49 G43 G50 L14l0) ls k=evFun tab (g14hd G20 G49 G43 G50 L14l0) Tryd.f14 (fT g14tp ls) (fB g14tp g14bp ls) k:=by kernel_rfl
theorem g14Calls(m:Nat):(g14h m).CallsOk Tryd.prog:=(cok_cons (g20Ok m) (cok_cons (g49Ok m) (cok_cons (g43Ok m) (cok_cons (g50Ok m) cok_nil))))
theorem g14l0Ok(m:Nat)(α:Type)(st:St)(k:KEx α)(r:α)(h:(g14h m).loop 0 st k=some r):
  LoopS Tryd.prog 0 (bodyAt Tryd.f14 0) st k r:=
 lpk (F:=fun n ls k=>g14l0K (fun a b c d e=>g14l0 (g49 m) (g43 m) (g50 m) a b c n d e) ls k) (g14Calls m) (lb0 (by kernel_rfl))
  (fun _ _=>rfl) (fun n ls k=>g14l0Step (g20 m) (g49 m) (g43 m) (g50 m) (g14l0M m) (fun a b c=>g14l0 (g49 m) (g43 m) (g50 m) a b c n) ls k) (n:=m) h
theorem g14Ok(m:Nat):RowOk Tryd.prog 14 (fun{α}=>g14R (g14 m (α:=α))):=
 rwk (g14Calls m) (lo1 (by kernel_rfl) (g14l0Ok m))
  (fun _=>g14Main (g20 m) (g49 m) (g43 m) (g50 m) (g14l0M m))
abbrev S_g15(α:Type):Type:=Nat→Nat→Nat→Nat→(List Int)→(Bool→Option α)→Option α
def g15b{α:Type}(a b:Nat)(c d:Nat)(e:List Int)(h:Bool→Option α):Option α:=h (decide (((b:Nat):Int)>(4096:Int)))
def g15{α:Type}(m:Nat):S_g15 α:=
 g15b
def g15tp:List TP:=[(.vl (.sv (.sla 0 0 1)))]
def g15bp:List BP:=[(false,[(.seqv (.int .u8))])]
def g15K{α:Type}(G:S_g15 α)(ls:List Lf)(k:KRe α):Option α:=
 G (lf ls 0).nat (lf ls 1).nat (lf ls 2).nat (lf ls 3).nat ((lf ls 4).lst (.int .u8))
  (fun a=>k (.vl (.sv (.bool a))) [[(.seq (.int .u8) (lf ls 3).nat ((lf ls 4).lst (.int .u8)))]] [])
def g15R{α:Type}(G:S_g15 α):=rowK g15tp g15bp (g15K G)
def g15hd:Hd where
 call:=fun f args Bs k=>none
 loop:=fun id st k=>none
 ro:=fun f=>[]
def g15h(m:Nat):Hd:=g15hd
theorem g15Main{α:Type}(ls:List Lf)(k:KRe α):
  g15K (g15b) ls k=evFun tab (g15hd) Tryd.f15 (fT g15tp ls) (fB g15tp g15bp ls) k:=by kernel_rfl
theorem g15Calls(m:Nat):(g15h m).CallsOk Tryd.prog:=cok_nil
theorem g15Ok(m:Nat):RowOk Tryd.prog 15 (fun{α}=>g15R (g15 m (α:=α))):=
 rwk (g15Calls m) (lo0 (by kernel_rfl))
  (fun _=>g15Main)
abbrev S_g52(α:Type):Type:=Nat→Nat→Nat→Nat→(List Int)→(Option α)→Option α
def g52b{α:Type}(a b:Nat)(c d:Nat)(e:List Int)(h:Option α):Option α:=h
def g52{α:Type}(m:Nat):S_g52 α:=
 g52b
def g52tp:List TP:=[(.vl (.sv (.sla 0 0 1)))]
def g52bp:List BP:=[(false,[(.seqv (.int .u8))])]
def g52K{α:Type}(G:S_g52 α)(ls:List Lf)(k:KRe α):Option α:=
 G (lf ls 0).nat (lf ls 1).nat (lf ls 2).nat (lf ls 3).nat ((lf ls 4).lst (.int .u8))
  (k (.vl (.sv (.ptr 1 0))) [[(.seq (.int .u8) (lf ls 3).nat ((lf ls 4).lst (.int .u8)))]] [[(.one (.sla 0 0 1 (lf ls 0).nat (lf ls 1).nat (lf ls 2).nat)),(.one (.int .i64 (0:Int))),(.one (.int .u64 (0:Int)))]])
def g52R{α:Type}(G:S_g52 α):=rowK g52tp g52bp (g52K G)
def g52hd:Hd where
 call:=fun f args Bs k=>none
 loop:=fun id st k=>none
 ro:=fun f=>[]
def g52h(m:Nat):Hd:=g52hd
theorem g52Main{α:Type}(ls:List Lf)(k:KRe α):
  g52K (g52b) ls k=evFun tab (g52hd) Tryd.f52 (fT g52tp ls) (fB g52tp g52bp ls) k:=by kernel_rfl
theorem g52Calls(m:Nat):(g52h m).CallsOk Tryd.prog:=cok_nil
theorem g52Ok(m:Nat):RowOk Tryd.prog 52 (fun{α}=>g52R (g52 m (α:=α))):=
 rwk (g52Calls m) (lo0 (by kernel_rfl))
  (fun _=>g52Main)
abbrev S_g102(α:Type):Type:=Nat→Nat→Nat→Int→Int→Nat→(List Int)→(Int→Int→Int→Option α)→Option α
def g102b{α:Type}(a b c:Nat)(d e:Int)(h:Nat)(i:List Int)(j:Int→Int→Int→Option α):Option α:=cond (decide (d<((b:Nat):Int))) (if 0≤d∧d<(b:Nat) then if(a+d.toNat)<h then let l:Int:=IntKind.wrap .i64 (List.getD i (a+d.toNat) 0);let n:Int:=IntKind.wrap .i64 (d+(1:Int));let o:Int:=IntKind.wrap .u64 ((IntKind.wrap .u64 ((IntKind.wrap .u64 (e*(6364136223846793005:Int)))+(IntKind.wrap .u64 l)))+(1442695040888963407:Int));cond (decide (n≤((b:Nat):Int))) (j l n o) (j (IntKind.wrap .i64 (ibits .and .u64 (Int.fdiv o (2^40)) (255:Int))) n o) else none else none) (let p:Int:=IntKind.wrap .i64 (d+(1:Int));let q:Int:=IntKind.wrap .u64 ((IntKind.wrap .u64 ((IntKind.wrap .u64 (e*(6364136223846793005:Int)))+(0:Int)))+(1442695040888963407:Int));cond (decide (p≤((b:Nat):Int))) (j (0:Int) p q) (j (IntKind.wrap .i64 (ibits .and .u64 (Int.fdiv q (2^40)) (255:Int))) p q))
def g102{α:Type}(m:Nat):S_g102 α:=
 g102b
def g102tp:List TP:=[(.vl (.sv (.ptr 0 0)))]
def g102bp:List BP:=[(true,[(.one (.sla 1 0 1)),(.one (.int .i64)),(.one (.int .u64))]),(false,[(.seqv (.int .u8))])]
def g102K{α:Type}(G:S_g102 α)(ls:List Lf)(k:KRe α):Option α:=
 G (lf ls 0).nat (lf ls 1).nat (lf ls 2).nat (lf ls 3).int (lf ls 4).int (lf ls 5).nat ((lf ls 6).lst (.int .u8))
  (fun a b c=>k (.vl (.sv (.int .i64 a))) [[(.one (.sla 1 0 1 (lf ls 0).nat (lf ls 1).nat (lf ls 2).nat)),(.one (.int .i64 b)),(.one (.int .u64 c))],[(.seq (.int .u8) (lf ls 5).nat ((lf ls 6).lst (.int .u8)))]] [])
def g102R{α:Type}(G:S_g102 α):=rowK g102tp g102bp (g102K G)
def g102hd:Hd where
 call:=fun f args Bs k=>none
 loop:=fun id st k=>none
 ro:=fun f=>[]
def g102h(m:Nat):Hd:=g102hd
theorem g102Main{α:Type}(ls:List Lf)(k:KRe α):
  g102K (g102b) ls k=evFun tab (g102hd) Tryd.f102 (fT g102tp ls) (fB g102tp g102bp ls) k:=by kernel_rfl
theorem g102Calls(m:Nat):(g102h m).CallsOk Tryd.prog:=cok_nil
theorem g102Ok(m:Nat):RowOk Tryd.prog 102 (fun{α}=>g102R (g102 m (α:=α))):=
 rwk (g102Calls m) (lo0 (by kernel_rfl))
  (fun _=>g102Main)
abbrev S_g66(α:Type):Type:=Int→Nat→Nat→Nat→Int→Int→Nat→(List Int)→(Int→Int→Int→Option α)→Option α
def g66b{α:Type}(G102:Al S_g102)(a:Int)(b c d:Nat)(e h:Int)(i:Nat)(j:List Int)(l:Int→Int→Int→Option α):Option α:=cond (decide (a≤(1:Int))) (l (0:Int) e h) (G102 b c d e h i j (fun n o p=>cond (decide (a>(200:Int))) (G102 b c d o p i j (fun q r s=>if a=0 then none else l (Int.tmod (IntKind.wrap .i64 ((IntKind.wrap .i64 (n*(256:Int)))+q)) a) r s)) (if a=0 then none else l (Int.tmod n a) o p)))
def g66{α:Type}(m:Nat):S_g66 α:=
 g66b (g102 m)
def g66tp:List TP:=[(.vl (.sv (.ptr 0 0))),tI]
def g66bp:List BP:=[(true,[(.one (.sla 1 0 1)),(.one (.int .i64)),(.one (.int .u64))]),(false,[(.seqv (.int .u8))])]
def g66K{α:Type}(G:S_g66 α)(ls:List Lf)(k:KRe α):Option α:=
 G (lf ls 0).int (lf ls 1).nat (lf ls 2).nat (lf ls 3).nat (lf ls 4).int (lf ls 5).int (lf ls 6).nat ((lf ls 7).lst (.int .u8))
  (fun a b c=>k (.vl (.sv (.int .i64 a))) [[(.one (.sla 1 0 1 (lf ls 1).nat (lf ls 2).nat (lf ls 3).nat)),(.one (.int .i64 b)),(.one (.int .u64 c))],[(.seq (.int .u8) (lf ls 6).nat ((lf ls 7).lst (.int .u8)))]] [])
def g66R{α:Type}(G:S_g66 α):=rowK g66tp g66bp (g66K G)
def g66hd(G102:Al S_g102):Hd where
 call:=fun f args Bs k=>cond (Nat.beq f 102) (g102R G102 args Bs k) (none)
 loop:=fun id st k=>none
 ro:=fun f=>cond (Nat.beq f 102) [1] ([])
def g66h(m:Nat):Hd:=g66hd (g102 m)
theorem g66Main(G102:Al S_g102){α:Type}(ls:List Lf)(k:KRe α):
  g66K (g66b G102) ls k=evFun tab (g66hd G102) Tryd.f66 (fT g66tp ls) (fB g66tp g66bp ls) k:=by kernel_rfl
theorem g66Calls(m:Nat):(g66h m).CallsOk Tryd.prog:=(cok_cons (g102Ok m) cok_nil)
theorem g66Ok(m:Nat):RowOk Tryd.prog 66 (fun{α}=>g66R (g66 m (α:=α))):=
 rwk (g66Calls m) (lo0 (by kernel_rfl))
  (fun _=>g66Main (g102 m))
abbrev S_g92(α:Type):Type:=Int→Nat→Nat→Nat→Int→Int→Nat→(List Int)→(Bool→Int→Int→Option α)→Option α
def g92b{α:Type}(G66:Al S_g66)(a:Int)(b c d:Nat)(e h:Int)(i:Nat)(j:List Int)(l:Bool→Int→Int→Option α):Option α:=G66 a b c d e h i j (fun n o p=>l (n==(0:Int)) o p)
def g92{α:Type}(m:Nat):S_g92 α:=
 g92b (g66 m)
def g92tp:List TP:=[(.vl (.sv (.ptr 0 0))),tI]
def g92bp:List BP:=[(true,[(.one (.sla 1 0 1)),(.one (.int .i64)),(.one (.int .u64))]),(false,[(.seqv (.int .u8))])]
def g92K{α:Type}(G:S_g92 α)(ls:List Lf)(k:KRe α):Option α:=
 G (lf ls 0).int (lf ls 1).nat (lf ls 2).nat (lf ls 3).nat (lf ls 4).int (lf ls 5).int (lf ls 6).nat ((lf ls 7).lst (.int .u8))
  (fun a b c=>k (.vl (.sv (.bool a))) [[(.one (.sla 1 0 1 (lf ls 1).nat (lf ls 2).nat (lf ls 3).nat)),(.one (.int .i64 b)),(.one (.int .u64 c))],[(.seq (.int .u8) (lf ls 6).nat ((lf ls 7).lst (.int .u8)))]] [])
def g92R{α:Type}(G:S_g92 α):=rowK g92tp g92bp (g92K G)
def g92hd(G66:Al S_g66):Hd where
 call:=fun f args Bs k=>cond (Nat.beq f 66) (g66R G66 args Bs k) (none)
 loop:=fun id st k=>none
 ro:=fun f=>cond (Nat.beq f 66) [1] ([])
def g92h(m:Nat):Hd:=g92hd (g66 m)
theorem g92Main(G66:Al S_g66){α:Type}(ls:List Lf)(k:KRe α):
  g92K (g92b G66) ls k=evFun tab (g92hd G66) Tryd.f92 (fT g92tp ls) (fB g92tp g92bp ls) k:=by kernel_rfl
theorem g92Calls(m:Nat):(g92h m).CallsOk Tryd.prog:=(cok_cons (g66Ok m) cok_nil)
theorem g92Ok(m:Nat):RowOk Tryd.prog 92 (fun{α}=>g92R (g92 m (α:=α))):=
 rwk (g92Calls m) (lo0 (by kernel_rfl))
  (fun _=>g92Main (g66 m))
abbrev S_g64(α:Type):Type:=Bool→(List Int)→(Bool→Option α)→Option α
def g64b{α:Type}(G87:Al S_g87)(a:Bool)(b:List Int)(c:Bool→Option α):Option α:=cond a (G87 b (fun d=>c (!d))) (c false)
def g64{α:Type}(m:Nat):S_g64 α:=
 g64b (g87 m)
def g64tp:List TP:=[(.vl (.sv .bool)),(.vl (.agg [(.seq uU 6)]))]
def g64bp:List BP:=[]
def g64K{α:Type}(G:S_g64 α)(ls:List Lf)(k:KRe α):Option α:=
 G (lf ls 0).bool ((lf ls 1).lst uU)
  (fun a=>k (.vl (.agg [(.one (.bool a)),(.seq uU 6 ((lf ls 1).lst uU))])) [] [])
def g64R{α:Type}(G:S_g64 α):=rowK g64tp g64bp (g64K G)
def g64hd(G87:Al S_g87):Hd where
 call:=fun f args Bs k=>cond (Nat.beq f 87) (g87R G87 args Bs k) (none)
 loop:=fun id st k=>none
 ro:=fun f=>cond (Nat.beq f 87) [0] ([])
def g64h(m:Nat):Hd:=g64hd (g87 m)
theorem g64Main(G87:Al S_g87){α:Type}(ls:List Lf)(k:KRe α):
  g64K (g64b G87) ls k=evFun tab (g64hd G87) Tryd.f64 (fT g64tp ls) (fB g64tp g64bp ls) k:=by kernel_rfl
theorem g64Calls(m:Nat):(g64h m).CallsOk Tryd.prog:=(cok_cons (g87Ok m) cok_nil)
theorem g64Ok(m:Nat):RowOk Tryd.prog 64 (fun{α}=>g64R (g64 m (α:=α))):=
 rwk (g64Calls m) (lo0 (by kernel_rfl))
  (fun _=>g64Main (g87 m))
abbrev S_g51(α:Type):Type:=Nat→Nat→Nat→Int→Int→Nat→(List Int)→(Bool→(List Int)→Int→Int→Option α)→Option α
abbrev S_g51l0(α:Type):Type:=Int→Nat→Nat→Nat→Nat→(List Int)→Bool→(List Int)→(Int→Int→(List Int)→Option α)→Int→Int→Int→(List Int)→Option α
def g51l0b{α:Type}(G66:Al S_g66)(a:Int)(b c:Nat)(d e:Nat)(h:List Int)(i:Bool)(j:List Int)(l:Int→Int→(List Int)→Option α)(n:Int→Int→Int→(List Int)→Option α)(o p q:Int)(r:List Int):Option α:=cond (decide (o<a)) (G66 (4:Int) b c d p q e h (fun s t u=>cond (s==(0:Int)) (G66 (60000:Int) b c d t u e h (fun v w x=>if 0≤o∧o<(6:Nat) then if o.toNat<6 then n (IntKind.wrap .i64 (o+(1:Int))) w x (List.set r (o.toNat) (IntKind.wrap .u32 ((IntKind.wrap .u32 v)*(65521:Int)))) else none else none)) (cond (s==(1:Int)) (if 0≤o∧o<(6:Nat) then if o.toNat<6 then n (IntKind.wrap .i64 (o+(1:Int))) t u (List.set r (o.toNat) (4294967295:Int)) else none else none) (cond (s==(2:Int)) (G66 (5:Int) b c d t u e h (fun y z a0=>if 0≤o∧o<(6:Nat) then if o.toNat<6 then n (IntKind.wrap .i64 (o+(1:Int))) z a0 (List.set r (o.toNat) (IntKind.wrap .u32 y)) else none else none)) (G66 (32:Int) b c d t u e h (fun b0 c0 d0=>let e0:Int:=IntKind.wrap .u64 b0;if e0<0 then none else if 0≤o∧o<(6:Nat) then if o.toNat<6 then n (IntKind.wrap .i64 (o+(1:Int))) c0 d0 (List.set r (o.toNat) (IntKind.wrap .u32 ((1:Int)*2^(min e0.toNat 32)))) else none else none)))))) (l p q r)
def g51l0{α:Type}(G66:Al S_g66)(a:Int)(b c:Nat)(d e:Nat)(h:List Int)(i:Bool)(j:List Int)(l:Int→Int→(List Int)→Option α):Nat→Int→Int→Int→(List Int)→Option α
 |0=>fun _ _ _ _=>none
 |m+1=>fun n o p q=>g51l0b G66 a b c d e h i j l (g51l0 G66 a b c d e h i j l m) n o p q
def g51l0M{α:Type}(m:Nat):S_g51l0 α:=
 fun a b c d e h i j l n o p q=>g51l0 (g66 m) a b c d e h i j l m n o p q
def g51l0D:LoopD:={n:=45,low:=[0,1],sl:=[0,2,3,4,5],bl:=[0,1,1000002,1000003],tp:=[(.vl (.sv (.ptr 0 0))),(.vl (.sv (.ptr 1000002 0))),(.vl (.sv (.ptr 1000003 0))),tI,tI],bp:=[(true,[(.one (.sla 1 0 1)),(.one (.int .i64)),(.one (.int .u64))]),(false,[(.seqv (.int .u8))]),(true,[(.one .bool),(.seq uU 6)]),b6],xs:=[(2,[0,2,3])]}
def g51l0K{α:Type}(L:S_g51l0 α)(ls:List Lf)(k:KEx α):Option α:=
 L (lf ls 0).int (lf ls 2).nat (lf ls 3).nat (lf ls 4).nat (lf ls 7).nat ((lf ls 8).lst (.int .u8)) (lf ls 9).bool ((lf ls 10).lst uU)
  (fun a b c=>k .normal (mkSt 45 [0,2,3] [(.vl (.sv (.ptr 0 0))),(.vl (.sv (.ptr 1000002 0))),(.vl (.sv (.ptr 1000003 0)))] [0,1,1000002,1000003] [(true,[(.one (.sla 1 0 1 (lf ls 2).nat (lf ls 3).nat (lf ls 4).nat)),(.one (.int .i64 a)),(.one (.int .u64 b))]),(false,[(.seq (.int .u8) (lf ls 7).nat ((lf ls 8).lst (.int .u8)))]),(true,[(.one (.bool (lf ls 9).bool)),(.seq uU 6 ((lf ls 10).lst uU))]),(true,[(.seq uU 6 c)])]))
  (lf ls 1).int (lf ls 5).int (lf ls 6).int ((lf ls 11).lst uU)
def g51b{α:Type}(G66:Al S_g66)(G92:Al S_g92)(G64:Al S_g64)(L51l0:Al S_g51l0)(a b c:Nat)(d e:Int)(h:Nat)(i:List Int)(j:Bool→(List Int)→Int→Int→Option α):Option α:=G66 (7:Int) a b c d e h i (fun l n o=>L51l0 l a b c h i false [0,0,0,0,0,0] (fun p q r=>G92 (3:Int) a b c p q h i (fun s t u=>G64 s r (fun v=>j v r t u))) (0:Int) n o [0,0,0,0,0,0])
def g51{α:Type}(m:Nat):S_g51 α:=
 g51b (g66 m) (g92 m) (g64 m) (g51l0M m)
def g51tp:List TP:=[(.vl (.sv (.ptr 0 0)))]
def g51bp:List BP:=[(true,[(.one (.sla 1 0 1)),(.one (.int .i64)),(.one (.int .u64))]),(false,[(.seqv (.int .u8))])]
def g51K{α:Type}(G:S_g51 α)(ls:List Lf)(k:KRe α):Option α:=
 G (lf ls 0).nat (lf ls 1).nat (lf ls 2).nat (lf ls 3).int (lf ls 4).int (lf ls 5).nat ((lf ls 6).lst (.int .u8))
  (fun a b c d=>k (.vl (.agg [(.one (.bool a)),(.seq uU 6 b)])) [[(.one (.sla 1 0 1 (lf ls 0).nat (lf ls 1).nat (lf ls 2).nat)),(.one (.int .i64 c)),(.one (.int .u64 d))],[(.seq (.int .u8) (lf ls 5).nat ((lf ls 6).lst (.int .u8)))]] [])
def g51R{α:Type}(G:S_g51 α):=rowK g51tp g51bp (g51K G)
def g51hd(G66:Al S_g66)(G92:Al S_g92)(G64:Al S_g64)(L51l0:Al S_g51l0):Hd where
 call:=fun f args Bs k=>cond (Nat.beq f 66) (g66R G66 args Bs k) (cond (Nat.beq f 92) (g92R G92 args Bs k) (cond (Nat.beq f 64) (g64R G64 args Bs k) (none)))
 loop:=fun id st k=>cond (Nat.beq id 0) (loopH g51l0D (g51l0K L51l0) st k) (none)
 ro:=fun f=>cond (Nat.beq f 66) [1] (cond (Nat.beq f 92) [1] ([]))
def g51h(m:Nat):Hd:=g51hd (g66 m) (g92 m) (g64 m) (g51l0M m)
theorem g51l0Step(G66:Al S_g66)(G92:Al S_g92)(G64:Al S_g64)(L51l0:Al S_g51l0){α:Type}(L:S_g51l0 α)(ls:List Lf)(k:KEx α):
  g51l0K (fun a b c d e h i j l n o p q=>g51l0b G66 a b c d e h i j l (L a b c d e h i j l) n o p q) ls k=ev tab (g51hd G66 G92 G64 L51l0) (bodyAt Tryd.f51 0) (atHead g51l0D ls) (loopK g51l0D 0 (loopH g51l0D (g51l0K L)) k):=by kernel_rfl
theorem g51Main(G66:Al S_g66)(G92:Al S_g92)(G64:Al S_g64)(L51l0:Al S_g51l0){α:Type}(ls:List Lf)(k:KRe α):
  g51K (g51b G66 G92 G64 L51l0) ls k=evFun tab (g51hd G66 G92 G64 L51l0) Tryd.f51 (fT g51tp ls) (fB g51tp g51bp ls) k:=by kernel_rfl
theorem g51Calls(m:Nat):(g51h m).CallsOk Tryd.prog:=(cok_cons (g66Ok m) (cok_cons (g92Ok m) (cok_cons (g64Ok m) cok_nil)))
theorem g51l0Ok(m:Nat)(α:Type)(st:St)(k:KEx α)(r:α)(h:(g51h m).loop 0 st k=some r):
  LoopS Tryd.prog 0 (bodyAt Tryd.f51 0) st k r:=
 lpk (F:=fun n ls k=>g51l0K (fun a b c d e i j l o q s t u=>g51l0 (g66 m) a b c d e i j l o n q s t u) ls k) (g51Calls m) (lb0 (by kernel_rfl))
  (fun _ _=>rfl) (fun n ls k=>g51l0Step (g66 m) (g92 m) (g64 m) (g51l0M m) (fun a b c d e i j l o=>g51l0 (g66 m) a b c d e i j l o n) ls k) (n:=m) h
theorem g51Ok(m:Nat):RowOk Tryd.prog 51 (fun{α}=>g51R (g51 m (α:=α))):=
 rwk (g51Calls m) (lo1 (by kernel_rfl) (g51l0Ok m))
  (fun _=>g51Main (g66 m) (g92 m) (g64 m) (g51l0M m))
abbrev S_g16(α:Type):Type:=Nat→Nat→Nat→Nat→(List Int)→(Bool→(List Int)→Option α)→Option α
def g16b{α:Type}(G52:Al S_g52)(G51:Al S_g51)(a b:Nat)(c d:Nat)(e:List Int)(h:Bool→(List Int)→Option α):Option α:=G52 a b c d e (G51 a b c (0:Int) (0:Int) d e (fun i j l n=>h i j))
def g16{α:Type}(m:Nat):S_g16 α:=
 g16b (g52 m) (g51 m)
def g16tp:List TP:=[(.vl (.sv (.sla 0 0 1)))]
def g16bp:List BP:=[(false,[(.seqv (.int .u8))])]
def g16K{α:Type}(G:S_g16 α)(ls:List Lf)(k:KRe α):Option α:=
 G (lf ls 0).nat (lf ls 1).nat (lf ls 2).nat (lf ls 3).nat ((lf ls 4).lst (.int .u8))
  (fun a b=>k (.vl (.agg [(.one (.bool a)),(.seq uU 6 b)])) [[(.seq (.int .u8) (lf ls 3).nat ((lf ls 4).lst (.int .u8)))]] [])
def g16R{α:Type}(G:S_g16 α):=rowK g16tp g16bp (g16K G)
def g16hd(G52:Al S_g52)(G51:Al S_g51):Hd where
 call:=fun f args Bs k=>cond (Nat.beq f 52) (g52R G52 args Bs k) (cond (Nat.beq f 51) (g51R G51 args Bs k) (none))
 loop:=fun id st k=>none
 ro:=fun f=>cond (Nat.beq f 51) [1] (cond (Nat.beq f 52) [0] ([]))
def g16h(m:Nat):Hd:=g16hd (g52 m) (g51 m)
theorem g16Main(G52:Al S_g52)(G51:Al S_g51){α:Type}(ls:List Lf)(k:KRe α):
  g16K (g16b G52 G51) ls k=evFun tab (g16hd G52 G51) Tryd.f16 (fT g16tp ls) (fB g16tp g16bp ls) k:=by kernel_rfl
theorem g16Calls(m:Nat):(g16h m).CallsOk Tryd.prog:=(cok_cons (g52Ok m) (cok_cons (g51Ok m) cok_nil))
theorem g16Ok(m:Nat):RowOk Tryd.prog 16 (fun{α}=>g16R (g16 m (α:=α))):=
 rwk (g16Calls m) (lo0 (by kernel_rfl))
  (fun _=>g16Main (g52 m) (g51 m))
abbrev S_g93(α:Type):Type:=ByteArray→ByteArray→(ByteArray→Option α)→Option α
def g93b{α:Type}(G118:Al S_g118)(a:ByteArray)(b:ByteArray)(c:ByteArray→Option α):Option α:=G118 a b (fun d=>cond d (if 0≤((b.size:Nat):Int)∧((b.size:Nat):Int)≤((a.size:Nat):Int)∧((a.size:Nat):Int)≤((a.size:Nat):Int) then c (ByteArray.extract a (Int.toNat ((b.size:Nat):Int)) (Int.toNat ((a.size:Nat):Int))) else none) (c a))
def g93{α:Type}(m:Nat):S_g93 α:=
 g93b (g118 m)
def g93tp:List TP:=[(.vl (.sv .str)),(.vl (.sv .str))]
def g93bp:List BP:=[]
def g93K{α:Type}(G:S_g93 α)(ls:List Lf)(k:KRe α):Option α:=
 G (lf ls 0).str (lf ls 1).str
  (fun a=>k (.vl (.sv (.str a))) [] [])
def g93R{α:Type}(G:S_g93 α):=rowK g93tp g93bp (g93K G)
def g93hd(G118:Al S_g118):Hd where
 call:=fun f args Bs k=>cond (Nat.beq f 118) (g118R G118 args Bs k) (none)
 loop:=fun id st k=>none
 ro:=fun f=>[]
def g93h(m:Nat):Hd:=g93hd (g118 m)
theorem g93Main(G118:Al S_g118){α:Type}(ls:List Lf)(k:KRe α):
  g93K (g93b G118) ls k=evFun tab (g93hd G118) Tryd.f93 (fT g93tp ls) (fB g93tp g93bp ls) k:=by kernel_rfl
theorem g93Calls(m:Nat):(g93h m).CallsOk Tryd.prog:=(cok_cons (g118Ok m) cok_nil)
theorem g93Ok(m:Nat):RowOk Tryd.prog 93 (fun{α}=>g93R (g93 m (α:=α))):=
 rwk (g93Calls m) (lo0 (by kernel_rfl))
  (fun _=>g93Main (g118 m))
abbrev S_g54(α:Type):Type:=ByteArray→ByteArray→(ByteArray→Option α)→Option α
def g54b{α:Type}(G93:Al S_g93)(a:ByteArray)(b:ByteArray)(c:ByteArray→Option α):Option α:=G93 a b (fun d=>c d)
def g54{α:Type}(m:Nat):S_g54 α:=
 g54b (g93 m)
def g54tp:List TP:=[(.vl (.sv .str)),(.vl (.sv .str))]
def g54bp:List BP:=[]
def g54K{α:Type}(G:S_g54 α)(ls:List Lf)(k:KRe α):Option α:=
 G (lf ls 0).str (lf ls 1).str
  (fun a=>k (.vl (.sv (.str a))) [] [])
def g54R{α:Type}(G:S_g54 α):=rowK g54tp g54bp (g54K G)
def g54hd(G93:Al S_g93):Hd where
 call:=fun f args Bs k=>cond (Nat.beq f 93) (g93R G93 args Bs k) (none)
 loop:=fun id st k=>none
 ro:=fun f=>[]
def g54h(m:Nat):Hd:=g54hd (g93 m)
theorem g54Main(G93:Al S_g93){α:Type}(ls:List Lf)(k:KRe α):
  g54K (g54b G93) ls k=evFun tab (g54hd G93) Tryd.f54 (fT g54tp ls) (fB g54tp g54bp ls) k:=by kernel_rfl
theorem g54Calls(m:Nat):(g54h m).CallsOk Tryd.prog:=(cok_cons (g93Ok m) cok_nil)
theorem g54Ok(m:Nat):RowOk Tryd.prog 54 (fun{α}=>g54R (g54 m (α:=α))):=
 rwk (g54Calls m) (lo0 (by kernel_rfl))
  (fun _=>g54Main (g93 m))
abbrev S_g53(α:Type):Type:=ByteArray→(Bool→Option α)→Option α
abbrev S_g53l0(α:Type):Type:=ByteArray→(Option α)→(Option α)→Int→Option α
def g53l0b{α:Type}(a:ByteArray)(b c:Option α)(d:Int→Option α)(e:Int):Option α:=cond (decide (e<((a.size:Nat):Int))) (if 0≤e∧e<a.size then cond (decide ((byteAt a e.toNat)<(48:Int))) (b) (if 0≤e∧e<a.size then cond (decide ((byteAt a e.toNat)>(57:Int))) (b) (d (IntKind.wrap .i64 (e+(1:Int)))) else none) else none) (c)
def g53l0{α:Type}(a:ByteArray)(b c:Option α):Nat→Int→Option α
 |0=>fun _=>none
 |m+1=>fun d=>g53l0b a b c (g53l0 a b c m) d
def g53l0M{α:Type}(m:Nat):S_g53l0 α:=
 fun a b c d=>g53l0 a b c m d
def g53l0D:LoopD:={n:=34,low:=[],sl:=[3,4],bl:=[],tp:=[(.vl (.sv .str)),tI],bp:=[],xs:=[(1,[2]),(2,[])]}
def g53l0K{α:Type}(L:S_g53l0 α)(ls:List Lf)(k:KEx α):Option α:=
 L (lf ls 0).str
  (k .ret (mkSt 34 [2] [(.vl (.sv (.bool false)))] [] []))
  (k .normal (mkSt 34 [] [] [] []))
  (lf ls 1).int
def g53b{α:Type}(G54:Al S_g54)(L53l0:Al S_g53l0)(a:ByteArray)(b:Bool→Option α):Option α:=G54 a (⟨#[45]⟩:ByteArray) (fun c=>cond (bytesEq c (⟨#[]⟩:ByteArray)) (b false) (if 0≤(0:Int)∧(0:Int)<c.size then cond ((byteAt c (0:Int).toNat)==(48:Int)) (cond (!bytesEq a (⟨#[48]⟩:ByteArray)) (b false) (L53l0 c (b false) (b true) (0:Int))) (L53l0 c (b false) (b true) (0:Int)) else none))
def g53{α:Type}(m:Nat):S_g53 α:=
 g53b (g54 m) (g53l0M m)
def g53tp:List TP:=[(.vl (.sv .str))]
def g53bp:List BP:=[]
def g53K{α:Type}(G:S_g53 α)(ls:List Lf)(k:KRe α):Option α:=
 G (lf ls 0).str
  (fun a=>k (.vl (.sv (.bool a))) [] [])
def g53R{α:Type}(G:S_g53 α):=rowK g53tp g53bp (g53K G)
def g53hd(G54:Al S_g54)(L53l0:Al S_g53l0):Hd where
 call:=fun f args Bs k=>cond (Nat.beq f 54) (g54R G54 args Bs k) (none)
 loop:=fun id st k=>cond (Nat.beq id 0) (loopH g53l0D (g53l0K L53l0) st k) (none)
 ro:=fun f=>[]
def g53h(m:Nat):Hd:=g53hd (g54 m) (g53l0M m)
theorem g53l0Step(G54:Al S_g54)(L53l0:Al S_g53l0){α:Type}(L:S_g53l0 α)(ls:List Lf)(k:KEx α):
  g53l0K (fun a b c d=>g53l0b a b c (L a b c) d) ls k=ev tab (g53hd G54 L53l0) (bodyAt Tryd.f53 0) (atHead g53l0D ls) (loopK g53l0D 0 (loopH g53l0D (g53l0K L)) k):=by kernel_rfl
theorem g53Main(G54:Al S_g54)(L53l0:Al S_g53l0){α:Type}(ls:List Lf)(k:KRe α):
  g53K (g53b G54 L53l0) ls k=evFun tab (g53hd G54 L53l0) Tryd.f53 (fT g53tp ls) (fB g53tp g53bp ls) k:=by kernel_rfl
theorem g53Calls(m:Nat):(g53h m).CallsOk Tryd.prog:=(cok_cons (g54Ok m) cok_nil)
theorem g53l0Ok(m:Nat)(α:Type)(st:St)(k:KEx α)(r:α)(h:(g53h m).loop 0 st k=some r):
  LoopS Tryd.prog 0 (bodyAt Tryd.f53 0) st k r:=
 lpk (F:=fun n ls k=>g53l0K (fun a b c d=>g53l0 a b c n d) ls k) (g53Calls m) (lb0 (by kernel_rfl))
  (fun _ _=>rfl) (fun n ls k=>g53l0Step (g54 m) (g53l0M m) (fun a b c=>g53l0 a b c n) ls k) (n:=m) h
theorem g53Ok(m:Nat):RowOk Tryd.prog 53 (fun{α}=>g53R (g53 m (α:=α))):=
 rwk (g53Calls m) (lo1 (by kernel_rfl) (g53l0Ok m))
  (fun _=>g53Main (g54 m) (g53l0M m))
abbrev S_g68(α:Type):Type:=Bool→(List Int)→(Bool→Option α)→Option α
def g68b{α:Type}(a:Bool)(b:List Int)(c:Bool→Option α):Option α:=cond a (c (!(eqLI b [0,0,0,0,0,0]))) (c false)
def g68{α:Type}(m:Nat):S_g68 α:=
 g68b
def g68tp:List TP:=[(.vl (.sv .bool)),(.vl (.agg [(.seq uU 6)]))]
def g68bp:List BP:=[]
def g68K{α:Type}(G:S_g68 α)(ls:List Lf)(k:KRe α):Option α:=
 G (lf ls 0).bool ((lf ls 1).lst uU)
  (fun a=>k (.vl (.agg [(.one (.bool a)),(.seq uU 6 ((lf ls 1).lst uU))])) [] [])
def g68R{α:Type}(G:S_g68 α):=rowK g68tp g68bp (g68K G)
def g68hd:Hd where
 call:=fun f args Bs k=>none
 loop:=fun id st k=>none
 ro:=fun f=>[]
def g68h(m:Nat):Hd:=g68hd
theorem g68Main{α:Type}(ls:List Lf)(k:KRe α):
  g68K (g68b) ls k=evFun tab (g68hd) Tryd.f68 (fT g68tp ls) (fB g68tp g68bp ls) k:=by kernel_rfl
theorem g68Calls(m:Nat):(g68h m).CallsOk Tryd.prog:=cok_nil
theorem g68Ok(m:Nat):RowOk Tryd.prog 68 (fun{α}=>g68R (g68 m (α:=α))):=
 rwk (g68Calls m) (lo0 (by kernel_rfl))
  (fun _=>g68Main)
abbrev S_g32(α:Type):Type:=Int→(Bool→(List Int)→Option α)→Option α
def g32b{α:Type}(G68:Al S_g68)(a:Int)(b:Bool→(List Int)→Option α):Option α:=let c:Int:=IntKind.wrap .u64 a;cond (decide (a<(0:Int))) (let d:Int:=IntKind.wrap .u64 (0-c);let e:Int:=IntKind.wrap .u32 d;let h:Int:=IntKind.wrap .u32 (Int.fdiv d (2^32));G68 (decide (a<(0:Int))) [e,h,0,0,0,0] (fun i=>b i [e,h,0,0,0,0])) (let j:Int:=IntKind.wrap .u32 c;let l:Int:=IntKind.wrap .u32 (Int.fdiv c (2^32));G68 (decide (a<(0:Int))) [j,l,0,0,0,0] (fun n=>b n [j,l,0,0,0,0]))
def g32{α:Type}(m:Nat):S_g32 α:=
 g32b (g68 m)
def g32tp:List TP:=[tI]
def g32bp:List BP:=[]
def g32K{α:Type}(G:S_g32 α)(ls:List Lf)(k:KRe α):Option α:=
 G (lf ls 0).int
  (fun a b=>k (.vl (.agg [(.one (.bool a)),(.seq uU 6 b)])) [] [])
def g32R{α:Type}(G:S_g32 α):=rowK g32tp g32bp (g32K G)
def g32hd(G68:Al S_g68):Hd where
 call:=fun f args Bs k=>cond (Nat.beq f 68) (g68R G68 args Bs k) (none)
 loop:=fun id st k=>none
 ro:=fun f=>[]
def g32h(m:Nat):Hd:=g32hd (g68 m)
theorem g32Main(G68:Al S_g68){α:Type}(ls:List Lf)(k:KRe α):
  g32K (g32b G68) ls k=evFun tab (g32hd G68) Tryd.f32 (fT g32tp ls) (fB g32tp g32bp ls) k:=by kernel_rfl
theorem g32Calls(m:Nat):(g32h m).CallsOk Tryd.prog:=(cok_cons (g68Ok m) cok_nil)
theorem g32Ok(m:Nat):RowOk Tryd.prog 32 (fun{α}=>g32R (g32 m (α:=α))):=
 rwk (g32Calls m) (lo0 (by kernel_rfl))
  (fun _=>g32Main (g68 m))
abbrev S_g97(α:Type):Type:=(List Int)→(List Int)→((List Int)→Bool→Option α)→Option α
abbrev S_g97l2(α:Type):Type:=Int→Int→(List Int)→Int→(List Int)→(List Int)→(List Int)→(Int→(List Int)→Option α)→Int→Int→(List Int)→Option α
def g97l2b{α:Type}(a b:Int)(c:List Int)(d:Int)(e h i:List Int)(j:Int→(List Int)→Option α)(l:Int→Int→(List Int)→Option α)(n o:Int)(p:List Int):Option α:=cond (decide (o<(6:Int))) (if 0≤o∧o<(6:Nat) then let q:Int:=IntKind.wrap .i64 (a+o);if 0≤q∧q<(12:Nat) then if q.toNat<12 then let r:Int:=IntKind.wrap .u64 (n+(IntKind.wrap .u64 ((IntKind.wrap .u64 ((IntKind.wrap .u64 b)*(IntKind.wrap .u64 (List.getD e o.toNat 0))))+(IntKind.wrap .u64 (List.getD p q.toNat 0)))));let s:Int:=IntKind.wrap .i64 (a+o);if 0≤s∧s<(12:Nat) then if s.toNat<12 then l (Int.fdiv r (2^32)) (IntKind.wrap .i64 (o+(1:Int))) (List.set p (s.toNat) (IntKind.wrap .u32 r)) else none else none else none else none else none) (j n p)
def g97l2{α:Type}(a b:Int)(c:List Int)(d:Int)(e h i:List Int)(j:Int→(List Int)→Option α):Nat→Int→Int→(List Int)→Option α
 |0=>fun _ _ _=>none
 |m+1=>fun l n o=>g97l2b a b c d e h i j (g97l2 a b c d e h i j m) l n o
def g97l2M{α:Type}(m:Nat):S_g97l2 α:=
 fun a b c d e h i j l n o=>g97l2 a b c d e h i j m l n o
def g97l2D:LoopD:={n:=66,low:=[],sl:=[3,4,6,7,8,9,14,15,19,20],bl:=[1000000,1000001,1000002],tp:=[(.vl (.sv (.ptr 1000000 0))),(.vl (.sv (.ptr 1000001 0))),(.vl (.sv (.ptr 1000002 0))),tI,(.vl (.sv (.int .u32))),(.vl (.sv (.int .u64))),(.vl (.agg [(.seq uU 6)])),tI,(.vl (.agg [(.seq uU 6)])),tI],bp:=[b6,b6,(true,[(.seq uU 12)])],xs:=[(4,[3,4,6,7,9,14,15])]}
def g97l2K{α:Type}(L:S_g97l2 α)(ls:List Lf)(k:KEx α):Option α:=
 L (lf ls 0).int (lf ls 1).int ((lf ls 3).lst uU) (lf ls 4).int ((lf ls 5).lst uU) ((lf ls 7).lst uU) ((lf ls 8).lst uU)
  (fun a b=>k .normal (mkSt 66 [3,4,6,7,9,14,15] [(.vl (.sv (.ptr 1000000 0))),(.vl (.sv (.ptr 1000001 0))),(.vl (.sv (.ptr 1000002 0))),(.vl (.sv (.int .i64 (lf ls 0).int))),(.vl (.sv (.int .u64 a))),(.vl (.agg [(.seq uU 6 ((lf ls 3).lst uU))])),(.vl (.sv (.int .i64 (lf ls 4).int)))] [1000000,1000001,1000002] [(true,[(.seq uU 6 ((lf ls 7).lst uU))]),(true,[(.seq uU 6 ((lf ls 8).lst uU))]),(true,[(.seq uU 12 b)])]))
  (lf ls 2).int (lf ls 6).int ((lf ls 9).lst uU)
abbrev S_g97l0(α:Type):Type:=(List Int)→(List Int)→(List Int)→((List Int)→Option α)→Int→(List Int)→Option α
def g97l0b{α:Type}(L97l2:Al S_g97l2)(a b c:List Int)(d:(List Int)→Option α)(e:Int→(List Int)→Option α)(h:Int)(i:List Int):Option α:=cond (decide (h<(6:Int))) (if 0≤h∧h<(6:Nat) then L97l2 h (List.getD a h.toNat 0) a h b b c (fun j l=>let n:Int:=IntKind.wrap .i64 (h+(6:Int));if 0≤n∧n<(12:Nat) then if n.toNat<12 then e (IntKind.wrap .i64 (h+(1:Int))) (List.set l (n.toNat) (IntKind.wrap .u32 j)) else none else none) (0:Int) (0:Int) i else none) (d i)
def g97l0{α:Type}(L97l2:Al S_g97l2)(a b c:List Int)(d:(List Int)→Option α):Nat→Int→(List Int)→Option α
 |0=>fun _ _=>none
 |m+1=>fun e h=>g97l0b L97l2 a b c d (g97l0 L97l2 a b c d m) e h
def g97l0M{α:Type}(m:Nat):S_g97l0 α:=
 fun a b c d e h=>g97l0 (g97l2M m) a b c d m e h
def g97l0D:LoopD:={n:=66,low:=[],sl:=[3,4,6,14,15],bl:=[1000000,1000001,1000002],tp:=[(.vl (.sv (.ptr 1000000 0))),(.vl (.sv (.ptr 1000001 0))),(.vl (.sv (.ptr 1000002 0))),(.vl (.agg [(.seq uU 6)])),tI],bp:=[b6,b6,(true,[(.seq uU 12)])],xs:=[(2,[4,6])]}
def g97l0K{α:Type}(L:S_g97l0 α)(ls:List Lf)(k:KEx α):Option α:=
 L ((lf ls 0).lst uU) ((lf ls 2).lst uU) ((lf ls 3).lst uU)
  (fun a=>k .normal (mkSt 66 [4,6] [(.vl (.sv (.ptr 1000000 0))),(.vl (.sv (.ptr 1000001 0)))] [1000000,1000001] [(true,[(.seq uU 6 ((lf ls 3).lst uU))]),(true,[(.seq uU 12 a)])]))
  (lf ls 1).int ((lf ls 4).lst uU)
abbrev S_g97l4(α:Type):Type:=Nat→Nat→Nat→Int→(List Int)→(List Int)→((List Int)→Option α)→(Option α)→Int→Option α
def g97l4b{α:Type}(a b c:Nat)(d:Int)(e h:List Int)(i:(List Int)→Option α)(j:Option α)(l:Int→Option α)(n:Int):Option α:=cond (decide (n<d)) (if 0≤n∧n<(b:Nat) then if(a+n.toNat)<12 then cond ((List.getD h (a+n.toNat) 0) !=(0:Int)) (i [0,0,0,0,0,0]) (l (IntKind.wrap .i64 (n+(1:Int)))) else none else none) (j)
def g97l4{α:Type}(a b c:Nat)(d:Int)(e h:List Int)(i:(List Int)→Option α)(j:Option α):Nat→Int→Option α
 |0=>fun _=>none
 |m+1=>fun l=>g97l4b a b c d e h i j (g97l4 a b c d e h i j m) l
def g97l4M{α:Type}(m:Nat):S_g97l4 α:=
 fun a b c d e h i j l=>g97l4 a b c d e h i j m l
def g97l4D:LoopD:={n:=66,low:=[],sl:=[4,6,53,54,55],bl:=[1000000,1000001],tp:=[(.vl (.sv (.ptr 1000000 0))),(.vl (.sv (.ptr 1000001 0))),(.vl (.sv (.slc 1000001 0 1))),tI,tI],bp:=[b6,(true,[(.seq uU 12)])],xs:=[(1,[4,5]),(6,[4,6])]}
def g97l4K{α:Type}(L:S_g97l4 α)(ls:List Lf)(k:KEx α):Option α:=
 L (lf ls 0).nat (lf ls 1).nat (lf ls 2).nat (lf ls 3).int ((lf ls 5).lst uU) ((lf ls 6).lst uU)
  (fun a=>k .ret (mkSt 66 [4,5] [(.vl (.sv (.ptr 1000000 0))),(.vl (.sv (.bool true)))] [1000000] [(true,[(.seq uU 6 a)])]))
  (k .normal (mkSt 66 [4,6] [(.vl (.sv (.ptr 1000000 0))),(.vl (.sv (.ptr 1000001 0)))] [1000000,1000001] [(true,[(.seq uU 6 ((lf ls 5).lst uU))]),(true,[(.seq uU 12 ((lf ls 6).lst uU))])]))
  (lf ls 4).int
def g97b{α:Type}(L97l2:Al S_g97l2)(L97l0:Al S_g97l0)(L97l4:Al S_g97l4)(a b:List Int)(c:(List Int)→Bool→Option α):Option α:=L97l0 a b [0,0,0,0,0,0] (fun d=>L97l4 6 6 6 (6:Int) [0,0,0,0,0,0] d (fun e=>c e true) (c (List.take 6 (List.drop 0 d)) false) (0:Int)) (0:Int) [0,0,0,0,0,0,0,0,0,0,0,0]
def g97{α:Type}(m:Nat):S_g97 α:=
 g97b (g97l2M m) (g97l0M m) (g97l4M m)
def g97tp:List TP:=[(.vl (.agg [(.seq uU 6)])),(.vl (.agg [(.seq uU 6)]))]
def g97bp:List BP:=[]
def g97K{α:Type}(G:S_g97 α)(ls:List Lf)(k:KRe α):Option α:=
 G ((lf ls 0).lst uU) ((lf ls 1).lst uU)
  (fun a b=>k (.tup [(.agg [(.seq uU 6 a)]),(.sv (.bool b))]) [] [])
def g97R{α:Type}(G:S_g97 α):=rowK g97tp g97bp (g97K G)
def g97hd(L97l2:Al S_g97l2)(L97l0:Al S_g97l0)(L97l4:Al S_g97l4):Hd where
 call:=fun f args Bs k=>none
 loop:=fun id st k=>cond (Nat.beq id 2) (loopH g97l2D (g97l2K L97l2) st k) (cond (Nat.beq id 0) (loopH g97l0D (g97l0K L97l0) st k) (cond (Nat.beq id 4) (loopH g97l4D (g97l4K L97l4) st k) (none)))
 ro:=fun f=>[]
def g97h(m:Nat):Hd:=g97hd (g97l2M m) (g97l0M m) (g97l4M m)
theorem g97l2Step(L97l2:Al S_g97l2)(L97l0:Al S_g97l0)(L97l4:Al S_g97l4){α:Type}(L:S_g97l2 α)(ls:List Lf)(k:KEx α):
  g97l2K (fun a b c d e h i j l n o=>g97l2b a b c d e h i j (L a b c d e h i j) l n o) ls k=ev tab (g97hd L97l2 L97l0 L97l4) (bodyAt Tryd.f97 2) (atHead g97l2D ls) (loopK g97l2D 2 (loopH g97l2D (g97l2K L)) k):=by kernel_rfl
theorem g97l0Step(L97l2:Al S_g97l2)(L97l0:Al S_g97l0)(L97l4:Al S_g97l4){α:Type}(L:S_g97l0 α)(ls:List Lf)(k:KEx α):
  g97l0K (fun a b c d e h=>g97l0b L97l2 a b c d (L a b c d) e h) ls k=ev tab (g97hd L97l2 L97l0 L97l4) (bodyAt Tryd.f97 0) (atHead g97l0D ls) (loopK g97l0D 0 (loopH g97l0D (g97l0K L)) k):=by kernel_rfl
theorem g97l4Step(L97l2:Al S_g97l2)(L97l0:Al S_g97l0)(L97l4:Al S_g97l4){α:Type}(L:S_g97l4 α)(ls:List Lf)(k:KEx α):
  g97l4K (fun a b c d e h i j l=>g97l4b a b c d e h i j (L a b c d e h i j) l) ls k=ev tab (g97hd L97l2 L97l0 L97l4) (bodyAt Tryd.f97 4) (atHead g97l4D ls) (loopK g97l4D 4 (loopH g97l4D (g97l4K L)) k):=by kernel_rfl
theorem g97Main(L97l2:Al S_g97l2)(L97l0:Al S_g97l0)(L97l4:Al S_g97l4){α:Type}(ls:List Lf)(k:KRe α):
  g97K (g97b L97l2 L97l0 L97l4) ls k=evFun tab (g97hd L97l2 L97l0 L97l4) Tryd.f97 (fT g97tp ls) (fB g97tp g97bp ls) k:=by kernel_rfl
theorem g97Calls(m:Nat):(g97h m).CallsOk Tryd.prog:=cok_nil
theorem g97l2Ok(m:Nat)(α:Type)(st:St)(k:KEx α)(r:α)(h:(g97h m).loop 2 st k=some r):
  LoopS Tryd.prog 2 (bodyAt Tryd.f97 2) st k r:=
 lpk (F:=fun n ls k=>g97l2K (fun a b c d e i j l o q s=>g97l2 a b c d e i j l n o q s) ls k) (g97Calls m) (lb0 (by kernel_rfl))
  (fun _ _=>rfl) (fun n ls k=>g97l2Step (g97l2M m) (g97l0M m) (g97l4M m) (fun a b c d e i j l=>g97l2 a b c d e i j l n) ls k) (n:=m) h
theorem g97l0Ok(m:Nat)(α:Type)(st:St)(k:KEx α)(r:α)(h:(g97h m).loop 0 st k=some r):
  LoopS Tryd.prog 0 (bodyAt Tryd.f97 0) st k r:=
 lpk (F:=fun n ls k=>g97l0K (fun a b c d e i=>g97l0 (g97l2M m) a b c d n e i) ls k) (g97Calls m) (loopsOk_of _ (fun p hp=>by
  rw[show loopsOf (bodyAt Tryd.f97 0)=[(2,bodyAt Tryd.f97 2)] by kernel_rfl] at hp
  simp only[List.mem_cons,List.not_mem_nil,or_false] at hp
  rcases hp with rfl
  exact g97l2Ok m))
  (fun _ _=>rfl) (fun n ls k=>g97l0Step (g97l2M m) (g97l0M m) (g97l4M m) (fun a b c d=>g97l0 (g97l2M m) a b c d n) ls k) (n:=m) h
theorem g97l4Ok(m:Nat)(α:Type)(st:St)(k:KEx α)(r:α)(h:(g97h m).loop 4 st k=some r):
  LoopS Tryd.prog 4 (bodyAt Tryd.f97 4) st k r:=
 lpk (F:=fun n ls k=>g97l4K (fun a b c d e i j l o=>g97l4 a b c d e i j l n o) ls k) (g97Calls m) (lb0 (by kernel_rfl))
  (fun _ _=>rfl) (fun n ls k=>g97l4Step (g97l2M m) (g97l0M m) (g97l4M m) (fun a b c d e i j l=>g97l4 a b c d e i j l n) ls k) (n:=m) h
theorem g97Fn(m:Nat):FnOk Tryd.prog 97 g97tp g97bp (fun{α}=>g97K (g97 m (α:=α))):=
 fn_ok (tab:=tab) (h:=g97h m) (fn:=Tryd.f97) (F:=fun{α}=>g97K (g97 m (α:=α))) tabOk (g97Calls m) mixed (by kernel_rfl) (by kernel_rfl) (fun c hc=>by
  rw[bodyOf_some hc]
  exact loopsOk_of _ (fun p hp=>by
  rw[show loopsOf (bodyOf Tryd.f97)=[(0,bodyAt Tryd.f97 0),(4,bodyAt Tryd.f97 4)] by kernel_rfl] at hp
  simp only[List.mem_cons,List.not_mem_nil,or_false] at hp
  rcases hp with rfl|rfl
  ·exact g97l0Ok m
  ·exact g97l4Ok m))
  (fun _=>g97Main (g97l2M m) (g97l0M m) (g97l4M m))
theorem g97Ok(m:Nat):RowOk Tryd.prog 97 (fun{α}=>g97R (g97 m (α:=α))):=row_of (g97Fn m)
abbrev S_g56(α:Type):Type:=Bool→(List Int)→Bool→(List Int)→Bool→(Bool→(List Int)→Bool→Option α)→Option α
def g56b{α:Type}(G97:Al S_g97)(G68:Al S_g68)(a:Bool)(b:List Int)(c:Bool)(d:List Int)(e:Bool)(h:Bool→(List Int)→Bool→Option α):Option α:=G97 b d (fun i j=>cond e (G68 (!(a==c)) i (fun l=>h l i true)) (G68 (!(a==c)) i (fun n=>h n i j)))
def g56{α:Type}(m:Nat):S_g56 α:=
 g56b (g97 m) (g68 m)
def g56tp:List TP:=[(.vl (.sv (.ptr 0 0))),vW,vW]
def g56bp:List BP:=[(true,[(.one .bool)])]
def g56K{α:Type}(G:S_g56 α)(ls:List Lf)(k:KRe α):Option α:=
 G (lf ls 0).bool ((lf ls 1).lst uU) (lf ls 2).bool ((lf ls 3).lst uU) (lf ls 4).bool
  (fun a b c=>k (.vl (.agg [(.one (.bool a)),(.seq uU 6 b)])) [[(.one (.bool c))]] [])
def g56R{α:Type}(G:S_g56 α):=rowK g56tp g56bp (g56K G)
def g56hd(G97:Al S_g97)(G68:Al S_g68):Hd where
 call:=fun f args Bs k=>cond (Nat.beq f 97) (g97R G97 args Bs k) (cond (Nat.beq f 68) (g68R G68 args Bs k) (none))
 loop:=fun id st k=>none
 ro:=fun f=>[]
def g56h(m:Nat):Hd:=g56hd (g97 m) (g68 m)
theorem g56Main(G97:Al S_g97)(G68:Al S_g68){α:Type}(ls:List Lf)(k:KRe α):
  g56K (g56b G97 G68) ls k=evFun tab (g56hd G97 G68) Tryd.f56 (fT g56tp ls) (fB g56tp g56bp ls) k:=by kernel_rfl
theorem g56Calls(m:Nat):(g56h m).CallsOk Tryd.prog:=(cok_cons (g97Ok m) (cok_cons (g68Ok m) cok_nil))
theorem g56Ok(m:Nat):RowOk Tryd.prog 56 (fun{α}=>g56R (g56 m (α:=α))):=
 rwk (g56Calls m) (lo0 (by kernel_rfl))
  (fun _=>g56Main (g97 m) (g68 m))
abbrev S_g94(α:Type):Type:=(List Int)→(List Int)→((List Int)→Bool→Option α)→Option α
abbrev S_g94l0(α:Type):Type:=(List Int)→(List Int)→(Int→(List Int)→Option α)→Int→Int→(List Int)→Option α
def g94l0b{α:Type}(a b:List Int)(c:Int→(List Int)→Option α)(d:Int→Int→(List Int)→Option α)(e h:Int)(i:List Int):Option α:=cond (decide (h<(6:Int))) (if 0≤h∧h<(6:Nat) then if h.toNat<6 then if 0≤h∧h<(6:Nat) then if h.toNat<6 then let j:Int:=IntKind.wrap .u64 (e+(IntKind.wrap .u64 ((IntKind.wrap .u64 (List.getD i h.toNat 0))+(IntKind.wrap .u64 (List.getD a h.toNat 0)))));if 0≤h∧h<(6:Nat) then if h.toNat<6 then d (Int.fdiv j (2^32)) (IntKind.wrap .i64 (h+(1:Int))) (List.set i (h.toNat) (IntKind.wrap .u32 j)) else none else none else none else none else none else none) (c e i)
def g94l0{α:Type}(a b:List Int)(c:Int→(List Int)→Option α):Nat→Int→Int→(List Int)→Option α
 |0=>fun _ _ _=>none
 |m+1=>fun d e h=>g94l0b a b c (g94l0 a b c m) d e h
def g94l0M{α:Type}(m:Nat):S_g94l0 α:=
 fun a b c d e h=>g94l0 a b c m d e h
def g94l0D:LoopD:={n:=32,low:=[],sl:=[2,3,4,6,8],bl:=[1000000,1000001,1000002],tp:=[(.vl (.sv (.ptr 1000000 0))),(.vl (.sv (.ptr 1000001 0))),(.vl (.sv (.ptr 1000002 0))),(.vl (.sv (.int .u64))),tI],bp:=[b6,b6,b6],xs:=[(2,[2,4,6])]}
def g94l0K{α:Type}(L:S_g94l0 α)(ls:List Lf)(k:KEx α):Option α:=
 L ((lf ls 3).lst uU) ((lf ls 4).lst uU)
  (fun a b=>k .normal (mkSt 32 [2,4,6] [(.vl (.sv (.ptr 1000000 0))),(.vl (.sv (.ptr 1000001 0))),(.vl (.sv (.int .u64 a)))] [1000000,1000001] [(true,[(.seq uU 6 b)]),(true,[(.seq uU 6 ((lf ls 4).lst uU))])]))
  (lf ls 0).int (lf ls 1).int ((lf ls 2).lst uU)
def g94b{α:Type}(L94l0:Al S_g94l0)(a b:List Int)(c:(List Int)→Bool→Option α):Option α:=L94l0 b [0,0,0,0,0,0] (fun d e=>c e (d !=(0:Int))) (0:Int) (0:Int) a
def g94{α:Type}(m:Nat):S_g94 α:=
 g94b (g94l0M m)
def g94tp:List TP:=[(.vl (.agg [(.seq uU 6)])),(.vl (.agg [(.seq uU 6)]))]
def g94bp:List BP:=[]
def g94K{α:Type}(G:S_g94 α)(ls:List Lf)(k:KRe α):Option α:=
 G ((lf ls 0).lst uU) ((lf ls 1).lst uU)
  (fun a b=>k (.tup [(.agg [(.seq uU 6 a)]),(.sv (.bool b))]) [] [])
def g94R{α:Type}(G:S_g94 α):=rowK g94tp g94bp (g94K G)
def g94hd(L94l0:Al S_g94l0):Hd where
 call:=fun f args Bs k=>none
 loop:=fun id st k=>cond (Nat.beq id 0) (loopH g94l0D (g94l0K L94l0) st k) (none)
 ro:=fun f=>[]
def g94h(m:Nat):Hd:=g94hd (g94l0M m)
theorem g94l0Step(L94l0:Al S_g94l0){α:Type}(L:S_g94l0 α)(ls:List Lf)(k:KEx α):
  g94l0K (fun a b c d e h=>g94l0b a b c (L a b c) d e h) ls k=ev tab (g94hd L94l0) (bodyAt Tryd.f94 0) (atHead g94l0D ls) (loopK g94l0D 0 (loopH g94l0D (g94l0K L)) k):=by kernel_rfl
theorem g94Main(L94l0:Al S_g94l0){α:Type}(ls:List Lf)(k:KRe α):
  g94K (g94b L94l0) ls k=evFun tab (g94hd L94l0) Tryd.f94 (fT g94tp ls) (fB g94tp g94bp ls) k:=by kernel_rfl
theorem g94Calls(m:Nat):(g94h m).CallsOk Tryd.prog:=cok_nil
theorem g94l0Ok(m:Nat)(α:Type)(st:St)(k:KEx α)(r:α)(h:(g94h m).loop 0 st k=some r):
  LoopS Tryd.prog 0 (bodyAt Tryd.f94 0) st k r:=
 lpk (F:=fun n ls k=>g94l0K (fun a b c d e i=>g94l0 a b c n d e i) ls k) (g94Calls m) (lb0 (by kernel_rfl))
  (fun _ _=>rfl) (fun n ls k=>g94l0Step (g94l0M m) (fun a b c=>g94l0 a b c n) ls k) (n:=m) h
theorem g94Ok(m:Nat):RowOk Tryd.prog 94 (fun{α}=>g94R (g94 m (α:=α))):=
 rwk (g94Calls m) (lo1 (by kernel_rfl) (g94l0Ok m))
  (fun _=>g94Main (g94l0M m))
abbrev S_g95(α:Type):Type:=(List Int)→(List Int)→(Int→Option α)→Option α
abbrev S_g95l0(α:Type):Type:=(List Int)→(List Int)→(Int→Option α)→(Option α)→Int→Option α
def g95l0b{α:Type}(a b:List Int)(c:Int→Option α)(d:Option α)(e:Int→Option α)(h:Int):Option α:=cond (decide (h≥(0:Int))) (if 0≤h∧h<(6:Nat) then if h.toNat<6 then if 0≤h∧h<(6:Nat) then if h.toNat<6 then cond ((List.getD a h.toNat 0) !=(List.getD b h.toNat 0)) (if 0≤h∧h<(6:Nat) then if h.toNat<6 then if 0≤h∧h<(6:Nat) then if h.toNat<6 then cond (decide ((List.getD a h.toNat 0)<(List.getD b h.toNat 0))) (c (-1:Int)) (c (1:Int)) else none else none else none else none) (e (IntKind.wrap .i64 (h-(1:Int)))) else none else none else none else none) (d)
def g95l0{α:Type}(a b:List Int)(c:Int→Option α)(d:Option α):Nat→Int→Option α
 |0=>fun _=>none
 |m+1=>fun e=>g95l0b a b c d (g95l0 a b c d m) e
def g95l0M{α:Type}(m:Nat):S_g95l0 α:=
 fun a b c d e=>g95l0 a b c d m e
def g95l0D:LoopD:={n:=24,low:=[],sl:=[2,3,5],bl:=[1000000,1000001],tp:=[(.vl (.sv (.ptr 1000000 0))),(.vl (.sv (.ptr 1000001 0))),tI],bp:=[b6,b6],xs:=[(1,[4]),(2,[])]}
def g95l0K{α:Type}(L:S_g95l0 α)(ls:List Lf)(k:KEx α):Option α:=
 L ((lf ls 1).lst uU) ((lf ls 2).lst uU)
  (fun a=>k .ret (mkSt 24 [4] [(.vl (.sv (.int .i64 a)))] [] []))
  (k .normal (mkSt 24 [] [] [] []))
  (lf ls 0).int
def g95b{α:Type}(L95l0:Al S_g95l0)(a b:List Int)(c:Int→Option α):Option α:=L95l0 a b (fun d=>c d) (c (0:Int)) (5:Int)
def g95{α:Type}(m:Nat):S_g95 α:=
 g95b (g95l0M m)
def g95tp:List TP:=[(.vl (.agg [(.seq uU 6)])),(.vl (.agg [(.seq uU 6)]))]
def g95bp:List BP:=[]
def g95K{α:Type}(G:S_g95 α)(ls:List Lf)(k:KRe α):Option α:=
 G ((lf ls 0).lst uU) ((lf ls 1).lst uU)
  (fun a=>k (.vl (.sv (.int .i64 a))) [] [])
def g95R{α:Type}(G:S_g95 α):=rowK g95tp g95bp (g95K G)
def g95hd(L95l0:Al S_g95l0):Hd where
 call:=fun f args Bs k=>none
 loop:=fun id st k=>cond (Nat.beq id 0) (loopH g95l0D (g95l0K L95l0) st k) (none)
 ro:=fun f=>[]
def g95h(m:Nat):Hd:=g95hd (g95l0M m)
theorem g95l0Step(L95l0:Al S_g95l0){α:Type}(L:S_g95l0 α)(ls:List Lf)(k:KEx α):
  g95l0K (fun a b c d e=>g95l0b a b c d (L a b c d) e) ls k=ev tab (g95hd L95l0) (bodyAt Tryd.f95 0) (atHead g95l0D ls) (loopK g95l0D 0 (loopH g95l0D (g95l0K L)) k):=by kernel_rfl
theorem g95Main(L95l0:Al S_g95l0){α:Type}(ls:List Lf)(k:KRe α):
  g95K (g95b L95l0) ls k=evFun tab (g95hd L95l0) Tryd.f95 (fT g95tp ls) (fB g95tp g95bp ls) k:=by kernel_rfl
theorem g95Calls(m:Nat):(g95h m).CallsOk Tryd.prog:=cok_nil
theorem g95l0Ok(m:Nat)(α:Type)(st:St)(k:KEx α)(r:α)(h:(g95h m).loop 0 st k=some r):
  LoopS Tryd.prog 0 (bodyAt Tryd.f95 0) st k r:=
 lpk (F:=fun n ls k=>g95l0K (fun a b c d e=>g95l0 a b c d n e) ls k) (g95Calls m) (lb0 (by kernel_rfl))
  (fun _ _=>rfl) (fun n ls k=>g95l0Step (g95l0M m) (fun a b c d=>g95l0 a b c d n) ls k) (n:=m) h
theorem g95Ok(m:Nat):RowOk Tryd.prog 95 (fun{α}=>g95R (g95 m (α:=α))):=
 rwk (g95Calls m) (lo1 (by kernel_rfl) (g95l0Ok m))
  (fun _=>g95Main (g95l0M m))
abbrev S_g96(α:Type):Type:=(List Int)→(List Int)→((List Int)→Option α)→Option α
abbrev S_g96l0(α:Type):Type:=(List Int)→(List Int)→((List Int)→Option α)→Int→Int→(List Int)→Option α
def g96l0b{α:Type}(a b:List Int)(c:(List Int)→Option α)(d:Int→Int→(List Int)→Option α)(e h:Int)(i:List Int):Option α:=cond (decide (h<(6:Int))) (if 0≤h∧h<(6:Nat) then if h.toNat<6 then if 0≤h∧h<(6:Nat) then if h.toNat<6 then let j:Int:=IntKind.wrap .u64 ((IntKind.wrap .u64 ((IntKind.wrap .u64 (List.getD i h.toNat 0))-(IntKind.wrap .u64 (List.getD a h.toNat 0))))-e);if 0≤h∧h<(6:Nat) then if h.toNat<6 then d (Int.fdiv j (2^63)) (IntKind.wrap .i64 (h+(1:Int))) (List.set i (h.toNat) (IntKind.wrap .u32 j)) else none else none else none else none else none else none) (c i)
def g96l0{α:Type}(a b:List Int)(c:(List Int)→Option α):Nat→Int→Int→(List Int)→Option α
 |0=>fun _ _ _=>none
 |m+1=>fun d e h=>g96l0b a b c (g96l0 a b c m) d e h
def g96l0M{α:Type}(m:Nat):S_g96l0 α:=
 fun a b c d e h=>g96l0 a b c m d e h
def g96l0D:LoopD:={n:=30,low:=[],sl:=[2,3,4,5,8],bl:=[1000000,1000001,1000002],tp:=[(.vl (.sv (.ptr 1000000 0))),(.vl (.sv (.ptr 1000001 0))),(.vl (.sv (.ptr 1000002 0))),(.vl (.sv (.int .u64))),tI],bp:=[b6,b6,b6],xs:=[(2,[2,4])]}
def g96l0K{α:Type}(L:S_g96l0 α)(ls:List Lf)(k:KEx α):Option α:=
 L ((lf ls 3).lst uU) ((lf ls 4).lst uU)
  (fun a=>k .normal (mkSt 30 [2,4] [(.vl (.sv (.ptr 1000000 0))),(.vl (.sv (.ptr 1000001 0)))] [1000000,1000001] [(true,[(.seq uU 6 a)]),(true,[(.seq uU 6 ((lf ls 4).lst uU))])]))
  (lf ls 0).int (lf ls 1).int ((lf ls 2).lst uU)
def g96b{α:Type}(L96l0:Al S_g96l0)(a b:List Int)(c:(List Int)→Option α):Option α:=L96l0 b [0,0,0,0,0,0] (fun d=>c d) (0:Int) (0:Int) a
def g96{α:Type}(m:Nat):S_g96 α:=
 g96b (g96l0M m)
def g96tp:List TP:=[(.vl (.agg [(.seq uU 6)])),(.vl (.agg [(.seq uU 6)]))]
def g96bp:List BP:=[]
def g96K{α:Type}(G:S_g96 α)(ls:List Lf)(k:KRe α):Option α:=
 G ((lf ls 0).lst uU) ((lf ls 1).lst uU)
  (fun a=>k (.vl (.agg [(.seq uU 6 a)])) [] [])
def g96R{α:Type}(G:S_g96 α):=rowK g96tp g96bp (g96K G)
def g96hd(L96l0:Al S_g96l0):Hd where
 call:=fun f args Bs k=>none
 loop:=fun id st k=>cond (Nat.beq id 0) (loopH g96l0D (g96l0K L96l0) st k) (none)
 ro:=fun f=>[]
def g96h(m:Nat):Hd:=g96hd (g96l0M m)
theorem g96l0Step(L96l0:Al S_g96l0){α:Type}(L:S_g96l0 α)(ls:List Lf)(k:KEx α):
  g96l0K (fun a b c d e h=>g96l0b a b c (L a b c) d e h) ls k=ev tab (g96hd L96l0) (bodyAt Tryd.f96 0) (atHead g96l0D ls) (loopK g96l0D 0 (loopH g96l0D (g96l0K L)) k):=by kernel_rfl
theorem g96Main(L96l0:Al S_g96l0){α:Type}(ls:List Lf)(k:KRe α):
  g96K (g96b L96l0) ls k=evFun tab (g96hd L96l0) Tryd.f96 (fT g96tp ls) (fB g96tp g96bp ls) k:=by kernel_rfl
theorem g96Calls(m:Nat):(g96h m).CallsOk Tryd.prog:=cok_nil
theorem g96l0Ok(m:Nat)(α:Type)(st:St)(k:KEx α)(r:α)(h:(g96h m).loop 0 st k=some r):
  LoopS Tryd.prog 0 (bodyAt Tryd.f96 0) st k r:=
 lpk (F:=fun n ls k=>g96l0K (fun a b c d e i=>g96l0 a b c n d e i) ls k) (g96Calls m) (lb0 (by kernel_rfl))
  (fun _ _=>rfl) (fun n ls k=>g96l0Step (g96l0M m) (fun a b c=>g96l0 a b c n) ls k) (n:=m) h
theorem g96Ok(m:Nat):RowOk Tryd.prog 96 (fun{α}=>g96R (g96 m (α:=α))):=
 rwk (g96Calls m) (lo1 (by kernel_rfl) (g96l0Ok m))
  (fun _=>g96Main (g96l0M m))
abbrev S_g55(α:Type):Type:=Bool→(List Int)→Bool→(List Int)→Bool→(Bool→(List Int)→Bool→Option α)→Option α
def g55b{α:Type}(G94:Al S_g94)(G68:Al S_g68)(G95:Al S_g95)(G96:Al S_g96)(a:Bool)(b:List Int)(c:Bool)(d:List Int)(e:Bool)(h:Bool→(List Int)→Bool→Option α):Option α:=cond (a==c) (G94 b d (fun i j=>cond e (G68 a i (fun l=>h l i true)) (G68 a i (fun n=>h n i j)))) (G95 b d (fun o=>cond (decide (o<(0:Int))) (G96 d b (fun p=>G68 c p (fun q=>h q p e))) (G96 b d (fun r=>G68 a r (fun s=>h s r e)))))
def g55{α:Type}(m:Nat):S_g55 α:=
 g55b (g94 m) (g68 m) (g95 m) (g96 m)
def g55tp:List TP:=[(.vl (.sv (.ptr 0 0))),vW,vW]
def g55bp:List BP:=[(true,[(.one .bool)])]
def g55K{α:Type}(G:S_g55 α)(ls:List Lf)(k:KRe α):Option α:=
 G (lf ls 0).bool ((lf ls 1).lst uU) (lf ls 2).bool ((lf ls 3).lst uU) (lf ls 4).bool
  (fun a b c=>k (.vl (.agg [(.one (.bool a)),(.seq uU 6 b)])) [[(.one (.bool c))]] [])
def g55R{α:Type}(G:S_g55 α):=rowK g55tp g55bp (g55K G)
def g55hd(G94:Al S_g94)(G68:Al S_g68)(G95:Al S_g95)(G96:Al S_g96):Hd where
 call:=fun f args Bs k=>cond (Nat.beq f 94) (g94R G94 args Bs k) (cond (Nat.beq f 68) (g68R G68 args Bs k) (cond (Nat.beq f 95) (g95R G95 args Bs k) (cond (Nat.beq f 96) (g96R G96 args Bs k) (none))))
 loop:=fun id st k=>none
 ro:=fun f=>[]
def g55h(m:Nat):Hd:=g55hd (g94 m) (g68 m) (g95 m) (g96 m)
theorem g55Main(G94:Al S_g94)(G68:Al S_g68)(G95:Al S_g95)(G96:Al S_g96){α:Type}(ls:List Lf)(k:KRe α):
  g55K (g55b G94 G68 G95 G96) ls k=evFun tab (g55hd G94 G68 G95 G96) Tryd.f55 (fT g55tp ls) (fB g55tp g55bp ls) k:=by kernel_rfl
theorem g55Calls(m:Nat):(g55h m).CallsOk Tryd.prog:=(cok_cons (g94Ok m) (cok_cons (g68Ok m) (cok_cons (g95Ok m) (cok_cons (g96Ok m) cok_nil))))
theorem g55Ok(m:Nat):RowOk Tryd.prog 55 (fun{α}=>g55R (g55 m (α:=α))):=
 rwk (g55Calls m) (lo0 (by kernel_rfl))
  (fun _=>g55Main (g94 m) (g68 m) (g95 m) (g96 m))
abbrev S_g57(α:Type):Type:=Bool→(List Int)→Bool→(Bool→(List Int)→Int→Option α)→Option α
def g57b{α:Type}(a:Bool)(b:List Int)(c:Bool)(d:Bool→(List Int)→Int→Option α):Option α:=cond c (d false [0,0,0,0,0,0] (3:Int)) (d a b (0:Int))
def g57{α:Type}(m:Nat):S_g57 α:=
 g57b
def g57tp:List TP:=[(.vl (.sv (.ptr 0 0))),vW]
def g57bp:List BP:=[(false,[(.one .bool)])]
def g57K{α:Type}(G:S_g57 α)(ls:List Lf)(k:KRe α):Option α:=
 G (lf ls 0).bool ((lf ls 1).lst uU) (lf ls 2).bool
  (fun a b c=>k (.tup [(.agg [(.one (.bool a)),(.seq uU 6 b)]),(.sv (.int .i64 c))]) [[(.one (.bool (lf ls 2).bool))]] [])
def g57R{α:Type}(G:S_g57 α):=rowK g57tp g57bp (g57K G)
def g57hd:Hd where
 call:=fun f args Bs k=>none
 loop:=fun id st k=>none
 ro:=fun f=>[]
def g57h(m:Nat):Hd:=g57hd
theorem g57Main{α:Type}(ls:List Lf)(k:KRe α):
  g57K (g57b) ls k=evFun tab (g57hd) Tryd.f57 (fT g57tp ls) (fB g57tp g57bp ls) k:=by kernel_rfl
theorem g57Calls(m:Nat):(g57h m).CallsOk Tryd.prog:=cok_nil
theorem g57Ok(m:Nat):RowOk Tryd.prog 57 (fun{α}=>g57R (g57 m (α:=α))):=
 rwk (g57Calls m) (lo0 (by kernel_rfl))
  (fun _=>g57Main)
abbrev S_g17(α:Type):Type:=ByteArray→(Bool→(List Int)→Int→Option α)→Option α
abbrev S_g17l0(α:Type):Type:=ByteArray→ByteArray→Bool→(List Int)→(Bool→Bool→(List Int)→Option α)→Int→Bool→Bool→(List Int)→Option α
def g17l0b{α:Type}(G32:Al S_g32)(G56:Al S_g56)(G55:Al S_g55)(a:ByteArray)(b:ByteArray)(c:Bool)(d:List Int)(e:Bool→Bool→(List Int)→Option α)(h:Int→Bool→Bool→(List Int)→Option α)(i:Int)(j l:Bool)(n:List Int):Option α:=cond (decide (i<((b.size:Nat):Int))) (cond (!j) (G32 (10:Int) (fun o p=>G56 l n o p j (fun q r s=>if 0≤i∧i<b.size then G32 (IntKind.wrap .i64 (IntKind.wrap .u8 ((byteAt b i.toNat)-(48:Int)))) (fun t u=>G55 q r t u s (fun v w x=>h (IntKind.wrap .i64 (i+(1:Int))) x v w)) else none))) (e j l n)) (e j l n)
def g17l0{α:Type}(G32:Al S_g32)(G56:Al S_g56)(G55:Al S_g55)(a:ByteArray)(b:ByteArray)(c:Bool)(d:List Int)(e:Bool→Bool→(List Int)→Option α):Nat→Int→Bool→Bool→(List Int)→Option α
 |0=>fun _ _ _ _=>none
 |m+1=>fun h i j l=>g17l0b G32 G56 G55 a b c d e (g17l0 G32 G56 G55 a b c d e m) h i j l
def g17l0M{α:Type}(m:Nat):S_g17l0 α:=
 fun a b c d e h i j l=>g17l0 (g32 m) (g56 m) (g55 m) a b c d e m h i j l
def g17l0D:LoopD:={n:=45,low:=[],sl:=[0,2,4,5,6,7],bl:=[1000000,1000001,1000002],tp:=[(.vl (.sv .str)),(.vl (.sv (.ptr 1000000 0))),(.vl (.sv .str)),(.vl (.sv (.ptr 1000001 0))),(.vl (.sv (.ptr 1000002 0))),tI],bp:=[(true,[(.one .bool),(.seq uU 6)]),(true,[(.one .bool)]),(true,[(.one .bool),(.seq uU 6)])],xs:=[(2,[0,2,5,6])]}
def g17l0K{α:Type}(L:S_g17l0 α)(ls:List Lf)(k:KEx α):Option α:=
 L (lf ls 0).str (lf ls 1).str (lf ls 3).bool ((lf ls 4).lst uU)
  (fun a b c=>k .normal (mkSt 45 [0,2,5,6] [(.vl (.sv (.str (lf ls 0).str))),(.vl (.sv (.ptr 1000000 0))),(.vl (.sv (.ptr 1000001 0))),(.vl (.sv (.ptr 1000002 0)))] [1000000,1000001,1000002] [(true,[(.one (.bool (lf ls 3).bool)),(.seq uU 6 ((lf ls 4).lst uU))]),(true,[(.one (.bool a))]),(true,[(.one (.bool b)),(.seq uU 6 c)])]))
  (lf ls 2).int (lf ls 5).bool (lf ls 6).bool ((lf ls 7).lst uU)
def g17b{α:Type}(G53:Al S_g53)(G54:Al S_g54)(G32:Al S_g32)(G56:Al S_g56)(G55:Al S_g55)(G57:Al S_g57)(L17l0:Al S_g17l0)(a:ByteArray)(b:Bool→(List Int)→Int→Option α):Option α:=G53 a (fun c=>cond (!c) (b false [0,0,0,0,0,0] (5:Int)) (G54 a (⟨#[45]⟩:ByteArray) (fun d=>L17l0 a d false [0,0,0,0,0,0] (fun e h i=>if 0≤(0:Int)∧(0:Int)<a.size then G57 ((byteAt a (0:Int).toNat)==(45:Int)) i e (fun j l n=>b j l n) else none) (0:Int) false false [0,0,0,0,0,0])))
def g17{α:Type}(m:Nat):S_g17 α:=
 g17b (g53 m) (g54 m) (g32 m) (g56 m) (g55 m) (g57 m) (g17l0M m)
def g17tp:List TP:=[(.vl (.sv .str))]
def g17bp:List BP:=[]
def g17K{α:Type}(G:S_g17 α)(ls:List Lf)(k:KRe α):Option α:=
 G (lf ls 0).str
  (fun a b c=>k (.tup [(.agg [(.one (.bool a)),(.seq uU 6 b)]),(.sv (.int .i64 c))]) [] [])
def g17R{α:Type}(G:S_g17 α):=rowK g17tp g17bp (g17K G)
def g17hd(G53:Al S_g53)(G54:Al S_g54)(G32:Al S_g32)(G56:Al S_g56)(G55:Al S_g55)(G57:Al S_g57)(L17l0:Al S_g17l0):Hd where
 call:=fun f args Bs k=>cond (Nat.beq f 53) (g53R G53 args Bs k) (cond (Nat.beq f 54) (g54R G54 args Bs k) (cond (Nat.beq f 32) (g32R G32 args Bs k) (cond (Nat.beq f 56) (g56R G56 args Bs k) (cond (Nat.beq f 55) (g55R G55 args Bs k) (cond (Nat.beq f 57) (g57R G57 args Bs k) (none))))))
 loop:=fun id st k=>cond (Nat.beq id 0) (loopH g17l0D (g17l0K L17l0) st k) (none)
 ro:=fun f=>cond (Nat.beq f 57) [0] ([])
def g17h(m:Nat):Hd:=g17hd (g53 m) (g54 m) (g32 m) (g56 m) (g55 m) (g57 m) (g17l0M m)
theorem g17l0Step(G53:Al S_g53)(G54:Al S_g54)(G32:Al S_g32)(G56:Al S_g56)(G55:Al S_g55)(G57:Al S_g57)(L17l0:Al S_g17l0){α:Type}(L:S_g17l0 α)(ls:List Lf)(k:KEx α):
  g17l0K (fun a b c d e h i j l=>g17l0b G32 G56 G55 a b c d e (L a b c d e) h i j l) ls k=ev tab (g17hd G53 G54 G32 G56 G55 G57 L17l0) (bodyAt Tryd.f17 0) (atHead g17l0D ls) (loopK g17l0D 0 (loopH g17l0D (g17l0K L)) k):=by kernel_rfl
theorem g17Main(G53:Al S_g53)(G54:Al S_g54)(G32:Al S_g32)(G56:Al S_g56)(G55:Al S_g55)(G57:Al S_g57)(L17l0:Al S_g17l0){α:Type}(ls:List Lf)(k:KRe α):
  g17K (g17b G53 G54 G32 G56 G55 G57 L17l0) ls k=evFun tab (g17hd G53 G54 G32 G56 G55 G57 L17l0) Tryd.f17 (fT g17tp ls) (fB g17tp g17bp ls) k:=by kernel_rfl
theorem g17Calls(m:Nat):(g17h m).CallsOk Tryd.prog:=(cok_cons (g53Ok m) (cok_cons (g54Ok m) (cok_cons (g32Ok m) (cok_cons (g56Ok m) (cok_cons (g55Ok m) (cok_cons (g57Ok m) cok_nil))))))
theorem g17l0Ok(m:Nat)(α:Type)(st:St)(k:KEx α)(r:α)(h:(g17h m).loop 0 st k=some r):
  LoopS Tryd.prog 0 (bodyAt Tryd.f17 0) st k r:=
 lpk (F:=fun n ls k=>g17l0K (fun a b c d e i j l o=>g17l0 (g32 m) (g56 m) (g55 m) a b c d e n i j l o) ls k) (g17Calls m) (lb0 (by kernel_rfl))
  (fun _ _=>rfl) (fun n ls k=>g17l0Step (g53 m) (g54 m) (g32 m) (g56 m) (g55 m) (g57 m) (g17l0M m) (fun a b c d e=>g17l0 (g32 m) (g56 m) (g55 m) a b c d e n) ls k) (n:=m) h
theorem g17Ok(m:Nat):RowOk Tryd.prog 17 (fun{α}=>g17R (g17 m (α:=α))):=
 rwk (g17Calls m) (lo1 (by kernel_rfl) (g17l0Ok m))
  (fun _=>g17Main (g53 m) (g54 m) (g32 m) (g56 m) (g55 m) (g57 m) (g17l0M m))
abbrev S_g18(α:Type):Type:=Bool→(List Int)→Bool→(List Int)→(Bool→(List Int)→Int→Option α)→Option α
def g18b{α:Type}(G20:Al S_g20)(G55:Al S_g55)(G57:Al S_g57)(a:Bool)(b:List Int)(c:Bool)(d:List Int)(e:Bool→(List Int)→Int→Option α):Option α:=G20 a b (fun h=>cond (!h) (e false [0,0,0,0,0,0] (1:Int)) (G20 c d (fun i=>cond (!i) (e false [0,0,0,0,0,0] (1:Int)) (G55 a b c d false (fun j l n=>G57 j l n (fun o p q=>e o p q))))))
def g18{α:Type}(m:Nat):S_g18 α:=
 g18b (g20 m) (g55 m) (g57 m)
def g18tp:List TP:=[vW,vW]
def g18bp:List BP:=[]
def g18K{α:Type}(G:S_g18 α)(ls:List Lf)(k:KRe α):Option α:=
 G (lf ls 0).bool ((lf ls 1).lst uU) (lf ls 2).bool ((lf ls 3).lst uU)
  (fun a b c=>k (.tup [(.agg [(.one (.bool a)),(.seq uU 6 b)]),(.sv (.int .i64 c))]) [] [])
def g18R{α:Type}(G:S_g18 α):=rowK g18tp g18bp (g18K G)
def g18hd(G20:Al S_g20)(G55:Al S_g55)(G57:Al S_g57):Hd where
 call:=fun f args Bs k=>cond (Nat.beq f 20) (g20R G20 args Bs k) (cond (Nat.beq f 55) (g55R G55 args Bs k) (cond (Nat.beq f 57) (g57R G57 args Bs k) (none)))
 loop:=fun id st k=>none
 ro:=fun f=>cond (Nat.beq f 57) [0] ([])
def g18h(m:Nat):Hd:=g18hd (g20 m) (g55 m) (g57 m)
theorem g18Main(G20:Al S_g20)(G55:Al S_g55)(G57:Al S_g57){α:Type}(ls:List Lf)(k:KRe α):
  g18K (g18b G20 G55 G57) ls k=evFun tab (g18hd G20 G55 G57) Tryd.f18 (fT g18tp ls) (fB g18tp g18bp ls) k:=by kernel_rfl
theorem g18Calls(m:Nat):(g18h m).CallsOk Tryd.prog:=(cok_cons (g20Ok m) (cok_cons (g55Ok m) (cok_cons (g57Ok m) cok_nil)))
theorem g18Ok(m:Nat):RowOk Tryd.prog 18 (fun{α}=>g18R (g18 m (α:=α))):=
 rwk (g18Calls m) (lo0 (by kernel_rfl))
  (fun _=>g18Main (g20 m) (g55 m) (g57 m))
abbrev S_g98(α:Type):Type:=(List Int)→(List Int)→((List Int)→Bool→Option α)→Option α
abbrev S_g98l0(α:Type):Type:=(List Int)→(List Int)→(List Int)→(Int→(List Int)→Option α)→Int→Int→(List Int)→Option α
def g98l0b{α:Type}(a b c:List Int)(d:Int→(List Int)→Option α)(e:Int→Int→(List Int)→Option α)(h i:Int)(j:List Int):Option α:=cond (decide (i<(6:Int))) (if 0≤i∧i<(6:Nat) then if i.toNat<6 then if 0≤i∧i<(6:Nat) then if i.toNat<6 then let l:Int:=IntKind.wrap .u64 ((IntKind.wrap .u64 ((IntKind.wrap .u64 (List.getD a i.toNat 0))+(IntKind.wrap .u64 (List.getD b i.toNat 0))))+h);if 0≤i∧i<(6:Nat) then if i.toNat<6 then e (Int.fdiv l (2^32)) (IntKind.wrap .i64 (i+(1:Int))) (List.set j (i.toNat) (IntKind.wrap .u32 l)) else none else none else none else none else none else none) (d h j)
def g98l0{α:Type}(a b c:List Int)(d:Int→(List Int)→Option α):Nat→Int→Int→(List Int)→Option α
 |0=>fun _ _ _=>none
 |m+1=>fun e h i=>g98l0b a b c d (g98l0 a b c d m) e h i
def g98l0M{α:Type}(m:Nat):S_g98l0 α:=
 fun a b c d e h i=>g98l0 a b c d m e h i
def g98l0D:LoopD:={n:=39,low:=[0,1],sl:=[0,1,4,6,7,8],bl:=[0,1,1000002,1000003],tp:=[(.vl (.sv (.ptr 0 0))),(.vl (.sv (.ptr 1 0))),(.vl (.sv (.ptr 1000002 0))),(.vl (.sv (.ptr 1000003 0))),(.vl (.sv (.int .u64))),tI],bp:=[(false,[(.seq uU 6)]),(false,[(.seq uU 6)]),b6,b6],xs:=[(2,[4,6,7])]}
def g98l0K{α:Type}(L:S_g98l0 α)(ls:List Lf)(k:KEx α):Option α:=
 L ((lf ls 2).lst uU) ((lf ls 3).lst uU) ((lf ls 4).lst uU)
  (fun a b=>k .normal (mkSt 39 [4,6,7] [(.vl (.sv (.ptr 1000002 0))),(.vl (.sv (.ptr 1000003 0))),(.vl (.sv (.int .u64 a)))] [0,1,1000002,1000003] [(false,[(.seq uU 6 ((lf ls 2).lst uU))]),(false,[(.seq uU 6 ((lf ls 3).lst uU))]),(true,[(.seq uU 6 ((lf ls 4).lst uU))]),(true,[(.seq uU 6 b)])]))
  (lf ls 0).int (lf ls 1).int ((lf ls 5).lst uU)
def g98b{α:Type}(L98l0:Al S_g98l0)(a b:List Int)(c:(List Int)→Bool→Option α):Option α:=L98l0 a b [0,0,0,0,0,0] (fun d e=>c e (d==(0:Int))) (0:Int) (0:Int) [0,0,0,0,0,0]
def g98{α:Type}(m:Nat):S_g98 α:=
 g98b (g98l0M m)
def g98tp:List TP:=[(.vl (.sv (.ptr 0 0))),(.vl (.sv (.ptr 1 0)))]
def g98bp:List BP:=[(false,[(.seq uU 6)]),(false,[(.seq uU 6)])]
def g98K{α:Type}(G:S_g98 α)(ls:List Lf)(k:KRe α):Option α:=
 G ((lf ls 0).lst uU) ((lf ls 1).lst uU)
  (fun a b=>k (.tup [(.agg [(.seq uU 6 a)]),(.sv (.bool b))]) [[(.seq uU 6 ((lf ls 0).lst uU))],[(.seq uU 6 ((lf ls 1).lst uU))]] [])
def g98R{α:Type}(G:S_g98 α):=rowK g98tp g98bp (g98K G)
def g98hd(L98l0:Al S_g98l0):Hd where
 call:=fun f args Bs k=>none
 loop:=fun id st k=>cond (Nat.beq id 0) (loopH g98l0D (g98l0K L98l0) st k) (none)
 ro:=fun f=>[]
def g98h(m:Nat):Hd:=g98hd (g98l0M m)
theorem g98l0Step(L98l0:Al S_g98l0){α:Type}(L:S_g98l0 α)(ls:List Lf)(k:KEx α):
  g98l0K (fun a b c d e h i=>g98l0b a b c d (L a b c d) e h i) ls k=ev tab (g98hd L98l0) (bodyAt Tryd.f98 0) (atHead g98l0D ls) (loopK g98l0D 0 (loopH g98l0D (g98l0K L)) k):=by kernel_rfl
theorem g98Main(L98l0:Al S_g98l0){α:Type}(ls:List Lf)(k:KRe α):
  g98K (g98b L98l0) ls k=evFun tab (g98hd L98l0) Tryd.f98 (fT g98tp ls) (fB g98tp g98bp ls) k:=by kernel_rfl
theorem g98Calls(m:Nat):(g98h m).CallsOk Tryd.prog:=cok_nil
theorem g98l0Ok(m:Nat)(α:Type)(st:St)(k:KEx α)(r:α)(h:(g98h m).loop 0 st k=some r):
  LoopS Tryd.prog 0 (bodyAt Tryd.f98 0) st k r:=
 lpk (F:=fun n ls k=>g98l0K (fun a b c d e i j=>g98l0 a b c d n e i j) ls k) (g98Calls m) (lb0 (by kernel_rfl))
  (fun _ _=>rfl) (fun n ls k=>g98l0Step (g98l0M m) (fun a b c d=>g98l0 a b c d n) ls k) (n:=m) h
theorem g98Ok(m:Nat):RowOk Tryd.prog 98 (fun{α}=>g98R (g98 m (α:=α))):=
 rwk (g98Calls m) (lo1 (by kernel_rfl) (g98l0Ok m))
  (fun _=>g98Main (g98l0M m))
abbrev S_g58(α:Type):Type:=Bool→(List Int)→Bool→(List Int)→(Bool→(List Int)→Int→Option α)→Option α
def g58b{α:Type}(G98:Al S_g98)(G64:Al S_g64)(G99:Al S_g99)(G100:Al S_g100)(a:Bool)(b:List Int)(c:Bool)(d:List Int)(e:Bool→(List Int)→Int→Option α):Option α:=cond (a==c) (G98 b d (fun h i=>cond (!i) (e false [0,0,0,0,0,0] (3:Int)) (G64 a h (fun j=>e j h (0:Int))))) (G99 b d (fun l=>cond (decide (l≥(0:Int))) (G100 b d (fun n=>G64 a n (fun o=>e o n (0:Int)))) (G100 d b (fun p=>G64 c p (fun q=>e q p (0:Int))))))
def g58{α:Type}(m:Nat):S_g58 α:=
 g58b (g98 m) (g64 m) (g99 m) (g100 m)
def g58tp:List TP:=[vW,vW]
def g58bp:List BP:=[]
def g58K{α:Type}(G:S_g58 α)(ls:List Lf)(k:KRe α):Option α:=
 G (lf ls 0).bool ((lf ls 1).lst uU) (lf ls 2).bool ((lf ls 3).lst uU)
  (fun a b c=>k (.tup [(.agg [(.one (.bool a)),(.seq uU 6 b)]),(.sv (.int .i64 c))]) [] [])
def g58R{α:Type}(G:S_g58 α):=rowK g58tp g58bp (g58K G)
def g58hd(G98:Al S_g98)(G64:Al S_g64)(G99:Al S_g99)(G100:Al S_g100):Hd where
 call:=fun f args Bs k=>cond (Nat.beq f 98) (g98R G98 args Bs k) (cond (Nat.beq f 64) (g64R G64 args Bs k) (cond (Nat.beq f 99) (g99R G99 args Bs k) (cond (Nat.beq f 100) (g100R G100 args Bs k) (none))))
 loop:=fun id st k=>none
 ro:=fun f=>cond (Nat.beq f 98) [0,1] (cond (Nat.beq f 99) [0,1] (cond (Nat.beq f 100) [0,1] ([])))
def g58h(m:Nat):Hd:=g58hd (g98 m) (g64 m) (g99 m) (g100 m)
theorem g58Main(G98:Al S_g98)(G64:Al S_g64)(G99:Al S_g99)(G100:Al S_g100){α:Type}(ls:List Lf)(k:KRe α):
  g58K (g58b G98 G64 G99 G100) ls k=evFun tab (g58hd G98 G64 G99 G100) Tryd.f58 (fT g58tp ls) (fB g58tp g58bp ls) k:=by kernel_rfl
theorem g58Calls(m:Nat):(g58h m).CallsOk Tryd.prog:=(cok_cons (g98Ok m) (cok_cons (g64Ok m) (cok_cons (g99Ok m) (cok_cons (g100Ok m) cok_nil))))
theorem g58Ok(m:Nat):RowOk Tryd.prog 58 (fun{α}=>g58R (g58 m (α:=α))):=
 rwk (g58Calls m) (lo0 (by kernel_rfl))
  (fun _=>g58Main (g98 m) (g64 m) (g99 m) (g100 m))
abbrev S_g19(α:Type):Type:=Bool→(List Int)→Bool→(List Int)→(Bool→(List Int)→Int→Option α)→Option α
def g19b{α:Type}(G46:Al S_g46)(G58:Al S_g58)(a:Bool)(b:List Int)(c:Bool)(d:List Int)(e:Bool→(List Int)→Int→Option α):Option α:=G46 a b (fun h=>cond (!h) (e false [0,0,0,0,0,0] (1:Int)) (G46 c d (fun i=>cond (!i) (e false [0,0,0,0,0,0] (1:Int)) (G58 a b c d (fun j l n=>e j l n)))))
def g19{α:Type}(m:Nat):S_g19 α:=
 g19b (g46 m) (g58 m)
def g19tp:List TP:=[vW,vW]
def g19bp:List BP:=[]
def g19K{α:Type}(G:S_g19 α)(ls:List Lf)(k:KRe α):Option α:=
 G (lf ls 0).bool ((lf ls 1).lst uU) (lf ls 2).bool ((lf ls 3).lst uU)
  (fun a b c=>k (.tup [(.agg [(.one (.bool a)),(.seq uU 6 b)]),(.sv (.int .i64 c))]) [] [])
def g19R{α:Type}(G:S_g19 α):=rowK g19tp g19bp (g19K G)
def g19hd(G46:Al S_g46)(G58:Al S_g58):Hd where
 call:=fun f args Bs k=>cond (Nat.beq f 46) (g46R G46 args Bs k) (cond (Nat.beq f 58) (g58R G58 args Bs k) (none))
 loop:=fun id st k=>none
 ro:=fun f=>cond (Nat.beq f 46) [0] ([])
def g19h(m:Nat):Hd:=g19hd (g46 m) (g58 m)
theorem g19Main(G46:Al S_g46)(G58:Al S_g58){α:Type}(ls:List Lf)(k:KRe α):
  g19K (g19b G46 G58) ls k=evFun tab (g19hd G46 G58) Tryd.f19 (fT g19tp ls) (fB g19tp g19bp ls) k:=by kernel_rfl
theorem g19Calls(m:Nat):(g19h m).CallsOk Tryd.prog:=(cok_cons (g46Ok m) (cok_cons (g58Ok m) cok_nil))
theorem g19Ok(m:Nat):RowOk Tryd.prog 19 (fun{α}=>g19R (g19 m (α:=α))):=
 rwk (g19Calls m) (lo0 (by kernel_rfl))
  (fun _=>g19Main (g46 m) (g58 m))
abbrev S_g62(α:Type):Type:=Bool→(List Int)→(Bool→Option α)→Option α
def g62b{α:Type}(G68:Al S_g68)(a:Bool)(b:List Int)(c:Bool→Option α):Option α:=G68 (!a) b (fun d=>c d)
def g62{α:Type}(m:Nat):S_g62 α:=
 g62b (g68 m)
def g62tp:List TP:=[vW]
def g62bp:List BP:=[]
def g62K{α:Type}(G:S_g62 α)(ls:List Lf)(k:KRe α):Option α:=
 G (lf ls 0).bool ((lf ls 1).lst uU)
  (fun a=>k (.vl (.agg [(.one (.bool a)),(.seq uU 6 ((lf ls 1).lst uU))])) [] [])
def g62R{α:Type}(G:S_g62 α):=rowK g62tp g62bp (g62K G)
def g62hd(G68:Al S_g68):Hd where
 call:=fun f args Bs k=>cond (Nat.beq f 68) (g68R G68 args Bs k) (none)
 loop:=fun id st k=>none
 ro:=fun f=>[]
def g62h(m:Nat):Hd:=g62hd (g68 m)
theorem g62Main(G68:Al S_g68){α:Type}(ls:List Lf)(k:KRe α):
  g62K (g62b G68) ls k=evFun tab (g62hd G68) Tryd.f62 (fT g62tp ls) (fB g62tp g62bp ls) k:=by kernel_rfl
theorem g62Calls(m:Nat):(g62h m).CallsOk Tryd.prog:=(cok_cons (g68Ok m) cok_nil)
theorem g62Ok(m:Nat):RowOk Tryd.prog 62 (fun{α}=>g62R (g62 m (α:=α))):=
 rwk (g62Calls m) (lo0 (by kernel_rfl))
  (fun _=>g62Main (g68 m))
abbrev S_g59(α:Type):Type:=Bool→(List Int)→Bool→(List Int)→Bool→(Bool→(List Int)→Bool→Option α)→Option α
def g59b{α:Type}(G62:Al S_g62)(G55:Al S_g55)(a:Bool)(b:List Int)(c:Bool)(d:List Int)(e:Bool)(h:Bool→(List Int)→Bool→Option α):Option α:=G62 c d (fun i=>G55 a b i d e (fun j l n=>h j l n))
def g59{α:Type}(m:Nat):S_g59 α:=
 g59b (g62 m) (g55 m)
def g59tp:List TP:=[(.vl (.sv (.ptr 0 0))),vW,vW]
def g59bp:List BP:=[(true,[(.one .bool)])]
def g59K{α:Type}(G:S_g59 α)(ls:List Lf)(k:KRe α):Option α:=
 G (lf ls 0).bool ((lf ls 1).lst uU) (lf ls 2).bool ((lf ls 3).lst uU) (lf ls 4).bool
  (fun a b c=>k (.vl (.agg [(.one (.bool a)),(.seq uU 6 b)])) [[(.one (.bool c))]] [])
def g59R{α:Type}(G:S_g59 α):=rowK g59tp g59bp (g59K G)
def g59hd(G62:Al S_g62)(G55:Al S_g55):Hd where
 call:=fun f args Bs k=>cond (Nat.beq f 62) (g62R G62 args Bs k) (cond (Nat.beq f 55) (g55R G55 args Bs k) (none))
 loop:=fun id st k=>none
 ro:=fun f=>[]
def g59h(m:Nat):Hd:=g59hd (g62 m) (g55 m)
theorem g59Main(G62:Al S_g62)(G55:Al S_g55){α:Type}(ls:List Lf)(k:KRe α):
  g59K (g59b G62 G55) ls k=evFun tab (g59hd G62 G55) Tryd.f59 (fT g59tp ls) (fB g59tp g59bp ls) k:=by kernel_rfl
theorem g59Calls(m:Nat):(g59h m).CallsOk Tryd.prog:=(cok_cons (g62Ok m) (cok_cons (g55Ok m) cok_nil))
theorem g59Ok(m:Nat):RowOk Tryd.prog 59 (fun{α}=>g59R (g59 m (α:=α))):=
 rwk (g59Calls m) (lo0 (by kernel_rfl))
  (fun _=>g59Main (g62 m) (g55 m))
abbrev S_g21(α:Type):Type:=Bool→(List Int)→Bool→(List Int)→(Bool→(List Int)→Int→Option α)→Option α
def g21b{α:Type}(G20:Al S_g20)(G59:Al S_g59)(G57:Al S_g57)(a:Bool)(b:List Int)(c:Bool)(d:List Int)(e:Bool→(List Int)→Int→Option α):Option α:=G20 a b (fun h=>cond (!h) (e false [0,0,0,0,0,0] (1:Int)) (G20 c d (fun i=>cond (!i) (e false [0,0,0,0,0,0] (1:Int)) (G59 a b c d false (fun j l n=>G57 j l n (fun o p q=>e o p q))))))
def g21{α:Type}(m:Nat):S_g21 α:=
 g21b (g20 m) (g59 m) (g57 m)
def g21tp:List TP:=[vW,vW]
def g21bp:List BP:=[]
def g21K{α:Type}(G:S_g21 α)(ls:List Lf)(k:KRe α):Option α:=
 G (lf ls 0).bool ((lf ls 1).lst uU) (lf ls 2).bool ((lf ls 3).lst uU)
  (fun a b c=>k (.tup [(.agg [(.one (.bool a)),(.seq uU 6 b)]),(.sv (.int .i64 c))]) [] [])
def g21R{α:Type}(G:S_g21 α):=rowK g21tp g21bp (g21K G)
def g21hd(G20:Al S_g20)(G59:Al S_g59)(G57:Al S_g57):Hd where
 call:=fun f args Bs k=>cond (Nat.beq f 20) (g20R G20 args Bs k) (cond (Nat.beq f 59) (g59R G59 args Bs k) (cond (Nat.beq f 57) (g57R G57 args Bs k) (none)))
 loop:=fun id st k=>none
 ro:=fun f=>cond (Nat.beq f 57) [0] ([])
def g21h(m:Nat):Hd:=g21hd (g20 m) (g59 m) (g57 m)
theorem g21Main(G20:Al S_g20)(G59:Al S_g59)(G57:Al S_g57){α:Type}(ls:List Lf)(k:KRe α):
  g21K (g21b G20 G59 G57) ls k=evFun tab (g21hd G20 G59 G57) Tryd.f21 (fT g21tp ls) (fB g21tp g21bp ls) k:=by kernel_rfl
theorem g21Calls(m:Nat):(g21h m).CallsOk Tryd.prog:=(cok_cons (g20Ok m) (cok_cons (g59Ok m) (cok_cons (g57Ok m) cok_nil)))
theorem g21Ok(m:Nat):RowOk Tryd.prog 21 (fun{α}=>g21R (g21 m (α:=α))):=
 rwk (g21Calls m) (lo0 (by kernel_rfl))
  (fun _=>g21Main (g20 m) (g59 m) (g57 m))
abbrev S_g60(α:Type):Type:=Bool→(List Int)→Bool→(List Int)→(Int→Option α)→Option α
def g60b{α:Type}(G95:Al S_g95)(a:Bool)(b:List Int)(c:Bool)(d:List Int)(e:Int→Option α):Option α:=cond (!(a==c)) (cond a (e (-1:Int)) (cond (!(a==c)) (e (1:Int)) (cond a (G95 d b (fun h=>e h)) (G95 b d (fun i=>e i))))) (cond (!(a==c)) (e (1:Int)) (cond a (G95 d b (fun j=>e j)) (G95 b d (fun l=>e l))))
def g60{α:Type}(m:Nat):S_g60 α:=
 g60b (g95 m)
def g60tp:List TP:=[vW,vW]
def g60bp:List BP:=[]
def g60K{α:Type}(G:S_g60 α)(ls:List Lf)(k:KRe α):Option α:=
 G (lf ls 0).bool ((lf ls 1).lst uU) (lf ls 2).bool ((lf ls 3).lst uU)
  (fun a=>k (.vl (.sv (.int .i64 a))) [] [])
def g60R{α:Type}(G:S_g60 α):=rowK g60tp g60bp (g60K G)
def g60hd(G95:Al S_g95):Hd where
 call:=fun f args Bs k=>cond (Nat.beq f 95) (g95R G95 args Bs k) (none)
 loop:=fun id st k=>none
 ro:=fun f=>[]
def g60h(m:Nat):Hd:=g60hd (g95 m)
theorem g60Main(G95:Al S_g95){α:Type}(ls:List Lf)(k:KRe α):
  g60K (g60b G95) ls k=evFun tab (g60hd G95) Tryd.f60 (fT g60tp ls) (fB g60tp g60bp ls) k:=by kernel_rfl
theorem g60Calls(m:Nat):(g60h m).CallsOk Tryd.prog:=(cok_cons (g95Ok m) cok_nil)
theorem g60Ok(m:Nat):RowOk Tryd.prog 60 (fun{α}=>g60R (g60 m (α:=α))):=
 rwk (g60Calls m) (lo0 (by kernel_rfl))
  (fun _=>g60Main (g95 m))
abbrev S_g22(α:Type):Type:=Bool→(List Int)→Bool→(List Int)→(Int→Int→Option α)→Option α
def g22b{α:Type}(G20:Al S_g20)(G60:Al S_g60)(a:Bool)(b:List Int)(c:Bool)(d:List Int)(e:Int→Int→Option α):Option α:=G20 a b (fun h=>cond (!h) (e (0:Int) (1:Int)) (G20 c d (fun i=>cond (!i) (e (0:Int) (1:Int)) (G60 a b c d (fun j=>e j (0:Int))))))
def g22{α:Type}(m:Nat):S_g22 α:=
 g22b (g20 m) (g60 m)
def g22tp:List TP:=[vW,vW]
def g22bp:List BP:=[]
def g22K{α:Type}(G:S_g22 α)(ls:List Lf)(k:KRe α):Option α:=
 G (lf ls 0).bool ((lf ls 1).lst uU) (lf ls 2).bool ((lf ls 3).lst uU)
  (fun a b=>k (.tup [(.sv (.int .i64 a)),(.sv (.int .i64 b))]) [] [])
def g22R{α:Type}(G:S_g22 α):=rowK g22tp g22bp (g22K G)
def g22hd(G20:Al S_g20)(G60:Al S_g60):Hd where
 call:=fun f args Bs k=>cond (Nat.beq f 20) (g20R G20 args Bs k) (cond (Nat.beq f 60) (g60R G60 args Bs k) (none))
 loop:=fun id st k=>none
 ro:=fun f=>[]
def g22h(m:Nat):Hd:=g22hd (g20 m) (g60 m)
theorem g22Main(G20:Al S_g20)(G60:Al S_g60){α:Type}(ls:List Lf)(k:KRe α):
  g22K (g22b G20 G60) ls k=evFun tab (g22hd G20 G60) Tryd.f22 (fT g22tp ls) (fB g22tp g22bp ls) k:=by kernel_rfl
theorem g22Calls(m:Nat):(g22h m).CallsOk Tryd.prog:=(cok_cons (g20Ok m) (cok_cons (g60Ok m) cok_nil))
theorem g22Ok(m:Nat):RowOk Tryd.prog 22 (fun{α}=>g22R (g22 m (α:=α))):=
 rwk (g22Calls m) (lo0 (by kernel_rfl))
  (fun _=>g22Main (g20 m) (g60 m))
abbrev S_g61(α:Type):Type:=Bool→(List Int)→(Int→Option α)→Option α
def g61b{α:Type}(a:Bool)(b:List Int)(c:Int→Option α):Option α:=cond a (c (-1:Int)) (cond (eqLI b [0,0,0,0,0,0]) (c (0:Int)) (c (1:Int)))
def g61{α:Type}(m:Nat):S_g61 α:=
 g61b
def g61tp:List TP:=[vW]
def g61bp:List BP:=[]
def g61K{α:Type}(G:S_g61 α)(ls:List Lf)(k:KRe α):Option α:=
 G (lf ls 0).bool ((lf ls 1).lst uU)
  (fun a=>k (.vl (.sv (.int .i64 a))) [] [])
def g61R{α:Type}(G:S_g61 α):=rowK g61tp g61bp (g61K G)
def g61hd:Hd where
 call:=fun f args Bs k=>none
 loop:=fun id st k=>none
 ro:=fun f=>[]
def g61h(m:Nat):Hd:=g61hd
theorem g61Main{α:Type}(ls:List Lf)(k:KRe α):
  g61K (g61b) ls k=evFun tab (g61hd) Tryd.f61 (fT g61tp ls) (fB g61tp g61bp ls) k:=by kernel_rfl
theorem g61Calls(m:Nat):(g61h m).CallsOk Tryd.prog:=cok_nil
theorem g61Ok(m:Nat):RowOk Tryd.prog 61 (fun{α}=>g61R (g61 m (α:=α))):=
 rwk (g61Calls m) (lo0 (by kernel_rfl))
  (fun _=>g61Main)
abbrev S_g23(α:Type):Type:=Bool→(List Int)→(Int→Int→Option α)→Option α
def g23b{α:Type}(G20:Al S_g20)(G61:Al S_g61)(a:Bool)(b:List Int)(c:Int→Int→Option α):Option α:=G20 a b (fun d=>cond (!d) (c (0:Int) (1:Int)) (G61 a b (fun e=>c e (0:Int))))
def g23{α:Type}(m:Nat):S_g23 α:=
 g23b (g20 m) (g61 m)
def g23tp:List TP:=[vW]
def g23bp:List BP:=[]
def g23K{α:Type}(G:S_g23 α)(ls:List Lf)(k:KRe α):Option α:=
 G (lf ls 0).bool ((lf ls 1).lst uU)
  (fun a b=>k (.tup [(.sv (.int .i64 a)),(.sv (.int .i64 b))]) [] [])
def g23R{α:Type}(G:S_g23 α):=rowK g23tp g23bp (g23K G)
def g23hd(G20:Al S_g20)(G61:Al S_g61):Hd where
 call:=fun f args Bs k=>cond (Nat.beq f 20) (g20R G20 args Bs k) (cond (Nat.beq f 61) (g61R G61 args Bs k) (none))
 loop:=fun id st k=>none
 ro:=fun f=>[]
def g23h(m:Nat):Hd:=g23hd (g20 m) (g61 m)
theorem g23Main(G20:Al S_g20)(G61:Al S_g61){α:Type}(ls:List Lf)(k:KRe α):
  g23K (g23b G20 G61) ls k=evFun tab (g23hd G20 G61) Tryd.f23 (fT g23tp ls) (fB g23tp g23bp ls) k:=by kernel_rfl
theorem g23Calls(m:Nat):(g23h m).CallsOk Tryd.prog:=(cok_cons (g20Ok m) (cok_cons (g61Ok m) cok_nil))
theorem g23Ok(m:Nat):RowOk Tryd.prog 23 (fun{α}=>g23R (g23 m (α:=α))):=
 rwk (g23Calls m) (lo0 (by kernel_rfl))
  (fun _=>g23Main (g20 m) (g61 m))
abbrev S_g24(α:Type):Type:=Bool→(List Int)→(Bool→(List Int)→Int→Option α)→Option α
def g24b{α:Type}(G20:Al S_g20)(G62:Al S_g62)(a:Bool)(b:List Int)(c:Bool→(List Int)→Int→Option α):Option α:=G20 a b (fun d=>cond (!d) (c false [0,0,0,0,0,0] (1:Int)) (G62 a b (fun e=>c e b (0:Int))))
def g24{α:Type}(m:Nat):S_g24 α:=
 g24b (g20 m) (g62 m)
def g24tp:List TP:=[vW]
def g24bp:List BP:=[]
def g24K{α:Type}(G:S_g24 α)(ls:List Lf)(k:KRe α):Option α:=
 G (lf ls 0).bool ((lf ls 1).lst uU)
  (fun a b c=>k (.tup [(.agg [(.one (.bool a)),(.seq uU 6 b)]),(.sv (.int .i64 c))]) [] [])
def g24R{α:Type}(G:S_g24 α):=rowK g24tp g24bp (g24K G)
def g24hd(G20:Al S_g20)(G62:Al S_g62):Hd where
 call:=fun f args Bs k=>cond (Nat.beq f 20) (g20R G20 args Bs k) (cond (Nat.beq f 62) (g62R G62 args Bs k) (none))
 loop:=fun id st k=>none
 ro:=fun f=>[]
def g24h(m:Nat):Hd:=g24hd (g20 m) (g62 m)
theorem g24Main(G20:Al S_g20)(G62:Al S_g62){α:Type}(ls:List Lf)(k:KRe α):
  g24K (g24b G20 G62) ls k=evFun tab (g24hd G20 G62) Tryd.f24 (fT g24tp ls) (fB g24tp g24bp ls) k:=by kernel_rfl
theorem g24Calls(m:Nat):(g24h m).CallsOk Tryd.prog:=(cok_cons (g20Ok m) (cok_cons (g62Ok m) cok_nil))
theorem g24Ok(m:Nat):RowOk Tryd.prog 24 (fun{α}=>g24R (g24 m (α:=α))):=
 rwk (g24Calls m) (lo0 (by kernel_rfl))
  (fun _=>g24Main (g20 m) (g62 m))
abbrev S_g63(α:Type):Type:=(List Int)→(Int→Option α)→Option α
abbrev S_g63l0(α:Type):Type:=(List Int)→(Int→Option α)→(Option α)→Int→Option α
def g63l0b{α:Type}(G101:Al S_g101)(a:List Int)(b:Int→Option α)(c:Option α)(d:Int→Option α)(e:Int):Option α:=cond (decide (e≥(0:Int))) (if 0≤e∧e<(6:Nat) then if e.toNat<6 then cond ((List.getD a e.toNat 0) !=(0:Int)) (if 0≤e∧e<(6:Nat) then if e.toNat<6 then G101 (List.getD a e.toNat 0) (fun h=>b (IntKind.wrap .i64 ((IntKind.wrap .i64 ((32:Int)*e))+h))) else none else none) (d (IntKind.wrap .i64 (e-(1:Int)))) else none else none) (c)
def g63l0{α:Type}(G101:Al S_g101)(a:List Int)(b:Int→Option α)(c:Option α):Nat→Int→Option α
 |0=>fun _=>none
 |m+1=>fun d=>g63l0b G101 a b c (g63l0 G101 a b c m) d
def g63l0M{α:Type}(m:Nat):S_g63l0 α:=
 fun a b c d=>g63l0 (g101 m) a b c m d
def g63l0D:LoopD:={n:=19,low:=[],sl:=[1,3],bl:=[1000000],tp:=[(.vl (.sv (.ptr 1000000 0))),tI],bp:=[b6],xs:=[(1,[2]),(2,[])]}
def g63l0K{α:Type}(L:S_g63l0 α)(ls:List Lf)(k:KEx α):Option α:=
 L ((lf ls 1).lst uU)
  (fun a=>k .ret (mkSt 19 [2] [(.vl (.sv (.int .i64 a)))] [] []))
  (k .normal (mkSt 19 [] [] [] []))
  (lf ls 0).int
def g63b{α:Type}(G101:Al S_g101)(L63l0:Al S_g63l0)(a:List Int)(b:Int→Option α):Option α:=L63l0 a (fun c=>b c) (b (0:Int)) (5:Int)
def g63{α:Type}(m:Nat):S_g63 α:=
 g63b (g101 m) (g63l0M m)
def g63tp:List TP:=[(.vl (.agg [(.seq uU 6)]))]
def g63bp:List BP:=[]
def g63K{α:Type}(G:S_g63 α)(ls:List Lf)(k:KRe α):Option α:=
 G ((lf ls 0).lst uU)
  (fun a=>k (.vl (.sv (.int .i64 a))) [] [])
def g63R{α:Type}(G:S_g63 α):=rowK g63tp g63bp (g63K G)
def g63hd(G101:Al S_g101)(L63l0:Al S_g63l0):Hd where
 call:=fun f args Bs k=>cond (Nat.beq f 101) (g101R G101 args Bs k) (none)
 loop:=fun id st k=>cond (Nat.beq id 0) (loopH g63l0D (g63l0K L63l0) st k) (none)
 ro:=fun f=>[]
def g63h(m:Nat):Hd:=g63hd (g101 m) (g63l0M m)
theorem g63l0Step(G101:Al S_g101)(L63l0:Al S_g63l0){α:Type}(L:S_g63l0 α)(ls:List Lf)(k:KEx α):
  g63l0K (fun a b c d=>g63l0b G101 a b c (L a b c) d) ls k=ev tab (g63hd G101 L63l0) (bodyAt Tryd.f63 0) (atHead g63l0D ls) (loopK g63l0D 0 (loopH g63l0D (g63l0K L)) k):=by kernel_rfl
theorem g63Main(G101:Al S_g101)(L63l0:Al S_g63l0){α:Type}(ls:List Lf)(k:KRe α):
  g63K (g63b G101 L63l0) ls k=evFun tab (g63hd G101 L63l0) Tryd.f63 (fT g63tp ls) (fB g63tp g63bp ls) k:=by kernel_rfl
theorem g63Calls(m:Nat):(g63h m).CallsOk Tryd.prog:=(cok_cons (g101Ok m) cok_nil)
theorem g63l0Ok(m:Nat)(α:Type)(st:St)(k:KEx α)(r:α)(h:(g63h m).loop 0 st k=some r):
  LoopS Tryd.prog 0 (bodyAt Tryd.f63 0) st k r:=
 lpk (F:=fun n ls k=>g63l0K (fun a b c d=>g63l0 (g101 m) a b c n d) ls k) (g63Calls m) (lb0 (by kernel_rfl))
  (fun _ _=>rfl) (fun n ls k=>g63l0Step (g101 m) (g63l0M m) (fun a b c=>g63l0 (g101 m) a b c n) ls k) (n:=m) h
theorem g63Ok(m:Nat):RowOk Tryd.prog 63 (fun{α}=>g63R (g63 m (α:=α))):=
 rwk (g63Calls m) (lo1 (by kernel_rfl) (g63l0Ok m))
  (fun _=>g63Main (g101 m) (g63l0M m))
abbrev S_g25(α:Type):Type:=Bool→(List Int)→(Int→Int→Option α)→Option α
def g25b{α:Type}(G20:Al S_g20)(G63:Al S_g63)(a:Bool)(b:List Int)(c:Int→Int→Option α):Option α:=G20 a b (fun d=>cond (!d) (c (0:Int) (1:Int)) (G63 b (fun e=>c e (0:Int))))
def g25{α:Type}(m:Nat):S_g25 α:=
 g25b (g20 m) (g63 m)
def g25tp:List TP:=[vW]
def g25bp:List BP:=[]
def g25K{α:Type}(G:S_g25 α)(ls:List Lf)(k:KRe α):Option α:=
 G (lf ls 0).bool ((lf ls 1).lst uU)
  (fun a b=>k (.tup [(.sv (.int .i64 a)),(.sv (.int .i64 b))]) [] [])
def g25R{α:Type}(G:S_g25 α):=rowK g25tp g25bp (g25K G)
def g25hd(G20:Al S_g20)(G63:Al S_g63):Hd where
 call:=fun f args Bs k=>cond (Nat.beq f 20) (g20R G20 args Bs k) (cond (Nat.beq f 63) (g63R G63 args Bs k) (none))
 loop:=fun id st k=>none
 ro:=fun f=>[]
def g25h(m:Nat):Hd:=g25hd (g20 m) (g63 m)
theorem g25Main(G20:Al S_g20)(G63:Al S_g63){α:Type}(ls:List Lf)(k:KRe α):
  g25K (g25b G20 G63) ls k=evFun tab (g25hd G20 G63) Tryd.f25 (fT g25tp ls) (fB g25tp g25bp ls) k:=by kernel_rfl
theorem g25Calls(m:Nat):(g25h m).CallsOk Tryd.prog:=(cok_cons (g20Ok m) (cok_cons (g63Ok m) cok_nil))
theorem g25Ok(m:Nat):RowOk Tryd.prog 25 (fun{α}=>g25R (g25 m (α:=α))):=
 rwk (g25Calls m) (lo0 (by kernel_rfl))
  (fun _=>g25Main (g20 m) (g63 m))
abbrev S_g26(α:Type):Type:=Nat→Nat→Nat→Nat→(List Int)→(Bool→(List Int)→Option α)→Option α
def g26b{α:Type}(G52:Al S_g52)(G51:Al S_g51)(G64:Al S_g64)(a b:Nat)(c d:Nat)(e:List Int)(h:Bool→(List Int)→Option α):Option α:=G52 a b c d e (G51 a b c (0:Int) (0:Int) d e (fun i j l n=>let o:Int:=List.getD j 0 0;let p:Int:=List.getD j 1 0;let q:Int:=Int.fdiv (List.getD j 2 0) (2^6);G64 i [o,p,q,0,0,0] (fun r=>h r [o,p,q,0,0,0])))
def g26{α:Type}(m:Nat):S_g26 α:=
 g26b (g52 m) (g51 m) (g64 m)
def g26tp:List TP:=[(.vl (.sv (.sla 0 0 1)))]
def g26bp:List BP:=[(false,[(.seqv (.int .u8))])]
def g26K{α:Type}(G:S_g26 α)(ls:List Lf)(k:KRe α):Option α:=
 G (lf ls 0).nat (lf ls 1).nat (lf ls 2).nat (lf ls 3).nat ((lf ls 4).lst (.int .u8))
  (fun a b=>k (.vl (.agg [(.one (.bool a)),(.seq uU 6 b)])) [[(.seq (.int .u8) (lf ls 3).nat ((lf ls 4).lst (.int .u8)))]] [])
def g26R{α:Type}(G:S_g26 α):=rowK g26tp g26bp (g26K G)
def g26hd(G52:Al S_g52)(G51:Al S_g51)(G64:Al S_g64):Hd where
 call:=fun f args Bs k=>cond (Nat.beq f 52) (g52R G52 args Bs k) (cond (Nat.beq f 51) (g51R G51 args Bs k) (cond (Nat.beq f 64) (g64R G64 args Bs k) (none)))
 loop:=fun id st k=>none
 ro:=fun f=>cond (Nat.beq f 51) [1] (cond (Nat.beq f 52) [0] ([]))
def g26h(m:Nat):Hd:=g26hd (g52 m) (g51 m) (g64 m)
theorem g26Main(G52:Al S_g52)(G51:Al S_g51)(G64:Al S_g64){α:Type}(ls:List Lf)(k:KRe α):
  g26K (g26b G52 G51 G64) ls k=evFun tab (g26hd G52 G51 G64) Tryd.f26 (fT g26tp ls) (fB g26tp g26bp ls) k:=by kernel_rfl
theorem g26Calls(m:Nat):(g26h m).CallsOk Tryd.prog:=(cok_cons (g52Ok m) (cok_cons (g51Ok m) (cok_cons (g64Ok m) cok_nil)))
theorem g26Ok(m:Nat):RowOk Tryd.prog 26 (fun{α}=>g26R (g26 m (α:=α))):=
 rwk (g26Calls m) (lo0 (by kernel_rfl))
  (fun _=>g26Main (g52 m) (g51 m) (g64 m))
abbrev S_g52v1(α:Type):Type:=(List Int)→(Option α)→Option α
def g52v1b{α:Type}(a:List Int)(b:Option α):Option α:=b
def g52v1{α:Type}(m:Nat):S_g52v1 α:=
 g52v1b
def g52v1tp:List TP:=[(.vl (.sv (.gsl 0 1)))]
def g52v1bp:List BP:=[(false,[(.gro (.int .u8))])]
def g52v1K{α:Type}(G:S_g52v1 α)(ls:List Lf)(k:KRe α):Option α:=
 G ((lf ls 0).lst (.int .u8))
  (k (.vl (.sv (.ptr 1 0))) [[(.gro (.int .u8) ((lf ls 0).lst (.int .u8)))]] [[(.one (.gsl 0 1)),(.one (.int .i64 (0:Int))),(.one (.int .u64 (0:Int)))]])
def g52v1R{α:Type}(G:S_g52v1 α):=rowK g52v1tp g52v1bp (g52v1K G)
def g52v1hd:Hd where
 call:=fun f args Bs k=>none
 loop:=fun id st k=>none
 ro:=fun f=>[]
def g52v1h(m:Nat):Hd:=g52v1hd
theorem g52v1Main{α:Type}(ls:List Lf)(k:KRe α):
  g52v1K (g52v1b) ls k=evFun tab (g52v1hd) Tryd.f52 (fT g52v1tp ls) (fB g52v1tp g52v1bp ls) k:=by kernel_rfl
theorem g52v1Calls(m:Nat):(g52v1h m).CallsOk Tryd.prog:=cok_nil
theorem g52v1Ok(m:Nat):RowOk Tryd.prog 52 (fun{α}=>g52v1R (g52v1 m (α:=α))):=
 rwk (g52v1Calls m) (lo0 (by kernel_rfl))
  (fun _=>g52v1Main)
abbrev S_g102v1(α:Type):Type:=Int→Int→(List Int)→(Int→Int→Int→Option α)→Option α
def g102v1b{α:Type}(a b:Int)(c:List Int)(d:Int→Int→Int→Option α):Option α:=cond (decide (a<((c.length:Nat):Int))) (if 0≤a∧a<(c.length:Nat) then if a.toNat<c.length then let e:Int:=IntKind.wrap .i64 (List.getD c a.toNat 0);let h:Int:=IntKind.wrap .i64 (a+(1:Int));let i:Int:=IntKind.wrap .u64 ((IntKind.wrap .u64 ((IntKind.wrap .u64 (b*(6364136223846793005:Int)))+(IntKind.wrap .u64 e)))+(1442695040888963407:Int));cond (decide (h≤((c.length:Nat):Int))) (d e h i) (d (IntKind.wrap .i64 (ibits .and .u64 (Int.fdiv i (2^40)) (255:Int))) h i) else none else none) (let j:Int:=IntKind.wrap .i64 (a+(1:Int));let l:Int:=IntKind.wrap .u64 ((IntKind.wrap .u64 ((IntKind.wrap .u64 (b*(6364136223846793005:Int)))+(0:Int)))+(1442695040888963407:Int));cond (decide (j≤((c.length:Nat):Int))) (d (0:Int) j l) (d (IntKind.wrap .i64 (ibits .and .u64 (Int.fdiv l (2^40)) (255:Int))) j l))
def g102v1{α:Type}(m:Nat):S_g102v1 α:=
 g102v1b
def g102v1tp:List TP:=[(.vl (.sv (.ptr 0 0)))]
def g102v1bp:List BP:=[(true,[(.one (.gsl 1 1)),(.one (.int .i64)),(.one (.int .u64))]),(false,[(.gro (.int .u8))])]
def g102v1K{α:Type}(G:S_g102v1 α)(ls:List Lf)(k:KRe α):Option α:=
 G (lf ls 0).int (lf ls 1).int ((lf ls 2).lst (.int .u8))
  (fun a b c=>k (.vl (.sv (.int .i64 a))) [[(.one (.gsl 1 1)),(.one (.int .i64 b)),(.one (.int .u64 c))],[(.gro (.int .u8) ((lf ls 2).lst (.int .u8)))]] [])
def g102v1R{α:Type}(G:S_g102v1 α):=rowK g102v1tp g102v1bp (g102v1K G)
def g102v1hd:Hd where
 call:=fun f args Bs k=>none
 loop:=fun id st k=>none
 ro:=fun f=>[]
def g102v1h(m:Nat):Hd:=g102v1hd
theorem g102v1Main{α:Type}(ls:List Lf)(k:KRe α):
  g102v1K (g102v1b) ls k=evFun tab (g102v1hd) Tryd.f102 (fT g102v1tp ls) (fB g102v1tp g102v1bp ls) k:=by kernel_rfl
theorem g102v1Calls(m:Nat):(g102v1h m).CallsOk Tryd.prog:=cok_nil
theorem g102v1Ok(m:Nat):RowOk Tryd.prog 102 (fun{α}=>g102v1R (g102v1 m (α:=α))):=
 rwk (g102v1Calls m) (lo0 (by kernel_rfl))
  (fun _=>g102v1Main)
abbrev S_g66v1(α:Type):Type:=Int→Int→Int→(List Int)→(Int→Int→Int→Option α)→Option α
def g66v1b{α:Type}(G102v1:Al S_g102v1)(a b c:Int)(d:List Int)(e:Int→Int→Int→Option α):Option α:=cond (decide (a≤(1:Int))) (e (0:Int) b c) (G102v1 b c d (fun h i j=>cond (decide (a>(200:Int))) (G102v1 i j d (fun l n o=>if a=0 then none else e (Int.tmod (IntKind.wrap .i64 ((IntKind.wrap .i64 (h*(256:Int)))+l)) a) n o)) (if a=0 then none else e (Int.tmod h a) i j)))
def g66v1{α:Type}(m:Nat):S_g66v1 α:=
 g66v1b (g102v1 m)
def g66v1tp:List TP:=[(.vl (.sv (.ptr 0 0))),tI]
def g66v1bp:List BP:=[(true,[(.one (.gsl 1 1)),(.one (.int .i64)),(.one (.int .u64))]),(false,[(.gro (.int .u8))])]
def g66v1K{α:Type}(G:S_g66v1 α)(ls:List Lf)(k:KRe α):Option α:=
 G (lf ls 0).int (lf ls 1).int (lf ls 2).int ((lf ls 3).lst (.int .u8))
  (fun a b c=>k (.vl (.sv (.int .i64 a))) [[(.one (.gsl 1 1)),(.one (.int .i64 b)),(.one (.int .u64 c))],[(.gro (.int .u8) ((lf ls 3).lst (.int .u8)))]] [])
def g66v1R{α:Type}(G:S_g66v1 α):=rowK g66v1tp g66v1bp (g66v1K G)
def g66v1hd(G102v1:Al S_g102v1):Hd where
 call:=fun f args Bs k=>cond (Nat.beq f 102) (g102v1R G102v1 args Bs k) (none)
 loop:=fun id st k=>none
 ro:=fun f=>cond (Nat.beq f 102) [1] ([])
def g66v1h(m:Nat):Hd:=g66v1hd (g102v1 m)
theorem g66v1Main(G102v1:Al S_g102v1){α:Type}(ls:List Lf)(k:KRe α):
  g66v1K (g66v1b G102v1) ls k=evFun tab (g66v1hd G102v1) Tryd.f66 (fT g66v1tp ls) (fB g66v1tp g66v1bp ls) k:=by kernel_rfl
theorem g66v1Calls(m:Nat):(g66v1h m).CallsOk Tryd.prog:=(cok_cons (g102v1Ok m) cok_nil)
theorem g66v1Ok(m:Nat):RowOk Tryd.prog 66 (fun{α}=>g66v1R (g66v1 m (α:=α))):=
 rwk (g66v1Calls m) (lo0 (by kernel_rfl))
  (fun _=>g66v1Main (g102v1 m))
abbrev S_g92v1(α:Type):Type:=Int→Int→Int→(List Int)→(Bool→Int→Int→Option α)→Option α
def g92v1b{α:Type}(G66v1:Al S_g66v1)(a b c:Int)(d:List Int)(e:Bool→Int→Int→Option α):Option α:=G66v1 a b c d (fun h i j=>e (h==(0:Int)) i j)
def g92v1{α:Type}(m:Nat):S_g92v1 α:=
 g92v1b (g66v1 m)
def g92v1tp:List TP:=[(.vl (.sv (.ptr 0 0))),tI]
def g92v1bp:List BP:=[(true,[(.one (.gsl 1 1)),(.one (.int .i64)),(.one (.int .u64))]),(false,[(.gro (.int .u8))])]
def g92v1K{α:Type}(G:S_g92v1 α)(ls:List Lf)(k:KRe α):Option α:=
 G (lf ls 0).int (lf ls 1).int (lf ls 2).int ((lf ls 3).lst (.int .u8))
  (fun a b c=>k (.vl (.sv (.bool a))) [[(.one (.gsl 1 1)),(.one (.int .i64 b)),(.one (.int .u64 c))],[(.gro (.int .u8) ((lf ls 3).lst (.int .u8)))]] [])
def g92v1R{α:Type}(G:S_g92v1 α):=rowK g92v1tp g92v1bp (g92v1K G)
def g92v1hd(G66v1:Al S_g66v1):Hd where
 call:=fun f args Bs k=>cond (Nat.beq f 66) (g66v1R G66v1 args Bs k) (none)
 loop:=fun id st k=>none
 ro:=fun f=>cond (Nat.beq f 66) [1] ([])
def g92v1h(m:Nat):Hd:=g92v1hd (g66v1 m)
theorem g92v1Main(G66v1:Al S_g66v1){α:Type}(ls:List Lf)(k:KRe α):
  g92v1K (g92v1b G66v1) ls k=evFun tab (g92v1hd G66v1) Tryd.f92 (fT g92v1tp ls) (fB g92v1tp g92v1bp ls) k:=by kernel_rfl
theorem g92v1Calls(m:Nat):(g92v1h m).CallsOk Tryd.prog:=(cok_cons (g66v1Ok m) cok_nil)
theorem g92v1Ok(m:Nat):RowOk Tryd.prog 92 (fun{α}=>g92v1R (g92v1 m (α:=α))):=
 rwk (g92v1Calls m) (lo0 (by kernel_rfl))
  (fun _=>g92v1Main (g66v1 m))
abbrev S_g51v1(α:Type):Type:=Int→Int→(List Int)→(Bool→(List Int)→Int→Int→Option α)→Option α
abbrev S_g51v1l0(α:Type):Type:=Int→(List Int)→Bool→(List Int)→(Int→Int→(List Int)→Option α)→Int→Int→Int→(List Int)→Option α
def g51v1l0b{α:Type}(G66v1:Al S_g66v1)(a:Int)(b:List Int)(c:Bool)(d:List Int)(e:Int→Int→(List Int)→Option α)(h:Int→Int→Int→(List Int)→Option α)(i j l:Int)(n:List Int):Option α:=cond (decide (i<a)) (G66v1 (4:Int) j l b (fun o p q=>cond (o==(0:Int)) (G66v1 (60000:Int) p q b (fun r s t=>if 0≤i∧i<(6:Nat) then if i.toNat<6 then h (IntKind.wrap .i64 (i+(1:Int))) s t (List.set n (i.toNat) (IntKind.wrap .u32 ((IntKind.wrap .u32 r)*(65521:Int)))) else none else none)) (cond (o==(1:Int)) (if 0≤i∧i<(6:Nat) then if i.toNat<6 then h (IntKind.wrap .i64 (i+(1:Int))) p q (List.set n (i.toNat) (4294967295:Int)) else none else none) (cond (o==(2:Int)) (G66v1 (5:Int) p q b (fun u v w=>if 0≤i∧i<(6:Nat) then if i.toNat<6 then h (IntKind.wrap .i64 (i+(1:Int))) v w (List.set n (i.toNat) (IntKind.wrap .u32 u)) else none else none)) (G66v1 (32:Int) p q b (fun x y z=>let a0:Int:=IntKind.wrap .u64 x;if a0<0 then none else if 0≤i∧i<(6:Nat) then if i.toNat<6 then h (IntKind.wrap .i64 (i+(1:Int))) y z (List.set n (i.toNat) (IntKind.wrap .u32 ((1:Int)*2^(min a0.toNat 32)))) else none else none)))))) (e j l n)
def g51v1l0{α:Type}(G66v1:Al S_g66v1)(a:Int)(b:List Int)(c:Bool)(d:List Int)(e:Int→Int→(List Int)→Option α):Nat→Int→Int→Int→(List Int)→Option α
 |0=>fun _ _ _ _=>none
 |m+1=>fun h i j l=>g51v1l0b G66v1 a b c d e (g51v1l0 G66v1 a b c d e m) h i j l
def g51v1l0M{α:Type}(m:Nat):S_g51v1l0 α:=
 fun a b c d e h i j l=>g51v1l0 (g66v1 m) a b c d e m h i j l
def g51v1l0D:LoopD:={n:=45,low:=[0,1],sl:=[0,2,3,4,5],bl:=[0,1,1000002,1000003],tp:=[(.vl (.sv (.ptr 0 0))),(.vl (.sv (.ptr 1000002 0))),(.vl (.sv (.ptr 1000003 0))),tI,tI],bp:=[(true,[(.one (.gsl 1 1)),(.one (.int .i64)),(.one (.int .u64))]),(false,[(.gro (.int .u8))]),(true,[(.one .bool),(.seq uU 6)]),b6],xs:=[(2,[0,2,3])]}
def g51v1l0K{α:Type}(L:S_g51v1l0 α)(ls:List Lf)(k:KEx α):Option α:=
 L (lf ls 0).int ((lf ls 4).lst (.int .u8)) (lf ls 5).bool ((lf ls 6).lst uU)
  (fun a b c=>k .normal (mkSt 45 [0,2,3] [(.vl (.sv (.ptr 0 0))),(.vl (.sv (.ptr 1000002 0))),(.vl (.sv (.ptr 1000003 0)))] [0,1,1000002,1000003] [(true,[(.one (.gsl 1 1)),(.one (.int .i64 a)),(.one (.int .u64 b))]),(false,[(.gro (.int .u8) ((lf ls 4).lst (.int .u8)))]),(true,[(.one (.bool (lf ls 5).bool)),(.seq uU 6 ((lf ls 6).lst uU))]),(true,[(.seq uU 6 c)])]))
  (lf ls 1).int (lf ls 2).int (lf ls 3).int ((lf ls 7).lst uU)
def g51v1b{α:Type}(G66v1:Al S_g66v1)(G92v1:Al S_g92v1)(G64:Al S_g64)(L51v1l0:Al S_g51v1l0)(a b:Int)(c:List Int)(d:Bool→(List Int)→Int→Int→Option α):Option α:=G66v1 (7:Int) a b c (fun e h i=>L51v1l0 e c false [0,0,0,0,0,0] (fun j l n=>G92v1 (3:Int) j l c (fun o p q=>G64 o n (fun r=>d r n p q))) (0:Int) h i [0,0,0,0,0,0])
def g51v1{α:Type}(m:Nat):S_g51v1 α:=
 g51v1b (g66v1 m) (g92v1 m) (g64 m) (g51v1l0M m)
def g51v1tp:List TP:=[(.vl (.sv (.ptr 0 0)))]
def g51v1bp:List BP:=[(true,[(.one (.gsl 1 1)),(.one (.int .i64)),(.one (.int .u64))]),(false,[(.gro (.int .u8))])]
def g51v1K{α:Type}(G:S_g51v1 α)(ls:List Lf)(k:KRe α):Option α:=
 G (lf ls 0).int (lf ls 1).int ((lf ls 2).lst (.int .u8))
  (fun a b c d=>k (.vl (.agg [(.one (.bool a)),(.seq uU 6 b)])) [[(.one (.gsl 1 1)),(.one (.int .i64 c)),(.one (.int .u64 d))],[(.gro (.int .u8) ((lf ls 2).lst (.int .u8)))]] [])
def g51v1R{α:Type}(G:S_g51v1 α):=rowK g51v1tp g51v1bp (g51v1K G)
def g51v1hd(G66v1:Al S_g66v1)(G92v1:Al S_g92v1)(G64:Al S_g64)(L51v1l0:Al S_g51v1l0):Hd where
 call:=fun f args Bs k=>cond (Nat.beq f 66) (g66v1R G66v1 args Bs k) (cond (Nat.beq f 92) (g92v1R G92v1 args Bs k) (cond (Nat.beq f 64) (g64R G64 args Bs k) (none)))
 loop:=fun id st k=>cond (Nat.beq id 0) (loopH g51v1l0D (g51v1l0K L51v1l0) st k) (none)
 ro:=fun f=>cond (Nat.beq f 66) [1] (cond (Nat.beq f 92) [1] ([]))
def g51v1h(m:Nat):Hd:=g51v1hd (g66v1 m) (g92v1 m) (g64 m) (g51v1l0M m)
theorem g51v1l0Step(G66v1:Al S_g66v1)(G92v1:Al S_g92v1)(G64:Al S_g64)(L51v1l0:Al S_g51v1l0){α:Type}(L:S_g51v1l0 α)(ls:List Lf)(k:KEx α):
  g51v1l0K (fun a b c d e h i j l=>g51v1l0b G66v1 a b c d e (L a b c d e) h i j l) ls k=ev tab (g51v1hd G66v1 G92v1 G64 L51v1l0) (bodyAt Tryd.f51 0) (atHead g51v1l0D ls) (loopK g51v1l0D 0 (loopH g51v1l0D (g51v1l0K L)) k):=by kernel_rfl
theorem g51v1Main(G66v1:Al S_g66v1)(G92v1:Al S_g92v1)(G64:Al S_g64)(L51v1l0:Al S_g51v1l0){α:Type}(ls:List Lf)(k:KRe α):
  g51v1K (g51v1b G66v1 G92v1 G64 L51v1l0) ls k=evFun tab (g51v1hd G66v1 G92v1 G64 L51v1l0) Tryd.f51 (fT g51v1tp ls) (fB g51v1tp g51v1bp ls) k:=by kernel_rfl
theorem g51v1Calls(m:Nat):(g51v1h m).CallsOk Tryd.prog:=(cok_cons (g66v1Ok m) (cok_cons (g92v1Ok m) (cok_cons (g64Ok m) cok_nil)))
theorem g51v1l0Ok(m:Nat)(α:Type)(st:St)(k:KEx α)(r:α)(h:(g51v1h m).loop 0 st k=some r):
  LoopS Tryd.prog 0 (bodyAt Tryd.f51 0) st k r:=
 lpk (F:=fun n ls k=>g51v1l0K (fun a b c d e i j l o=>g51v1l0 (g66v1 m) a b c d e n i j l o) ls k) (g51v1Calls m) (lb0 (by kernel_rfl))
  (fun _ _=>rfl) (fun n ls k=>g51v1l0Step (g66v1 m) (g92v1 m) (g64 m) (g51v1l0M m) (fun a b c d e=>g51v1l0 (g66v1 m) a b c d e n) ls k) (n:=m) h
theorem g51v1Ok(m:Nat):RowOk Tryd.prog 51 (fun{α}=>g51v1R (g51v1 m (α:=α))):=
 rwk (g51v1Calls m) (lo1 (by kernel_rfl) (g51v1l0Ok m))
  (fun _=>g51v1Main (g66v1 m) (g92v1 m) (g64 m) (g51v1l0M m))
abbrev S_g26v1(α:Type):Type:=(List Int)→(Bool→(List Int)→Option α)→Option α
def g26v1b{α:Type}(G52v1:Al S_g52v1)(G51v1:Al S_g51v1)(G64:Al S_g64)(a:List Int)(b:Bool→(List Int)→Option α):Option α:=G52v1 a (G51v1 (0:Int) (0:Int) a (fun c d e h=>let i:Int:=List.getD d 0 0;let j:Int:=List.getD d 1 0;let l:Int:=Int.fdiv (List.getD d 2 0) (2^6);G64 c [i,j,l,0,0,0] (fun n=>b n [i,j,l,0,0,0])))
def g26v1{α:Type}(m:Nat):S_g26v1 α:=
 g26v1b (g52v1 m) (g51v1 m) (g64 m)
def g26v1tp:List TP:=[(.vl (.sv (.gsl 0 1)))]
def g26v1bp:List BP:=[(false,[(.gro (.int .u8))])]
def g26v1K{α:Type}(G:S_g26v1 α)(ls:List Lf)(k:KRe α):Option α:=
 G ((lf ls 0).lst (.int .u8))
  (fun a b=>k (.vl (.agg [(.one (.bool a)),(.seq uU 6 b)])) [[(.gro (.int .u8) ((lf ls 0).lst (.int .u8)))]] [])
def g26v1R{α:Type}(G:S_g26v1 α):=rowK g26v1tp g26v1bp (g26v1K G)
def g26v1hd(G52v1:Al S_g52v1)(G51v1:Al S_g51v1)(G64:Al S_g64):Hd where
 call:=fun f args Bs k=>cond (Nat.beq f 52) (g52v1R G52v1 args Bs k) (cond (Nat.beq f 51) (g51v1R G51v1 args Bs k) (cond (Nat.beq f 64) (g64R G64 args Bs k) (none)))
 loop:=fun id st k=>none
 ro:=fun f=>cond (Nat.beq f 51) [1] (cond (Nat.beq f 52) [0] ([]))
def g26v1h(m:Nat):Hd:=g26v1hd (g52v1 m) (g51v1 m) (g64 m)
theorem g26v1Main(G52v1:Al S_g52v1)(G51v1:Al S_g51v1)(G64:Al S_g64){α:Type}(ls:List Lf)(k:KRe α):
  g26v1K (g26v1b G52v1 G51v1 G64) ls k=evFun tab (g26v1hd G52v1 G51v1 G64) Tryd.f26 (fT g26v1tp ls) (fB g26v1tp g26v1bp ls) k:=by kernel_rfl
theorem g26v1Calls(m:Nat):(g26v1h m).CallsOk Tryd.prog:=(cok_cons (g52v1Ok m) (cok_cons (g51v1Ok m) (cok_cons (g64Ok m) cok_nil)))
theorem g26v1Ok(m:Nat):RowOk Tryd.prog 26 (fun{α}=>g26v1R (g26v1 m (α:=α))):=
 rwk (g26v1Calls m) (lo0 (by kernel_rfl))
  (fun _=>g26v1Main (g52v1 m) (g51v1 m) (g64 m))
abbrev S_g27(α:Type):Type:=Bool→(List Int)→Bool→(List Int)→(Bool→(List Int)→Int→Option α)→Option α
def g27b{α:Type}(G20:Al S_g20)(G56:Al S_g56)(G57:Al S_g57)(a:Bool)(b:List Int)(c:Bool)(d:List Int)(e:Bool→(List Int)→Int→Option α):Option α:=G20 a b (fun h=>cond (!h) (e false [0,0,0,0,0,0] (1:Int)) (G20 c d (fun i=>cond (!i) (e false [0,0,0,0,0,0] (1:Int)) (G56 a b c d false (fun j l n=>G57 j l n (fun o p q=>e o p q))))))
def g27{α:Type}(m:Nat):S_g27 α:=
 g27b (g20 m) (g56 m) (g57 m)
def g27tp:List TP:=[vW,vW]
def g27bp:List BP:=[]
def g27K{α:Type}(G:S_g27 α)(ls:List Lf)(k:KRe α):Option α:=
 G (lf ls 0).bool ((lf ls 1).lst uU) (lf ls 2).bool ((lf ls 3).lst uU)
  (fun a b c=>k (.tup [(.agg [(.one (.bool a)),(.seq uU 6 b)]),(.sv (.int .i64 c))]) [] [])
def g27R{α:Type}(G:S_g27 α):=rowK g27tp g27bp (g27K G)
def g27hd(G20:Al S_g20)(G56:Al S_g56)(G57:Al S_g57):Hd where
 call:=fun f args Bs k=>cond (Nat.beq f 20) (g20R G20 args Bs k) (cond (Nat.beq f 56) (g56R G56 args Bs k) (cond (Nat.beq f 57) (g57R G57 args Bs k) (none)))
 loop:=fun id st k=>none
 ro:=fun f=>cond (Nat.beq f 57) [0] ([])
def g27h(m:Nat):Hd:=g27hd (g20 m) (g56 m) (g57 m)
theorem g27Main(G20:Al S_g20)(G56:Al S_g56)(G57:Al S_g57){α:Type}(ls:List Lf)(k:KRe α):
  g27K (g27b G20 G56 G57) ls k=evFun tab (g27hd G20 G56 G57) Tryd.f27 (fT g27tp ls) (fB g27tp g27bp ls) k:=by kernel_rfl
theorem g27Calls(m:Nat):(g27h m).CallsOk Tryd.prog:=(cok_cons (g20Ok m) (cok_cons (g56Ok m) (cok_cons (g57Ok m) cok_nil)))
theorem g27Ok(m:Nat):RowOk Tryd.prog 27 (fun{α}=>g27R (g27 m (α:=α))):=
 rwk (g27Calls m) (lo0 (by kernel_rfl))
  (fun _=>g27Main (g20 m) (g56 m) (g57 m))
abbrev S_g28(α:Type):Type:=Bool→(List Int)→Bool→(List Int)→(Bool→(List Int)→Bool→Option α)→Option α
def g28b{α:Type}(G19:Al S_g19)(a:Bool)(b:List Int)(c:Bool)(d:List Int)(e:Bool→(List Int)→Bool→Option α):Option α:=G19 a b c d (fun h i j=>e h i (j==(0:Int)))
def g28{α:Type}(m:Nat):S_g28 α:=
 g28b (g19 m)
def g28tp:List TP:=[vW,vW]
def g28bp:List BP:=[]
def g28K{α:Type}(G:S_g28 α)(ls:List Lf)(k:KRe α):Option α:=
 G (lf ls 0).bool ((lf ls 1).lst uU) (lf ls 2).bool ((lf ls 3).lst uU)
  (fun a b c=>k (.tup [(.agg [(.one (.bool a)),(.seq uU 6 b)]),(.sv (.bool c))]) [] [])
def g28R{α:Type}(G:S_g28 α):=rowK g28tp g28bp (g28K G)
def g28hd(G19:Al S_g19):Hd where
 call:=fun f args Bs k=>cond (Nat.beq f 19) (g19R G19 args Bs k) (none)
 loop:=fun id st k=>none
 ro:=fun f=>[]
def g28h(m:Nat):Hd:=g28hd (g19 m)
theorem g28Main(G19:Al S_g19){α:Type}(ls:List Lf)(k:KRe α):
  g28K (g28b G19) ls k=evFun tab (g28hd G19) Tryd.f28 (fT g28tp ls) (fB g28tp g28bp ls) k:=by kernel_rfl
theorem g28Calls(m:Nat):(g28h m).CallsOk Tryd.prog:=(cok_cons (g19Ok m) cok_nil)
theorem g28Ok(m:Nat):RowOk Tryd.prog 28 (fun{α}=>g28R (g28 m (α:=α))):=
 rwk (g28Calls m) (lo0 (by kernel_rfl))
  (fun _=>g28Main (g19 m))
abbrev S_g65(α:Type):Type:=Bool→(List Int)→Bool→(List Int)→(Bool→(List Int)→Int→Option α)→Option α
abbrev S_g65l2(α:Type):Type:=Int→Bool→(List Int)→Bool→(List Int)→Bool→(List Int)→(Int→(List Int)→Option α)→Int→Int→(List Int)→Option α
def g65l2b{α:Type}(a:Int)(b:Bool)(c:List Int)(d:Bool)(e:List Int)(h:Bool)(i:List Int)(j:Int→(List Int)→Option α)(l:Int→Int→(List Int)→Option α)(n o:Int)(p:List Int):Option α:=cond (decide (o<(6:Int))) (if 0≤a∧a<(6:Nat) then if a.toNat<6 then if 0≤o∧o<(6:Nat) then if o.toNat<6 then let q:Int:=IntKind.wrap .i64 (a+o);if 0≤q∧q<(12:Nat) then if q.toNat<12 then let r:Int:=IntKind.wrap .u64 ((IntKind.wrap .u64 ((IntKind.wrap .u64 ((IntKind.wrap .u64 (List.getD c a.toNat 0))*(IntKind.wrap .u64 (List.getD e o.toNat 0))))+(IntKind.wrap .u64 (List.getD p q.toNat 0))))+n);let s:Int:=IntKind.wrap .i64 (a+o);if 0≤s∧s<(12:Nat) then if s.toNat<12 then l (Int.fdiv r (2^32)) (IntKind.wrap .i64 (o+(1:Int))) (List.set p (s.toNat) (IntKind.wrap .u32 r)) else none else none else none else none else none else none else none else none) (j n p)
def g65l2{α:Type}(a:Int)(b:Bool)(c:List Int)(d:Bool)(e:List Int)(h:Bool)(i:List Int)(j:Int→(List Int)→Option α):Nat→Int→Int→(List Int)→Option α
 |0=>fun _ _ _=>none
 |m+1=>fun l n o=>g65l2b a b c d e h i j (g65l2 a b c d e h i j m) l n o
def g65l2M{α:Type}(m:Nat):S_g65l2 α:=
 fun a b c d e h i j l n o=>g65l2 a b c d e h i j m l n o
def g65l2D:LoopD:={n:=78,low:=[],sl:=[2,3,4,6,7,8,9],bl:=[1000000,1000001,1000002,1000003],tp:=[(.vl (.sv (.ptr 1000000 0))),(.vl (.sv (.ptr 1000001 0))),(.vl (.sv (.ptr 1000002 0))),(.vl (.sv (.ptr 1000003 0))),tI,(.vl (.sv (.int .u64))),tI],bp:=[(true,[(.one .bool),(.seq uU 6)]),(true,[(.one .bool),(.seq uU 6)]),(true,[(.one .bool),(.seq uU 6)]),(true,[(.seq uU 12)])],xs:=[(4,[2,3,4,6,7,8])]}
def g65l2K{α:Type}(L:S_g65l2 α)(ls:List Lf)(k:KEx α):Option α:=
 L (lf ls 0).int (lf ls 3).bool ((lf ls 4).lst uU) (lf ls 5).bool ((lf ls 6).lst uU) (lf ls 7).bool ((lf ls 8).lst uU)
  (fun a b=>k .normal (mkSt 78 [2,3,4,6,7,8] [(.vl (.sv (.ptr 1000000 0))),(.vl (.sv (.ptr 1000001 0))),(.vl (.sv (.ptr 1000002 0))),(.vl (.sv (.ptr 1000003 0))),(.vl (.sv (.int .i64 (lf ls 0).int))),(.vl (.sv (.int .u64 a)))] [1000000,1000001,1000002,1000003] [(true,[(.one (.bool (lf ls 3).bool)),(.seq uU 6 ((lf ls 4).lst uU))]),(true,[(.one (.bool (lf ls 5).bool)),(.seq uU 6 ((lf ls 6).lst uU))]),(true,[(.one (.bool (lf ls 7).bool)),(.seq uU 6 ((lf ls 8).lst uU))]),(true,[(.seq uU 12 b)])]))
  (lf ls 1).int (lf ls 2).int ((lf ls 9).lst uU)
abbrev S_g65l0(α:Type):Type:=Bool→(List Int)→Bool→(List Int)→Bool→(List Int)→((List Int)→Option α)→Int→(List Int)→Option α
def g65l0b{α:Type}(L65l2:Al S_g65l2)(a:Bool)(b:List Int)(c:Bool)(d:List Int)(e:Bool)(h:List Int)(i:(List Int)→Option α)(j:Int→(List Int)→Option α)(l:Int)(n:List Int):Option α:=cond (decide (l<(6:Int))) (L65l2 l a b c d e h (fun o p=>let q:Int:=IntKind.wrap .i64 (l+(6:Int));if 0≤q∧q<(12:Nat) then if q.toNat<12 then j (IntKind.wrap .i64 (l+(1:Int))) (List.set p (q.toNat) (IntKind.wrap .u32 o)) else none else none) (0:Int) (0:Int) n) (i n)
def g65l0{α:Type}(L65l2:Al S_g65l2)(a:Bool)(b:List Int)(c:Bool)(d:List Int)(e:Bool)(h:List Int)(i:(List Int)→Option α):Nat→Int→(List Int)→Option α
 |0=>fun _ _=>none
 |m+1=>fun j l=>g65l0b L65l2 a b c d e h i (g65l0 L65l2 a b c d e h i m) j l
def g65l0M{α:Type}(m:Nat):S_g65l0 α:=
 fun a b c d e h i j l=>g65l0 (g65l2M m) a b c d e h i m j l
def g65l0D:LoopD:={n:=78,low:=[],sl:=[2,3,4,6,7],bl:=[1000000,1000001,1000002,1000003],tp:=[(.vl (.sv (.ptr 1000000 0))),(.vl (.sv (.ptr 1000001 0))),(.vl (.sv (.ptr 1000002 0))),(.vl (.sv (.ptr 1000003 0))),tI],bp:=[(true,[(.one .bool),(.seq uU 6)]),(true,[(.one .bool),(.seq uU 6)]),(true,[(.one .bool),(.seq uU 6)]),(true,[(.seq uU 12)])],xs:=[(2,[2,3,4,6])]}
def g65l0K{α:Type}(L:S_g65l0 α)(ls:List Lf)(k:KEx α):Option α:=
 L (lf ls 1).bool ((lf ls 2).lst uU) (lf ls 3).bool ((lf ls 4).lst uU) (lf ls 5).bool ((lf ls 6).lst uU)
  (fun a=>k .normal (mkSt 78 [2,3,4,6] [(.vl (.sv (.ptr 1000000 0))),(.vl (.sv (.ptr 1000001 0))),(.vl (.sv (.ptr 1000002 0))),(.vl (.sv (.ptr 1000003 0)))] [1000000,1000001,1000002,1000003] [(true,[(.one (.bool (lf ls 1).bool)),(.seq uU 6 ((lf ls 2).lst uU))]),(true,[(.one (.bool (lf ls 3).bool)),(.seq uU 6 ((lf ls 4).lst uU))]),(true,[(.one (.bool (lf ls 5).bool)),(.seq uU 6 ((lf ls 6).lst uU))]),(true,[(.seq uU 12 a)])]))
  (lf ls 0).int ((lf ls 7).lst uU)
abbrev S_g65l4(α:Type):Type:=Bool→(List Int)→Bool→(List Int)→Bool→(List Int)→(List Int)→((List Int)→Option α)→((List Int)→Option α)→Int→(List Int)→Option α
def g65l4b{α:Type}(a:Bool)(b:List Int)(c:Bool)(d:List Int)(e:Bool)(h i:List Int)(j:(List Int)→Option α)(l:(List Int)→Option α)(n:Int→(List Int)→Option α)(o:Int)(p:List Int):Option α:=cond (decide (o<(6:Int))) (if 0≤o∧o<(12:Nat) then if o.toNat<12 then if 0≤o∧o<(6:Nat) then if o.toNat<6 then let q:Int:=IntKind.wrap .i64 (o+(6:Int));if 0≤q∧q<(12:Nat) then if q.toNat<12 then cond ((List.getD i q.toNat 0) !=(0:Int)) (j [0,0,0,0,0,0]) (n (IntKind.wrap .i64 (o+(1:Int))) (List.set p (o.toNat) (List.getD i o.toNat 0))) else none else none else none else none else none else none) (l p)
def g65l4{α:Type}(a:Bool)(b:List Int)(c:Bool)(d:List Int)(e:Bool)(h i:List Int)(j:(List Int)→Option α)(l:(List Int)→Option α):Nat→Int→(List Int)→Option α
 |0=>fun _ _=>none
 |m+1=>fun n o=>g65l4b a b c d e h i j l (g65l4 a b c d e h i j l m) n o
def g65l4M{α:Type}(m:Nat):S_g65l4 α:=
 fun a b c d e h i j l n o=>g65l4 a b c d e h i j l m n o
def g65l4D:LoopD:={n:=78,low:=[],sl:=[2,3,4,6,11,12],bl:=[1000000,1000001,1000002,1000003,1000004],tp:=[(.vl (.sv (.ptr 1000000 0))),(.vl (.sv (.ptr 1000001 0))),(.vl (.sv (.ptr 1000002 0))),(.vl (.sv (.ptr 1000003 0))),(.vl (.sv (.ptr 1000004 0))),tI],bp:=[(true,[(.one .bool),(.seq uU 6)]),(true,[(.one .bool),(.seq uU 6)]),(true,[(.one .bool),(.seq uU 6)]),(true,[(.seq uU 12)]),b6],xs:=[(1,[4,5]),(6,[2,3,4,11])]}
def g65l4K{α:Type}(L:S_g65l4 α)(ls:List Lf)(k:KEx α):Option α:=
 L (lf ls 1).bool ((lf ls 2).lst uU) (lf ls 3).bool ((lf ls 4).lst uU) (lf ls 5).bool ((lf ls 6).lst uU) ((lf ls 7).lst uU)
  (fun a=>k .ret (mkSt 78 [4,5] [(.vl (.sv (.ptr 1000000 0))),(.vl (.sv (.int .i64 (3:Int))))] [1000000] [(true,[(.one (.bool false)),(.seq uU 6 a)])]))
  (fun b=>k .normal (mkSt 78 [2,3,4,11] [(.vl (.sv (.ptr 1000000 0))),(.vl (.sv (.ptr 1000001 0))),(.vl (.sv (.ptr 1000002 0))),(.vl (.sv (.ptr 1000003 0)))] [1000000,1000001,1000002,1000003] [(true,[(.one (.bool (lf ls 1).bool)),(.seq uU 6 ((lf ls 2).lst uU))]),(true,[(.one (.bool (lf ls 3).bool)),(.seq uU 6 ((lf ls 4).lst uU))]),(true,[(.one (.bool (lf ls 5).bool)),(.seq uU 6 ((lf ls 6).lst uU))]),(true,[(.seq uU 6 b)])]))
  (lf ls 0).int ((lf ls 8).lst uU)
def g65b{α:Type}(G64:Al S_g64)(L65l2:Al S_g65l2)(L65l0:Al S_g65l0)(L65l4:Al S_g65l4)(a:Bool)(b:List Int)(c:Bool)(d:List Int)(e:Bool→(List Int)→Int→Option α):Option α:=L65l0 a b c d false [0,0,0,0,0,0] (fun h=>L65l4 a b c d false [0,0,0,0,0,0] h (fun i=>e false i (3:Int)) (fun j=>G64 (!(a==c)) j (fun l=>e l j (0:Int))) (0:Int) [0,0,0,0,0,0]) (0:Int) [0,0,0,0,0,0,0,0,0,0,0,0]
def g65{α:Type}(m:Nat):S_g65 α:=
 g65b (g64 m) (g65l2M m) (g65l0M m) (g65l4M m)
def g65tp:List TP:=[vW,vW]
def g65bp:List BP:=[]
def g65K{α:Type}(G:S_g65 α)(ls:List Lf)(k:KRe α):Option α:=
 G (lf ls 0).bool ((lf ls 1).lst uU) (lf ls 2).bool ((lf ls 3).lst uU)
  (fun a b c=>k (.tup [(.agg [(.one (.bool a)),(.seq uU 6 b)]),(.sv (.int .i64 c))]) [] [])
def g65R{α:Type}(G:S_g65 α):=rowK g65tp g65bp (g65K G)
def g65hd(G64:Al S_g64)(L65l2:Al S_g65l2)(L65l0:Al S_g65l0)(L65l4:Al S_g65l4):Hd where
 call:=fun f args Bs k=>cond (Nat.beq f 64) (g64R G64 args Bs k) (none)
 loop:=fun id st k=>cond (Nat.beq id 2) (loopH g65l2D (g65l2K L65l2) st k) (cond (Nat.beq id 0) (loopH g65l0D (g65l0K L65l0) st k) (cond (Nat.beq id 4) (loopH g65l4D (g65l4K L65l4) st k) (none)))
 ro:=fun f=>[]
def g65h(m:Nat):Hd:=g65hd (g64 m) (g65l2M m) (g65l0M m) (g65l4M m)
theorem g65l2Step(G64:Al S_g64)(L65l2:Al S_g65l2)(L65l0:Al S_g65l0)(L65l4:Al S_g65l4){α:Type}(L:S_g65l2 α)(ls:List Lf)(k:KEx α):
  g65l2K (fun a b c d e h i j l n o=>g65l2b a b c d e h i j (L a b c d e h i j) l n o) ls k=ev tab (g65hd G64 L65l2 L65l0 L65l4) (bodyAt Tryd.f65 2) (atHead g65l2D ls) (loopK g65l2D 2 (loopH g65l2D (g65l2K L)) k):=by kernel_rfl
theorem g65l0Step(G64:Al S_g64)(L65l2:Al S_g65l2)(L65l0:Al S_g65l0)(L65l4:Al S_g65l4){α:Type}(L:S_g65l0 α)(ls:List Lf)(k:KEx α):
  g65l0K (fun a b c d e h i j l=>g65l0b L65l2 a b c d e h i (L a b c d e h i) j l) ls k=ev tab (g65hd G64 L65l2 L65l0 L65l4) (bodyAt Tryd.f65 0) (atHead g65l0D ls) (loopK g65l0D 0 (loopH g65l0D (g65l0K L)) k):=by kernel_rfl
theorem g65l4Step(G64:Al S_g64)(L65l2:Al S_g65l2)(L65l0:Al S_g65l0)(L65l4:Al S_g65l4){α:Type}(L:S_g65l4 α)(ls:List Lf)(k:KEx α):
  g65l4K (fun a b c d e h i j l n o=>g65l4b a b c d e h i j l (L a b c d e h i j l) n o) ls k=ev tab (g65hd G64 L65l2 L65l0 L65l4) (bodyAt Tryd.f65 4) (atHead g65l4D ls) (loopK g65l4D 4 (loopH g65l4D (g65l4K L)) k):=by kernel_rfl
theorem g65Main(G64:Al S_g64)(L65l2:Al S_g65l2)(L65l0:Al S_g65l0)(L65l4:Al S_g65l4){α:Type}(ls:List Lf)(k:KRe α):
  g65K (g65b G64 L65l2 L65l0 L65l4) ls k=evFun tab (g65hd G64 L65l2 L65l0 L65l4) Tryd.f65 (fT g65tp ls) (fB g65tp g65bp ls) k:=by kernel_rfl
theorem g65Calls(m:Nat):(g65h m).CallsOk Tryd.prog:=(cok_cons (g64Ok m) cok_nil)
theorem g65l2Ok(m:Nat)(α:Type)(st:St)(k:KEx α)(r:α)(h:(g65h m).loop 2 st k=some r):
  LoopS Tryd.prog 2 (bodyAt Tryd.f65 2) st k r:=
 lpk (F:=fun n ls k=>g65l2K (fun a b c d e i j l o q s=>g65l2 a b c d e i j l n o q s) ls k) (g65Calls m) (lb0 (by kernel_rfl))
  (fun _ _=>rfl) (fun n ls k=>g65l2Step (g64 m) (g65l2M m) (g65l0M m) (g65l4M m) (fun a b c d e i j l=>g65l2 a b c d e i j l n) ls k) (n:=m) h
theorem g65l0Ok(m:Nat)(α:Type)(st:St)(k:KEx α)(r:α)(h:(g65h m).loop 0 st k=some r):
  LoopS Tryd.prog 0 (bodyAt Tryd.f65 0) st k r:=
 lpk (F:=fun n ls k=>g65l0K (fun a b c d e i j l o=>g65l0 (g65l2M m) a b c d e i j n l o) ls k) (g65Calls m) (loopsOk_of _ (fun p hp=>by
  rw[show loopsOf (bodyAt Tryd.f65 0)=[(2,bodyAt Tryd.f65 2)] by kernel_rfl] at hp
  simp only[List.mem_cons,List.not_mem_nil,or_false] at hp
  rcases hp with rfl
  exact g65l2Ok m))
  (fun _ _=>rfl) (fun n ls k=>g65l0Step (g64 m) (g65l2M m) (g65l0M m) (g65l4M m) (fun a b c d e i j=>g65l0 (g65l2M m) a b c d e i j n) ls k) (n:=m) h
theorem g65l4Ok(m:Nat)(α:Type)(st:St)(k:KEx α)(r:α)(h:(g65h m).loop 4 st k=some r):
  LoopS Tryd.prog 4 (bodyAt Tryd.f65 4) st k r:=
 lpk (F:=fun n ls k=>g65l4K (fun a b c d e i j l o q s=>g65l4 a b c d e i j l o n q s) ls k) (g65Calls m) (lb0 (by kernel_rfl))
  (fun _ _=>rfl) (fun n ls k=>g65l4Step (g64 m) (g65l2M m) (g65l0M m) (g65l4M m) (fun a b c d e i j l o=>g65l4 a b c d e i j l o n) ls k) (n:=m) h
theorem g65Fn(m:Nat):FnOk Tryd.prog 65 g65tp g65bp (fun{α}=>g65K (g65 m (α:=α))):=
 fn_ok (tab:=tab) (h:=g65h m) (fn:=Tryd.f65) (F:=fun{α}=>g65K (g65 m (α:=α))) tabOk (g65Calls m) mixed (by kernel_rfl) (by kernel_rfl) (fun c hc=>by
  rw[bodyOf_some hc]
  exact loopsOk_of _ (fun p hp=>by
  rw[show loopsOf (bodyOf Tryd.f65)=[(0,bodyAt Tryd.f65 0),(4,bodyAt Tryd.f65 4)] by kernel_rfl] at hp
  simp only[List.mem_cons,List.not_mem_nil,or_false] at hp
  rcases hp with rfl|rfl
  ·exact g65l0Ok m
  ·exact g65l4Ok m))
  (fun _=>g65Main (g64 m) (g65l2M m) (g65l0M m) (g65l4M m))
theorem g65Ok(m:Nat):RowOk Tryd.prog 65 (fun{α}=>g65R (g65 m (α:=α))):=row_of (g65Fn m)
abbrev S_g29(α:Type):Type:=Bool→(List Int)→Bool→(List Int)→(Bool→(List Int)→Int→Option α)→Option α
def g29b{α:Type}(G46:Al S_g46)(G65:Al S_g65)(a:Bool)(b:List Int)(c:Bool)(d:List Int)(e:Bool→(List Int)→Int→Option α):Option α:=G46 a b (fun h=>cond (!h) (e false [0,0,0,0,0,0] (1:Int)) (G46 c d (fun i=>cond (!i) (e false [0,0,0,0,0,0] (1:Int)) (G65 a b c d (fun j l n=>e j l n)))))
def g29{α:Type}(m:Nat):S_g29 α:=
 g29b (g46 m) (g65 m)
def g29tp:List TP:=[vW,vW]
def g29bp:List BP:=[]
def g29K{α:Type}(G:S_g29 α)(ls:List Lf)(k:KRe α):Option α:=
 G (lf ls 0).bool ((lf ls 1).lst uU) (lf ls 2).bool ((lf ls 3).lst uU)
  (fun a b c=>k (.tup [(.agg [(.one (.bool a)),(.seq uU 6 b)]),(.sv (.int .i64 c))]) [] [])
def g29R{α:Type}(G:S_g29 α):=rowK g29tp g29bp (g29K G)
def g29hd(G46:Al S_g46)(G65:Al S_g65):Hd where
 call:=fun f args Bs k=>cond (Nat.beq f 46) (g46R G46 args Bs k) (cond (Nat.beq f 65) (g65R G65 args Bs k) (none))
 loop:=fun id st k=>none
 ro:=fun f=>cond (Nat.beq f 46) [0] ([])
def g29h(m:Nat):Hd:=g29hd (g46 m) (g65 m)
theorem g29Main(G46:Al S_g46)(G65:Al S_g65){α:Type}(ls:List Lf)(k:KRe α):
  g29K (g29b G46 G65) ls k=evFun tab (g29hd G46 G65) Tryd.f29 (fT g29tp ls) (fB g29tp g29bp ls) k:=by kernel_rfl
theorem g29Calls(m:Nat):(g29h m).CallsOk Tryd.prog:=(cok_cons (g46Ok m) (cok_cons (g65Ok m) cok_nil))
theorem g29Ok(m:Nat):RowOk Tryd.prog 29 (fun{α}=>g29R (g29 m (α:=α))):=
 rwk (g29Calls m) (lo0 (by kernel_rfl))
  (fun _=>g29Main (g46 m) (g65 m))
abbrev S_g30(α:Type):Type:=Nat→Nat→Nat→Int→Nat→(List Int)→(Int→Option α)→Option α
def g30b{α:Type}(G52:Al S_g52)(G66:Al S_g66)(a b c:Nat)(d:Int)(e:Nat)(h:List Int)(i:Int→Option α):Option α:=G52 a b c e h (G66 d a b c (0:Int) (0:Int) e h (fun j l n=>i j))
def g30{α:Type}(m:Nat):S_g30 α:=
 g30b (g52 m) (g66 m)
def g30tp:List TP:=[(.vl (.sv (.sla 0 0 1))),tI]
def g30bp:List BP:=[(false,[(.seqv (.int .u8))])]
def g30K{α:Type}(G:S_g30 α)(ls:List Lf)(k:KRe α):Option α:=
 G (lf ls 0).nat (lf ls 1).nat (lf ls 2).nat (lf ls 3).int (lf ls 4).nat ((lf ls 5).lst (.int .u8))
  (fun a=>k (.vl (.sv (.int .i64 a))) [[(.seq (.int .u8) (lf ls 4).nat ((lf ls 5).lst (.int .u8)))]] [])
def g30R{α:Type}(G:S_g30 α):=rowK g30tp g30bp (g30K G)
def g30hd(G52:Al S_g52)(G66:Al S_g66):Hd where
 call:=fun f args Bs k=>cond (Nat.beq f 52) (g52R G52 args Bs k) (cond (Nat.beq f 66) (g66R G66 args Bs k) (none))
 loop:=fun id st k=>none
 ro:=fun f=>cond (Nat.beq f 52) [0] (cond (Nat.beq f 66) [1] ([]))
def g30h(m:Nat):Hd:=g30hd (g52 m) (g66 m)
theorem g30Main(G52:Al S_g52)(G66:Al S_g66){α:Type}(ls:List Lf)(k:KRe α):
  g30K (g30b G52 G66) ls k=evFun tab (g30hd G52 G66) Tryd.f30 (fT g30tp ls) (fB g30tp g30bp ls) k:=by kernel_rfl
theorem g30Calls(m:Nat):(g30h m).CallsOk Tryd.prog:=(cok_cons (g52Ok m) (cok_cons (g66Ok m) cok_nil))
theorem g30Ok(m:Nat):RowOk Tryd.prog 30 (fun{α}=>g30R (g30 m (α:=α))):=
 rwk (g30Calls m) (lo0 (by kernel_rfl))
  (fun _=>g30Main (g52 m) (g66 m))
abbrev S_g67(α:Type):Type:=Bool→(List Int)→(Int→Bool→Option α)→Option α
def g67b{α:Type}(G63:Al S_g63)(a:Bool)(b:List Int)(c:Int→Bool→Option α):Option α:=let d:Int:=ibits .or .u64 (IntKind.wrap .u64 ((IntKind.wrap .u64 (List.getD b 1 0))*2^32)) (IntKind.wrap .u64 (List.getD b 0 0));G63 b (fun e=>cond (decide (e>(64:Int))) (c (0:Int) false) (cond (decide (d>(9223372036854775808:Int))) (c (0:Int) false) (cond (d==(9223372036854775808:Int)) (cond (!a) (c (0:Int) false) (cond a (c (IntKind.wrap .i64 (IntKind.wrap .u64 (0-d))) true) (c (IntKind.wrap .i64 d) true))) (cond a (c (IntKind.wrap .i64 (IntKind.wrap .u64 (0-d))) true) (c (IntKind.wrap .i64 d) true)))))
def g67{α:Type}(m:Nat):S_g67 α:=
 g67b (g63 m)
def g67tp:List TP:=[vW]
def g67bp:List BP:=[]
def g67K{α:Type}(G:S_g67 α)(ls:List Lf)(k:KRe α):Option α:=
 G (lf ls 0).bool ((lf ls 1).lst uU)
  (fun a b=>k (.tup [(.sv (.int .i64 a)),(.sv (.bool b))]) [] [])
def g67R{α:Type}(G:S_g67 α):=rowK g67tp g67bp (g67K G)
def g67hd(G63:Al S_g63):Hd where
 call:=fun f args Bs k=>cond (Nat.beq f 63) (g63R G63 args Bs k) (none)
 loop:=fun id st k=>none
 ro:=fun f=>[]
def g67h(m:Nat):Hd:=g67hd (g63 m)
theorem g67Main(G63:Al S_g63){α:Type}(ls:List Lf)(k:KRe α):
  g67K (g67b G63) ls k=evFun tab (g67hd G63) Tryd.f67 (fT g67tp ls) (fB g67tp g67bp ls) k:=by kernel_rfl
theorem g67Calls(m:Nat):(g67h m).CallsOk Tryd.prog:=(cok_cons (g63Ok m) cok_nil)
theorem g67Ok(m:Nat):RowOk Tryd.prog 67 (fun{α}=>g67R (g67 m (α:=α))):=
 rwk (g67Calls m) (lo0 (by kernel_rfl))
  (fun _=>g67Main (g63 m))
abbrev S_g31(α:Type):Type:=Bool→(List Int)→(Int→Int→Option α)→Option α
def g31b{α:Type}(G20:Al S_g20)(G67:Al S_g67)(a:Bool)(b:List Int)(c:Int→Int→Option α):Option α:=G20 a b (fun d=>cond (!d) (c (0:Int) (1:Int)) (G67 a b (fun e h=>cond (!h) (c (0:Int) (2:Int)) (c e (0:Int)))))
def g31{α:Type}(m:Nat):S_g31 α:=
 g31b (g20 m) (g67 m)
def g31tp:List TP:=[vW]
def g31bp:List BP:=[]
def g31K{α:Type}(G:S_g31 α)(ls:List Lf)(k:KRe α):Option α:=
 G (lf ls 0).bool ((lf ls 1).lst uU)
  (fun a b=>k (.tup [(.sv (.int .i64 a)),(.sv (.int .i64 b))]) [] [])
def g31R{α:Type}(G:S_g31 α):=rowK g31tp g31bp (g31K G)
def g31hd(G20:Al S_g20)(G67:Al S_g67):Hd where
 call:=fun f args Bs k=>cond (Nat.beq f 20) (g20R G20 args Bs k) (cond (Nat.beq f 67) (g67R G67 args Bs k) (none))
 loop:=fun id st k=>none
 ro:=fun f=>[]
def g31h(m:Nat):Hd:=g31hd (g20 m) (g67 m)
theorem g31Main(G20:Al S_g20)(G67:Al S_g67){α:Type}(ls:List Lf)(k:KRe α):
  g31K (g31b G20 G67) ls k=evFun tab (g31hd G20 G67) Tryd.f31 (fT g31tp ls) (fB g31tp g31bp ls) k:=by kernel_rfl
theorem g31Calls(m:Nat):(g31h m).CallsOk Tryd.prog:=(cok_cons (g20Ok m) (cok_cons (g67Ok m) cok_nil))
theorem g31Ok(m:Nat):RowOk Tryd.prog 31 (fun{α}=>g31R (g31 m (α:=α))):=
 rwk (g31Calls m) (lo0 (by kernel_rfl))
  (fun _=>g31Main (g20 m) (g67 m))
end Go.Proofs.YtlmmgjngihlpeaaDoor.Sx
