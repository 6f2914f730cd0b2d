/- Functions. Printed by our own sx.py. -/
import Derived.Test.YtlmmgjngihlpeaaDoorSxV1
namespace Go.Proofs.YtlmmgjngihlpeaaDoor.Sx
open Go
set_option linter.unusedVariables false
set_option maxRecDepth 100000
abbrev S_g14(α:Type):Type:=Bool→(List Int)→(ByteArray→Option α)→Option α
abbrev S_g14l0(α:Type):Type:=Bool→(List Int)→(ByteArray→Option α)→ByteArray→(List Int)→Option α
def g14l0b{α:Type}(G49:Al S_g49)(G43:Al S_g43)(G50:Al S_g50)(a:Bool)(b:List Int)(c:ByteArray→Option α)(d:ByteArray→(List Int)→Option α)(e:ByteArray)(h:List Int):Option α:=G49 h (1000000000:Int) (fun i j=>G43 (IntKind.wrap .i64 j) (fun l=>cond (eqLI i [0,0,0,0,0,0]) (if l.size+e.size≤9223372036854775807 then c (l++e) else none) (G50 (⟨#[48]⟩:ByteArray) (IntKind.wrap .i64 ((9:Int)-((l.size:Nat):Int))) (fun n=>if n.size+l.size≤9223372036854775807 then let o:ByteArray:=n++l;if o.size+e.size≤9223372036854775807 then d (o++e) i else none else none))))
def g14l0{α:Type}(G49:Al S_g49)(G43:Al S_g43)(G50:Al S_g50)(a:Bool)(b:List Int)(c:ByteArray→Option α):Nat→ByteArray→(List Int)→Option α
 |0=>fun _ _=>none
 |m+1=>fun d e=>g14l0b G49 G43 G50 a b c (g14l0 G49 G43 G50 a b c m) d e
def g14l0M{α:Type}(m:Nat):S_g14l0 α:=
 fun a b c d e=>g14l0 (g49 m) (g43 m) (g50 m) a b c m d e
def g14l0D:LoopD:={n:=39,low:=[],sl:=[1,3,4],bl:=[1000000,1000001],tp:=[(.vl (.sv (.ptr 1000000 0))),(.vl (.sv (.ptr 1000001 0))),(.vl (.sv .str))],bp:=[(true,[(.one .bool),(.seq uU 6)]),b6],xs:=[(2,[1,4])]}
def g14l0K{α:Type}(L:S_g14l0 α)(ls:List Lf)(k:KEx α):Option α:=
 L (lf ls 1).bool ((lf ls 2).lst uU)
  (fun a=>k .normal (mkSt 39 [1,4] [(.vl (.sv (.ptr 1000000 0))),(.vl (.sv (.str a)))] [1000000] [(true,[(.one (.bool (lf ls 1).bool)),(.seq uU 6 ((lf ls 2).lst uU))])]))
  (lf ls 0).str ((lf ls 3).lst uU)
def g14b{α:Type}(G20:Al S_g20)(G49:Al S_g49)(G43:Al S_g43)(G50:Al S_g50)(L14l0:Al S_g14l0)(a:Bool)(b:List Int)(c:ByteArray→Option α):Option α:=G20 a b (fun d=>cond (!d) (c (⟨#[]⟩:ByteArray)) (L14l0 a b (fun e=>cond a (if(⟨#[45]⟩:ByteArray).size+e.size≤9223372036854775807 then c ((⟨#[45]⟩:ByteArray)++e) else none) (c e)) (⟨#[]⟩:ByteArray) b))
def g14{α:Type}(m:Nat):S_g14 α:=
 g14b (g20 m) (g49 m) (g43 m) (g50 m) (g14l0M m)
def g14tp:List TP:=[vW]
def g14bp:List BP:=[]
def g14K{α:Type}(G:S_g14 α)(ls:List Lf)(k:KRe α):Option α:=
 G (lf ls 0).bool ((lf ls 1).lst uU)
  (fun a=>k (.vl (.sv (.str a))) [] [])
def g14R{α:Type}(G:S_g14 α):=rowK g14tp g14bp (g14K G)
def g14hd(G20:Al S_g20)(G49:Al S_g49)(G43:Al S_g43)(G50:Al S_g50)(L14l0:Al S_g14l0):Hd where
 call:=fun f args Bs k=>cond (Nat.beq f 20) (g20R G20 args Bs k) (cond (Nat.beq f 49) (g49R G49 args Bs k) (cond (Nat.beq f 43) (g43R G43 args Bs k) (cond (Nat.beq f 50) (g50R G50 args Bs k) (none))))
 loop:=fun id st k=>cond (Nat.beq id 0) (loopH g14l0D (g14l0K L14l0) st k) (none)
 ro:=fun f=>[]
def g14h(m:Nat):Hd:=g14hd (g20 m) (g49 m) (g43 m) (g50 m) (g14l0M m)
theorem g14l0Step(G20:Al S_g20)(G49:Al S_g49)(G43:Al S_g43)(G50:Al S_g50)(L14l0:Al S_g14l0){α:Type}(L:S_g14l0 α)(ls:List Lf)(k:KEx α):
  g14l0K (fun a b c d e=>g14l0b G49 G43 G50 a b c (L a b c) d e) ls k=ev tab (g14hd G20 G49 G43 G50 L14l0) (bodyAt Tryd.f14 0) (atHead g14l0D ls) (loopK g14l0D 0 (loopH g14l0D (g14l0K L)) k):=by kernel_rfl
theorem g14Main(G20:Al S_g20)(G49:Al S_g49)(G43:Al S_g43)(G50:Al S_g50)(L14l0:Al S_g14l0){α:Type}(ls:List Lf)(k:KRe α):
  g14K (g14b G20 G49 G43 G50 L14l0) ls k=evFun tab (g14hd G20 G49 G43 G50 L14l0) Tryd.f14 (fT g14tp ls) (fB g14tp g14bp ls) k:=by kernel_rfl
theorem g14Calls(m:Nat):(g14h m).CallsOk Tryd.prog:=(cok_cons (g20Ok m) (cok_cons (g49Ok m) (cok_cons (g43Ok m) (cok_cons (g50Ok m) cok_nil))))
theorem g14l0Ok(m:Nat)(α:Type)(st:St)(k:KEx α)(r:α)(h:(g14h m).loop 0 st k=some r):
  LoopS Tryd.prog 0 (bodyAt Tryd.f14 0) st k r:=
 lpk (F:=fun n ls k=>g14l0K (fun a b c d e=>g14l0 (g49 m) (g43 m) (g50 m) a b c n d e) ls k) (g14Calls m) (lb0 (by kernel_rfl))
  (fun _ _=>rfl) (fun n ls k=>g14l0Step (g20 m) (g49 m) (g43 m) (g50 m) (g14l0M m) (fun a b c=>g14l0 (g49 m) (g43 m) (g50 m) a b c n) ls k) (n:=m) h
theorem g14Ok(m:Nat):RowOk Tryd.prog 14 (fun{α}=>g14R (g14 m (α:=α))):=
 rwk (g14Calls m) (lo1 (by kernel_rfl) (g14l0Ok m))
  (fun _=>g14Main (g20 m) (g49 m) (g43 m) (g50 m) (g14l0M m))
abbrev S_g4(α:Type):Type:=Bool→(List Int)→(Bool→Option α)→Option α
def g4b{α:Type}(G13:Al S_g13)(G12:Al S_g12)(G14:Al S_g14)(a:Bool)(b:List Int)(c:Bool→Option α):Option α:=G13 a b (fun d=>G12 a d (fun e=>G13 a b (fun h=>G14 a h (fun i=>cond (!bytesEq i e) (c false) (c true)))))
noncomputable def g4{α:Type}(m:Nat):S_g4 α:=
 g4b (g13 m) (g12 m) (g14 m)
def g4tp:List TP:=[vW]
def g4bp:List BP:=[]
def g4K{α:Type}(G:S_g4 α)(ls:List Lf)(k:KRe α):Option α:=
 G (lf ls 0).bool ((lf ls 1).lst uU)
  (fun a=>k (.vl (.sv (.bool a))) [] [])
def g4hd(G13:Al S_g13)(G12:Al S_g12)(G14:Al S_g14):Hd where
 call:=fun f args Bs k=>cond (Nat.beq f 13) (g13R G13 args Bs k) (cond (Nat.beq f 12) (g12R G12 args Bs k) (cond (Nat.beq f 14) (g14R G14 args Bs k) (none)))
 loop:=fun id st k=>none
 ro:=fun f=>[]
noncomputable def g4h(m:Nat):Hd:=g4hd (g13 m) (g12 m) (g14 m)
theorem g4Main(G13:Al S_g13)(G12:Al S_g12)(G14:Al S_g14){α:Type}(ls:List Lf)(k:KRe α):
  g4K (g4b G13 G12 G14) ls k=evFun tab (g4hd G13 G12 G14) Tryd.f4 (fT g4tp ls) (fB g4tp g4bp ls) k:=by kernel_rfl
theorem g4Calls(m:Nat):(g4h m).CallsOk Tryd.prog:=(cok_cons (g13Ok m) (cok_cons (g12Ok m) (cok_cons (g14Ok m) cok_nil)))
theorem g4Fn(m:Nat):FnOk Tryd.prog 4 g4tp g4bp (fun{α}=>g4K (g4 m (α:=α))):=
 fnk (g4Calls m) (lo0 (by kernel_rfl))
  (fun _=>g4Main (g13 m) (g12 m) (g14 m))
end Go.Proofs.YtlmmgjngihlpeaaDoor.Sx
