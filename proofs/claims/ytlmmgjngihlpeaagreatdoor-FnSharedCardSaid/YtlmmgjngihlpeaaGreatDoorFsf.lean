/- Part 6 of the proof that what is shared, pruned and joined is approximated as before, that terms are read from their texts, and that decimals begin as the approximations tell. Our own work, shortened by a program of ours. -/
import Derived.Test.YtlmmgjngihlpeaaGreatDoorFse
namespace Go.Proofs.YtlmmgjngihlpeaaGreatDoor.Sx
open Go
set_option linter.unusedVariables false
set_option linter.unusedSimpArgs false
set_option maxRecDepth 100000
noncomputable section
variable {α:Type}
variable (G82:ax H6)(G75:ax M6)(G34:ax El)(G122:ax Cv)(G31:ax Tx)(G42:ax HY)(G74:ax xH)(G35:ax Em)(G79:ax M7)(G16:ax Ej)(G81:ax TF)
abbrev abq(α:Type):Type:=ByteArray->Int->(Bool->Option α)->(Nat->Nat->Nat->Ty1->Option α)->Option α
def ayZ:abq α:=λa b c d=>cond (bY a (⟨#[]⟩:ByteArray)) (c true) (let e:Int:=IntKind.wrap .i64 (((a.size:Nat):Int)-1);if 0<=e/\e<a.size then cond ((iZ a e.toNat) !=10) (c false) (G75 a (⟨#[10]⟩:ByteArray) (λh=>cond (decide (h>b)) (c false) (let i:Int:=IntKind.wrap .i64 (((a.size:Nat):Int)-1);if 0<=(0:Int)/\0<=i/\i<=((a.size:Nat):Int) then G34 (ByteArray.extract a 0 (Int.toNat i)) (⟨#[10]⟩:ByteArray) (λj l n o=>d j l n o) else none))) else none)
def g32(m:Nat):abq α:=ayZ (g75 m) (Fv m)
def amk:bR abq:=⟨32,[(.vl (.sv .str)),bD],[],λG ls k=>G (QvS ls 0) (aI ls 1)
  (λa=>k (.iO [(.sv .gM),(.sv (.bool a))]) [] [])
  (λb c d e=>k (.iO [(.sv (.eX 0 0 1 0 b c)),(.sv (.bool true))]) [] [[(.seq .str d e)]])⟩
def atV:Hd:=⟨aL 75 (aK aE2 G75)<|aL 34 (aK atY G34)<|bZ,cO,cZ⟩
theorem aDb:dz amk (ayZ G75 G34) (atV G75 G34) Tryz.f32:=λ_ _ _=>by kernel_rfl
theorem aC_(m:Nat):(atV (g75 m) (Fv m)).ah bE:=(aM (aE1 m) (aM (atX m) cK))
theorem aDa(m:Nat):bB amk (g32 m):=bT (aC_ m) (aDb (g75 m) (Fv m))
variable (G32:ax abq)
abbrev abG(α:Type):Type:=ByteArray->(Int->Option α)->Option α
abbrev F5(α:Type):Type:=Int->Option α
abbrev acg(α β:Type):Type:=ByteArray->(Int->Option α)->(Option α)->β
abbrev vZ(α:Type):Type:=acg α (F5 α)
def aah:acg α (F5 α->F5 α):=λa b c d e=>cond (decide (e<=12)) (G81 e (λh=>cond (bY h a) (b e) (d (IntKind.wrap .i8 (e+1))))) (c)
def Bp(a:ByteArray)(b:Int->Option α)(c:Option α):Nat->F5 α
 |0=>λ_=>none
 |m+1=>λd=>aah G81 a b c (Bp a b c m) d
def aeb(m n:Nat):vZ α:=λa b c d=>Bp (Tc m) a b c n d
def Kq(m:Nat):vZ α:=aeb m m
def Ry:jh vZ:=⟨0,⟨13,[],[0,3],[],[(.vl (.sv .str)),(.vl (.sv (.int .i8)))],[],[(1,[2]),(2,[])]⟩,λL ls k=>L (QvS ls 0) (λa=>k .ret (bG 13 [2] [(.vl (.sv (.int .i8 a)))] [] [])) (k .normal (bG 13 [] [] [] [])) (aI ls 1)⟩
def arl(r:vZ α):vZ α:=λa b c d=>aah G81 a b c (r a b c) d
variable (L76l0:ax vZ)
def azC:abG α:=λa b=>L76l0 a (λc=>b c) (b 0) 1
def g76(m:Nat):abG α:=azC (Kq m)
def am5:bR abG:=⟨76,[(.vl (.sv .str))],[],λG ls k=>G (QvS ls 0)
  (λa=>k (.vl (.sv (.int .i8 a))) [] [])⟩
def am4:Hd:=⟨aL 81 (aK aeg G81)<|bZ,jD 0 (aS Ry L76l0)<|cO,cZ⟩
theorem arn:jq Ry (arl G81) (am4 G81 L76l0) Tryz.f76:=λ_ _ _ _=>by kernel_rfl
theorem aE4:dz am5 (azC L76l0) (am4 G81 L76l0) Tryz.f76:=λ_ _ _=>by kernel_rfl
theorem auW(m:Nat):(am4 (Tc m) (Kq m)).ah bE:=(aM (au3 m) cK)
theorem ark(m:Nat):jg (aS Ry (Kq m)) 0 Tryz.f76:=
 jy [] (λn=>aeb m n) m (auW m) trivial (arn (Tc m) (Kq m))
theorem aE3(m:Nat):bB am5 (g76 m):=gu [0] (auW m) ⟨(ark m),trivial⟩ (aE4 (Tc m) (Kq m))
variable (G76:ax abG)
abbrev abH(α:Type):Type:=ByteArray->(Int->Bool->Option α)->Option α
def azD:abH α:=λa b=>G122 a 10 64 (λc=>G82 c 10 (λd=>b c (bY d a))) (λe=>b e false)
def g77(m:Nat):abH α:=azD (g82 m) (Fu m)
def aed:bR abH:=⟨77,[(.vl (.sv .str))],[],λG ls k=>G (QvS ls 0)
  (λa b=>k (.iO [(.sv (.int .i64 a)),(.sv (.bool b))]) [] [])⟩
def auY:Hd:=⟨aL 122 (aK awZ G122)<|aL 82 (aK au5 G82)<|bZ,cO,cZ⟩
theorem aE6:dz aed (azD G82 G122) (auY G82 G122) Tryz.f77:=λ_ _ _=>by kernel_rfl
theorem aE5(m:Nat):(auY (g82 m) (Fu m)).ah bE:=(aM (awY m) (aM (au4 m) cK))
theorem auZ(m:Nat):bB aed (g77 m):=bT (aE5 m) (aE6 (g82 m) (Fu m))
variable (G77:ax abH)
abbrev MV(α:Type):Type:=Nat->Nat->Nat->Nat->Ty1->(Int->Int->Int->ByteArray->ByteArray->Bool->Option α)->Option α
def ay0:MV α:=λa b c d e h=>if 0<=(0:Int)/\(0:Int)<(b:Nat) then if(a+0)<d then G76 (List.getD e (a+0) ⟨#[]⟩) (λi=>G35 i (λj l n=>cond n (cond n (cond (i==0) (h 0 0 0 (⟨#[]⟩:ByteArray) (⟨#[]⟩:ByteArray) false) (cond (((b:Nat):Int) !=3) (h 0 0 0 (⟨#[]⟩:ByteArray) (⟨#[]⟩:ByteArray) false) (cond n (if 0<=(1:Int)/\(1:Int)<(b:Nat) then if(a+1)<d then G77 (List.getD e (a+1) ⟨#[]⟩) (λo p=>if 0<=(2:Int)/\(2:Int)<(b:Nat) then if(a+2)<d then G77 (List.getD e (a+2) ⟨#[]⟩) (λq r=>cond p (h i o q (⟨#[]⟩:ByteArray) (⟨#[]⟩:ByteArray) r) (h i o q (⟨#[]⟩:ByteArray) (⟨#[]⟩:ByteArray) false)) else none else none) else none else none) (cond j (if 0<=(1:Int)/\(1:Int)<(b:Nat) then if(a+1)<d then let s:ByteArray:=List.getD e (a+1) ⟨#[]⟩;cond l (if 0<=(2:Int)/\(2:Int)<(b:Nat) then if(a+2)<d then h i 0 0 s (List.getD e (a+2) ⟨#[]⟩) true else none else none) (h i 0 0 s (⟨#[]⟩:ByteArray) true) else none else none) (cond l (if 0<=(2:Int)/\(2:Int)<(b:Nat) then if(a+2)<d then h i 0 0 (⟨#[]⟩:ByteArray) (List.getD e (a+2) ⟨#[]⟩) true else none else none) (h i 0 0 (⟨#[]⟩:ByteArray) (⟨#[]⟩:ByteArray) true)))))) (cond l (cond (i==0) (h 0 0 0 (⟨#[]⟩:ByteArray) (⟨#[]⟩:ByteArray) false) (cond (((b:Nat):Int) !=3) (h 0 0 0 (⟨#[]⟩:ByteArray) (⟨#[]⟩:ByteArray) false) (cond n (if 0<=(1:Int)/\(1:Int)<(b:Nat) then if(a+1)<d then G77 (List.getD e (a+1) ⟨#[]⟩) (λt u=>if 0<=(2:Int)/\(2:Int)<(b:Nat) then if(a+2)<d then G77 (List.getD e (a+2) ⟨#[]⟩) (λv w=>cond u (h i t v (⟨#[]⟩:ByteArray) (⟨#[]⟩:ByteArray) w) (h i t v (⟨#[]⟩:ByteArray) (⟨#[]⟩:ByteArray) false)) else none else none) else none else none) (cond j (if 0<=(1:Int)/\(1:Int)<(b:Nat) then if(a+1)<d then let x:ByteArray:=List.getD e (a+1) ⟨#[]⟩;cond l (if 0<=(2:Int)/\(2:Int)<(b:Nat) then if(a+2)<d then h i 0 0 x (List.getD e (a+2) ⟨#[]⟩) true else none else none) (h i 0 0 x (⟨#[]⟩:ByteArray) true) else none else none) (cond l (if 0<=(2:Int)/\(2:Int)<(b:Nat) then if(a+2)<d then h i 0 0 (⟨#[]⟩:ByteArray) (List.getD e (a+2) ⟨#[]⟩) true else none else none) (h i 0 0 (⟨#[]⟩:ByteArray) (⟨#[]⟩:ByteArray) true)))))) (cond (i==0) (h 0 0 0 (⟨#[]⟩:ByteArray) (⟨#[]⟩:ByteArray) false) (cond (((b:Nat):Int) !=2) (h 0 0 0 (⟨#[]⟩:ByteArray) (⟨#[]⟩:ByteArray) false) (cond n (if 0<=(1:Int)/\(1:Int)<(b:Nat) then if(a+1)<d then G77 (List.getD e (a+1) ⟨#[]⟩) (λy z=>if 0<=(2:Int)/\(2:Int)<(b:Nat) then if(a+2)<d then G77 (List.getD e (a+2) ⟨#[]⟩) (λa0 b0=>cond z (h i y a0 (⟨#[]⟩:ByteArray) (⟨#[]⟩:ByteArray) b0) (h i y a0 (⟨#[]⟩:ByteArray) (⟨#[]⟩:ByteArray) false)) else none else none) else none else none) (cond j (if 0<=(1:Int)/\(1:Int)<(b:Nat) then if(a+1)<d then let c0:ByteArray:=List.getD e (a+1) ⟨#[]⟩;cond l (if 0<=(2:Int)/\(2:Int)<(b:Nat) then if(a+2)<d then h i 0 0 c0 (List.getD e (a+2) ⟨#[]⟩) true else none else none) (h i 0 0 c0 (⟨#[]⟩:ByteArray) true) else none else none) (cond l (if 0<=(2:Int)/\(2:Int)<(b:Nat) then if(a+2)<d then h i 0 0 (⟨#[]⟩:ByteArray) (List.getD e (a+2) ⟨#[]⟩) true else none else none) (h i 0 0 (⟨#[]⟩:ByteArray) (⟨#[]⟩:ByteArray) true)))))))) (cond j (cond n (cond (i==0) (h 0 0 0 (⟨#[]⟩:ByteArray) (⟨#[]⟩:ByteArray) false) (cond (((b:Nat):Int) !=3) (h 0 0 0 (⟨#[]⟩:ByteArray) (⟨#[]⟩:ByteArray) false) (cond n (if 0<=(1:Int)/\(1:Int)<(b:Nat) then if(a+1)<d then G77 (List.getD e (a+1) ⟨#[]⟩) (λd0 e0=>if 0<=(2:Int)/\(2:Int)<(b:Nat) then if(a+2)<d then G77 (List.getD e (a+2) ⟨#[]⟩) (λh0 i0=>cond e0 (h i d0 h0 (⟨#[]⟩:ByteArray) (⟨#[]⟩:ByteArray) i0) (h i d0 h0 (⟨#[]⟩:ByteArray) (⟨#[]⟩:ByteArray) false)) else none else none) else none else none) (cond j (if 0<=(1:Int)/\(1:Int)<(b:Nat) then if(a+1)<d then let j0:ByteArray:=List.getD e (a+1) ⟨#[]⟩;cond l (if 0<=(2:Int)/\(2:Int)<(b:Nat) then if(a+2)<d then h i 0 0 j0 (List.getD e (a+2) ⟨#[]⟩) true else none else none) (h i 0 0 j0 (⟨#[]⟩:ByteArray) true) else none else none) (cond l (if 0<=(2:Int)/\(2:Int)<(b:Nat) then if(a+2)<d then h i 0 0 (⟨#[]⟩:ByteArray) (List.getD e (a+2) ⟨#[]⟩) true else none else none) (h i 0 0 (⟨#[]⟩:ByteArray) (⟨#[]⟩:ByteArray) true)))))) (cond l (cond (i==0) (h 0 0 0 (⟨#[]⟩:ByteArray) (⟨#[]⟩:ByteArray) false) (cond (((b:Nat):Int) !=3) (h 0 0 0 (⟨#[]⟩:ByteArray) (⟨#[]⟩:ByteArray) false) (cond n (if 0<=(1:Int)/\(1:Int)<(b:Nat) then if(a+1)<d then G77 (List.getD e (a+1) ⟨#[]⟩) (λl0 n0=>if 0<=(2:Int)/\(2:Int)<(b:Nat) then if(a+2)<d then G77 (List.getD e (a+2) ⟨#[]⟩) (λo0 p0=>cond n0 (h i l0 o0 (⟨#[]⟩:ByteArray) (⟨#[]⟩:ByteArray) p0) (h i l0 o0 (⟨#[]⟩:ByteArray) (⟨#[]⟩:ByteArray) false)) else none else none) else none else none) (cond j (if 0<=(1:Int)/\(1:Int)<(b:Nat) then if(a+1)<d then let q0:ByteArray:=List.getD e (a+1) ⟨#[]⟩;cond l (if 0<=(2:Int)/\(2:Int)<(b:Nat) then if(a+2)<d then h i 0 0 q0 (List.getD e (a+2) ⟨#[]⟩) true else none else none) (h i 0 0 q0 (⟨#[]⟩:ByteArray) true) else none else none) (cond l (if 0<=(2:Int)/\(2:Int)<(b:Nat) then if(a+2)<d then h i 0 0 (⟨#[]⟩:ByteArray) (List.getD e (a+2) ⟨#[]⟩) true else none else none) (h i 0 0 (⟨#[]⟩:ByteArray) (⟨#[]⟩:ByteArray) true)))))) (cond (i==0) (h 0 0 0 (⟨#[]⟩:ByteArray) (⟨#[]⟩:ByteArray) false) (cond (((b:Nat):Int) !=2) (h 0 0 0 (⟨#[]⟩:ByteArray) (⟨#[]⟩:ByteArray) false) (cond n (if 0<=(1:Int)/\(1:Int)<(b:Nat) then if(a+1)<d then G77 (List.getD e (a+1) ⟨#[]⟩) (λr0 s0=>if 0<=(2:Int)/\(2:Int)<(b:Nat) then if(a+2)<d then G77 (List.getD e (a+2) ⟨#[]⟩) (λt0 u0=>cond s0 (h i r0 t0 (⟨#[]⟩:ByteArray) (⟨#[]⟩:ByteArray) u0) (h i r0 t0 (⟨#[]⟩:ByteArray) (⟨#[]⟩:ByteArray) false)) else none else none) else none else none) (cond j (if 0<=(1:Int)/\(1:Int)<(b:Nat) then if(a+1)<d then let v0:ByteArray:=List.getD e (a+1) ⟨#[]⟩;cond l (if 0<=(2:Int)/\(2:Int)<(b:Nat) then if(a+2)<d then h i 0 0 v0 (List.getD e (a+2) ⟨#[]⟩) true else none else none) (h i 0 0 v0 (⟨#[]⟩:ByteArray) true) else none else none) (cond l (if 0<=(2:Int)/\(2:Int)<(b:Nat) then if(a+2)<d then h i 0 0 (⟨#[]⟩:ByteArray) (List.getD e (a+2) ⟨#[]⟩) true else none else none) (h i 0 0 (⟨#[]⟩:ByteArray) (⟨#[]⟩:ByteArray) true)))))))) (cond n (cond (i==0) (h 0 0 0 (⟨#[]⟩:ByteArray) (⟨#[]⟩:ByteArray) false) (cond (((b:Nat):Int) !=2) (h 0 0 0 (⟨#[]⟩:ByteArray) (⟨#[]⟩:ByteArray) false) (cond n (if 0<=(1:Int)/\(1:Int)<(b:Nat) then if(a+1)<d then G77 (List.getD e (a+1) ⟨#[]⟩) (λw0 x0=>if 0<=(2:Int)/\(2:Int)<(b:Nat) then if(a+2)<d then G77 (List.getD e (a+2) ⟨#[]⟩) (λy0 z0=>cond x0 (h i w0 y0 (⟨#[]⟩:ByteArray) (⟨#[]⟩:ByteArray) z0) (h i w0 y0 (⟨#[]⟩:ByteArray) (⟨#[]⟩:ByteArray) false)) else none else none) else none else none) (cond j (if 0<=(1:Int)/\(1:Int)<(b:Nat) then if(a+1)<d then let a1:ByteArray:=List.getD e (a+1) ⟨#[]⟩;cond l (if 0<=(2:Int)/\(2:Int)<(b:Nat) then if(a+2)<d then h i 0 0 a1 (List.getD e (a+2) ⟨#[]⟩) true else none else none) (h i 0 0 a1 (⟨#[]⟩:ByteArray) true) else none else none) (cond l (if 0<=(2:Int)/\(2:Int)<(b:Nat) then if(a+2)<d then h i 0 0 (⟨#[]⟩:ByteArray) (List.getD e (a+2) ⟨#[]⟩) true else none else none) (h i 0 0 (⟨#[]⟩:ByteArray) (⟨#[]⟩:ByteArray) true)))))) (cond l (cond (i==0) (h 0 0 0 (⟨#[]⟩:ByteArray) (⟨#[]⟩:ByteArray) false) (cond (((b:Nat):Int) !=2) (h 0 0 0 (⟨#[]⟩:ByteArray) (⟨#[]⟩:ByteArray) false) (cond n (if 0<=(1:Int)/\(1:Int)<(b:Nat) then if(a+1)<d then G77 (List.getD e (a+1) ⟨#[]⟩) (λb1 c1=>if 0<=(2:Int)/\(2:Int)<(b:Nat) then if(a+2)<d then G77 (List.getD e (a+2) ⟨#[]⟩) (λd1 e1=>cond c1 (h i b1 d1 (⟨#[]⟩:ByteArray) (⟨#[]⟩:ByteArray) e1) (h i b1 d1 (⟨#[]⟩:ByteArray) (⟨#[]⟩:ByteArray) false)) else none else none) else none else none) (cond j (if 0<=(1:Int)/\(1:Int)<(b:Nat) then if(a+1)<d then let h1:ByteArray:=List.getD e (a+1) ⟨#[]⟩;cond l (if 0<=(2:Int)/\(2:Int)<(b:Nat) then if(a+2)<d then h i 0 0 h1 (List.getD e (a+2) ⟨#[]⟩) true else none else none) (h i 0 0 h1 (⟨#[]⟩:ByteArray) true) else none else none) (cond l (if 0<=(2:Int)/\(2:Int)<(b:Nat) then if(a+2)<d then h i 0 0 (⟨#[]⟩:ByteArray) (List.getD e (a+2) ⟨#[]⟩) true else none else none) (h i 0 0 (⟨#[]⟩:ByteArray) (⟨#[]⟩:ByteArray) true)))))) (cond (i==0) (h 0 0 0 (⟨#[]⟩:ByteArray) (⟨#[]⟩:ByteArray) false) (cond (((b:Nat):Int) !=1) (h 0 0 0 (⟨#[]⟩:ByteArray) (⟨#[]⟩:ByteArray) false) (cond n (if 0<=(1:Int)/\(1:Int)<(b:Nat) then if(a+1)<d then G77 (List.getD e (a+1) ⟨#[]⟩) (λi1 j1=>if 0<=(2:Int)/\(2:Int)<(b:Nat) then if(a+2)<d then G77 (List.getD e (a+2) ⟨#[]⟩) (λl1 n1=>cond j1 (h i i1 l1 (⟨#[]⟩:ByteArray) (⟨#[]⟩:ByteArray) n1) (h i i1 l1 (⟨#[]⟩:ByteArray) (⟨#[]⟩:ByteArray) false)) else none else none) else none else none) (cond j (if 0<=(1:Int)/\(1:Int)<(b:Nat) then if(a+1)<d then let o1:ByteArray:=List.getD e (a+1) ⟨#[]⟩;cond l (if 0<=(2:Int)/\(2:Int)<(b:Nat) then if(a+2)<d then h i 0 0 o1 (List.getD e (a+2) ⟨#[]⟩) true else none else none) (h i 0 0 o1 (⟨#[]⟩:ByteArray) true) else none else none) (cond l (if 0<=(2:Int)/\(2:Int)<(b:Nat) then if(a+2)<d then h i 0 0 (⟨#[]⟩:ByteArray) (List.getD e (a+2) ⟨#[]⟩) true else none else none) (h i 0 0 (⟨#[]⟩:ByteArray) (⟨#[]⟩:ByteArray) true))))))))))) else none else none
def Ri(m:Nat):MV α:=ay0 (kG m) (g76 m) (g77 m)
def aml:bR MV:=⟨33,[(.vl (.sv (.eX 0 0 1)))],[(false,[(.iD .str)])],λG ls k=>G (aO ls 0) (aO ls 1) (aO ls 2) (aO ls 3) ((lf ls 4).ak .str)
  (λa b c d e h=>k (.iO [(.sv (.int .i8 a)),(.sv (.int .i64 b)),(.sv (.int .i64 c)),(.sv (.str d)),(.sv (.str e)),(.sv (.bool h))]) [[(.seq .str (aO ls 3) ((lf ls 4).ak .str))]] [])⟩
def atW:Hd:=⟨aL 76 (aK am5 G76)<|aL 35 (aK xK G35)<|aL 77 (aK aed G77)<|bZ,cO,cZ⟩
theorem aDf:dz aml (ay0 G35 G76 G77) (atW G35 G76 G77) Tryz.f33:=λ_ _ _=>by kernel_rfl
theorem aDd(m:Nat):(atW (kG m) (g76 m) (g77 m)).ah bE:=(aM (aE3 m) (aM (EM m) (aM (auZ m) cK)))
theorem aDe(m:Nat):bB aml (Ri m):=bT (aDd m) (aDf (kG m) (g76 m) (g77 m))
variable (G33:ax MV)
abbrev MW(α:Type):Type:=ByteArray->(Int->Option α)->Option α
def ay2:MW α:=λa b=>G77 a (λc d=>cond (!d) (b (-1)) (G79 c 0 1000 (λe=>cond (!e) (b (-1)) (b (IntKind.wrap .i16 c)))))
def Bj(m:Nat):MW α:=ay2 (Kr m) (g77 m)
def amm:bR MW:=⟨36,[(.vl (.sv .str))],[],λG ls k=>G (QvS ls 0)
  (λa=>k (.vl (.sv (.int .i16 a))) [] [])⟩
def at5:Hd:=⟨aL 77 (aK aed G77)<|aL 79 (aK NU G79)<|bZ,cO,cZ⟩
theorem aDl:dz amm (ay2 G79 G77) (at5 G79 G77) Tryz.f36:=λ_ _ _=>by kernel_rfl
theorem aDj(m:Nat):(at5 (Kr m) (g77 m)).ah bE:=(aM (auZ m) (aM (aef m) cK))
theorem aDk(m:Nat):bB amm (Bj m):=bT (aDj m) (aDl (Kr m) (g77 m))
variable (G36:ax MW)
abbrev ag5(α:Type):Type:=ByteArray->(Option α)->(aH->Option α)->Option α
abbrev PD(α:Type):Type:=Option α
abbrev aha(α β:Type):Type:=Int->Int->aH->(Option α)->β
abbrev Cx(α:Type):Type:=aha α (PD α)
def au1:aha α (PD α->PD α):=λa b c d e=>cond (decide (b<a)) (none) (d)
def azG(a b:Int)(c:aH)(d:Option α):Nat->PD α
 |0=>none
 |m+1=>au1 a b c d (azG a b c d m)
def am6(m n:Nat):Cx α:=λa b c d=>azG a b c d n
def NV(m:Nat):Cx α:=am6 m m
def aaj:jh Cx:=⟨0,⟨72,[],[6,27,28,29],[1000000],[(.vl (.sv (.aQ 1000000 5))),(.vl (.sv .gM)),bD,bD],[(true,[(.aD aB)])],[(2,[6])]⟩,λL ls k=>L (aI ls 0) (aI ls 1) ((lf ls 2).ak aB) (k .normal (bG 72 [6] [(.vl (.sv (.aQ 1000000 5)))] [1000000] [(true,[(.aD aB ((lf ls 2).ak aB))])]))⟩
def azI(r:Cx α):Cx α:=λa b c d=>au1 a b c d (r a b c d)
variable (L7l0:ax Cx)
abbrev Af(α:Type):Type:=Int->aH->Option α
abbrev Uq(α β:Type):Type:=Nat->Nat->Nat->Int->Nat->Ty1->(Option α)->(aH->Option α)->β
abbrev qJ(α:Type):Type:=Uq α (Af α)
def RA(G34:ax El)(G33:ax MV)(G35:ax Em)(G36:ax MW):Uq α (Af α->Af α):=λa b c d e h i j l n o=>cond (decide (n<d)) (if 0<=n/\n<(b:Nat) then if(a+n.toNat)<e then G34 (List.getD h (a+n.toNat) ⟨#[]⟩) (⟨#[32]⟩:ByteArray) (λp q r s=>G33 0 p q r s (λt u v w x y=>cond (!y) (i) (G35 t (λz a0 b0=>cond z (G36 w (λc0=>cond a0 (G36 x (λd0=>if o.length+1<=67108864 then l (IntKind.wrap .i64 (n+1)) (o++[[t,c0,d0,u,v]]) else none)) (if o.length+1<=67108864 then l (IntKind.wrap .i64 (n+1)) (o++[[t,c0,0,u,v]]) else none))) (cond a0 (G36 x (λe0=>if o.length+1<=67108864 then l (IntKind.wrap .i64 (n+1)) (o++[[t,0,e0,u,v]]) else none)) (if o.length+1<=67108864 then l (IntKind.wrap .i64 (n+1)) (o++[[t,0,0,u,v]]) else none)))))) else none else none) (j o)
def mD(G34:ax El)(G33:ax MV)(G35:ax Em)(G36:ax MW)(a b c:Nat)(d:Int)(e:Nat)(h:Ty1)(i:Option α)(j:aH->Option α):Nat->Af α
 |0=>λ_ _=>none
 |m+1=>λl n=>RA G34 G33 G35 G36 a b c d e h i j (mD G34 G33 G35 G36 a b c d e h i j m) l n
def Wo(m n:Nat):qJ α:=λa b c d e h i j l o=>mD (Fv m) (Ri m) (kG m) (Bj m) a b c d e h i j n l o
def wP(m:Nat):qJ α:=Wo m m
def Kt:jh qJ:=⟨0,⟨72,[],[6,27,28,29],[1000000,1000001],[(.vl (.sv (.aQ 1000000 5))),(.vl (.sv (.eX 1000001 0 1))),bD,bD],[(true,[(.aD aB)]),(true,[(.iD .str)])],[(1,[2,3]),(2,[6])]⟩,λL ls k=>L (aO ls 0) (aO ls 1) (aO ls 2) (aI ls 3) (aO ls 6) ((lf ls 7).ak .str) (k .ret (bG 72 [2,3] [(.vl (.sv .gM)),(xE (5:Int))] [] [])) (λa=>k .normal (bG 72 [6] [(.vl (.sv (.aQ 1000000 5)))] [1000000] [(true,[(.aD aB a)])])) (aI ls 4) ((lf ls 5).ak aB)⟩
def am8(r:qJ α):qJ α:=λa b c d e h i j l n=>RA G34 G33 G35 G36 a b c d e h i j (r a b c d e h i j) l n
variable (L7l0v1:ax qJ)
def g7b:ag5 α:=λa b c=>G32 a 40 (λd=>cond (!d) (b) (L7l0 0 0 [] (G16 [] (λe=>cond (!e) (b) (c []))))) (λh i j l=>L7l0v1 0 h i ((h:Nat):Int) j l (b) (λn=>G16 n (λo=>cond (!o) (b) (c n))) 0 [])
def g7(m:Nat):ag5 α:=g7b (g16 m) (g32 m) (NV m) (wP m)
def azF:bR ag5:=⟨7,[(.vl (.sv .str))],[],λG ls k=>G (QvS ls 0)
  (k (.iO [(.sv .gM),(.sv (.int .i64 (5:Int)))]) [] [])
  (λa=>k (.iO [(.sv (.aQ 0 5)),(.sv (.int .i64 (0:Int)))]) [] [[(.aD aB a)]])⟩
def aro:Hd:=⟨aL 32 (aK amk G32)<|aL 16 (aK EJ G16)<|aL 34 (aK atY G34)<|aL 33 (aK aml G33)<|aL 35 (aK xK G35)<|aL 36 (aK amm G36)<|bZ,jD 0 (QLe aaj L7l0 (aS Kt L7l0v1))<|cO,bH 16 [0]<|bH 33 [0]<|cZ⟩
theorem azJ:jq aaj (azI) (aro G34 G35 G16 G32 G33 G36 L7l0 L7l0v1) Tryz.f7:=λ_ _ _ _=>by kernel_rfl
theorem am9:jq Kt (am8 G34 G35 G33 G36) (aro G34 G35 G16 G32 G33 G36 L7l0 L7l0v1) Tryz.f7:=λ_ _ _ _=>by kernel_rfl
theorem aHI:dz azF (g7b G16 G32 L7l0 L7l0v1) (aro G34 G35 G16 G32 G33 G36 L7l0 L7l0v1) Tryz.f7:=λ_ _ _=>by kernel_rfl
theorem azE(m:Nat):(aro (Fv m) (kG m) (g16 m) (g32 m) (Ri m) (Bj m) (NV m) (wP m)).ah bE:=(aM (aDa m) (aM (VW m) (aM (atX m) (aM (aDe m) (aM (EM m) (aM (aDk m) cK))))))
theorem azH(m:Nat):jg (aS aaj (NV m)) 0 Tryz.f7:=
 jy [] (λn=>am6 m n) m (azE m) trivial (azJ (Fv m) (kG m) (g16 m) (g32 m) (Ri m) (Bj m) (NV m) (wP m))
theorem am7(m:Nat):jg (aS Kt (wP m)) 0 Tryz.f7:=
 jy [] (λn=>Wo m n) m (azE m) trivial (am9 (Fv m) (kG m) (g16 m) (g32 m) (Ri m) (Bj m) (NV m) (wP m))
theorem aHH(m:Nat):bB azF (g7 m):=gu [0] (azE m) ⟨(Qle (azH m) (am7 m)),trivial⟩ (aHI (Fv m) (kG m) (g16 m) (g32 m) (Ri m) (Bj m) (NV m) (wP m))
variable (G7:ax ag5)
abbrev ag6(α:Type):Type:=aH->aH->(Bool->Option α)->Option α
abbrev PE(α:Type):Type:=Int->Option α
abbrev ahb(α β:Type):Type:=aH->aH->(Option α)->(Option α)->β
abbrev Cy(α:Type):Type:=ahb α (PE α)
def anv:ahb α (PE α->PE α):=λa b c d e h=>cond (decide (h<((a.length:Nat):Int))) (if 0<=h/\h<(a.length:Nat) then if h.toNat<a.length then if 0<=h/\h<(b.length:Nat) then if h.toNat<b.length then cond (!((((List.getD a h.toNat []).headD 0)==((List.getD b h.toNat []).headD 0))&&((((List.getD a h.toNat []).tail.headD 0)==((List.getD b h.toNat []).tail.headD 0))&&((((List.getD a h.toNat []).tail.tail.headD 0)==((List.getD b h.toNat []).tail.tail.headD 0))&&((((List.getD a h.toNat []).tail.tail.tail.headD 0)==((List.getD b h.toNat []).tail.tail.tail.headD 0))&&(((List.getD a h.toNat []).tail.tail.tail.tail.headD 0)==((List.getD b h.toNat []).tail.tail.tail.tail.headD 0))))))) (c) (e (IntKind.wrap .i64 (h+1))) else none else none else none else none) (d)
def afU(a b:aH)(c d:Option α):Nat->PE α
 |0=>λ_=>none
 |m+1=>λe=>anv a b c d (afU a b c d m) e
def ant(m n:Nat):Cy α:=λa b c d e=>afU a b c d n e
def Wv(m:Nat):Cy α:=ant m m
def aao:jh Cy:=⟨0,⟨26,[0,1],[0,1,5],[0,1],[(.vl (.sv (.aQ 0 5))),(.vl (.sv (.aQ 1 5))),bD],[(false,[(.aD aB)]),(false,[(.aD aB)])],[(1,[4]),(2,[])]⟩,λL ls k=>L ((lf ls 1).ak aB) ((lf ls 2).ak aB) (k .ret (bG 26 [4] [(zm false)] [0,1] [(false,[(.aD aB ((lf ls 1).ak aB))]),(false,[(.aD aB ((lf ls 2).ak aB))])])) (k .normal (bG 26 [] [] [0,1] [(false,[(.aD aB ((lf ls 1).ak aB))]),(false,[(.aD aB ((lf ls 2).ak aB))])])) (aI ls 0)⟩
def az7(r:Cy α):Cy α:=λa b c d e=>anv a b c d (r a b c d) e
variable (L9l0:ax Cy)
def g9b:ag6 α:=λa b c=>cond (((a.length:Nat):Int) !=((b.length:Nat):Int)) (c false) (L9l0 a b (c false) (c true) 0)
def g9(m:Nat):ag6 α:=g9b (Wv m)
def az5:bR ag6:=⟨9,[(.vl (.sv (.aQ 0 5))),(.vl (.sv (.aQ 1 5)))],[(false,[(.aD aB)]),(false,[(.aD aB)])],λG ls k=>G ((lf ls 0).ak aB) ((lf ls 1).ak aB)
  (λa=>k (zm a) [[(.aD aB ((lf ls 0).ak aB))],[(.aD aB ((lf ls 1).ak aB))]] [])⟩
def az4:Hd:=⟨bZ,jD 0 (aS aao L9l0)<|cO,cZ⟩
theorem az8:jq aao (az7) (az4 L9l0) Tryz.f9:=λ_ _ _ _=>by kernel_rfl
theorem aHT:dz az5 (g9b L9l0) (az4 L9l0) Tryz.f9:=λ_ _ _=>by kernel_rfl
theorem aF3(m:Nat):(az4 (Wv m)).ah bE:=cK
theorem az6(m:Nat):jg (aS aao (Wv m)) 0 Tryz.f9:=
 jy [] (λn=>ant m n) m (aF3 m) trivial (az8 (Wv m))
theorem aHS(m:Nat):bB az5 (g9 m):=gu [0] (aF3 m) ⟨(az6 m),trivial⟩ (aHT (Wv m))
variable (G9:ax ag6)
abbrev abr(α:Type):Type:=aH->aH->(Bool->Option α)->Option α
abbrev FR(α:Type):Type:=Int->Option α
abbrev ab4(α β:Type):Type:=Int->aH->aH->(Option α)->(Option α)->β
abbrev vO(α:Type):Type:=ab4 α (FR α)
def ZY:ab4 α (FR α->FR α):=λa b c d e h i=>cond (decide (i<a)) (if 0<=i/\i<(b.length:Nat) then if i.toNat<b.length then if 0<=i/\i<(c.length:Nat) then if i.toNat<c.length then cond (!((((List.getD b i.toNat []).headD 0)==((List.getD c i.toNat []).headD 0))&&((((List.getD b i.toNat []).tail.headD 0)==((List.getD c i.toNat []).tail.headD 0))&&((((List.getD b i.toNat []).tail.tail.headD 0)==((List.getD c i.toNat []).tail.tail.headD 0))&&((((List.getD b i.toNat []).tail.tail.tail.headD 0)==((List.getD c i.toNat []).tail.tail.tail.headD 0))&&(((List.getD b i.toNat []).tail.tail.tail.tail.headD 0)==((List.getD c i.toNat []).tail.tail.tail.tail.headD 0))))))) (d) (h (IntKind.wrap .i64 (i+1))) else none else none else none else none) (e)
def NI(a:Int)(b c:aH)(d e:Option α):Nat->FR α
 |0=>λ_=>none
 |m+1=>λh=>ZY a b c d e (NI a b c d e m) h
def adE(m n:Nat):vO α:=λa b c d e h=>NI a b c d e n h
def J9(m:Nat):vO α:=adE m m
def Rj:jh vO:=⟨0,⟨26,[0,1],[0,1,12,13],[0,1],[(.vl (.sv (.aQ 0 5))),(.vl (.sv (.aQ 1 5))),bD,bD],[(false,[(.aD aB)]),(false,[(.aD aB)])],[(1,[4]),(2,[])]⟩,λL ls k=>L (aI ls 0) ((lf ls 2).ak aB) ((lf ls 3).ak aB) (k .ret (bG 26 [4] [(zm false)] [0,1] [(false,[(.aD aB ((lf ls 2).ak aB))]),(false,[(.aD aB ((lf ls 3).ak aB))])])) (k .normal (bG 26 [] [] [0,1] [(false,[(.aD aB ((lf ls 2).ak aB))]),(false,[(.aD aB ((lf ls 3).ak aB))])])) (aI ls 1)⟩
def aqp(r:vO α):vO α:=λa b c d e h=>ZY a b c d e (r a b c d e) h
variable (L41l0:ax vO)
def ay6:abr α:=λa b c=>cond (((a.length:Nat):Int) !=((b.length:Nat):Int)) (c false) (L41l0 ((a.length:Nat):Int) a b (c false) (c true) 0)
def g41(m:Nat):abr α:=ay6 (J9 m)
def ams:bR abr:=⟨41,[(.vl (.sv (.aQ 0 5))),(.vl (.sv (.aQ 1 5)))],[(false,[(.aD aB)]),(false,[(.aD aB)])],λG ls k=>G ((lf ls 0).ak aB) ((lf ls 1).ak aB)
  (λa=>k (zm a) [[(.aD aB ((lf ls 0).ak aB))],[(.aD aB ((lf ls 1).ak aB))]] [])⟩
def amr:Hd:=⟨bZ,jD 0 (aS Rj L41l0)<|cO,cZ⟩
theorem aqr:jq Rj (aqp) (amr L41l0) Tryz.f41:=λ_ _ _ _=>by kernel_rfl
theorem aDz:dz ams (ay6 L41l0) (amr L41l0) Tryz.f41:=λ_ _ _=>by kernel_rfl
theorem aud(m:Nat):(amr (J9 m)).ah bE:=cK
theorem aqo(m:Nat):jg (aS Rj (J9 m)) 0 Tryz.f41:=
 jy [] (λn=>adE m n) m (aud m) trivial (aqr (J9 m))
theorem aDy(m:Nat):bB ams (g41 m):=gu [0] (aud m) ⟨(aqo m),trivial⟩ (aDz (J9 m))
variable (G41:ax abr)
abbrev Tf(α:Type):Type:=aH->aH->(Bool->Option α)->Option α
def aws:Tf α:=λa b c=>G41 a b (λd=>c d)
def g10(m:Nat):Tf α:=aws (g41 m)
def ain:bR Tf:=⟨10,[(.vl (.sv (.aQ 0 5))),(.vl (.sv (.aQ 1 5)))],[(false,[(.aD aB)]),(false,[(.aD aB)])],λG ls k=>G ((lf ls 0).ak aB) ((lf ls 1).ak aB)
  (λa=>k (zm a) [[(.aD aB ((lf ls 0).ak aB))],[(.aD aB ((lf ls 1).ak aB))]] [])⟩
def as4:Hd:=⟨aL 41 (aK ams G41)<|bZ,cO,bH 41 [0,1]<|cZ⟩
theorem aBG:dz ain (aws G41) (as4 G41) Tryz.f10:=λ_ _ _=>by kernel_rfl
theorem aBE(m:Nat):(as4 (g41 m)).ah bE:=(aM (aDy m) cK)
theorem aBF(m:Nat):bB ain (g10 m):=bT (aBE m) (aBG (g41 m))
variable (G10:ax Tf)
abbrev Tg(α:Type):Type:=Nat->Nat->Nat->Int->Nat->aA->(Int->Option α)->Option α
def awX:Tg α:=λa b c d e h i=>G31 a b c e h (G42 d a b c 0 0 e h (λj l n=>i j))
def g11(m:Nat):Tg α:=awX (g31 m) (uT m)
def ajf:bR Tg:=⟨11,[(.vl (.sv (.rA 0 0 1))),bD],[(false,[(.iD (.int .u8))])],λG ls k=>G (aO ls 0) (aO ls 1) (aO ls 2) (aI ls 3) (aO ls 4) ((lf ls 5).ak (.int .u8))
  (λa=>k (xE a) [[(.seq (.int .u8) (aO ls 4) ((lf ls 5).ak (.int .u8)))]] [])⟩
def as_:Hd:=⟨aL 31 (aK adD G31)<|aL 42 (aK EO G42)<|bZ,cO,bH 31 [0]<|bH 42 [1]<|cZ⟩
theorem aBN:dz ajf (awX G31 G42) (as_ G31 G42) Tryz.f11:=λ_ _ _=>by kernel_rfl
theorem aBL(m:Nat):(as_ (g31 m) (uT m)).ah bE:=(aM (atS m) (aM (NJ m) cK))
theorem aBM(m:Nat):bB ajf (g11 m):=bT (aBL m) (aBN (g31 m) (uT m))
variable (G11:ax Tg)
abbrev abR(α:Type):Type:=Int->Int->Int->(Bool->Option α)->Option α
def aFN:abR α:=λa b c d=>cond (decide (a>=b)) (d (decide (a<=c))) (d false)
def Td(m:Nat):abR α:=aFN
def N7:bR abR:=⟨94,[bD,bD,bD],[],λG ls k=>G (aI ls 0) (aI ls 1) (aI ls 2)
  (λa=>k (zm a) [] [])⟩
def avi:Hd:=⟨bZ,cO,cZ⟩
theorem aFM:dz N7 (aFN) (avi) Tryz.f94:=λ_ _ _=>by kernel_rfl
theorem aFL(m:Nat):(avi).ah bE:=cK
theorem aen(m:Nat):bB N7 (Td m):=bT (aFL m) (aFM)
variable (G94:ax abR)
abbrev H7(α:Type):Type:=Int->(Bool->Option α)->Option α
def aFz:H7 α:=λa b=>cond (a==6) (b true) (cond (a==7) (b true) (b (a==10)))
def Mr(m:Nat):H7 α:=aFz
def NY:bR H7:=⟨90,[(.vl (.sv (.int .i8)))],[],λG ls k=>G (aI ls 0)
  (λa=>k (zm a) [] [])⟩
def ave:Hd:=⟨bZ,cO,cZ⟩
theorem aFy:dz NY (aFz) (ave) Tryz.f90:=λ_ _ _=>by kernel_rfl
theorem aFx(m:Nat):(ave).ah bE:=cK
theorem aek(m:Nat):bB NY (Mr m):=bT (aFx m) (aFy)
variable (G90:ax H7)
abbrev abS(α:Type):Type:=Nat->Int->aH->(Bool->Option α)->Option α
def azW:abS α:=λa b c d=>if a<c.length then cond (decide (((List.getD c a []).headD 0)<1)) (d false) (if a<c.length then cond (decide (((List.getD c a []).headD 0)>12)) (d false) (if a<c.length then G90 ((List.getD c a []).headD 0) (λe=>cond e (if a<c.length then G94 (IntKind.wrap .i64 (((List.getD c a []).tail).headD 0)) 0 (IntKind.wrap .i64 (b-1)) (λh=>cond (!h) (d false) (if a<c.length then cond ((((List.getD c a []).tail.tail.tail).headD 0) !=0) (d false) (if a<c.length then cond ((((List.getD c a []).tail.tail.tail.tail).headD 0) !=0) (d false) (if a<c.length then G74 ((List.getD c a []).headD 0) (λi=>cond i (if a<c.length then G94 (IntKind.wrap .i64 (((List.getD c a []).tail.tail).headD 0)) 0 (IntKind.wrap .i64 (b-1)) (λj=>d j) else none) (if a<c.length then d ((((List.getD c a []).tail.tail).headD 0)==0) else none)) else none) else none) else none)) else none) (if a<c.length then G74 ((List.getD c a []).headD 0) (λl=>cond l (if a<c.length then G94 (IntKind.wrap .i64 (((List.getD c a []).tail).headD 0)) 0 (IntKind.wrap .i64 (b-1)) (λn=>cond (!n) (d false) (if a<c.length then cond ((((List.getD c a []).tail.tail.tail).headD 0) !=0) (d false) (if a<c.length then cond ((((List.getD c a []).tail.tail.tail.tail).headD 0) !=0) (d false) (if a<c.length then G74 ((List.getD c a []).headD 0) (λo=>cond o (if a<c.length then G94 (IntKind.wrap .i64 (((List.getD c a []).tail.tail).headD 0)) 0 (IntKind.wrap .i64 (b-1)) (λp=>d p) else none) (if a<c.length then d ((((List.getD c a []).tail.tail).headD 0)==0) else none)) else none) else none) else none)) else none) (if a<c.length then cond ((((List.getD c a []).tail).headD 0) !=0) (d false) (if a<c.length then cond ((((List.getD c a []).tail.tail).headD 0) !=0) (d false) (if a<c.length then cond (((List.getD c a []).headD 0)==1) (if a<c.length then G94 (((List.getD c a []).tail.tail.tail).headD 0) (-1000000000) 1000000000 (λq=>cond q (if a<c.length then G94 (((List.getD c a []).tail.tail.tail.tail).headD 0) 1 1000000000 (λr=>d r) else none) (d false)) else none) (if a<c.length then cond ((((List.getD c a []).tail.tail.tail).headD 0)==0) (if a<c.length then d ((((List.getD c a []).tail.tail.tail.tail).headD 0)==0) else none) (d false) else none) else none) else none) else none)) else none)) else none) else none) else none
def g95(m:Nat):abS α:=azW (xM m) (Td m) (Mr m)
def anm:bR abS:=⟨95,[(.vl (.sv (.el 0 0 5 0))),bD],[(false,[(.aD aB)])],λG ls k=>G (aO ls 0) (aI ls 1) ((lf ls 2).ak aB)
  (λa=>k (zm a) [[(.aD aB ((lf ls 2).ak aB))]] [])⟩
def avj:Hd:=⟨aL 90 (aK NY G90)<|aL 94 (aK N7 G94)<|aL 74 (aK Ko G74)<|bZ,cO,cZ⟩
theorem aFQ:dz anm (azW G74 G94 G90) (avj G74 G94 G90) Tryz.f95:=λ_ _ _=>by kernel_rfl
theorem aFO(m:Nat):(avj (xM m) (Td m) (Mr m)).ah bE:=(aM (aek m) (aM (aen m) (aM (Wn m) cK)))
theorem aFP(m:Nat):bB anm (g95 m):=bT (aFO m) (aFQ (xM m) (Td m) (Mr m))
variable (G95:ax abS)
abbrev TA(α:Type):Type:=aH->(Bool->Option α)->Option α
abbrev FX(α:Type):Type:=Int->Option α
abbrev ab9(α β:Type):Type:=aH->(Option α)->(Option α)->β
abbrev vT(α:Type):Type:=ab9 α (FX α)
def amP:ab9 α (FX α->FX α):=λa b c d e=>cond (decide (e<((a.length:Nat):Int))) (if 0<=e/\e<(a.length:Nat) then G95 (e.toNat) e a (λh=>cond (!h) (b) (d (IntKind.wrap .i64 (e+1)))) else none) (c)
def NQ(a:aH)(b c:Option α):Nat->FX α
 |0=>λ_=>none
 |m+1=>λd=>amP G95 a b c (NQ a b c m) d
def adV(m n:Nat):vT α:=λa b c d=>NQ (g95 m) a b c n d
def Kk(m:Nat):vT α:=adV m m
def Rs:jh vT:=⟨0,⟨20,[0],[0,3],[0],[(.vl (.sv (.aQ 0 5))),bD],[(false,[(.aD aB)])],[(1,[2]),(2,[])]⟩,λL ls k=>L ((lf ls 1).ak aB) (k .ret (bG 20 [2] [(zm false)] [0] [(false,[(.aD aB ((lf ls 1).ak aB))])])) (k .normal (bG 20 [] [] [0] [(false,[(.aD aB ((lf ls 1).ak aB))])])) (aI ls 0)⟩
def aqS(r:vT α):vT α:=λa b c d=>amP G95 a b c (r a b c) d
variable (L57l0:ax vT)
def aEm:TA α:=λa b=>G94 ((a.length:Nat):Int) 1 40 (λc=>cond (!c) (b false) (L57l0 a (b false) (b true) 0))
def Ta(m:Nat):TA α:=aEm (Td m) (Kk m)
def Wh:bR TA:=⟨57,[(.vl (.sv (.aQ 0 5)))],[(false,[(.aD aB)])],λG ls k=>G ((lf ls 0).ak aB)
  (λa=>k (zm a) [[(.aD aB ((lf ls 0).ak aB))]] [])⟩
def amN:Hd:=⟨aL 94 (aK N7 G94)<|aL 95 (aK anm G95)<|bZ,jD 0 (aS Rs L57l0)<|cO,bH 95 [0]<|cZ⟩
theorem aqT:jq Rs (aqS G95) (amN G94 G95 L57l0) Tryz.f57:=λ_ _ _ _=>by kernel_rfl
theorem aEl:dz Wh (aEm G94 L57l0) (amN G94 G95 L57l0) Tryz.f57:=λ_ _ _=>by kernel_rfl
theorem auA(m:Nat):(amN (Td m) (g95 m) (Kk m)).ah bE:=(aM (aen m) (aM (aFP m) cK))
theorem aqR(m:Nat):jg (aS Rs (Kk m)) 0 Tryz.f57:=
 jy [] (λn=>adV m n) m (auA m) trivial (aqT (Td m) (g95 m) (Kk m))
theorem amO(m:Nat):bB Wh (Ta m):=gu [0] (auA m) ⟨(aqR m),trivial⟩ (aEl (Td m) (g95 m) (Kk m))
variable (G57:ax TA)
abbrev abJ(α:Type):Type:=Int->aH->(Bool->Option α)->Option α
def azN:abJ α:=λa b c=>G94 a 0 (IntKind.wrap .i64 (((b.length:Nat):Int)-1)) (λd=>c d)
def g85(m:Nat):abJ α:=azN (Td m)
def ana:bR abJ:=⟨85,[(.vl (.sv (.aQ 0 5))),bD],[(false,[(.aD aB)])],λG ls k=>G (aI ls 0) ((lf ls 1).ak aB)
  (λa=>k (zm a) [[(.aD aB ((lf ls 1).ak aB))]] [])⟩
def au_:Hd:=⟨aL 94 (aK N7 G94)<|bZ,cO,cZ⟩
theorem aFh:dz ana (azN G94) (au_ G94) Tryz.f85:=λ_ _ _=>by kernel_rfl
theorem aFf(m:Nat):(au_ (Td m)).ah bE:=(aM (aen m) cK)
theorem aFg(m:Nat):bB ana (g85 m):=bT (aFf m) (aFh (Td m))
variable (G85:ax abJ)
abbrev abK(α:Type):Type:=Int->(Bool->Option α)->Option α
def azO:abK α:=λa b=>G94 a 0 64 (λc=>b c)
def g86(m:Nat):abK α:=azO (Td m)
def anb:bR abK:=⟨86,[bD],[],λG ls k=>G (aI ls 0)
  (λa=>k (zm a) [] [])⟩
def ava:Hd:=⟨aL 94 (aK N7 G94)<|bZ,cO,cZ⟩
theorem aFl:dz anb (azO G94) (ava G94) Tryz.f86:=λ_ _ _=>by kernel_rfl
theorem aFj(m:Nat):(ava (Td m)).ah bE:=(aM (aen m) cK)
theorem aFk(m:Nat):bB anb (g86 m):=bT (aFj m) (aFl (Td m))
variable (G86:ax abK)
abbrev MX(α:Type):Type:=Int->Int->aH->(Int->Option α)->Option α
def ay8:MX α:=λa b c d=>G57 c (λe=>cond (!e) (d 1) (G85 a c (λh=>cond (!h) (d 2) (G86 b (λi=>cond (!i) (d 2) (d 0))))))
def NK(m:Nat):MX α:=ay8 (Ta m) (g85 m) (g86 m)
def NM:bR MX:=⟨43,[(.vl (.sv (.aQ 0 5))),bD,bD],[(false,[(.aD aB)])],λG ls k=>G (aI ls 0) (aI ls 1) ((lf ls 2).ak aB)
  (λa=>k (xE a) [[(.aD aB ((lf ls 2).ak aB))]] [])⟩
def auf:Hd:=⟨aL 57 (aK Wh G57)<|aL 85 (aK ana G85)<|aL 86 (aK anb G86)<|bZ,cO,bH 57 [0]<|bH 85 [0]<|cZ⟩
theorem aDE:dz NM (ay8 G57 G85 G86) (auf G57 G85 G86) Tryz.f43:=λ_ _ _=>by kernel_rfl
theorem aDD(m:Nat):(auf (Ta m) (g85 m) (g86 m)).ah bE:=(aM (amO m) (aM (aFg m) (aM (aFk m) cK)))
theorem adG(m:Nat):bB NM (NK m):=bT (aDD m) (aDE (Ta m) (g85 m) (g86 m))
variable (G43:ax MX)
abbrev MZ(α:Type):Type:=aH->(Nat->Nat->gN->aH->Option α)->Option α
def ay9:MZ α:=λa b=>if((a.length:Nat):Int)=((a.length:Nat):Int)/\0<=((a.length:Nat):Int)/\((a.length:Nat):Int)<=1048576 then let c:Nat:=a.length;b c c (List.replicate c []) [] else none
def Z0(m:Nat):MZ α:=ay9
def V_:bR MZ:=⟨44,[(.vl (.sv (.aQ 0 5)))],[(false,[(.aD aB)])],λG ls k=>G ((lf ls 0).ak aB)
  (λa b c d=>k (gL 1) [[(.aD aB ((lf ls 0).ak aB))]] [[(.one (.aQ 0 5)),(.one (.eX 2 0 1 0 a b)),(.one (.aQ 3 2))],[(.rws tJ c none)],[(.aD aY d)]])⟩
def aug:Hd:=⟨bZ,cO,cZ⟩
theorem aDH:dz V_ (ay9) (aug) Tryz.f44:=λ_ _ _=>by kernel_rfl
theorem aDG(m:Nat):(aug).ah bE:=cK
theorem amu(m:Nat):bB V_ (Z0 m):=bT (aDG m) (aDH)
variable (G44:ax MZ)
abbrev x_(α:Type):Type:=aA->(Bool->Option α)->Option α
def akZ:x_ α:=λa b=>b (dI a [0,0,0,0,0,0])
def lX(m:Nat):x_ α:=akZ
def Df:bR x_:=⟨157,[(bL 0)],[(false,[(.seq aC 6)])],λG ls k=>G ((lf ls 0).ak aC)
  (λa=>k (zm a) [[(bX ((lf ls 0).ak aC))]] [])⟩
def akY:Hd:=⟨bZ,cO,cZ⟩
theorem ax_:dz Df (akZ) (akY) Tryz.f157:=λ_ _ _=>by kernel_rfl
theorem ax9(m:Nat):(akY).ah bE:=cK
theorem QT(m:Nat):bB Df (lX m):=bT (ax9 m) (ax_)
variable (G157:ax x_)
abbrev Pg(α:Type):Type:=Bool->aA->(Bool->Option α)->Option α
def akq:Pg α:=λa b c=>cond a (G157 b (λd=>c (!d))) (c false)
def iH(m:Nat):Pg α:=akq (lX m)
def sD:bR Pg:=⟨150,[(.vl (.sv .bool)),(.vl (.agg [(.seq aC 6)]))],[],λG ls k=>G (eu ls 0) ((lf ls 1).ak aC)
  (λa=>k (.vl (.agg [(lN a),(bX ((lf ls 1).ak aC))])) [] [])⟩
def akp:Hd:=⟨aL 157 (aK Df G157)<|bZ,cO,bH 157 [0]<|cZ⟩
theorem axV:dz sD (akq G157) (akp G157) Tryz.f150:=λ_ _ _=>by kernel_rfl
theorem axU(m:Nat):(akp (lX m)).ah bE:=(aM (QT m) cK)
theorem yH(m:Nat):bB sD (iH m):=bT (axU m) (axV (lX m))
variable (G150:ax Pg)
abbrev jT(α:Type):Type:=Int->(Bool->aA->Option α)->Option α
def aim:jT α:=λa b=>let c:Int:=IntKind.wrap .u64 a;cond (decide (a<0)) (let d:Int:=IntKind.wrap .u64 (0-c);let e:List Int:=List.set (List.set [0,0,0,0,0,0] 0 (IntKind.wrap .u32 d)) 1 (IntKind.wrap .u32 (Int.fdiv d (2^32)));G150 (decide (a<0)) e (λh=>b h e)) (let i:List Int:=List.set (List.set [0,0,0,0,0,0] 0 (IntKind.wrap .u32 c)) 1 (IntKind.wrap .u32 (Int.fdiv c (2^32)));G150 (decide (a<0)) i (λj=>b j i))
def bM(m:Nat):jT α:=aim (iH m)
def nL:bR jT:=⟨109,[bD],[],λG ls k=>G (aI ls 0)
  (λa b=>k (S_ a b) [] [])⟩
def ail:Hd:=⟨aL 150 (aK sD G150)<|bZ,cO,cZ⟩
theorem awq:dz nL (aim G150) (ail G150) Tryz.f109:=λ_ _ _=>by kernel_rfl
theorem awp(m:Nat):(ail (iH m)).ah bE:=(aM (yH m) cK)
theorem si(m:Nat):bB nL (bM m):=bT (awp m) (awq (iH m))
variable (G109:ax jT)
abbrev O6(α:Type):Type:=aA->(Int->Option α)->Option α
abbrev zM(α:Type):Type:=Int->Int->Option α
abbrev TU(α β:Type):Type:=Int->aA->(Int->Option α)->β
abbrev qh(α:Type):Type:=TU α (zM α)
def Qw:TU α (zM α->zM α):=λa b c d e h=>cond (decide (h>0)) (d (IntKind.wrap .i64 (e+1)) (Int.fdiv h (2^1))) (c e)
def lg(a:Int)(b:aA)(c:Int->Option α):Nat->zM α
 |0=>λ_ _=>none
 |m+1=>λd e=>Qw a b c (lg a b c m) d e
def Vp(m n:Nat):qh α:=λa b c d e=>lg a b c n d e
def wL(m:Nat):qh α:=Vp m m
def Jk:jh qh:=⟨2,⟨31,[0],[3,4,5],[0],[bD,bD,(.vl (.sv (.int .u32)))],[(false,[(.seq aC 6)])],[(4,[3,4])]⟩,λL ls k=>L (aI ls 0) ((lf ls 3).ak aC) (λa=>k .normal (bG 31 [3,4] [(.vl (.sv (.int .i64 (aI ls 0)))),(xE a)] [0] [(false,[(bX ((lf ls 3).ak aC))])])) (aI ls 1) (aI ls 2)⟩
def ai3(r:qh α):qh α:=λa b c d e=>Qw a b c (r a b c) d e
variable (L115l2:ax qh)
abbrev zL(α:Type):Type:=Int->Option α
abbrev TT(α β:Type):Type:=aA->(Int->Option α)->(Option α)->β
abbrev qf(α:Type):Type:=TT α (zL α)
def ac7:TT α (zL α->zL α):=λa b c d e=>cond (decide (e>=0)) (if 0<=e/\e<(6:Nat) then if e.toNat<6 then cond ((List.getD a e.toNat 0)==0) (d (IntKind.wrap .i64 (e-1))) (if 0<=e/\e<(6:Nat) then if e.toNat<6 then L115l2 e a (λh=>b (IntKind.wrap .i64 ((IntKind.wrap .i64 (32*e))+h))) 0 (List.getD a e.toNat 0) else none else none) else none else none) (c)
def aiY(a:aA)(b:Int->Option α)(c:Option α):Nat->zL α
 |0=>λ_=>none
 |m+1=>λd=>ac7 L115l2 a b c (aiY a b c m) d
def Vn(m n:Nat):qf α:=λa b c d=>aiY (wL m) a b c n d
def wK(m:Nat):qf α:=Vn m m
def Jj:jh qf:=⟨0,⟨31,[0],[0,3],[0],[(bL 0),bD],[(false,[(.seq aC 6)])],[(1,[2]),(2,[])]⟩,λL ls k=>L ((lf ls 1).ak aC) (λa=>k .ret (bG 31 [2] [(xE a)] [0] [(false,[(bX ((lf ls 1).ak aC))])])) (k .normal (bG 31 [] [] [0] [(false,[(bX ((lf ls 1).ak aC))])])) (aI ls 0)⟩
def ai0(r:qf α):qf α:=λa b c d=>ac7 L115l2 a b c (r a b c) d
variable (L115l0:ax qf)
def as8:O6 α:=λa b=>L115l0 a (λc=>b c) (b 0) 5
def nN(m:Nat):O6 α:=as8 (wK m)
def C9:bR O6:=⟨115,[(bL 0)],[(false,[(.seq aC 6)])],λG ls k=>G ((lf ls 0).ak aC)
  (λa=>k (xE a) [[(bX ((lf ls 0).ak aC))]] [])⟩
def Qu:Hd:=⟨bZ,jD 2 (aS Jk L115l2)<|jD 0 (aS Jj L115l0)<|cO,cZ⟩
theorem ai4:jq Jk (ai3) (Qu L115l2 L115l0) Tryz.f115:=λ_ _ _ _=>by kernel_rfl
theorem ai1:jq Jj (ai0 L115l2) (Qu L115l2 L115l0) Tryz.f115:=λ_ _ _ _=>by kernel_rfl
theorem awM:dz C9 (as8 L115l0) (Qu L115l2 L115l0) Tryz.f115:=λ_ _ _=>by kernel_rfl
theorem YN(m:Nat):(Qu (wL m) (wK m)).ah bE:=cK
theorem ai2(m:Nat):jg (aS Jk (wL m)) 2 Tryz.f115:=
 jy [] (λn=>Vp m n) m (YN m) trivial (ai4 (wL m) (wK m))
theorem aiZ(m:Nat):jg (aS Jj (wK m)) 0 Tryz.f115:=
 jy [2] (λn=>Vn m n) m (YN m) ⟨(ai2 m),trivial⟩ (ai1 (wL m) (wK m))
theorem Qv(m:Nat):bB C9 (nN m):=gu [0] (YN m) ⟨(aiZ m),trivial⟩ (awM (wL m) (wK m))
variable (G115:ax O6)
abbrev Pj(α:Type):Type:=Int->aA->(aA->Bool->Option α)->Option α
abbrev zS(α:Type):Type:=Int->aA->Option α
abbrev Ub(α β:Type):Type:=Int->aA->aA->(aA->Option α)->β
abbrev qp(α:Type):Type:=Ub α (zS α)
def Gm:Ub α (zS α->zS α):=λa b c d e h i=>cond (decide (h<6)) (let j:Int:=IntKind.wrap .i64 (h+(IntKind.wrap .i64 (Int.tdiv a 32)));cond (decide (j>=6)) (d i) (if 0<=h/\h<(6:Nat) then if h.toNat<6 then let l:Int:=IntKind.wrap .u64 (Int.tmod a 32);if l<0 then none else let n:Int:=IntKind.wrap .u64 ((IntKind.wrap .u64 (List.getD b h.toNat 0))*2^(min l.toNat 64));if 0<=j/\j<(6:Nat) then if j.toNat<6 then if 0<=j/\j<(6:Nat) then if j.toNat<6 then let o:List Int:=List.set i (j.toNat) (dJ .or .u32 (List.getD i j.toNat 0) (IntKind.wrap .u32 n));cond (decide ((IntKind.wrap .i64 (j+1))<6)) (let p:Int:=IntKind.wrap .i64 (j+1);if 0<=p/\p<(6:Nat) then if p.toNat<6 then if 0<=p/\p<(6:Nat) then if p.toNat<6 then e (IntKind.wrap .i64 (h+1)) (List.set o (p.toNat) (dJ .or .u32 (List.getD o p.toNat 0) (IntKind.wrap .u32 (Int.fdiv n (2^32))))) else none else none else none else none) (e (IntKind.wrap .i64 (h+1)) o) else none else none else none else none else none else none)) (d i)
def uP(a:Int)(b:aA)(c:aA)(d:aA->Option α):Nat->zS α
 |0=>λ_ _=>none
 |m+1=>λe h=>Gm a b c d (uP a b c d m) e h
def akA(m n:Nat):qp α:=λa b c d e h=>uP a b c d n e h
def wM(m:Nat):qp α:=λa b c d e h=>uP a b c d m e h
def JC:jh qp:=⟨0,⟨62,[0],[0,1,4,6,7],[0,1000001,1000002],[(bL 0),bD,(bL 1000001),(bL 1000002),bD],[(false,[(.seq aC 6)]),(true,[(.seq aC 6)]),(true,[(.seq aC 6)])],[(2,[4,6])]⟩,λL ls k=>L (aI ls 0) ((lf ls 2).ak aC) ((lf ls 3).ak aC) (λa=>k .normal (bG 62 [4,6] [(gL 1000001),(gL 1000002)] [0,1000001,1000002] [(false,[(bX ((lf ls 2).ak aC))]),(true,[(bX ((lf ls 3).ak aC))]),(true,[(bX a)])])) (aI ls 1) ((lf ls 4).ak aC)⟩
def akC(r:qp α):qp α:=λa b c d e h=>Gm a b c d (r a b c d) e h
variable (L152l0:ax qp)
def akz:Pj α:=λa b c=>G115 b (λd=>cond (decide ((IntKind.wrap .i64 (d+a))>192)) (G157 b (λe=>cond (!e) (c [0,0,0,0,0,0] false) (L152l0 a b [0,0,0,0,0,0] (λh=>c h true) 0 [0,0,0,0,0,0]))) (L152l0 a b [0,0,0,0,0,0] (λi=>c i true) 0 [0,0,0,0,0,0]))
def QM(m:Nat):Pj α:=akz (lX m) (nN m) (wM m)
def QN:bR Pj:=⟨152,[(bL 0),bD],[(false,[(.seq aC 6)])],λG ls k=>G (aI ls 0) ((lf ls 1).ak aC)
  (λa b=>k (.iO [(.agg [(bX a)]),(.sv (.bool b))]) [[(bX ((lf ls 1).ak aC))]] [])⟩
def Zj:Hd:=⟨aL 115 (aK C9 G115)<|aL 157 (aK Df G157)<|bZ,jD 0 (aS JC L152l0)<|cO,bH 115 [0]<|bH 157 [0]<|cZ⟩
theorem akD:jq JC (akC) (Zj G157 G115 L152l0) Tryz.f152:=λ_ _ _ _=>by kernel_rfl
theorem axY:dz QN (akz G157 G115 L152l0) (Zj G157 G115 L152l0) Tryz.f152:=λ_ _ _=>by kernel_rfl
theorem akw(m:Nat):(Zj (lX m) (nN m) (wM m)).ah bE:=(aM (Qv m) (aM (QT m) cK))
theorem akB(m:Nat):jg (aS JC (wM m)) 0 Tryz.f152:=
 jy [] (λn=>akA m n) m (akw m) trivial (akD (lX m) (nN m) (wM m))
theorem aky(m:Nat):bB QN (QM m):=gu [0] (akw m) ⟨(akB m),trivial⟩ (axY (lX m) (nN m) (wM m))
variable (G152:ax Pj)
abbrev Cu(α:Type):Type:=Bool->aA->Int->(Bool->aA->Int->Option α)->Option α
def ai7:Cu α:=λa b c d=>G152 c b (λe h=>cond (!h) (d false [0,0,0,0,0,0] 3) (G150 a e (λi=>d i e 0)))
def iQ(m:Nat):Cu α:=ai7 (iH m) (QM m)
def yF:bR Cu:=⟨116,[xh,bD],[],λG ls k=>G (eu ls 0) ((lf ls 1).ak aC) (aI ls 2)
  (λa b c=>k (.iO [(.agg [(lN a),(bX b)]),(.sv (.int .i64 c))]) [] [])⟩
def ai5:Hd:=⟨aL 152 (aK QN G152)<|aL 150 (aK sD G150)<|bZ,cO,bH 152 [0]<|cZ⟩
theorem awP:dz yF (ai7 G150 G152) (ai5 G150 G152) Tryz.f116:=λ_ _ _=>by kernel_rfl
theorem awO(m:Nat):(ai5 (iH m) (QM m)).ah bE:=(aM (aky m) (aM (yH m) cK))
theorem Jl(m:Nat):bB yF (iQ m):=bT (awO m) (awP (iH m) (QM m))
variable (G116:ax Cu)
abbrev Ho(α:Type):Type:=Bool->aA->Int->(Bool->aA->Int->Option α)->Option α
def ajj:Ho α:=λa b c d=>cond (decide (c>191)) (d false [0,0,0,0,0,0] 3) (G116 a b c (λe h i=>d e h i))
def Jp(m:Nat):Ho α:=ajj (iQ m)
def Qz:bR Ho:=⟨126,[xh,bD],[],λG ls k=>G (eu ls 0) ((lf ls 1).ak aC) (aI ls 2)
  (λa b c=>k (.iO [(.agg [(lN a),(bX b)]),(.sv (.int .i64 c))]) [] [])⟩
def ajh:Hd:=⟨aL 116 (aK yF G116)<|bZ,cO,cZ⟩
theorem aw1:dz Qz (ajj G116) (ajh G116) Tryz.f126:=λ_ _ _=>by kernel_rfl
theorem aw0(m:Nat):(ajh (iQ m)).ah bE:=(aM (Jl m) cK)
theorem aji(m:Nat):bB Qz (Jp m):=bT (aw0 m) (aw1 (iQ m))
variable (G126:ax Ho)
abbrev Pk(α:Type):Type:=aA->aA->(aA->Option α)->Option α
abbrev zT(α:Type):Type:=Int->Int->aA->Option α
abbrev Uc(α β:Type):Type:=aA->aA->aA->(aA->Option α)->β
abbrev qw(α:Type):Type:=Uc α (zT α)
def adg:Uc α (zT α->zT α):=λa b c d e h i j=>cond (decide (i<6)) (if 0<=i/\i<(6:Nat) then if i.toNat<6 then if 0<=i/\i<(6:Nat) then if i.toNat<6 then let l:Int:=IntKind.wrap .i64 ((IntKind.wrap .i64 ((IntKind.wrap .i64 (List.getD a i.toNat 0))-(IntKind.wrap .i64 (List.getD b i.toNat 0))))-h);cond (decide (l<0)) (if 0<=i/\i<(6:Nat) then if i.toNat<6 then e 1 (IntKind.wrap .i64 (i+1)) (List.set j (i.toNat) (IntKind.wrap .u32 (IntKind.wrap .i64 (l+4294967296)))) else none else none) (if 0<=i/\i<(6:Nat) then if i.toNat<6 then e 0 (IntKind.wrap .i64 (i+1)) (List.set j (i.toNat) (IntKind.wrap .u32 l)) else none else none) else none else none else none else none) (d j)
def iB(a:aA)(b:aA)(c:aA)(d:aA->Option α):Nat->zT α
 |0=>λ_ _ _=>none
 |m+1=>λe h i=>adg a b c d (iB a b c d m) e h i
def VL(m n:Nat):qw α:=λa b c d e h i=>iB a b c d n e h i
def A9(m:Nat):qw α:=VL m m
def JE:jh qw:=⟨0,⟨38,[0,1],[0,1,4,5,6,7],[0,1,1000002,1000003],[(bL 0),(bL 1),(bL 1000002),(bL 1000003),bD,bD],[(false,[(.seq aC 6)]),(false,[(.seq aC 6)]),(true,[(.seq aC 6)]),(true,[(.seq aC 6)])],[(2,[4,5])]⟩,λL ls k=>L ((lf ls 2).ak aC) ((lf ls 3).ak aC) ((lf ls 4).ak aC) (λa=>k .normal (bG 38 [4,5] [(gL 1000002),(gL 1000003)] [0,1,1000002,1000003] [(false,[(bX ((lf ls 2).ak aC))]),(false,[(bX ((lf ls 3).ak aC))]),(true,[(bX ((lf ls 4).ak aC))]),(true,[(bX a)])])) (aI ls 0) (aI ls 1) ((lf ls 5).ak aC)⟩
def akG(r:qw α):qw α:=λa b c d e h i=>adg a b c d (r a b c d) e h i
variable (L153l0:ax qw)
def atq:Pk α:=λa b c=>L153l0 a b [0,0,0,0,0,0] (λd=>c d) 0 0 [0,0,0,0,0,0]
def kL(m:Nat):Pk α:=atq (A9 m)
def yI:bR Pk:=⟨153,[(bL 0),(bL 1)],[(false,[(.seq aC 6)]),(false,[(.seq aC 6)])],λG ls k=>G ((lf ls 0).ak aC) ((lf ls 1).ak aC)
  (λa=>k (.vl (.agg [(bX a)])) [[(bX ((lf ls 0).ak aC))],[(bX ((lf ls 1).ak aC))]] [])⟩
def Zk:Hd:=⟨bZ,jD 0 (aS JE L153l0)<|cO,cZ⟩
theorem akH:jq JE (akG) (Zk L153l0) Tryz.f153:=λ_ _ _ _=>by kernel_rfl
theorem ax0:dz yI (atq L153l0) (Zk L153l0) Tryz.f153:=λ_ _ _=>by kernel_rfl
theorem akE(m:Nat):(Zk (A9 m)).ah bE:=cK
theorem akF(m:Nat):jg (aS JE (A9 m)) 0 Tryz.f153:=
 jy [] (λn=>VL m n) m (akE m) trivial (akH (A9 m))
theorem JD(m:Nat):bB yI (kL m):=gu [0] (akE m) ⟨(akF m),trivial⟩ (ax0 (A9 m))
variable (G153:ax Pk)
abbrev Po(α:Type):Type:=aA->aA->(Int->Option α)->Option α
abbrev zX(α:Type):Type:=Int->Option α
abbrev Ug(α β:Type):Type:=aA->aA->(Int->Option α)->(Option α)->β
abbrev qA(α:Type):Type:=Ug α (zX α)
def adk:Ug α (zX α->zX α):=λa b c d e h=>cond (decide (h>=0)) (if 0<=h/\h<(6:Nat) then if h.toNat<6 then if 0<=h/\h<(6:Nat) then if h.toNat<6 then cond (decide ((List.getD a h.toNat 0)<(List.getD b h.toNat 0))) (c (-1)) (if 0<=h/\h<(6:Nat) then if h.toNat<6 then if 0<=h/\h<(6:Nat) then if h.toNat<6 then cond (decide ((List.getD a h.toNat 0)>(List.getD b h.toNat 0))) (c 1) (e (IntKind.wrap .i64 (h-1))) else none else none else none else none) else none else none else none else none) (d)
def ak5(a:aA)(b:aA)(c:Int->Option α)(d:Option α):Nat->zX α
 |0=>λ_=>none
 |m+1=>λe=>adk a b c d (ak5 a b c d m) e
def VS(m n:Nat):qA α:=λa b c d e=>ak5 a b c d n e
def Ba(m:Nat):qA α:=VS m m
def JK:jh qA:=⟨0,⟨32,[0,1],[0,1,5],[0,1],[(bL 0),(bL 1),bD],[(false,[(.seq aC 6)]),(false,[(.seq aC 6)])],[(1,[4]),(2,[])]⟩,λL ls k=>L ((lf ls 1).ak aC) ((lf ls 2).ak aC) (λa=>k .ret (bG 32 [4] [(xE a)] [0,1] [(false,[(bX ((lf ls 1).ak aC))]),(false,[(bX ((lf ls 2).ak aC))])])) (k .normal (bG 32 [] [] [0,1] [(false,[(bX ((lf ls 1).ak aC))]),(false,[(bX ((lf ls 2).ak aC))])])) (aI ls 0)⟩
def ak7(r:qA α):qA α:=λa b c d e=>adk a b c d (r a b c d) e
variable (L159l0:ax qA)
def atw:Po α:=λa b c=>L159l0 a b (λd=>c d) (c 0) 5
def lY(m:Nat):Po α:=atw (Ba m)
def Dg:bR Po:=⟨159,[(bL 0),(bL 1)],[(false,[(.seq aC 6)]),(false,[(.seq aC 6)])],λG ls k=>G ((lf ls 0).ak aC) ((lf ls 1).ak aC)
  (λa=>k (xE a) [[(bX ((lf ls 0).ak aC))],[(bX ((lf ls 1).ak aC))]] [])⟩
def Zq:Hd:=⟨bZ,jD 0 (aS JK L159l0)<|cO,cZ⟩
theorem ak8:jq JK (ak7) (Zq L159l0) Tryz.f159:=λ_ _ _ _=>by kernel_rfl
theorem ayd:dz Dg (atw L159l0) (Zq L159l0) Tryz.f159:=λ_ _ _=>by kernel_rfl
theorem ak4(m:Nat):(Zq (Ba m)).ah bE:=cK
theorem ak6(m:Nat):jg (aS JK (Ba m)) 0 Tryz.f159:=
 jy [] (λn=>VS m n) m (ak4 m) trivial (ak8 (Ba m))
theorem QV(m:Nat):bB Dg (lY m):=gu [0] (ak4 m) ⟨(ak6 m),trivial⟩ (ayd (Ba m))
variable (G159:ax Po)
abbrev xZ(α:Type):Type:=aA->aA->(aA->aA->Option α)->Option α
abbrev zW(α:Type):Type:=Int->aA->Option α
abbrev Uf(α β:Type):Type:=Int->Int->aA->aA->aA->aA->aA->(aA->Option α)->β
abbrev qz(α:Type):Type:=Uf α (zW α)
def adi:Uf α (zW α->zW α):=λa b c d e h i j l n o=>cond (decide (n>0)) (if 0<=n/\n<(6:Nat) then if n.toNat<6 then let p:Int:=IntKind.wrap .i64 (n-1);if 0<=p/\p<(6:Nat) then if p.toNat<6 then if 0<=n/\n<(6:Nat) then if n.toNat<6 then l (IntKind.wrap .i64 (n-1)) (List.set o (n.toNat) (dJ .or .u32 (IntKind.wrap .u32 ((List.getD o n.toNat 0)*2^1)) (Int.fdiv (List.getD o p.toNat 0) (2^31)))) else none else none else none else none else none else none) (j o)
def QS(a b:Int)(c:aA)(d:aA)(e:aA)(h:aA)(i:aA)(j:aA->Option α):Nat->zW α
 |0=>λ_ _=>none
 |m+1=>λl n=>adi a b c d e h i j (QS a b c d e h i j m) l n
def akR(m n:Nat):qz α:=λa b c d e h i j l o=>QS a b c d e h i j n l o
def jW(m:Nat):qz α:=λa b c d e h i j l n=>QS a b c d e h i j m l n
def JI:jh qz:=⟨2,⟨76,[0,1],[0,1,4,5,6,7,8,9,10],[0,1,1000002,1000003,1000004,1000005],[(bL 0),(bL 1),(bL 1000002),(bL 1000003),(bL 1000004),(bL 1000005),bD,(.vl (.sv (.int .u32))),bD],[(false,[(.seq aC 6)]),(false,[(.seq aC 6)]),(true,[(.seq aC 6)]),(true,[(.seq aC 6)]),(true,[(.seq aC 6)]),(true,[(.seq aC 6)])],[(4,[0,1,4,5,6,7,8,9])]⟩,λL ls k=>L (aI ls 0) (aI ls 1) ((lf ls 3).ak aC) ((lf ls 4).ak aC) ((lf ls 5).ak aC) ((lf ls 6).ak aC) ((lf ls 7).ak aC) (λa=>k .normal (bG 76 [0,1,4,5,6,7,8,9] [(gL 0),(gL 1),(gL 1000002),(gL 1000003),(gL 1000004),(gL 1000005),(.vl (.sv (.int .i64 (aI ls 0)))),(.vl (.sv (.int .u32 (aI ls 1))))] [0,1,1000002,1000003,1000004,1000005] [(false,[(bX ((lf ls 3).ak aC))]),(false,[(bX ((lf ls 4).ak aC))]),(true,[(bX ((lf ls 5).ak aC))]),(true,[(bX ((lf ls 6).ak aC))]),(true,[(bX ((lf ls 7).ak aC))]),(true,[(bX a)])])) (aI ls 2) ((lf ls 8).ak aC)⟩
def akT(r:qz α):qz α:=λa b c d e h i j l n=>adi a b c d e h i j (r a b c d e h i j) l n
variable (L155l2:ax qz)
abbrev zV(α:Type):Type:=Int->aA->aA->Option α
abbrev Ue(α β:Type):Type:=aA->aA->aA->aA->(aA->aA->Option α)->β
abbrev qy(α:Type):Type:=Ue α (zV α)
def Gn:Ue α (zV α->zV α):=λa b c d e h i j l=>cond (decide (i>=0)) (let n:Int:=Int.fdiv (List.getD l 5 0) (2^31);L155l2 i n a b c d j (λo=>let p:Int:=IntKind.wrap .i64 (Int.tdiv i 32);if 0<=p/\p<(6:Nat) then if p.toNat<6 then let q:Int:=IntKind.wrap .u64 (Int.tmod i 32);if q<0 then none else let r:List Int:=List.set o 0 (dJ .or .u32 (IntKind.wrap .u32 ((List.getD o 0 0)*2^1)) (dJ .and .u32 (Int.fdiv (List.getD a p.toNat 0) (2^(min q.toNat 32))) 1));cond (n==1) (G153 r b (λs=>let t:Int:=IntKind.wrap .i64 (Int.tdiv i 32);if 0<=t/\t<(6:Nat) then if t.toNat<6 then let u:Int:=IntKind.wrap .u64 (Int.tmod i 32);if u<0 then none else if 0<=t/\t<(6:Nat) then if t.toNat<6 then h (IntKind.wrap .i64 (i-1)) (List.set j (t.toNat) (dJ .or .u32 (List.getD j t.toNat 0) (IntKind.wrap .u32 (1*2^(min u.toNat 32))))) s else none else none else none else none)) (G159 r b (λv=>cond (decide (v>=0)) (G153 r b (λw=>let x:Int:=IntKind.wrap .i64 (Int.tdiv i 32);if 0<=x/\x<(6:Nat) then if x.toNat<6 then let y:Int:=IntKind.wrap .u64 (Int.tmod i 32);if y<0 then none else if 0<=x/\x<(6:Nat) then if x.toNat<6 then h (IntKind.wrap .i64 (i-1)) (List.set j (x.toNat) (dJ .or .u32 (List.getD j x.toNat 0) (IntKind.wrap .u32 (1*2^(min y.toNat 32))))) w else none else none else none else none)) (h (IntKind.wrap .i64 (i-1)) j r))) else none else none) 5 l) (e j l)
def uQ(a:aA)(b:aA)(c:aA)(d:aA)(e:aA->aA->Option α):Nat->zV α
 |0=>λ_ _ _=>none
 |m+1=>λh i j=>Gn G153 G159 L155l2 a b c d e (uQ a b c d e m) h i j
def VQ(m n:Nat):qy α:=λa b c d e h i j=>uQ (kL m) (lY m) (jW m) a b c d e n h i j
def wN(m:Nat):qy α:=VQ m m
def JH:jh qy:=⟨0,⟨76,[0,1],[0,1,4,5,6,7,8],[0,1,1000002,1000003,1000004,1000005],[(bL 0),(bL 1),(bL 1000002),(bL 1000003),(bL 1000004),(bL 1000005),bD],[(false,[(.seq aC 6)]),(false,[(.seq aC 6)]),(true,[(.seq aC 6)]),(true,[(.seq aC 6)]),(true,[(.seq aC 6)]),(true,[(.seq aC 6)])],[(2,[4,5,6,7])]⟩,λL ls k=>L ((lf ls 1).ak aC) ((lf ls 2).ak aC) ((lf ls 3).ak aC) ((lf ls 4).ak aC) (λa b=>k .normal (bG 76 [4,5,6,7] [(gL 1000002),(gL 1000003),(gL 1000004),(gL 1000005)] [0,1,1000002,1000003,1000004,1000005] [(false,[(bX ((lf ls 1).ak aC))]),(false,[(bX ((lf ls 2).ak aC))]),(true,[(bX ((lf ls 3).ak aC))]),(true,[(bX ((lf ls 4).ak aC))]),(true,[(bX a)]),(true,[(bX b)])])) (aI ls 0) ((lf ls 5).ak aC) ((lf ls 6).ak aC)⟩
def akP(r:qy α):qy α:=λa b c d e h i j=>Gn G153 G159 L155l2 a b c d e (r a b c d e) h i j
variable (L155l0:ax qy)
def atu:xZ α:=λa b c=>G115 a (λd=>L155l0 a b [0,0,0,0,0,0] [0,0,0,0,0,0] (λe h=>c e h) (IntKind.wrap .i64 (d-1)) [0,0,0,0,0,0] [0,0,0,0,0,0])
def qU(m:Nat):xZ α:=atu (nN m) (wN m)
def QR:bR xZ:=⟨155,[(bL 0),(bL 1)],[(false,[(.seq aC 6)]),(false,[(.seq aC 6)])],λG ls k=>G ((lf ls 0).ak aC) ((lf ls 1).ak aC)
  (λa b=>k (.iO [(.agg [(bX a)]),(.agg [(bX b)])]) [[(bX ((lf ls 0).ak aC))],[(bX ((lf ls 1).ak aC))]] [])⟩
def QO:Hd:=⟨aL 115 (aK C9 G115)<|aL 153 (aK yI G153)<|aL 159 (aK Dg G159)<|bZ,jD 2 (aS JI L155l2)<|jD 0 (aS JH L155l0)<|cO,bH 115 [0]<|bH 153 [0,1]<|bH 159 [0,1]<|cZ⟩
theorem akU:jq JI (akT) (QO G115 G153 G159 L155l2 L155l0) Tryz.f155:=λ_ _ _ _=>by kernel_rfl
theorem akQ:jq JH (akP G153 G159 L155l2) (QO G115 G153 G159 L155l2 L155l0) Tryz.f155:=λ_ _ _ _=>by kernel_rfl
theorem ax3:dz QR (atu G115 L155l0) (QO G115 G153 G159 L155l2 L155l0) Tryz.f155:=λ_ _ _=>by kernel_rfl
theorem Zn(m:Nat):(QO (nN m) (kL m) (lY m) (jW m) (wN m)).ah bE:=(aM (Qv m) (aM (JD m) (aM (QV m) cK)))
theorem akS(m:Nat):jg (aS JI (jW m)) 2 Tryz.f155:=
 jy [] (λn=>akR m n) m (Zn m) trivial (akU (nN m) (kL m) (lY m) (jW m) (wN m))
theorem akO(m:Nat):jg (aS JH (wN m)) 0 Tryz.f155:=
 jy [2] (λn=>VQ m n) m (Zn m) ⟨(akS m),trivial⟩ (akQ (nN m) (kL m) (lY m) (jW m) (wN m))
theorem akN(m:Nat):bB QR (qU m):=gu [0] (Zn m) ⟨(akO m),trivial⟩ (ax3 (nN m) (kL m) (lY m) (jW m) (wN m))
variable (G155:ax xZ)
abbrev Pm(α:Type):Type:=aA->aA->(aA->Bool->Option α)->Option α
abbrev zU(α:Type):Type:=Int->Int->aA->Option α
abbrev Ud(α β:Type):Type:=aA->aA->aA->(Int->aA->Option α)->β
abbrev qx(α:Type):Type:=Ud α (zU α)
def adh:Ud α (zU α->zU α):=λa b c d e h i j=>cond (decide (i<6)) (if 0<=i/\i<(6:Nat) then if i.toNat<6 then if 0<=i/\i<(6:Nat) then if i.toNat<6 then let l:Int:=IntKind.wrap .u64 ((IntKind.wrap .u64 ((IntKind.wrap .u64 (List.getD a i.toNat 0))+(IntKind.wrap .u64 (List.getD b i.toNat 0))))+h);if 0<=i/\i<(6:Nat) then if i.toNat<6 then e (Int.fdiv l (2^32)) (IntKind.wrap .i64 (i+1)) (List.set j (i.toNat) (IntKind.wrap .u32 l)) else none else none else none else none else none else none) (d h j)
def akJ(a:aA)(b:aA)(c:aA)(d:Int->aA->Option α):Nat->zU α
 |0=>λ_ _ _=>none
 |m+1=>λe h i=>adh a b c d (akJ a b c d m) e h i
def VO(m n:Nat):qx α:=λa b c d e h i=>akJ a b c d n e h i
def A_(m:Nat):qx α:=VO m m
def JG:jh qx:=⟨0,⟨39,[0,1],[0,1,4,6,7,8],[0,1,1000002,1000003],[(bL 0),(bL 1),(bL 1000002),(bL 1000003),(.vl (.sv (.int .u64))),bD],[(false,[(.seq aC 6)]),(false,[(.seq aC 6)]),(true,[(.seq aC 6)]),(true,[(.seq aC 6)])],[(2,[4,6,7])]⟩,λL ls k=>L ((lf ls 2).ak aC) ((lf ls 3).ak aC) ((lf ls 4).ak aC) (λa b=>k .normal (bG 39 [4,6,7] [(gL 1000002),(gL 1000003),(.vl (.sv (.int .u64 a)))] [0,1,1000002,1000003] [(false,[(bX ((lf ls 2).ak aC))]),(false,[(bX ((lf ls 3).ak aC))]),(true,[(bX ((lf ls 4).ak aC))]),(true,[(bX b)])])) (aI ls 0) (aI ls 1) ((lf ls 5).ak aC)⟩
def akL(r:qx α):qx α:=λa b c d e h i=>adh a b c d (r a b c d) e h i
variable (L154l0:ax qx)
def atr:Pm α:=λa b c=>L154l0 a b [0,0,0,0,0,0] (λd e=>c e (d==0)) 0 0 [0,0,0,0,0,0]
def yJ(m:Nat):Pm α:=atr (A_ m)
def JF:bR Pm:=⟨154,[(bL 0),(bL 1)],[(false,[(.seq aC 6)]),(false,[(.seq aC 6)])],λG ls k=>G ((lf ls 0).ak aC) ((lf ls 1).ak aC)
  (λa b=>k (.iO [(.agg [(bX a)]),(.sv (.bool b))]) [[(bX ((lf ls 0).ak aC))],[(bX ((lf ls 1).ak aC))]] [])⟩
def Zl:Hd:=⟨bZ,jD 0 (aS JG L154l0)<|cO,cZ⟩
theorem akM:jq JG (akL) (Zl L154l0) Tryz.f154:=λ_ _ _ _=>by kernel_rfl
theorem ax2:dz JF (atr L154l0) (Zl L154l0) Tryz.f154:=λ_ _ _=>by kernel_rfl
theorem akI(m:Nat):(Zl (A_ m)).ah bE:=cK
theorem akK(m:Nat):jg (aS JG (A_ m)) 0 Tryz.f154:=
 jy [] (λn=>VO m n) m (akI m) trivial (akM (A_ m))
theorem Zm(m:Nat):bB JF (yJ m):=gu [0] (akI m) ⟨(akK m),trivial⟩ (ax2 (A_ m))
variable (G154:ax Pm)
abbrev uD(α:Type):Type:=Bool->aA->Bool->aA->(Bool->aA->Bool->aA->Option α)->Option α
def aty:uD α:=λa b c d e=>G155 b d (λh i=>cond (!(a==c)) (G157 i (λj=>cond (!j) (G154 h [1,0,0,0,0,0] (λl n=>G153 d i (λo=>G150 (!(a==c)) l (λp=>G150 c o (λq=>e p l q o))))) (G150 (!(a==c)) h (λr=>G150 c i (λs=>e r h s i))))) (G150 (!(a==c)) h (λt=>G150 c i (λu=>e t h u i))))
def jX(m:Nat):uD α:=aty (lX m) (iH m) (kL m) (qU m) (yJ m)
def JN:bR uD:=⟨168,[xh,xh],[],λG ls k=>G (eu ls 0) ((lf ls 1).ak aC) (eu ls 2) ((lf ls 3).ak aC)
  (λa b c d=>k (.iO [(.agg [(lN a),(bX b)]),(.agg [(lN c),(bX d)])]) [] [])⟩
def ala:Hd:=⟨aL 155 (aK QR G155)<|aL 157 (aK Df G157)<|aL 154 (aK JF G154)<|aL 153 (aK yI G153)<|aL 150 (aK sD G150)<|bZ,cO,bH 153 [0,1]<|bH 154 [0,1]<|bH 155 [0,1]<|bH 157 [0]<|cZ⟩
theorem ayg:dz JN (aty G157 G150 G153 G155 G154) (ala G157 G150 G153 G155 G154) Tryz.f168:=λ_ _ _=>by kernel_rfl
theorem ayf(m:Nat):(ala (lX m) (iH m) (kL m) (qU m) (yJ m)).ah bE:=(aM (akN m) (aM (QT m) (aM (Zm m) (aM (JD m) (aM (yH m) cK)))))
theorem Zt(m:Nat):bB JN (jX m):=bT (ayf m) (ayg (lX m) (iH m) (kL m) (qU m) (yJ m))
variable (G168:ax uD)
abbrev nD(α:Type):Type:=Bool->aA->Bool->aA->(Bool->aA->Int->Option α)->Option α
def ac5:nD α:=λa b c d e=>cond (a==c) (G154 b d (λh i=>cond (!i) (e false [0,0,0,0,0,0] 3) (G150 a h (λj=>e j h 0)))) (G159 b d (λl=>cond (decide (l>=0)) (G153 b d (λn=>G150 a n (λo=>e o n 0))) (G153 d b (λp=>G150 c p (λq=>e q p 0)))))
def dZ(m:Nat):nD α:=ac5 (iH m) (kL m) (lY m) (yJ m)
def sw:bR nD:=⟨114,[xh,xh],[],λG ls k=>G (eu ls 0) ((lf ls 1).ak aC) (eu ls 2) ((lf ls 3).ak aC)
  (λa b c=>k (.iO [(.agg [(lN a),(bX b)]),(.sv (.int .i64 c))]) [] [])⟩
def aiX:Hd:=⟨aL 154 (aK JF G154)<|aL 150 (aK sD G150)<|aL 159 (aK Dg G159)<|aL 153 (aK yI G153)<|bZ,cO,bH 153 [0,1]<|bH 154 [0,1]<|bH 159 [0,1]<|cZ⟩
theorem awK:dz sw (ac5 G150 G153 G159 G154) (aiX G150 G153 G159 G154) Tryz.f114:=λ_ _ _=>by kernel_rfl
theorem awJ(m:Nat):(aiX (iH m) (kL m) (lY m) (yJ m)).ah bE:=(aM (Zm m) (aM (yH m) (aM (QV m) (aM (JD m) cK))))
theorem yE(m:Nat):bB sw (dZ m):=bT (awJ m) (awK (iH m) (kL m) (lY m) (yJ m))
variable (G114:ax nD)
abbrev Hq(α:Type):Type:=Bool->aA->Bool->aA->(Bool->aA->Option α)->Option α
def atb:Hq α:=λa b c d e=>G168 a b c d (λh i j l=>G153 d l (λn=>G159 l n (λo=>cond (decide (o>=0)) (G109 1 (λp q=>G114 h i p q (λr s t=>e r s))) (e h i))))
def Jq(m:Nat):Hq α:=atb (bM m) (kL m) (lY m) (jX m) (dZ m)
def QA:bR Hq:=⟨127,[xh,xh],[],λG ls k=>G (eu ls 0) ((lf ls 1).ak aC) (eu ls 2) ((lf ls 3).ak aC)
  (λa b=>k (S_ a b) [] [])⟩
def ajk:Hd:=⟨aL 168 (aK JN G168)<|aL 153 (aK yI G153)<|aL 159 (aK Dg G159)<|aL 109 (aK nL G109)<|aL 114 (aK sw G114)<|bZ,cO,bH 153 [0,1]<|bH 159 [0,1]<|cZ⟩
theorem aw4:dz QA (atb G109 G153 G159 G168 G114) (ajk G109 G153 G159 G168 G114) Tryz.f127:=λ_ _ _=>by kernel_rfl
theorem aw3(m:Nat):(ajk (bM m) (kL m) (lY m) (jX m) (dZ m)).ah bE:=(aM (Zt m) (aM (JD m) (aM (QV m) (aM (si m) (aM (yE m) cK)))))
theorem ajl(m:Nat):bB QA (Jq m):=bT (aw3 m) (aw4 (bM m) (kL m) (lY m) (jX m) (dZ m))
variable (G127:ax Hq)
abbrev nE(α:Type):Type:=Bool->aA->Bool->aA->(Int->Option α)->Option α
def ai9:nE α:=λa b c d e=>cond a (cond (!c) (e (-1)) (cond (!a) (cond c (e 1) (cond a (G159 d b (λh=>e h)) (G159 b d (λi=>e i)))) (cond a (G159 d b (λj=>e j)) (G159 b d (λl=>e l))))) (cond (!a) (cond c (e 1) (cond a (G159 d b (λn=>e n)) (G159 b d (λo=>e o)))) (cond a (G159 d b (λp=>e p)) (G159 b d (λq=>e q))))
def fO(m:Nat):nE α:=ai9 (lY m)
def yG:bR nE:=⟨117,[(bL 0),(bL 1)],[(false,[(.one .bool),(.seq aC 6)]),(false,[(.one .bool),(.seq aC 6)])],λG ls k=>G (eu ls 0) ((lf ls 1).ak aC) (eu ls 2) ((lf ls 3).ak aC)
  (λa=>k (xE a) [[(.one (.bool (eu ls 0))),(bX ((lf ls 1).ak aC))],[(.one (.bool (eu ls 2))),(bX ((lf ls 3).ak aC))]] [])⟩
def ai8:Hd:=⟨aL 159 (aK Dg G159)<|bZ,cO,bH 159 [0,1]<|cZ⟩
theorem awR:dz yG (ai9 G159) (ai8 G159) Tryz.f117:=λ_ _ _=>by kernel_rfl
theorem awQ(m:Nat):(ai8 (lY m)).ah bE:=(aM (QV m) cK)
theorem Jm(m:Nat):bB yG (fO m):=bT (awQ m) (awR (lY m))
variable (G117:ax nE)
abbrev xY(α:Type):Type:=Bool->aA->(Bool->Option α)->Option α
def ajx:xY α:=λa b c=>G150 (!a) b (λd=>c d)
def uf(m:Nat):xY α:=ajx (iH m)
def QC:bR xY:=⟨130,[xh],[],λG ls k=>G (eu ls 0) ((lf ls 1).ak aC)
  (λa=>k (.vl (.agg [(lN a),(bX ((lf ls 1).ak aC))])) [] [])⟩
def ajv:Hd:=⟨aL 150 (aK sD G150)<|bZ,cO,cZ⟩
theorem axd:dz QC (ajx G150) (ajv G150) Tryz.f130:=λ_ _ _=>by kernel_rfl
theorem axc(m:Nat):(ajv (iH m)).ah bE:=(aM (yH m) cK)
theorem ajw(m:Nat):bB QC (uf m):=bT (axc m) (axd (iH m))
variable (G130:ax xY)
abbrev rG(α:Type):Type:=Bool->aA->Bool->aA->(Bool->aA->Int->Option α)->Option α
abbrev zG(α:Type):Type:=Int->Int->aA->Option α
abbrev TM(α β:Type):Type:=Int->Bool->aA->Bool->aA->Bool->aA->(Int->aA->Option α)->β
abbrev qa(α:Type):Type:=TM α (zG α)
def ac1:TM α (zG α->zG α):=λa b c d e h i j l n o p=>cond (decide (o<6)) (if 0<=a/\a<(6:Nat) then if a.toNat<6 then if 0<=o/\o<(6:Nat) then if o.toNat<6 then let q:Int:=IntKind.wrap .i64 (a+o);if 0<=q/\q<(12:Nat) then if q.toNat<12 then let r:Int:=IntKind.wrap .u64 ((IntKind.wrap .u64 ((IntKind.wrap .u64 ((IntKind.wrap .u64 (List.getD c a.toNat 0))*(IntKind.wrap .u64 (List.getD e o.toNat 0))))+(IntKind.wrap .u64 (List.getD p q.toNat 0))))+n);let s:Int:=IntKind.wrap .i64 (a+o);if 0<=s/\s<(12:Nat) then if s.toNat<12 then l (Int.fdiv r (2^32)) (IntKind.wrap .i64 (o+1)) (List.set p (s.toNat) (IntKind.wrap .u32 r)) else none else none else none else none else none else none else none else none) (j n p)
def jE(a:Int)(b:Bool)(c:aA)(d:Bool)(e:aA)(h:Bool)(i:aA)(j:Int->aA->Option α):Nat->zG α
 |0=>λ_ _ _=>none
 |m+1=>λl n o=>ac1 a b c d e h i j (jE a b c d e h i j m) l n o
def ais(m n:Nat):qa α:=λa b c d e h i j l o p=>jE a b c d e h i j n l o p
def aW(m:Nat):qa α:=λa b c d e h i j l n o=>jE a b c d e h i j m l n o
def Jd:jh qa:=⟨2,⟨78,[],[2,3,4,6,7,8,9],[1000000,1000001,1000002,1000003],[(bL 1000000),(bL 1000001),(bL 1000002),(bL 1000003),bD,(.vl (.sv (.int .u64))),bD],[(true,[(.one .bool),(.seq aC 6)]),(true,[(.one .bool),(.seq aC 6)]),(true,[(.one .bool),(.seq aC 6)]),(true,[(.seq aC 12)])],[(4,[2,3,4,6,7,8])]⟩,λL ls k=>L (aI ls 0) (eu ls 3) ((lf ls 4).ak aC) (eu ls 5) ((lf ls 6).ak aC) (eu ls 7) ((lf ls 8).ak aC) (λa b=>k .normal (bG 78 [2,3,4,6,7,8] [(gL 1000000),(gL 1000001),(gL 1000002),(gL 1000003),(.vl (.sv (.int .i64 (aI ls 0)))),(.vl (.sv (.int .u64 a)))] [1000000,1000001,1000002,1000003] [(true,[(.one (.bool (eu ls 3))),(bX ((lf ls 4).ak aC))]),(true,[(.one (.bool (eu ls 5))),(bX ((lf ls 6).ak aC))]),(true,[(.one (.bool (eu ls 7))),(bX ((lf ls 8).ak aC))]),(true,[(.seq aC 12 b)])])) (aI ls 1) (aI ls 2) ((lf ls 9).ak aC)⟩
def aiu(r:qa α):qa α:=λa b c d e h i j l n o=>ac1 a b c d e h i j (r a b c d e h i j) l n o
variable (L110l2:ax qa)
abbrev zF(α:Type):Type:=Int->aA->Option α
abbrev TL(α β:Type):Type:=Bool->aA->Bool->aA->Bool->aA->(aA->Option α)->β
abbrev p_(α:Type):Type:=TL α (zF α)
def ac0:TL α (zF α->zF α):=λa b c d e h i j l n=>cond (decide (l<6)) (L110l2 l a b c d e h (λo p=>let q:Int:=IntKind.wrap .i64 (l+6);if 0<=q/\q<(12:Nat) then if q.toNat<12 then j (IntKind.wrap .i64 (l+1)) (List.set p (q.toNat) (IntKind.wrap .u32 o)) else none else none) 0 0 n) (i n)
def di(a:Bool)(b:aA)(c:Bool)(d:aA)(e:Bool)(h:aA)(i:aA->Option α):Nat->zF α
 |0=>λ_ _=>none
 |m+1=>λj l=>ac0 L110l2 a b c d e h i (di a b c d e h i m) j l
def Vi(m n:Nat):p_ α:=λa b c d e h i j l=>di (aW m) a b c d e h i n j l
def sj(m:Nat):p_ α:=Vi m m
def Jc:jh p_:=⟨0,⟨78,[],[2,3,4,6,7],[1000000,1000001,1000002,1000003],[(bL 1000000),(bL 1000001),(bL 1000002),(bL 1000003),bD],[(true,[(.one .bool),(.seq aC 6)]),(true,[(.one .bool),(.seq aC 6)]),(true,[(.one .bool),(.seq aC 6)]),(true,[(.seq aC 12)])],[(2,[2,3,4,6])]⟩,λL ls k=>L (eu ls 1) ((lf ls 2).ak aC) (eu ls 3) ((lf ls 4).ak aC) (eu ls 5) ((lf ls 6).ak aC) (λa=>k .normal (bG 78 [2,3,4,6] [(gL 1000000),(gL 1000001),(gL 1000002),(gL 1000003)] [1000000,1000001,1000002,1000003] [(true,[(.one (.bool (eu ls 1))),(bX ((lf ls 2).ak aC))]),(true,[(.one (.bool (eu ls 3))),(bX ((lf ls 4).ak aC))]),(true,[(.one (.bool (eu ls 5))),(bX ((lf ls 6).ak aC))]),(true,[(.seq aC 12 a)])])) (aI ls 0) ((lf ls 7).ak aC)⟩
def aiq(r:p_ α):p_ α:=λa b c d e h i j l=>ac0 L110l2 a b c d e h i (r a b c d e h i) j l
variable (L110l0:ax p_)
abbrev zH(α:Type):Type:=Int->aA->Option α
abbrev TN(α β:Type):Type:=Bool->aA->Bool->aA->Bool->aA->aA->(aA->Option α)->(aA->Option α)->β
abbrev qb(α:Type):Type:=TN α (zH α)
def ac2:TN α (zH α->zH α):=λa b c d e h i j l n o p=>cond (decide (o<6)) (if 0<=o/\o<(12:Nat) then if o.toNat<12 then if 0<=o/\o<(6:Nat) then if o.toNat<6 then let q:Int:=IntKind.wrap .i64 (o+6);if 0<=q/\q<(12:Nat) then if q.toNat<12 then cond ((List.getD i q.toNat 0) !=0) (j [0,0,0,0,0,0]) (n (IntKind.wrap .i64 (o+1)) (List.set p (o.toNat) (List.getD i o.toNat 0))) else none else none else none else none else none else none) (l p)
def Qp(a:Bool)(b:aA)(c:Bool)(d:aA)(e:Bool)(h:aA)(i:aA)(j:aA->Option α)(l:aA->Option α):Nat->zH α
 |0=>λ_ _=>none
 |m+1=>λn o=>ac2 a b c d e h i j l (Qp a b c d e h i j l m) n o
def Vj(m n:Nat):qb α:=λa b c d e h i j l o p=>Qp a b c d e h i j l n o p
def su(m:Nat):qb α:=Vj m m
def Je:jh qb:=⟨4,⟨78,[],[2,3,4,6,11,12],[1000000,1000001,1000002,1000003,1000004],[(bL 1000000),(bL 1000001),(bL 1000002),(bL 1000003),(bL 1000004),bD],[(true,[(.one .bool),(.seq aC 6)]),(true,[(.one .bool),(.seq aC 6)]),(true,[(.one .bool),(.seq aC 6)]),(true,[(.seq aC 12)]),(true,[(.seq aC 6)])],[(1,[4,5]),(6,[2,3,4,11])]⟩,λL ls k=>L (eu ls 1) ((lf ls 2).ak aC) (eu ls 3) ((lf ls 4).ak aC) (eu ls 5) ((lf ls 6).ak aC) ((lf ls 7).ak aC) (λa=>k .ret (bG 78 [4,5] [(gL 1000000),(xE (3:Int))] [1000000] [(true,[(lN false),(bX a)])])) (λb=>k .normal (bG 78 [2,3,4,11] [(gL 1000000),(gL 1000001),(gL 1000002),(gL 1000003)] [1000000,1000001,1000002,1000003] [(true,[(.one (.bool (eu ls 1))),(bX ((lf ls 2).ak aC))]),(true,[(.one (.bool (eu ls 3))),(bX ((lf ls 4).ak aC))]),(true,[(.one (.bool (eu ls 5))),(bX ((lf ls 6).ak aC))]),(true,[(bX b)])])) (aI ls 0) ((lf ls 8).ak aC)⟩
def aiy(r:qb α):qb α:=λa b c d e h i j l n o=>ac2 a b c d e h i j l (r a b c d e h i j l) n o
variable (L110l4:ax qb)
def aio:rG α:=λa b c d e=>L110l0 a b c d false [0,0,0,0,0,0] (λh=>L110l4 a b c d false [0,0,0,0,0,0] h (λi=>e false i 3) (λj=>G150 (!(a==c)) j (λl=>e l j 0)) 0 [0,0,0,0,0,0]) 0 [0,0,0,0,0,0,0,0,0,0,0,0]
def fG(m:Nat):rG α:=aio (iH m) (sj m) (su m)
def yC:bR rG:=⟨110,[xh,xh],[],λG ls k=>G (eu ls 0) ((lf ls 1).ak aC) (eu ls 2) ((lf ls 3).ak aC)
  (λa b c=>k (.iO [(.agg [(lN a),(bX b)]),(.sv (.int .i64 c))]) [] [])⟩
def Ja:Hd:=⟨aL 150 (aK sD G150)<|bZ,jD 2 (aS Jd L110l2)<|jD 0 (aS Jc L110l0)<|jD 4 (aS Je L110l4)<|cO,cZ⟩
theorem aiv:jq Jd (aiu) (Ja G150 L110l2 L110l0 L110l4) Tryz.f110:=λ_ _ _ _=>by kernel_rfl
theorem air:jq Jc (aiq L110l2) (Ja G150 L110l2 L110l0 L110l4) Tryz.f110:=λ_ _ _ _=>by kernel_rfl
theorem aiz:jq Je (aiy) (Ja G150 L110l2 L110l0 L110l4) Tryz.f110:=λ_ _ _ _=>by kernel_rfl
theorem awt:dz yC (aio G150 L110l0 L110l4) (Ja G150 L110l2 L110l0 L110l4) Tryz.f110:=λ_ _ _=>by kernel_rfl
theorem Qo(m:Nat):(Ja (iH m) (aW m) (sj m) (su m)).ah bE:=(aM (yH m) cK)
theorem ait(m:Nat):jg (aS Jd (aW m)) 2 Tryz.f110:=
 jy [] (λn=>ais m n) m (Qo m) trivial (aiv (iH m) (aW m) (sj m) (su m))
theorem aip(m:Nat):jg (aS Jc (sj m)) 0 Tryz.f110:=
 jy [2] (λn=>Vi m n) m (Qo m) ⟨(ait m),trivial⟩ (air (iH m) (aW m) (sj m) (su m))
theorem aiw(m:Nat):jg (aS Je (su m)) 4 Tryz.f110:=
 jy [] (λn=>Vj m n) m (Qo m) trivial (aiz (iH m) (aW m) (sj m) (su m))
theorem Jb(m:Nat):bB yC (fG m):=gu [0,4] (Qo m) ⟨(aip m),(aiw m),trivial⟩ (awt (iH m) (aW m) (sj m) (su m))
variable (G110:ax rG)
abbrev Pp(α:Type):Type:=Bool->aA->Int->(Bool->aA->Option α)->Option α
abbrev zY(α:Type):Type:=Int->Bool->aA->Bool->aA->Option α
abbrev Uh(α β:Type):Type:=Int->Bool->aA->Bool->aA->(Bool->aA->Option α)->β
abbrev qB(α:Type):Type:=Uh α (zY α)
def QX(G117:ax nE)(G168:ax uD)(G109:ax jT)(G130:ax xY)(G114:ax nD)(G110:ax rG):Uh α (zY α->zY α):=λa b c d e h i j l n o p=>G117 o p b c (λq=>cond (decide (q<=0)) (G168 b c o p (λr s t u=>G109 (IntKind.wrap .i64 ((IntKind.wrap .i64 (2*j))+1)) (λv w=>G168 r s v w (λx y z a0=>cond ((Int.tmod j 2)==1) (G130 x y (λb0=>G114 l n b0 y (λc0 d0 e0=>G109 (IntKind.wrap .i64 (a*a)) (λh0 i0=>G110 o p h0 i0 (λj0 l0 n0=>cond (n0 !=0) (h c0 d0) (i (IntKind.wrap .i64 (j+1)) c0 d0 j0 l0)))))) (G114 l n x y (λo0 p0 q0=>G109 (IntKind.wrap .i64 (a*a)) (λr0 s0=>G110 o p r0 s0 (λt0 u0 v0=>cond (v0 !=0) (h o0 p0) (i (IntKind.wrap .i64 (j+1)) o0 p0 t0 u0))))))))) (h l n))
def uR(G117:ax nE)(G168:ax uD)(G109:ax jT)(G130:ax xY)(G114:ax nD)(G110:ax rG)(a:Int)(b:Bool)(c:aA)(d:Bool)(e:aA)(h:Bool->aA->Option α):Nat->zY α
 |0=>λ_ _ _ _ _=>none
 |m+1=>λi j l n o=>QX G117 G168 G109 G130 G114 G110 a b c d e h (uR G117 G168 G109 G130 G114 G110 a b c d e h m) i j l n o
def VT(m n:Nat):qB α:=λa b c d e h i j l o p=>uR (fO m) (jX m) (bM m) (uf m) (dZ m) (fG m) a b c d e h n i j l o p
def Bb(m:Nat):qB α:=VT m m
def JO:jh qB:=⟨0,⟨58,[],[1,2,4,5,6,7],[1000000,1000001,1000002,1000003],[bD,(bL 1000000),(bL 1000001),(bL 1000002),(bL 1000003),bD],[(true,[(.one .bool),(.seq aC 6)]),(true,[(.one .bool),(.seq aC 6)]),(true,[(.one .bool),(.seq aC 6)]),(true,[(.one .bool),(.seq aC 6)])],[(2,[4,5])]⟩,λL ls k=>L (aI ls 0) (eu ls 2) ((lf ls 3).ak aC) (eu ls 4) ((lf ls 5).ak aC) (λa b=>k .normal (bG 58 [4,5] [(gL 1000000),(gL 1000001)] [1000000,1000001] [(true,[(.one (.bool (eu ls 4))),(bX ((lf ls 5).ak aC))]),(true,[(lN a),(bX b)])])) (aI ls 1) (eu ls 6) ((lf ls 7).ak aC) (eu ls 8) ((lf ls 9).ak aC)⟩
def ale(r:qB α):qB α:=λa b c d e h i j l n o=>QX G117 G168 G109 G130 G114 G110 a b c d e h (r a b c d e h) i j l n o
variable (L169l0:ax qB)
def alc:Pp α:=λa b c d=>G109 c (λe h=>L169l0 c a b false [0,0,0,0,0,0] (λi j=>d i j) 0 false [0,0,0,0,0,0] e h)
def Zu(m:Nat):Pp α:=alc (bM m) (Bb m)
def Zw:bR Pp:=⟨169,[xh,bD],[],λG ls k=>G (eu ls 0) ((lf ls 1).ak aC) (aI ls 2)
  (λa b=>k (S_ a b) [] [])⟩
def Zv:Hd:=⟨aL 109 (aK nL G109)<|aL 117 (aK yG G117)<|aL 168 (aK JN G168)<|aL 130 (aK QC G130)<|aL 114 (aK sw G114)<|aL 110 (aK yC G110)<|bZ,jD 0 (aS JO L169l0)<|cO,bH 117 [0,1]<|cZ⟩
theorem alf:jq JO (ale G109 G168 G114 G117 G130 G110) (Zv G109 G168 G114 G117 G130 G110 L169l0) Tryz.f169:=λ_ _ _ _=>by kernel_rfl
theorem ayi:dz Zw (alc G109 L169l0) (Zv G109 G168 G114 G117 G130 G110 L169l0) Tryz.f169:=λ_ _ _=>by kernel_rfl
theorem alb(m:Nat):(Zv (bM m) (jX m) (dZ m) (fO m) (uf m) (fG m) (Bb m)).ah bE:=(aM (si m) (aM (Jm m) (aM (Zt m) (aM (ajw m) (aM (yE m) (aM (Jb m) cK))))))
theorem ald(m:Nat):jg (aS JO (Bb m)) 0 Tryz.f169:=
 jy [] (λn=>VT m n) m (alb m) trivial (alf (bM m) (jX m) (dZ m) (fO m) (uf m) (fG m) (Bb m))
theorem ayh(m:Nat):bB Zw (Zu m):=gu [0] (alb m) ⟨(ald m),trivial⟩ (ayi (bM m) (jX m) (dZ m) (fO m) (uf m) (fG m) (Bb m))
variable (G169:ax Pp)
abbrev Ph(α:Type):Type:=Int->aA->(aA->Option α)->Option α
abbrev zR(α:Type):Type:=Int->aA->Option α
abbrev Ua(α β:Type):Type:=Int->aA->aA->(aA->Option α)->β
abbrev qo(α:Type):Type:=Ua α (zR α)
def Gl:Ua α (zR α->zR α):=λa b c d e h i=>cond (decide (h<6)) (if 0<=h/\h<(6:Nat) then if h.toNat<6 then let j:Int:=IntKind.wrap .u64 (List.getD b h.toNat 0);cond (decide ((IntKind.wrap .i64 (h+1))<6)) (let l:Int:=IntKind.wrap .i64 (h+1);if 0<=l/\l<(6:Nat) then if l.toNat<6 then let n:Int:=IntKind.wrap .i64 (h-(IntKind.wrap .i64 (Int.tdiv a 32)));let o:Int:=IntKind.wrap .u64 (Int.tmod a 32);if o<0 then none else if 0<=n/\n<(6:Nat) then if n.toNat<6 then e (IntKind.wrap .i64 (h+1)) (List.set i (n.toNat) (IntKind.wrap .u32 (Int.fdiv (IntKind.wrap .u64 (j+(IntKind.wrap .u64 ((IntKind.wrap .u64 (List.getD b l.toNat 0))*2^32)))) (2^(min o.toNat 64))))) else none else none else none else none) (let p:Int:=IntKind.wrap .i64 (h-(IntKind.wrap .i64 (Int.tdiv a 32)));let q:Int:=IntKind.wrap .u64 (Int.tmod a 32);if q<0 then none else if 0<=p/\p<(6:Nat) then if p.toNat<6 then e (IntKind.wrap .i64 (h+1)) (List.set i (p.toNat) (IntKind.wrap .u32 (Int.fdiv j (2^(min q.toNat 64))))) else none else none) else none else none) (d i)
def uO(a:Int)(b:aA)(c:aA)(d:aA->Option α):Nat->zR α
 |0=>λ_ _=>none
 |m+1=>λe h=>Gl a b c d (uO a b c d m) e h
def VI(m n:Nat):qo α:=λa b c d e h=>uO a b c d n e h
def A7(m:Nat):qo α:=VI m m
def JB:jh qo:=⟨0,⟨46,[0],[0,1,4,5,6],[0,1000001,1000002],[(bL 0),bD,(bL 1000001),(bL 1000002),bD],[(false,[(.seq aC 6)]),(true,[(.seq aC 6)]),(true,[(.seq aC 6)])],[(2,[4,5])]⟩,λL ls k=>L (aI ls 0) ((lf ls 2).ak aC) ((lf ls 3).ak aC) (λa=>k .normal (bG 46 [4,5] [(gL 1000001),(gL 1000002)] [0,1000001,1000002] [(false,[(bX ((lf ls 2).ak aC))]),(true,[(bX ((lf ls 3).ak aC))]),(true,[(bX a)])])) (aI ls 1) ((lf ls 4).ak aC)⟩
def aku(r:qo α):qo α:=λa b c d e h=>Gl a b c d (r a b c d) e h
variable (L151l0:ax qo)
def aks:Ph α:=λa b c=>L151l0 a b [0,0,0,0,0,0] (λd=>c d) (IntKind.wrap .i64 (Int.tdiv a 32)) [0,0,0,0,0,0]
def afL(m:Nat):Ph α:=aks (A7 m)
def Zi:bR Ph:=⟨151,[(bL 0),bD],[(false,[(.seq aC 6)])],λG ls k=>G (aI ls 0) ((lf ls 1).ak aC)
  (λa=>k (.vl (.agg [(bX a)])) [[(bX ((lf ls 1).ak aC))]] [])⟩
def Zh:Hd:=⟨bZ,jD 0 (aS JB L151l0)<|cO,cZ⟩
theorem akv:jq JB (aku) (Zh L151l0) Tryz.f151:=λ_ _ _ _=>by kernel_rfl
theorem axX:dz Zi (aks L151l0) (Zh L151l0) Tryz.f151:=λ_ _ _=>by kernel_rfl
theorem akr(m:Nat):(Zh (A7 m)).ah bE:=cK
theorem akt(m:Nat):jg (aS JB (A7 m)) 0 Tryz.f151:=
 jy [] (λn=>VI m n) m (akr m) trivial (akv (A7 m))
theorem axW(m:Nat):bB Zi (afL m):=gu [0] (akr m) ⟨(akt m),trivial⟩ (axX (A7 m))
variable (G151:ax Ph)
abbrev Ct(α:Type):Type:=Bool->aA->Int->(Bool->aA->Option α)->Option α
def aiI:Ct α:=λa b c d=>cond (c==0) (d a b) (G151 c b (λe=>G151 (IntKind.wrap .i64 (c-1)) b (λh=>G152 c e (λi j=>G153 b i (λl=>G152 (IntKind.wrap .i64 (c-1)) [1,0,0,0,0,0] (λn o=>let p:Bool:=(Int.tmod (List.getD h 0 0) 2)==1;cond a (cond (dI l n) (G150 a e (λq=>d q e)) (cond p (G154 e [1,0,0,0,0,0] (λr s=>G150 a r (λt=>d t r))) (G150 a e (λu=>d u e)))) (cond p (G154 e [1,0,0,0,0,0] (λv w=>G150 a v (λx=>d x v))) (G150 a e (λy=>d y e)))))))))
def kZ(m:Nat):Ct α:=aiI (iH m) (QM m) (kL m) (yJ m) (afL m)
def yD:bR Ct:=⟨111,[xh,bD],[],λG ls k=>G (eu ls 0) ((lf ls 1).ak aC) (aI ls 2)
  (λa b=>k (S_ a b) [] [])⟩
def aiH:Hd:=⟨aL 151 (aK Zi G151)<|aL 152 (aK QN G152)<|aL 153 (aK yI G153)<|aL 150 (aK sD G150)<|aL 154 (aK JF G154)<|bZ,cO,bH 151 [0]<|bH 152 [0]<|bH 153 [0,1]<|bH 154 [0,1]<|cZ⟩
theorem awD:dz yD (aiI G150 G152 G153 G154 G151) (aiH G150 G152 G153 G154 G151) Tryz.f111:=λ_ _ _=>by kernel_rfl
theorem awC(m:Nat):(aiH (iH m) (QM m) (kL m) (yJ m) (afL m)).ah bE:=(aM (axW m) (aM (aky m) (aM (JD m) (aM (yH m) (aM (Zm m) cK)))))
theorem Jf(m:Nat):bB yD (kZ m):=bT (awC m) (awD (iH m) (QM m) (kL m) (yJ m) (afL m))
variable (G111:ax Ct)
abbrev Hr(α:Type):Type:=Int->(Bool->aA->Option α)->Option α
def ajo:Hr α:=λa b=>G109 1 (λc d=>G116 c d (IntKind.wrap .i64 (a+16)) (λe h i=>G109 16 (λj l=>G169 e h 5 (λn o=>G110 j l n o (λp q r=>G109 (-4) (λs t=>G169 e h 239 (λu v=>G110 s t u v (λw x y=>G114 p q w x (λz a0 b0=>G111 z a0 16 (λc0 d0=>b c0 d0))))))))))
def Vr(m:Nat):Hr α:=ajo (bM m) (iQ m) (dZ m) (fG m) (Zu m) (kZ m)
def YQ:bR Hr:=⟨128,[bD],[],λG ls k=>G (aI ls 0)
  (λa b=>k (.iO [(.agg [(lN a),(bX b)]),(.sv (.int .i64 (0:Int)))]) [] [])⟩
def ajm:Hd:=⟨aL 109 (aK nL G109)<|aL 116 (aK yF G116)<|aL 169 (aK Zw G169)<|aL 110 (aK yC G110)<|aL 114 (aK sw G114)<|aL 111 (aK yD G111)<|bZ,cO,cZ⟩
theorem aw7:dz YQ (ajo G109 G116 G114 G110 G169 G111) (ajm G109 G116 G114 G110 G169 G111) Tryz.f128:=λ_ _ _=>by kernel_rfl
theorem aw5(m:Nat):(ajm (bM m) (iQ m) (dZ m) (fG m) (Zu m) (kZ m)).ah bE:=(aM (si m) (aM (Jl m) (aM (ayh m) (aM (Jb m) (aM (yE m) (aM (Jf m) cK))))))
theorem aw6(m:Nat):bB YQ (Vr m):=bT (aw5 m) (aw7 (bM m) (iQ m) (dZ m) (fG m) (Zu m) (kZ m))
variable (G128:ax Hr)
abbrev Cw(α:Type):Type:=Bool->aA->(Int->Option α)->Option α
def alk:Cw α:=λa b c=>cond a (c (-1)) (cond (dI b [0,0,0,0,0,0]) (c 0) (c 1))
def Dh(m:Nat):Cw α:=alk
def Zy:bR Cw:=⟨170,[(bL 0)],[(false,[(.one .bool),(.seq aC 6)])],λG ls k=>G (eu ls 0) ((lf ls 1).ak aC)
  (λa=>k (xE a) [[(.one (.bool (eu ls 0))),(bX ((lf ls 1).ak aC))]] [])⟩
def ali:Hd:=⟨bZ,cO,cZ⟩
theorem aym:dz Zy (alk) (ali) Tryz.f170:=λ_ _ _=>by kernel_rfl
theorem ayk(m:Nat):(ali).ah bE:=cK
theorem ayl(m:Nat):bB Zy (Dh m):=bT (ayk m) (aym)
variable (G170:ax Cw)
abbrev Ht(α:Type):Type:=Int->(Bool->aA->Option α)->Option α
abbrev zN(α:Type):Type:=Int->Bool->aA->Bool->aA->Option α
abbrev TW(α β:Type):Type:=Bool->aA->(Bool->aA->Option α)->β
abbrev qi(α:Type):Type:=TW α (zN α)
def QB(G170:ax Cw)(G109:ax jT)(G168:ax uD)(G114:ax nD):TW α (zN α->zN α):=λa b c d e h i j l=>G170 h i (λn=>cond (n !=0) (G109 e (λo p=>G168 h i o p (λq r s t=>G114 j l q r (λu v w=>d (IntKind.wrap .i64 (e+1)) q r u v)))) (c j l))
def Da(G170:ax Cw)(G109:ax jT)(G168:ax uD)(G114:ax nD)(a:Bool)(b:aA)(c:Bool->aA->Option α):Nat->zN α
 |0=>λ_ _ _ _ _=>none
 |m+1=>λd e h i j=>QB G170 G109 G168 G114 a b c (Da G170 G109 G168 G114 a b c m) d e h i j
def Vt(m n:Nat):qi α:=λa b c d e h i j=>Da (Dh m) (bM m) (jX m) (dZ m) a b c n d e h i j
def AO(m:Nat):qi α:=Vt m m
def Jr:jh qi:=⟨0,⟨35,[],[2,4,6,7],[1000000,1000001,1000002],[(bL 1000000),(bL 1000001),(bL 1000002),bD],[(true,[(.one .bool),(.seq aC 6)]),(true,[(.one .bool),(.seq aC 6)]),(true,[(.one .bool),(.seq aC 6)])],[(2,[2,6])]⟩,λL ls k=>L (eu ls 1) ((lf ls 2).ak aC) (λa b=>k .normal (bG 35 [2,6] [(gL 1000000),(gL 1000001)] [1000000,1000001] [(true,[(.one (.bool (eu ls 1))),(bX ((lf ls 2).ak aC))]),(true,[(lN a),(bX b)])])) (aI ls 0) (eu ls 3) ((lf ls 4).ak aC) (eu ls 5) ((lf ls 6).ak aC)⟩
def ajs(r:qi α):qi α:=λa b c d e h i j=>QB G170 G109 G168 G114 a b c (r a b c) d e h i j
variable (L129l0:ax qi)
def ajq:Ht α:=λa b=>G109 1 (λc d=>G116 c d (IntKind.wrap .i64 (a+16)) (λe h i=>L129l0 false [0,0,0,0,0,0] (λj l=>G111 j l 16 (λn o=>b n o)) 1 e h e h))
def Vs(m:Nat):Ht α:=ajq (bM m) (iQ m) (kZ m) (AO m)
def YS:bR Ht:=⟨129,[bD],[],λG ls k=>G (aI ls 0)
  (λa b=>k (.iO [(.agg [(lN a),(bX b)]),(.sv (.int .i64 (0:Int)))]) [] [])⟩
def YR:Hd:=⟨aL 109 (aK nL G109)<|aL 116 (aK yF G116)<|aL 170 (aK Zy G170)<|aL 168 (aK JN G168)<|aL 114 (aK sw G114)<|aL 111 (aK yD G111)<|bZ,jD 0 (aS Jr L129l0)<|cO,bH 170 [0]<|cZ⟩
theorem ajt:jq Jr (ajs G109 G168 G114 G170) (YR G109 G116 G168 G114 G111 G170 L129l0) Tryz.f129:=λ_ _ _ _=>by kernel_rfl
theorem aw_:dz YS (ajq G109 G116 G111 L129l0) (YR G109 G116 G168 G114 G111 G170 L129l0) Tryz.f129:=λ_ _ _=>by kernel_rfl
theorem ajp(m:Nat):(YR (bM m) (iQ m) (jX m) (dZ m) (kZ m) (Dh m) (AO m)).ah bE:=(aM (si m) (aM (Jl m) (aM (ayl m) (aM (Zt m) (aM (yE m) (aM (Jf m) cK))))))
theorem ajr(m:Nat):jg (aS Jr (AO m)) 0 Tryz.f129:=
 jy [] (λn=>Vt m n) m (ajp m) trivial (ajt (bM m) (iQ m) (jX m) (dZ m) (kZ m) (Dh m) (AO m))
theorem aw9(m:Nat):bB YS (Vs m):=gu [0] (ajp m) ⟨(ajr m),trivial⟩ (aw_ (bM m) (iQ m) (jX m) (dZ m) (kZ m) (Dh m) (AO m))
variable (G129:ax Ht)
abbrev Hu(α:Type):Type:=Bool->aA->(Bool->aA->Option α)->Option α
abbrev zO(α:Type):Type:=Int->Bool->aA->Option α
abbrev TY(α β:Type):Type:=Bool->aA->Bool->aA->(Bool->aA->Option α)->β
abbrev qj(α:Type):Type:=TY α (zO α)
def ac9(G109:ax jT)(G116:ax Cu)(G114:ax nD)(G110:ax rG)(G117:ax nE):TY α (zO α->zO α):=λa b c d e h i j l=>cond (decide (i>=0)) (G109 1 (λn o=>G116 n o i (λp q r=>G114 j l p q (λs t u=>cond (r !=0) (h (IntKind.wrap .i64 (i-1)) j l) (cond (u !=0) (h (IntKind.wrap .i64 (i-1)) j l) (G110 s t s t (λv w x=>cond (x==0) (G117 v w a b (λy=>cond (decide (y<=0)) (h (IntKind.wrap .i64 (i-1)) s t) (h (IntKind.wrap .i64 (i-1)) j l))) (h (IntKind.wrap .i64 (i-1)) j l)))))))) (e j l)
def mr(G109:ax jT)(G116:ax Cu)(G114:ax nD)(G110:ax rG)(G117:ax nE)(a:Bool)(b:aA)(c:Bool)(d:aA)(e:Bool->aA->Option α):Nat->zO α
 |0=>λ_ _ _=>none
 |m+1=>λh i j=>ac9 G109 G116 G114 G110 G117 a b c d e (mr G109 G116 G114 G110 G117 a b c d e m) h i j
def Vu(m n:Nat):qj α:=λa b c d e h i j=>mr (bM m) (iQ m) (dZ m) (fG m) (fO m) a b c d e n h i j
def AQ(m:Nat):qj α:=Vu m m
def Jt:jh qj:=⟨0,⟨54,[],[1,2,4,5],[1000000,1000001,1000002],[(bL 1000000),(bL 1000001),(bL 1000002),bD],[(true,[(.one .bool),(.seq aC 6)]),(true,[(.one .bool),(.seq aC 6)]),(true,[(.one .bool),(.seq aC 6)])],[(2,[2,4])]⟩,λL ls k=>L (eu ls 1) ((lf ls 2).ak aC) (eu ls 3) ((lf ls 4).ak aC) (λa b=>k .normal (bG 54 [2,4] [(gL 1000000),(gL 1000001)] [1000000,1000001] [(true,[(.one (.bool (eu ls 3))),(bX ((lf ls 4).ak aC))]),(true,[(lN a),(bX b)])])) (aI ls 0) (eu ls 5) ((lf ls 6).ak aC)⟩
def ajA(r:qj α):qj α:=λa b c d e h i j=>ac9 G109 G116 G114 G110 G117 a b c d e (r a b c d e) h i j
variable (L131l0:ax qj)
def ate:Hu α:=λa b c=>G115 b (λd=>L131l0 a b false [0,0,0,0,0,0] (λe h=>c e h) (IntKind.wrap .i64 (Int.tdiv (IntKind.wrap .i64 (d+1)) 2)) false [0,0,0,0,0,0])
def YT(m:Nat):Hu α:=ate (nN m) (AQ m)
def YV:bR Hu:=⟨131,[xh],[],λG ls k=>G (eu ls 0) ((lf ls 1).ak aC)
  (λa b=>k (S_ a b) [] [])⟩
def YU:Hd:=⟨aL 115 (aK C9 G115)<|aL 109 (aK nL G109)<|aL 116 (aK yF G116)<|aL 114 (aK sw G114)<|aL 110 (aK yC G110)<|aL 117 (aK yG G117)<|bZ,jD 0 (aS Jt L131l0)<|cO,bH 115 [0]<|bH 117 [0,1]<|cZ⟩
theorem ajB:jq Jt (ajA G109 G116 G114 G117 G110) (YU G109 G115 G116 G114 G117 G110 L131l0) Tryz.f131:=λ_ _ _ _=>by kernel_rfl
theorem axg:dz YV (ate G115 L131l0) (YU G109 G115 G116 G114 G117 G110 L131l0) Tryz.f131:=λ_ _ _=>by kernel_rfl
theorem ajy(m:Nat):(YU (bM m) (nN m) (iQ m) (dZ m) (fO m) (fG m) (AQ m)).ah bE:=(aM (Qv m) (aM (si m) (aM (Jl m) (aM (yE m) (aM (Jb m) (aM (Jm m) cK))))))
theorem ajz(m:Nat):jg (aS Jt (AQ m)) 0 Tryz.f131:=
 jy [] (λn=>Vu m n) m (ajy m) trivial (ajB (bM m) (nN m) (iQ m) (dZ m) (fO m) (fG m) (AQ m))
theorem axf(m:Nat):bB YV (YT m):=gu [0] (ajy m) ⟨(ajz m),trivial⟩ (axg (bM m) (nN m) (iQ m) (dZ m) (fO m) (fG m) (AQ m))
variable (G131:ax Hu)
abbrev dG(α:Type):Type:=Int->Int->Nat->Nat->Nat->aH->gN->aH->(Bool->aA->Int->Nat->Nat->Nat->aH->gN->aH->Option α)->Option α
def amz:List TP:=[(bL 0),bD,bD]
def amx:List BP:=[(true,[(.one (.aQ 1 5)),(.one (.eX 2 0 1)),(.one (.aQ 3 2))]),(false,[(.aD aB)]),(true,[(.rws tJ)]),(true,[(.aD aY)])]
def aza{α:Type}(G:dG α)(ls:List Lf)(k:Mk α):Option α:=
 G (lf ls 0).int (lf ls 1).int (lf ls 2).nat (lf ls 3).nat (lf ls 4).nat ((lf ls 5).ak rN) ((lf ls 6).rows mK) ((lf ls 7).ak rP)
  (λc d e h j l n o p=>k (.iO [(.agg [(.one (.bool c)),(.seq uU 6 d)]),(.sv (.int .i64 e))]) [[(.one (.aQ 1 5)),(.one (.eX 2 0 1 h j l)),(.one (.aQ 4 2))],[(.aD rN n)],[(.rws mK o none)],[]] [[(.aD rP p)]])
def iU:bR dG:=⟨45,amz,amx,aza⟩
variable (G45:ax dG)
abbrev TD(α:Type):Type:=Int->Nat->Nat->Nat->aH->gN->aH->(Int->Int->Nat->Nat->Nat->gN->aH->Option α)->Option α
def azx:TD α:=λa b c d e h i j=>G45 a 0 b c d e h i (λl n o p q r s t u=>cond (o !=0) (j 0 o p q r t u) (G109 1 (λv w=>G114 false n v w (λx y z=>cond (z !=0) (j 0 z p q r t u) (G115 y (λa0=>G109 1 (λb0 c0=>G116 b0 c0 (IntKind.wrap .i64 (a0-1)) (λd0 e0 h0=>cond (h0==0) (G117 d0 e0 x y (λi0=>cond (i0==0) (j (IntKind.wrap .i64 (a0-1)) 0 p q r t u) (j a0 0 p q r t u))) (j a0 0 p q r t u)))))))))
def Yf(A45:ax dG)(m:Nat):TD α:=azx (bM m) (nN m) (iQ m) (dZ m) (fO m) A45
def Wm:bR TD:=⟨69,[(bL 0),bD],[(true,[(.one (.aQ 1 5)),(.one (.eX 2 0 1)),(.one (.aQ 3 2))]),(false,[(.aD aB)]),(true,[(.rws tJ)]),(true,[(.aD aY)])],λG ls k=>G (aI ls 0) (aO ls 1) (aO ls 2) (aO ls 3) ((lf ls 4).ak aB) ((lf ls 5).rows tJ) ((lf ls 6).ak aY)
  (λa b c d e h i=>k (.iO [(.sv (.int .i64 a)),(.sv (.int .i64 b))]) [[(.one (.aQ 1 5)),(.one (.eX 2 0 1 c d e)),(.one (.aQ 4 2))],[(.aD aB ((lf ls 4).ak aB))],[(.rws tJ h none)],[]] [[(.aD aY i)]])⟩
def auP:Hd:=⟨aL 45 (aK iU G45)<|aL 109 (aK nL G109)<|aL 114 (aK sw G114)<|aL 115 (aK C9 G115)<|aL 116 (aK yF G116)<|aL 117 (aK yG G117)<|bZ,cO,bH 45 [1]<|bH 115 [0]<|bH 117 [0,1]<|cZ⟩
theorem aEP:Ye Wm (azx G109 G115 G116 G114 G117 G45) (auP G109 G115 G116 G114 G117 G45) Tryz.f69 3:=λ_ _ _=>by kernel_rfl
theorem aEO(A45:ax dG)(hA45:bB iU A45)(m:Nat):(auP (bM m) (nN m) (iQ m) (dZ m) (fO m) A45).ah bE:=(aM hA45 (aM (si m) (aM (yE m) (aM (Qv m) (aM (Jl m) (aM (Jm m) cK))))))
theorem am0(A45:ax dG)(hA45:bB iU A45)(m:Nat):bB Wm (Yf A45 m):=Fq [] (aEO A45 hA45 m) trivial (aEP (bM m) (nN m) (iQ m) (dZ m) (fO m) A45)
variable (G69:ax TD)
abbrev Pq(α:Type):Type:=Bool->aA->Int->(Bool->aA->Int->Option α)->Option α
def aln:Pq α:=λa b c d=>cond (decide (c>191)) (d false [0,0,0,0,0,0] 3) (G111 a b c (λe h=>d e h 0))
def Zz(m:Nat):Pq α:=aln (kZ m)
def ZA:bR Pq:=⟨171,[xh,bD],[],λG ls k=>G (eu ls 0) ((lf ls 1).ak aC) (aI ls 2)
  (λa b c=>k (.iO [(.agg [(lN a),(bX b)]),(.sv (.int .i64 c))]) [] [])⟩
def alm:Hd:=⟨aL 111 (aK yD G111)<|bZ,cO,cZ⟩
theorem ayp:dz ZA (aln G111) (alm G111) Tryz.f171:=λ_ _ _=>by kernel_rfl
theorem ayn(m:Nat):(alm (kZ m)).ah bE:=(aM (Jf m) cK)
theorem ayo(m:Nat):bB ZA (Zz m):=bT (ayn m) (ayp (kZ m))
variable (G171:ax Pq)
abbrev Hw(α:Type):Type:=Nat->Int->Nat->Nat->Nat->aH->gN->aH->(Bool->aA->Int->Nat->Nat->Nat->gN->aH->Option α)->Option α
def ajD:Hw α:=λa b c d e h i j l=>if a<h.length then G69 (IntKind.wrap .i64 (((List.getD h a []).tail).headD 0)) c d e h i j (λn o p q r s t=>cond (o !=0) (l false [0,0,0,0,0,0] o p q r s t) (if a<h.length then G69 (IntKind.wrap .i64 (((List.getD h a []).tail.tail).headD 0)) p q r h s t (λu v w x y z a0=>cond (v !=0) (l false [0,0,0,0,0,0] v w x y z a0) (if a<h.length then G45 (IntKind.wrap .i64 (((List.getD h a []).tail).headD 0)) (IntKind.wrap .i64 ((IntKind.wrap .i64 (b+u))+3)) w x y h z a0 (λb0 c0 d0 e0 h0 i0 j0 l0 n0=>cond (d0 !=0) (l false [0,0,0,0,0,0] d0 e0 h0 i0 l0 n0) (if a<h.length then G45 (IntKind.wrap .i64 (((List.getD h a []).tail.tail).headD 0)) (IntKind.wrap .i64 ((IntKind.wrap .i64 (b+n))+3)) e0 h0 i0 h l0 n0 (λo0 p0 q0 r0 s0 t0 u0 v0 w0=>cond (q0 !=0) (l false [0,0,0,0,0,0] q0 r0 s0 t0 v0 w0) (G110 b0 c0 o0 p0 (λx0 y0 z0=>cond (z0 !=0) (l false [0,0,0,0,0,0] z0 r0 s0 t0 v0 w0) (G171 x0 y0 (IntKind.wrap .i64 ((IntKind.wrap .i64 ((IntKind.wrap .i64 (b+n))+u))+6)) (λa1 b1 c1=>l a1 b1 c1 r0 s0 t0 v0 w0))))) else none)) else none)) else none)) else none
def YW(A45:ax dG)(m:Nat):Hw α:=ajD (fG m) A45 (Yf A45 m) (Zz m)
def YX:bR Hw:=⟨132,[(bL 0),(.vl (.sv (.el 1 0 5 0))),bD],[(true,[(.one (.aQ 1 5)),(.one (.eX 2 0 1)),(.one (.aQ 3 2))]),(false,[(.aD aB)]),(true,[(.rws tJ)]),(true,[(.aD aY)])],λG ls k=>G (aO ls 0) (aI ls 1) (aO ls 2) (aO ls 3) (aO ls 4) ((lf ls 5).ak aB) ((lf ls 6).rows tJ) ((lf ls 7).ak aY)
  (λa b c d e h i j=>k (.iO [(.agg [(lN a),(bX b)]),(.sv (.int .i64 c))]) [[(.one (.aQ 1 5)),(.one (.eX 2 0 1 d e h)),(.one (.aQ 4 2))],[(.aD aB ((lf ls 5).ak aB))],[(.rws tJ i none)],[]] [[(.aD aY j)]])⟩
def ajC:Hd:=⟨aL 69 (aK Wm G69)<|aL 45 (aK iU G45)<|aL 110 (aK yC G110)<|aL 171 (aK ZA G171)<|bZ,cO,bH 45 [1]<|bH 69 [1]<|cZ⟩
theorem axj:Ye YX (ajD G110 G45 G69 G171) (ajC G110 G45 G69 G171) Tryz.f132 3:=λ_ _ _=>by kernel_rfl
theorem axh(A45:ax dG)(hA45:bB iU A45)(m:Nat):(ajC (fG m) A45 (Yf A45 m) (Zz m)).ah bE:=(aM (am0 A45 hA45 m) (aM hA45 (aM (Jb m) (aM (ayo m) cK))))
theorem axi(A45:ax dG)(hA45:bB iU A45)(m:Nat):bB YX (YW A45 m):=Fq [] (axh A45 hA45 m) trivial (axj (fG m) A45 (Yf A45 m) (Zz m))
variable (G132:ax Hw)
abbrev Ps(α:Type):Type:=Int->Nat->Nat->Nat->aH->gN->aH->(Int->Int->Nat->Nat->Nat->gN->aH->Option α)->Option α
abbrev zZ(α:Type):Type:=Int->Nat->Nat->Nat->gN->aH->Option α
abbrev Ui(α β:Type):Type:=Int->aH->(Int->Int->Nat->Nat->Nat->gN->aH->Option α)->(Nat->Nat->Nat->gN->aH->Option α)->β
abbrev qC(α:Type):Type:=Ui α (zZ α)
def QZ(G45:ax dG)(G109:ax jT)(G117:ax nE):Ui α (zZ α->zZ α):=λa b c d e h i j l n o=>cond (decide (h<=40)) (G45 a (IntKind.wrap .i64 (h+2)) i j l b n o (λp q r s t u v w x=>cond (r !=0) (c 0 r s t u w x) (G109 5 (λy z=>G117 false q y z (λa0=>cond (decide (a0>=0)) (c h 0 s t u w x) (e (IntKind.wrap .i64 (h+1)) s t u w x)))))) (d i j l n o)
def Di(G45:ax dG)(G109:ax jT)(G117:ax nE)(a:Int)(b:aH)(c:Int->Int->Nat->Nat->Nat->gN->aH->Option α)(d:Nat->Nat->Nat->gN->aH->Option α):Nat->zZ α
 |0=>λ_ _ _ _ _ _=>none
 |m+1=>λe h i j l n=>QZ G45 G109 G117 a b c d (Di G45 G109 G117 a b c d m) e h i j l n
def VX(A45:ax dG)(m n:Nat):qC α:=λa b c d e h i j l o=>Di A45 (bM m) (fO m) a b c d n e h i j l o
def Bc(A45:ax dG)(m:Nat):qC α:=VX A45 m m
def JQ:jh qC:=⟨0,⟨30,[0,1,2,3],[0,1,6],[0,1,2,3,1000004],[(bL 0),bD,bD],[(true,[(.one (.aQ 1 5)),(.one (.eX 2 0 1)),(.one (.aQ 1000004 2))]),(false,[(.aD aB)]),(true,[(.rws tJ)]),(true,[]),(true,[(.aD aY)])],[(1,[4,5]),(2,[])]⟩,λL ls k=>L (aI ls 0) ((lf ls 5).ak aB) (λa b c d e h i=>k .ret (bG 30 [4,5] [(xE a),(xE b)] [0,1,2,3,1000004] [(true,[(.one (.aQ 1 5)),(.one (.eX 2 0 1 c d e)),(.one (.aQ 1000004 2))]),(false,[(.aD aB ((lf ls 5).ak aB))]),(true,[(.rws tJ h none)]),(true,[]),(true,[(.aD aY i)])])) (λa b c e j=>k .normal (bG 30 [] [] [0,1,2,3,1000004] [(true,[(.one (.aQ 1 5)),(.one (.eX 2 0 1 a b c)),(.one (.aQ 1000004 2))]),(false,[(.aD aB ((lf ls 5).ak aB))]),(true,[(.rws tJ e none)]),(true,[]),(true,[(.aD aY j)])])) (aI ls 1) (aO ls 2) (aO ls 3) (aO ls 4) ((lf ls 6).rows tJ) ((lf ls 7).ak aY)⟩
def alr(r:qC α):qC α:=λa b c d e h i j l n=>QZ G45 G109 G117 a b c d (r a b c d) e h i j l n
variable (L172l0:ax qC)
def alp:Ps α:=λa b c d e h i j=>L172l0 a e (λl n o p q r s=>j l n o p q r s) (λt u v w x=>j 0 7 t u v w x) 0 b c d h i
def afM(A45:ax dG)(m:Nat):Ps α:=alp (Bc A45 m)
def ZC:bR Ps:=⟨172,[(bL 0),bD],[(true,[(.one (.aQ 1 5)),(.one (.eX 2 0 1)),(.one (.aQ 3 2))]),(false,[(.aD aB)]),(true,[(.rws tJ)]),(true,[(.aD aY)])],λG ls k=>G (aI ls 0) (aO ls 1) (aO ls 2) (aO ls 3) ((lf ls 4).ak aB) ((lf ls 5).rows tJ) ((lf ls 6).ak aY)
  (λa b c d e h i=>k (.iO [(.sv (.int .i64 a)),(.sv (.int .i64 b))]) [[(.one (.aQ 1 5)),(.one (.eX 2 0 1 c d e)),(.one (.aQ 4 2))],[(.aD aB ((lf ls 4).ak aB))],[(.rws tJ h none)],[]] [[(.aD aY i)]])⟩
def ZB:Hd:=⟨aL 45 (aK iU G45)<|aL 109 (aK nL G109)<|aL 117 (aK yG G117)<|bZ,jD 0 (aS JQ L172l0)<|cO,bH 45 [1]<|bH 117 [0,1]<|cZ⟩
theorem als:jq JQ (alr G109 G117 G45) (ZB G109 G117 G45 L172l0) Tryz.f172:=λ_ _ _ _=>by kernel_rfl
theorem ays:Ye ZC (alp L172l0) (ZB G109 G117 G45 L172l0) Tryz.f172 3:=λ_ _ _=>by kernel_rfl
theorem alo(A45:ax dG)(hA45:bB iU A45)(m:Nat):(ZB (bM m) (fO m) A45 (Bc A45 m)).ah bE:=(aM hA45 (aM (si m) (aM (Jm m) cK)))
theorem alq(A45:ax dG)(hA45:bB iU A45)(m:Nat):jg (aS JQ (Bc A45 m)) 0 Tryz.f172:=
 jy [] (λn=>VX A45 m n) m (alo A45 hA45 m) trivial (als (bM m) (fO m) A45 (Bc A45 m))
theorem ayr(A45:ax dG)(hA45:bB iU A45)(m:Nat):bB ZC (afM A45 m):=Fq [0] (alo A45 hA45 m) ⟨(alq A45 hA45 m),trivial⟩ (ays (bM m) (fO m) A45 (Bc A45 m))
variable (G172:ax Ps)
abbrev Hy(α:Type):Type:=Nat->Int->Nat->Nat->Nat->aH->gN->aH->(Bool->aA->Int->Nat->Nat->Nat->gN->aH->Option α)->Option α
def ajF:Hy α:=λa b c d e h i j l=>if a<h.length then G172 (IntKind.wrap .i64 (((List.getD h a []).tail.tail).headD 0)) c d e h i j (λn o p q r s t=>cond (o !=0) (l false [0,0,0,0,0,0] o p q r s t) (if a<h.length then G69 (IntKind.wrap .i64 (((List.getD h a []).tail).headD 0)) p q r h s t (λu v w x y z a0=>cond (v !=0) (l false [0,0,0,0,0,0] v w x y z a0) (if a<h.length then G45 (IntKind.wrap .i64 (((List.getD h a []).tail).headD 0)) (IntKind.wrap .i64 ((IntKind.wrap .i64 (b+n))+3)) w x y h z a0 (λb0 c0 d0 e0 h0 i0 j0 l0 n0=>cond (d0 !=0) (l false [0,0,0,0,0,0] d0 e0 h0 i0 l0 n0) (if a<h.length then G45 (IntKind.wrap .i64 (((List.getD h a []).tail.tail).headD 0)) (IntKind.wrap .i64 ((IntKind.wrap .i64 ((IntKind.wrap .i64 (b+u))+(IntKind.wrap .i64 (2*n))))+4)) e0 h0 i0 h l0 n0 (λo0 p0 q0 r0 s0 t0 u0 v0 w0=>cond (q0 !=0) (l false [0,0,0,0,0,0] q0 r0 s0 t0 v0 w0) (G126 b0 c0 (IntKind.wrap .i64 ((IntKind.wrap .i64 ((IntKind.wrap .i64 (b+u))+n))+1)) (λx0 y0 z0=>cond (z0 !=0) (l false [0,0,0,0,0,0] z0 r0 s0 t0 v0 w0) (G127 x0 y0 o0 p0 (λa1 b1=>l a1 b1 0 r0 s0 t0 v0 w0))))) else none)) else none)) else none)) else none
def YZ(A45:ax dG)(m:Nat):Hy α:=ajF (Jp m) (Jq m) A45 (Yf A45 m) (afM A45 m)
def Y0:bR Hy:=⟨133,[(bL 0),(.vl (.sv (.el 1 0 5 0))),bD],[(true,[(.one (.aQ 1 5)),(.one (.eX 2 0 1)),(.one (.aQ 3 2))]),(false,[(.aD aB)]),(true,[(.rws tJ)]),(true,[(.aD aY)])],λG ls k=>G (aO ls 0) (aI ls 1) (aO ls 2) (aO ls 3) (aO ls 4) ((lf ls 5).ak aB) ((lf ls 6).rows tJ) ((lf ls 7).ak aY)
  (λa b c d e h i j=>k (.iO [(.agg [(lN a),(bX b)]),(.sv (.int .i64 c))]) [[(.one (.aQ 1 5)),(.one (.eX 2 0 1 d e h)),(.one (.aQ 4 2))],[(.aD aB ((lf ls 5).ak aB))],[(.rws tJ i none)],[]] [[(.aD aY j)]])⟩
def ajE:Hd:=⟨aL 172 (aK ZC G172)<|aL 69 (aK Wm G69)<|aL 45 (aK iU G45)<|aL 126 (aK Qz G126)<|aL 127 (aK QA G127)<|bZ,cO,bH 45 [1]<|bH 69 [1]<|bH 172 [1]<|cZ⟩
theorem axn:Ye Y0 (ajF G126 G127 G45 G69 G172) (ajE G126 G127 G45 G69 G172) Tryz.f133 3:=λ_ _ _=>by kernel_rfl
theorem axl(A45:ax dG)(hA45:bB iU A45)(m:Nat):(ajE (Jp m) (Jq m) A45 (Yf A45 m) (afM A45 m)).ah bE:=(aM (ayr A45 hA45 m) (aM (am0 A45 hA45 m) (aM hA45 (aM (aji m) (aM (ajl m) cK)))))
theorem axm(A45:ax dG)(hA45:bB iU A45)(m:Nat):bB Y0 (YZ A45 m):=Fq [] (axl A45 hA45 m) trivial (axn (Jp m) (Jq m) A45 (Yf A45 m) (afM A45 m))
variable (G133:ax Hy)
end
end Go.Proofs.YtlmmgjngihlpeaaGreatDoor.Sx
