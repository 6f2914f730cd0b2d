/- Part 7 of the proof that what is shared, pruned and joined is approximated as before, that terms are read from their texts, and that decimals begin as the approximations tell. Our own work, shortened by a program of ours. -/
import Derived.Test.YtlmmgjngihlpeaaGreatDoorFsf
namespace Go.Proofs.YtlmmgjngihlpeaaGreatDoor.Sx
open Go
set_option linter.unusedVariables false
set_option linter.unusedSimpArgs false
set_option maxRecDepth 100000
noncomputable section
variable {α:Type}
variable (G96:ax H8)(G65:ax xG)(G97:ax TG)(G98:ax H9)(G99:ax H_)(G100:ax Hf)(G101:ax rF)(G102:ax xX)(G113:ax Hl)(G104:ax mo)(G173:ax HV)(G62:ax M0)(G139:ax Hz)(G74:ax xH)(G35:ax Em)(G79:ax M7)(G16:ax Ej)(G90:ax H7)(G57:ax TA)(G43:ax MX)(G44:ax MZ)(G109:ax jT)(G126:ax Ho)(G114:ax nD)(G127:ax Hq)(G117:ax nE)(G130:ax xY)(G111:ax Ct)(G128:ax Hr)(G129:ax Ht)(G131:ax Hu)(G45:ax dG)(G132:ax Hw)(G133:ax Hy)
abbrev abL(α:Type):Type:=Nat->Int->Nat->Nat->Nat->aH->gN->aH->(Bool->aA->Int->Nat->Nat->Nat->gN->aH->Option α)->Option α
def azP:abL α:=λa b c d e h i j l=>if a<h.length then let n:Int:=(List.getD h a []).headD 0;cond (n==1) (if a<h.length then G109 (((List.getD h a []).tail.tail.tail).headD 0) (λo p=>G126 o p b (λq r s=>cond (s !=0) (l false [0,0,0,0,0,0] s c d e i j) (if a<h.length then G109 (((List.getD h a []).tail.tail.tail.tail).headD 0) (λt u=>G127 q r t u (λv w=>l v w 0 c d e i j)) else none))) else none) (cond (n==11) (G128 b (λx y=>l x y 0 c d e i j)) (cond (n==12) (G129 b (λz a0=>l z a0 0 c d e i j)) (cond (n==6) (if a<h.length then G45 (IntKind.wrap .i64 (((List.getD h a []).tail).headD 0)) b c d e h i j (λb0 c0 d0 e0 h0 i0 j0 l0 n0=>cond (d0 !=0) (l false [0,0,0,0,0,0] d0 e0 h0 i0 l0 n0) (if a<h.length then cond (((List.getD h a []).headD 0)==6) (G130 b0 c0 (λo0=>l o0 c0 0 e0 h0 i0 l0 n0)) (cond b0 (G130 b0 c0 (λp0=>l p0 c0 0 e0 h0 i0 l0 n0)) (l b0 c0 0 e0 h0 i0 l0 n0)) else none)) else none) (cond (n==7) (if a<h.length then G45 (IntKind.wrap .i64 (((List.getD h a []).tail).headD 0)) b c d e h i j (λq0 r0 s0 t0 u0 v0 w0 x0 y0=>cond (s0 !=0) (l false [0,0,0,0,0,0] s0 t0 u0 v0 x0 y0) (if a<h.length then cond (((List.getD h a []).headD 0)==6) (G130 q0 r0 (λz0=>l z0 r0 0 t0 u0 v0 x0 y0)) (cond q0 (G130 q0 r0 (λa1=>l a1 r0 0 t0 u0 v0 x0 y0)) (l q0 r0 0 t0 u0 v0 x0 y0)) else none)) else none) (cond (n==10) (if a<h.length then G45 (IntKind.wrap .i64 (((List.getD h a []).tail).headD 0)) (IntKind.wrap .i64 ((IntKind.wrap .i64 (2*b))+6)) c d e h i j (λb1 c1 d1 e1 h1 i1 j1 l1 n1=>cond (d1 !=0) (l false [0,0,0,0,0,0] d1 e1 h1 i1 l1 n1) (cond b1 (l false [0,0,0,0,0,0] d1 e1 h1 i1 l1 n1) (G131 b1 c1 (λo1 p1=>G111 o1 p1 3 (λq1 r1=>l q1 r1 0 e1 h1 i1 l1 n1))))) else none) (cond (n==4) (G132 a b c d e h i j (λs1 t1 u1 v1 w1 x1 y1 z1=>l s1 t1 u1 v1 w1 x1 y1 z1)) (cond (n==5) (G133 a b c d e h i j (λa2 b2 c2 d2 e2 h2 i2 j2=>l a2 b2 c2 d2 e2 h2 i2 j2)) (if a<h.length then cond (((List.getD h a []).headD 0)==8) (if a<h.length then G45 (IntKind.wrap .i64 (((List.getD h a []).tail).headD 0)) (IntKind.wrap .i64 (b+0)) c d e h i j (λl2 n2 o2 p2 q2 r2 s2 t2 u2=>cond (o2 !=0) (l false [0,0,0,0,0,0] o2 p2 q2 r2 t2 u2) (if a<h.length then G45 (IntKind.wrap .i64 (((List.getD h a []).tail.tail).headD 0)) (IntKind.wrap .i64 (b+0)) p2 q2 r2 h t2 u2 (λv2 w2 x2 y2 z2 a3 b3 c3 d3=>cond (x2 !=0) (l false [0,0,0,0,0,0] x2 y2 z2 a3 c3 d3) (if a<h.length then let e3:Int:=(List.getD h a []).headD 0;cond (e3==8) (G117 l2 n2 v2 w2 (λh3=>if a<h.length then cond ((decide (h3<0))==(((List.getD h a []).headD 0)==8)) (l l2 n2 0 y2 z2 a3 c3 d3) (l v2 w2 0 y2 z2 a3 c3 d3) else none)) (cond (e3==9) (G117 l2 n2 v2 w2 (λi3=>if a<h.length then cond ((decide (i3<0))==(((List.getD h a []).headD 0)==8)) (l l2 n2 0 y2 z2 a3 c3 d3) (l v2 w2 0 y2 z2 a3 c3 d3) else none)) (cond (e3==3) (G130 v2 w2 (λj3=>G114 l2 n2 j3 w2 (λl3 n3 o3=>cond (o3 !=0) (l false [0,0,0,0,0,0] o3 y2 z2 a3 c3 d3) (G111 l3 n3 2 (λp3 q3=>l p3 q3 0 y2 z2 a3 c3 d3))))) (G114 l2 n2 v2 w2 (λr3 s3 t3=>cond (t3 !=0) (l false [0,0,0,0,0,0] t3 y2 z2 a3 c3 d3) (G111 r3 s3 2 (λu3 v3=>l u3 v3 0 y2 z2 a3 c3 d3)))))) else none)) else none)) else none) (if a<h.length then cond (((List.getD h a []).headD 0)==9) (if a<h.length then G45 (IntKind.wrap .i64 (((List.getD h a []).tail).headD 0)) (IntKind.wrap .i64 (b+0)) c d e h i j (λw3 x3 y3 z3 a4 b4 c4 d4 e4=>cond (y3 !=0) (l false [0,0,0,0,0,0] y3 z3 a4 b4 d4 e4) (if a<h.length then G45 (IntKind.wrap .i64 (((List.getD h a []).tail.tail).headD 0)) (IntKind.wrap .i64 (b+0)) z3 a4 b4 h d4 e4 (λh4 i4 j4 l4 n4 o4 p4 q4 r4=>cond (j4 !=0) (l false [0,0,0,0,0,0] j4 l4 n4 o4 q4 r4) (if a<h.length then let s4:Int:=(List.getD h a []).headD 0;cond (s4==8) (G117 w3 x3 h4 i4 (λt4=>if a<h.length then cond ((decide (t4<0))==(((List.getD h a []).headD 0)==8)) (l w3 x3 0 l4 n4 o4 q4 r4) (l h4 i4 0 l4 n4 o4 q4 r4) else none)) (cond (s4==9) (G117 w3 x3 h4 i4 (λu4=>if a<h.length then cond ((decide (u4<0))==(((List.getD h a []).headD 0)==8)) (l w3 x3 0 l4 n4 o4 q4 r4) (l h4 i4 0 l4 n4 o4 q4 r4) else none)) (cond (s4==3) (G130 h4 i4 (λv4=>G114 w3 x3 v4 i4 (λw4 x4 y4=>cond (y4 !=0) (l false [0,0,0,0,0,0] y4 l4 n4 o4 q4 r4) (G111 w4 x4 2 (λz4 a5=>l z4 a5 0 l4 n4 o4 q4 r4))))) (G114 w3 x3 h4 i4 (λb5 c5 d5=>cond (d5 !=0) (l false [0,0,0,0,0,0] d5 l4 n4 o4 q4 r4) (G111 b5 c5 2 (λe5 h5=>l e5 h5 0 l4 n4 o4 q4 r4)))))) else none)) else none)) else none) (if a<h.length then G45 (IntKind.wrap .i64 (((List.getD h a []).tail).headD 0)) (IntKind.wrap .i64 (b+2)) c d e h i j (λi5 j5 l5 n5 o5 p5 q5 r5 s5=>cond (l5 !=0) (l false [0,0,0,0,0,0] l5 n5 o5 p5 r5 s5) (if a<h.length then G45 (IntKind.wrap .i64 (((List.getD h a []).tail.tail).headD 0)) (IntKind.wrap .i64 (b+2)) n5 o5 p5 h r5 s5 (λt5 u5 v5 w5 x5 y5 z5 a6 b6=>cond (v5 !=0) (l false [0,0,0,0,0,0] v5 w5 x5 y5 a6 b6) (if a<h.length then let c6:Int:=(List.getD h a []).headD 0;cond (c6==8) (G117 i5 j5 t5 u5 (λd6=>if a<h.length then cond ((decide (d6<0))==(((List.getD h a []).headD 0)==8)) (l i5 j5 0 w5 x5 y5 a6 b6) (l t5 u5 0 w5 x5 y5 a6 b6) else none)) (cond (c6==9) (G117 i5 j5 t5 u5 (λe6=>if a<h.length then cond ((decide (e6<0))==(((List.getD h a []).headD 0)==8)) (l i5 j5 0 w5 x5 y5 a6 b6) (l t5 u5 0 w5 x5 y5 a6 b6) else none)) (cond (c6==3) (G130 t5 u5 (λh6=>G114 i5 j5 h6 u5 (λi6 j6 l6=>cond (l6 !=0) (l false [0,0,0,0,0,0] l6 w5 x5 y5 a6 b6) (G111 i6 j6 2 (λn6 o6=>l n6 o6 0 w5 x5 y5 a6 b6))))) (G114 i5 j5 t5 u5 (λp6 q6 r6=>cond (r6 !=0) (l false [0,0,0,0,0,0] r6 w5 x5 y5 a6 b6) (G111 p6 q6 2 (λs6 t6=>l s6 t6 0 w5 x5 y5 a6 b6)))))) else none)) else none)) else none) else none) else none)))))))) else none
def NW(A45:ax dG)(m:Nat):abL α:=azP (bM m) (Jp m) (dZ m) (Jq m) (fO m) (uf m) (kZ m) (Vr m) (Vs m) (YT m) A45 (YW A45 m) (YZ A45 m)
def ane:bR abL:=⟨87,[(bL 0),(.vl (.sv (.el 1 0 5 0))),bD],[(true,[(.one (.aQ 1 5)),(.one (.eX 2 0 1)),(.one (.aQ 3 2))]),(false,[(.aD aB)]),(true,[(.rws tJ)]),(true,[(.aD aY)])],λG ls k=>G (aO ls 0) (aI ls 1) (aO ls 2) (aO ls 3) (aO ls 4) ((lf ls 5).ak aB) ((lf ls 6).rows tJ) ((lf ls 7).ak aY)
  (λa b c d e h i j=>k (.iO [(.agg [(lN a),(bX b)]),(.sv (.int .i64 c))]) [[(.one (.aQ 1 5)),(.one (.eX 2 0 1 d e h)),(.one (.aQ 4 2))],[(.aD aB ((lf ls 5).ak aB))],[(.rws tJ i none)],[]] [[(.aD aY j)]])⟩
def avb:Hd:=⟨aL 109 (aK nL G109)<|aL 126 (aK Qz G126)<|aL 127 (aK QA G127)<|aL 128 (aK YQ G128)<|aL 129 (aK YS G129)<|aL 45 (aK iU G45)<|aL 130 (aK QC G130)<|aL 131 (aK YV G131)<|aL 111 (aK yD G111)<|aL 132 (aK YX G132)<|aL 133 (aK Y0 G133)<|aL 117 (aK yG G117)<|aL 114 (aK sw G114)<|bZ,cO,bH 45 [1]<|bH 117 [0,1]<|bH 132 [1]<|bH 133 [1]<|cZ⟩
theorem aFp:Ye ane (azP G109 G126 G114 G127 G117 G130 G111 G128 G129 G131 G45 G132 G133) (avb G109 G126 G114 G127 G117 G130 G111 G128 G129 G131 G45 G132 G133) Tryz.f87 3:=λ_ _ _=>by kernel_rfl
theorem aFn(A45:ax dG)(hA45:bB iU A45)(m:Nat):(avb (bM m) (Jp m) (dZ m) (Jq m) (fO m) (uf m) (kZ m) (Vr m) (Vs m) (YT m) A45 (YW A45 m) (YZ A45 m)).ah bE:=(aM (si m) (aM (aji m) (aM (ajl m) (aM (aw6 m) (aM (aw9 m) (aM hA45 (aM (ajw m) (aM (axf m) (aM (Jf m) (aM (axi A45 hA45 m) (aM (axm A45 hA45 m) (aM (Jm m) (aM (yE m) cK)))))))))))))
theorem aFo(A45:ax dG)(hA45:bB iU A45)(m:Nat):bB ane (NW A45 m):=Fq [] (aFn A45 hA45 m) trivial (aFp (bM m) (Jp m) (dZ m) (Jq m) (fO m) (uf m) (kZ m) (Vr m) (Vs m) (YT m) A45 (YW A45 m) (YZ A45 m))
variable (G87:ax abL)
abbrev FT(α:Type):Type:=Int->Option α
abbrev ab5(α β:Type):Type:=Int->Int->Nat->Nat->Nat->aH->gN->Nat->Bool->aA->Ty3->aH->(gN->Bool->aA->Option α)->(gN->Option α)->β
abbrev vP(α:Type):Type:=ab5 α (FT α)
def amy:ab5 α (FT α->FT α):=λc d e h j l n o p q r s t u v w=>cond (decide (w<((r.length:Nat):Int))) (if 0<=w/\w<(r.length:Nat) then if w.toNat<r.length then cond (((List.getD r (w.toNat) (pD [.i .i64, .b, .a .u32 6])).1)==d) (if 0<=w/\w<(r.length:Nat) then if w.toNat<r.length then let x:Ty4:=List.getD r (w.toNat) (pD [.i .i64, .b, .a .u32 6]);if o<n.length then t (List.set n o r) (x.2.1) (xC 6 x.2.2.1) else none else none else none) (v (IntKind.wrap .i64 (w+1))) else none else none) (if o<n.length then u (List.set n o r) else none)
def J_(a b:Int)(c d e:Nat)(h:aH)(i:gN)(j:Nat)(l:Bool)(n:aA)(o:Ty3)(p:aH)(q:gN->Bool->aA->Option α)(r:gN->Option α):Nat->FT α
 |0=>λ_=>none
 |m+1=>λs=>amy a b c d e h i j l n o p q r (J_ a b c d e h i j l n o p q r m) s
def adH(A45:ax dG)(m n:Nat):vP α:=λa b c d e h i j l o p q r s t=>J_ a b c d e h i j l o p q r s n t
def Ka(A45:ax dG)(m:Nat):vP α:=adH A45 m m
def Rk:jh vP:=⟨0,⟨89,[0,1,2,3],[0,1,2,6,8,9],[0,1,2,3,1000004,1000005,1000006],[(bL 0),bD,bD,(bL 1000004),(.vl (.sv (.aQ 1000005 8))),bD],[(true,[(.one (.aQ 1 5)),(.one (.eX 2 0 1)),(.one (.aQ 1000006 2))]),(false,[(.aD aB)]),(true,[(.rwh tJ 1000005)]),(true,[]),(true,[(.one .bool),(.seq aC 6)]),(true,[(.aD tJ)]),(true,[(.aD aY)])],[(1,[6,7]),(2,[0,1,2,6])]⟩,λL ls k=>L (aI ls 0) (aI ls 1) (aO ls 3) (aO ls 4) (aO ls 5) ((lf ls 6).ak aB) ((lf ls 7).rows tJ) (aO ls 8) (eu ls 9) ((lf ls 10).ak aC) ((lf ls 11).ak tJ) ((lf ls 12).ak aY) (λa b c=>k .ret (bG 89 [6,7] [(gL 1000004),(xE (0:Int))] [0,1,2,3,1000004,1000005] [(true,[(.one (.aQ 1 5)),(.one (.eX 2 0 1 (aO ls 3) (aO ls 4) (aO ls 5))),(.one (.aQ 1000005 2))]),(false,[(.aD aB ((lf ls 6).ak aB))]),(true,[(.rws tJ a none)]),(true,[]),(true,[(lN b),(bX c)]),(true,[(.aD aY ((lf ls 12).ak aY))])])) (λb=>k .normal (bG 89 [0,1,2,6] [(gL 0),(.vl (.sv (.int .i64 (aI ls 0)))),(.vl (.sv (.int .i64 (aI ls 1)))),(gL 1000004)] [0,1,2,3,1000004,1000005] [(true,[(.one (.aQ 1 5)),(.one (.eX 2 0 1 (aO ls 3) (aO ls 4) (aO ls 5))),(.one (.aQ 1000005 2))]),(false,[(.aD aB ((lf ls 6).ak aB))]),(true,[(.rws tJ b none)]),(true,[]),(true,[(.one (.bool (eu ls 9))),(bX ((lf ls 10).ak aC))]),(true,[(.aD aY ((lf ls 12).ak aY))])])) (aI ls 2)⟩
def aqt(r:vP α):vP α:=λa b c d e h i j l n o p q s t=>amy a b c d e h i j l n o p q s (r a b c d e h i j l n o p q s) t
variable (L45l0:ax vP)
def aDL:dG α:=λa b c d e h i j l=>if 0<=a/\a<(d:Nat) then if(c+a.toNat)<i.length then L45l0 a b c d e h i (c+a.toNat) false [0,0,0,0,0,0] (List.getD i (c+a.toNat) []) j (λn o p=>l o p 0 c d e h n j) (λq=>cond (decide (b>160)) (l false [0,0,0,0,0,0] 3 c d e h q j) (if j.length+1<=67108864 then if 0<=a/\a<(h.length:Nat) then G87 (a.toNat) b c d e h q (j++[[(IntKind.wrap .i16 a),(IntKind.wrap .i16 b)]]) (λr s t u v w x y=>cond (t !=0) (l false [0,0,0,0,0,0] t u v w h x y) (if 0<=a/\a<(v:Nat) then if(u+a.toNat)<x.length then let z:Ty3:=List.getD x (u+a.toNat) [];if z.length+1<=67108864 then if 0<=a/\a<(v:Nat) then if(u+a.toNat)<x.length/\(u+a.toNat)=(u+a.toNat) then l r s 0 u v w h (List.set x (u+a.toNat) (z++[(b,r,s,())])) y else none else none else none else none else none)) else none else none)) 0 else none else none
def xL(m:Nat):ax dG:=
 Nat.rec (motive:=λ_=>ax dG) (λ{α}=>λ_ _ _ _ _ _ _ _ _=>none) (λm ih {α}=>aDL (NW ih m) (Ka ih m)) m
def amv:Hd:=⟨aL 87 (aK ane G87)<|bZ,jD 0 (aS Rk L45l0)<|cO,bH 87 [1]<|cZ⟩
theorem aqu:jq Rk (aqt) (amv G87 L45l0) Tryz.f45:=λ_ _ _ _=>by kernel_rfl
theorem aDJ:Ye iU (aDL G87 L45l0) (amv G87 L45l0) Tryz.f45 3:=λ_ _ _=>by kernel_rfl
theorem auh(A45:ax dG)(hA45:bB iU A45)(m:Nat):(amv (NW A45 m) (Ka A45 m)).ah bE:=(aM (aFo A45 hA45 m) cK)
theorem aqs(A45:ax dG)(hA45:bB iU A45)(m:Nat):jg (aS Rk (Ka A45 m)) 0 Tryz.f45:=
 jy [] (λn=>adH A45 m n) m (auh A45 hA45 m) trivial (aqu (NW A45 m) (Ka A45 m))
theorem ay_(m:Nat)(hA:bB iU (xL m)):uo bE 45 amz amx (aza (xL (m+1))):=
 avK (X:=iU) (l:=[0]) (auh (xL m) hA m) ⟨(aqs (xL m) hA m),trivial⟩ (aDJ (NW (xL m) m) (Ka (xL m) m))
theorem aui:∀m:Nat,uo bE 45 amz amx (aza (xL m))
 |0=>λα ls k r h=>nomatch (show(none:Option α)=some r from h)
 |m+1=>ay_ m (row_of (aui m))
theorem amw(m:Nat):bB iU (xL m):=row_of (aui m)
abbrev Ti(α:Type):Type:=Int->Int->aH->(Bool->aA->Int->Option α)->Option α
def axb:Ti α:=λa b c d=>G43 a b c (λe=>cond (e !=0) (d false [0,0,0,0,0,0] e) (G44 c (λh i j l=>G45 a b 0 h i c j l (λn o p q r s t u v=>d n o p))))
def g12(m:Nat):Ti α:=axb (NK m) (Z0 m) (xL m)
def aju:bR Ti:=⟨12,[(.vl (.sv (.aQ 0 5))),bD,bD],[(false,[(.aD aB)])],λG ls k=>G (aI ls 0) (aI ls 1) ((lf ls 2).ak aB)
  (λa b c=>k (.iO [(.agg [(lN a),(bX b)]),(.sv (.int .i64 c))]) [[(.aD aB ((lf ls 2).ak aB))]] [])⟩
def atc:Hd:=⟨aL 43 (aK NM G43)<|aL 44 (aK V_ G44)<|aL 45 (aK iU G45)<|bZ,cO,bH 43 [0]<|bH 44 [0]<|bH 45 [1]<|cZ⟩
theorem aBT:dz aju (axb G43 G44 G45) (atc G43 G44 G45) Tryz.f12:=λ_ _ _=>by kernel_rfl
theorem aBR(m:Nat):(atc (NK m) (Z0 m) (xL m)).ah bE:=(aM (adG m) (aM (amu m) (aM (amw m) cK)))
theorem aBS(m:Nat):bB aju (g12 m):=bT (aBR m) (aBT (NK m) (Z0 m) (xL m))
variable (G12:ax Ti)
abbrev abM(α:Type):Type:=Nat->Nat->Nat->aH->aA->(Bool->Option α)->Option α
abbrev F6(α:Type):Type:=Int->Option α
abbrev ach(α β:Type):Type:=Nat->Nat->Nat->Int->aH->aA->(Option α)->(Option α)->β
abbrev v_(α:Type):Type:=ach α (F6 α)
def aak:ach α (F6 α->F6 α):=λa b c d e h i j l n=>cond (decide (n<d)) (if 0<=n/\n<(b:Nat) then if(a+n.toNat)<1 then G79 (List.getD h (a+n.toNat) 0) 0 (IntKind.wrap .i64 (((e.length:Nat):Int)-1)) (λo=>cond (!o) (i) (l (IntKind.wrap .i64 (n+1)))) else none else none) (j)
def Wq(a b c:Nat)(d:Int)(e:aH)(h:aA)(i j:Option α):Nat->F6 α
 |0=>λ_=>none
 |m+1=>λl=>aak G79 a b c d e h i j (Wq a b c d e h i j m) l
def aei(m n:Nat):v_ α:=λa b c d e h i j l=>Wq (Kr m) a b c d e h i j n l
def Ku(m:Nat):v_ α:=aei m m
def RB:jh v_:=⟨0,⟨20,[0,1],[0,7,8,9],[0,1],[(.vl (.sv (.aQ 0 5))),(.vl (.sv (.eX 1 0 1))),bD,bD],[(false,[(.aD aB)]),(false,[(.seq (.int .i64) 1)])],[(1,[4]),(2,[])]⟩,λL ls k=>L (aO ls 0) (aO ls 1) (aO ls 2) (aI ls 3) ((lf ls 5).ak aB) ((lf ls 6).ak (.int .i64)) (k .ret (bG 20 [4] [(zm false)] [0,1] [(false,[(.aD aB ((lf ls 5).ak aB))]),(false,[(.seq (.int .i64) 1 ((lf ls 6).ak (.int .i64)))])])) (k .normal (bG 20 [] [] [0,1] [(false,[(.aD aB ((lf ls 5).ak aB))]),(false,[(.seq (.int .i64) 1 ((lf ls 6).ak (.int .i64)))])])) (aI ls 4)⟩
def arq(r:v_ α):v_ α:=λa b c d e h i j l=>aak G79 a b c d e h i j (r a b c d e h i j) l
variable (L88l0:ax v_)
def azQ:abM α:=λa b c d e h=>L88l0 a b c ((b:Nat):Int) d e (h false) (h true) 0
def g88(m:Nat):abM α:=azQ (Ku m)
def ang:bR abM:=⟨88,[(.vl (.sv (.aQ 0 5))),(.vl (.sv (.eX 1 0 1)))],[(false,[(.aD aB)]),(false,[(.seq (.int .i64) 1)])],λG ls k=>G (aO ls 0) (aO ls 1) (aO ls 2) ((lf ls 3).ak aB) ((lf ls 4).ak (.int .i64))
  (λa=>k (zm a) [[(.aD aB ((lf ls 3).ak aB))],[(.seq (.int .i64) 1 ((lf ls 4).ak (.int .i64)))]] [])⟩
def anf:Hd:=⟨aL 79 (aK NU G79)<|bZ,jD 0 (aS RB L88l0)<|cO,cZ⟩
theorem ars:jq RB (arq G79) (anf G79 L88l0) Tryz.f88:=λ_ _ _ _=>by kernel_rfl
theorem aFr:dz ang (azQ L88l0) (anf G79 L88l0) Tryz.f88:=λ_ _ _=>by kernel_rfl
theorem avc(m:Nat):(anf (Kr m) (Ku m)).ah bE:=(aM (aef m) cK)
theorem arp(m:Nat):jg (aS RB (Ku m)) 0 Tryz.f88:=
 jy [] (λn=>aei m n) m (avc m) trivial (ars (Kr m) (Ku m))
theorem aFq(m:Nat):bB ang (g88 m):=gu [0] (avc m) ⟨(arp m),trivial⟩ (aFr (Kr m) (Ku m))
variable (G88:ax abM)
abbrev abN(α:Type):Type:=aH->(iM->aH->Option α)->Option α
def azR:abN α:=λa b=>b [] []
def g89(m:Nat):abN α:=azR
def anh:bR abN:=⟨89,[(.vl (.sv (.aQ 0 5)))],[(false,[(.aD aB)])],λG ls k=>G ((lf ls 0).ak aB)
  (λa b=>k (gL 1) [[(.aD aB ((lf ls 0).ak aB))]] [[(lN false),(.one (.aQ 0 5)),(.one (.jZ 2)),(.one (.aQ 3 2)),(Ml (0:Int))],[(.mp aY iF a)],[(.aD aY b)]])⟩
def avd:Hd:=⟨bZ,cO,cZ⟩
theorem aFv:dz anh (azR) (avd) Tryz.f89:=λ_ _ _=>by kernel_rfl
theorem aFt(m:Nat):(avd).ah bE:=cK
theorem aFu(m:Nat):bB anh (g89 m):=bT (aFt m) (aFv)
variable (G89:ax abN)
abbrev Tz(α:Type):Type:=Int->Int->Nat->Nat->Nat->aH->aA->(Int->Option α)->(iM->aH->Option α)->Option α
def azb:Tz α:=λa b c d e h i j l=>G16 h (λn=>cond (!n) (j 1) (G88 c d e h i (λo=>cond (!o) (j 2) (G79 a 0 b (λp=>cond (!p) (j 2) (G89 h (λq r=>l q r)))))))
def EP(m:Nat):Tz α:=azb (Kr m) (g16 m) (g88 m) (g89 m)
def Kb:bR Tz:=⟨46,[(.vl (.sv (.aQ 0 5))),bD,bD,(.vl (.sv (.eX 1 0 1)))],[(false,[(.aD aB)]),(false,[(.seq (.int .i64) 1)])],λG ls k=>G (aI ls 0) (aI ls 1) (aO ls 2) (aO ls 3) (aO ls 4) ((lf ls 5).ak aB) ((lf ls 6).ak (.int .i64))
  (λa=>k (.iO [(.sv .MH),(.sv (.int .i64 a))]) [[(.aD aB ((lf ls 5).ak aB))],[(.seq (.int .i64) 1 ((lf ls 6).ak (.int .i64)))]] [])
  (λb c=>k (.iO [(.sv (.ptr 2 0)),(.sv (.int .i64 (0:Int)))]) [[(.aD aB ((lf ls 5).ak aB))],[(.seq (.int .i64) 1 ((lf ls 6).ak (.int .i64)))]] [[(lN false),(.one (.aQ 0 5)),(.one (.jZ 3)),(.one (.aQ 4 2)),(Ml (0:Int))],[(.mp aY iF b)],[(.aD aY c)]])⟩
def auj:Hd:=⟨aL 16 (aK EJ G16)<|aL 88 (aK ang G88)<|aL 79 (aK NU G79)<|aL 89 (aK anh G89)<|bZ,cO,bH 16 [0]<|bH 88 [0,1]<|bH 89 [0]<|cZ⟩
theorem aDN:dz Kb (azb G79 G16 G88 G89) (auj G79 G16 G88 G89) Tryz.f46:=λ_ _ _=>by kernel_rfl
theorem aDM(m:Nat):(auj (Kr m) (g16 m) (g88 m) (g89 m)).ah bE:=(aM (VW m) (aM (aFq m) (aM (aef m) (aM (aFu m) cK))))
theorem Wd(m:Nat):bB Kb (EP m):=bT (aDM m) (aDN (Kr m) (g16 m) (g88 m) (g89 m))
variable (G46:ax Tz)
abbrev abt(α:Type):Type:=Int->aH->(Nat->Nat->Nat->Ty6->Option α)->Option α
abbrev FU(α:Type):Type:=Int->Ty6->Option α
abbrev ab6(α β:Type):Type:=Nat->Nat->Nat->aH->Nat->(Ty6->Option α)->β
abbrev vQ(α:Type):Type:=ab6 α (FU α)
def Z4:ab6 α (FU α->FU α):=λa b c d e h i j l=>cond (decide (j>=0)) (if 0<=j/\j<(b:Nat) then if(a+j.toNat)<e then cond (!(List.getD l (a+j.toNat) false)) (i (IntKind.wrap .i64 (j-1)) l) (if 0<=j/\j<(d.length:Nat) then if j.toNat<d.length then G35 ((List.getD d j.toNat []).headD 0) (λn o p=>cond n (if 0<=j/\j<(d.length:Nat) then if j.toNat<d.length then let q:Int:=((List.getD d j.toNat []).tail).headD 0;if 0<=q/\q<(b:Nat) then if(a+q.toNat)<e then let r:Ty6:=List.set l (a+q.toNat) true;cond o (if 0<=j/\j<(d.length:Nat) then if j.toNat<d.length then let s:Int:=((List.getD d j.toNat []).tail.tail).headD 0;if 0<=s/\s<(b:Nat) then if(a+s.toNat)<e then i (IntKind.wrap .i64 (j-1)) (List.set r (a+s.toNat) true) else none else none else none else none) (i (IntKind.wrap .i64 (j-1)) r) else none else none else none else none) (cond o (if 0<=j/\j<(d.length:Nat) then if j.toNat<d.length then let t:Int:=((List.getD d j.toNat []).tail.tail).headD 0;if 0<=t/\t<(b:Nat) then if(a+t.toNat)<e then i (IntKind.wrap .i64 (j-1)) (List.set l (a+t.toNat) true) else none else none else none else none) (i (IntKind.wrap .i64 (j-1)) l))) else none else none) else none else none) (h l)
def NN(a b c:Nat)(d:aH)(e:Nat)(h:Ty6->Option α):Nat->FU α
 |0=>λ_ _=>none
 |m+1=>λi j=>Z4 G35 a b c d e h (NN a b c d e h m) i j
def adK(m n:Nat):vQ α:=λa b c d e h i j=>NN (kG m) a b c d e h n i j
def Kc(m:Nat):vQ α:=adK m m
def Rl:jh vQ:=⟨0,⟨53,[0],[0,5,6],[0,1000001],[(.vl (.sv (.aQ 0 5))),(.vl (.sv (.eX 1000001 0 1))),bD],[(false,[(.aD aB)]),(true,[(.iD .bool)])],[(2,[5])]⟩,λL ls k=>L (aO ls 0) (aO ls 1) (aO ls 2) ((lf ls 4).ak aB) (aO ls 5) (λa=>k .normal (bG 53 [5] [(.vl (.sv (.eX 1000001 0 1 (aO ls 0) (aO ls 1) (aO ls 2))))] [0,1000001] [(false,[(.aD aB ((lf ls 4).ak aB))]),(true,[(.seq .bool (aO ls 5) a)])])) (aI ls 3) ((lf ls 6).ak .bool)⟩
def aqw(r:vQ α):vQ α:=λa b c d e h i j=>Z4 G35 a b c d e h (r a b c d e h) i j
variable (L47l0:ax vQ)
def azc:abt α:=λa b c=>if((b.length:Nat):Int)=((b.length:Nat):Int)/\0<=((b.length:Nat):Int)/\((b.length:Nat):Int)<=1048576 then let d:Nat:=((b.length:Nat):Int).toNat;if 0<=a/\a<(d:Nat) then if(0+a.toNat)<d then L47l0 0 d d b d (λe=>c d d d e) a (List.set (List.replicate d false) (0+a.toNat) true) else none else none else none
def g47(m:Nat):abt α:=azc (Kc m)
def adJ:bR abt:=⟨47,[(.vl (.sv (.aQ 0 5))),bD],[(false,[(.aD aB)])],λG ls k=>G (aI ls 0) ((lf ls 1).ak aB)
  (λa b c d=>k (.vl (.sv (.eX 1 0 1 0 a b))) [[(.aD aB ((lf ls 1).ak aB))]] [[(.seq .bool c d)]])⟩
def amA:Hd:=⟨aL 35 (aK xK G35)<|bZ,jD 0 (aS Rl L47l0)<|cO,cZ⟩
theorem aqx:jq Rl (aqw G35) (amA G35 L47l0) Tryz.f47:=λ_ _ _ _=>by kernel_rfl
theorem aDP:dz adJ (azc L47l0) (amA G35 L47l0) Tryz.f47:=λ_ _ _=>by kernel_rfl
theorem auk(m:Nat):(amA (kG m) (Kc m)).ah bE:=(aM (EM m) cK)
theorem aqv(m:Nat):jg (aS Rl (Kc m)) 0 Tryz.f47:=
 jy [] (λn=>adK m n) m (auk m) trivial (aqx (kG m) (Kc m))
theorem aul(m:Nat):bB adJ (g47 m):=gu [0] (auk m) ⟨(aqv m),trivial⟩ (aDP (kG m) (Kc m))
variable (G47:ax abt)
abbrev abv(α:Type):Type:=Int->Nat->Nat->Nat->Nat->aA->(Int->Option α)->Option α
def aze:abv α:=λa b c d e h i=>if 0<=a/\a<(c:Nat) then if(b+a.toNat)<e then i (List.getD h (b+a.toNat) 0) else none else none
def g49(m:Nat):abv α:=aze
def amC:bR abv:=⟨49,[(.vl (.sv (.int .i16))),(bL 0)],[(false,[(.one (.eX 1 0 1))]),(false,[(.iD (.int .i16))])],λG ls k=>G (aI ls 0) (aO ls 1) (aO ls 2) (aO ls 3) (aO ls 4) ((lf ls 5).ak (.int .i16))
  (λa=>k (.vl (.sv (.int .i16 a))) [[(.one (.eX 1 0 1 (aO ls 1) (aO ls 2) (aO ls 3)))],[(.seq (.int .i16) (aO ls 4) ((lf ls 5).ak (.int .i16)))]] [])⟩
def aun:Hd:=⟨bZ,cO,cZ⟩
theorem aDX:dz amC (aze) (aun) Tryz.f49:=λ_ _ _=>by kernel_rfl
theorem aDV(m:Nat):(aun).ah bE:=cK
theorem aDW(m:Nat):bB amC (g49 m):=bT (aDV m) (aDX)
variable (G49:ax abv)
abbrev abu(α:Type):Type:=Int->Int->Int->Int->Int->Nat->Nat->Nat->Nat->aA->(Int->Int->Option α)->Option α
def azd:abu α:=λa b c d e h i j l n o=>G35 a (λp q r=>cond p (G49 b h i j l n (λs=>cond q (G49 c h i j l n (λt=>o s t)) (o s c))) (cond q (G49 c h i j l n (λu=>o b u)) (o b c)))
def g48(m:Nat):abu α:=azd (kG m) (g49 m)
def amB:bR abu:=⟨48,[(.vl (.agg [(.one (.int .i8)),(.one (.int .i16)),(.one (.int .i16)),(.one (.int .i64)),(.one (.int .i64))])),(.vl (.sv (.PW 49 [(0,0)])))],[(false,[(.one (.eX 1 0 1))]),(false,[(.iD (.int .i16))])],λG ls k=>G (aI ls 0) (aI ls 1) (aI ls 2) (aI ls 3) (aI ls 4) (aO ls 5) (aO ls 6) (aO ls 7) (aO ls 8) ((lf ls 9).ak (.int .i16))
  (λa b=>k (.vl (.agg [(.one (.int .i8 (aI ls 0))),(.one (.int .i16 a)),(.one (.int .i16 b)),(.one (.int .i64 (aI ls 3))),(.one (.int .i64 (aI ls 4)))])) [[(.one (.eX 1 0 1 (aO ls 5) (aO ls 6) (aO ls 7)))],[(.seq (.int .i16) (aO ls 8) ((lf ls 9).ak (.int .i16)))]] [])⟩
def aum:Hd:=⟨aL 35 (aK xK G35)<|aL 49 (aK amC G49)<|bZ,cO,bH 49 [0,1]<|cZ⟩
theorem aDT:dz amB (azd G35 G49) (aum G35 G49) Tryz.f48:=λ_ _ _=>by kernel_rfl
theorem aDR(m:Nat):(aum (kG m) (g49 m)).ah bE:=(aM (EM m) (aM (aDW m) cK))
theorem aDS(m:Nat):bB amB (g48 m):=bT (aDR m) (aDT (kG m) (g49 m))
variable (G48:ax abu)
abbrev Tj(α:Type):Type:=Int->aH->(Int->Option α)->(aH->Option α)->Option α
abbrev FE(α:Type):Type:=Int->aH->aA->Option α
abbrev abT(α β:Type):Type:=Nat->Nat->Nat->Int->aH->Nat->Nat->Nat->Nat->Ty6->Nat->(aH->Option α)->β
abbrev vD(α:Type):Type:=abT α (FE α)
def Y3:abT α (FE α->FE α):=λa b c d e h i j l n o p q r s t=>cond (decide (r<d)) (if 0<=r/\r<(b:Nat) then if(a+r.toNat)<l then cond (List.getD n (a+r.toNat) false) (if 0<=r/\r<(i:Nat) then if(h+r.toNat)<o then let u:List Int:=List.set t (h+r.toNat) (IntKind.wrap .i16 ((s.length:Nat):Int));if 0<=r/\r<(e.length:Nat) then if r.toNat<e.length then let v:Int:=(List.getD e r.toNat []).headD 0;let w:Int:=(List.getD e r.toNat []).tail.tail.tail.headD 0;let x:Int:=(List.getD e r.toNat []).tail.tail.tail.tail.headD 0;G48 v ((List.getD e r.toNat []).tail.headD 0) ((List.getD e r.toNat []).tail.tail.headD 0) w x h i j o u (λy z=>if s.length+1<=67108864 then q (IntKind.wrap .i64 (r+1)) (s++[[v,y,z,w,x]]) u else none) else none else none else none else none) (q (IntKind.wrap .i64 (r+1)) s t) else none else none) (p s)
def Ju(a b c:Nat)(d:Int)(e:aH)(h i:Nat)(j l:Nat)(n:Ty6)(o:Nat)(p:aH->Option α):Nat->FE α
 |0=>λ_ _ _=>none
 |m+1=>λq r s=>Y3 G48 a b c d e h i j l n o p (Ju a b c d e h i j l n o p m) q r s
def ac_(m n:Nat):vD α:=λa b c d e h i j l o p q r s t=>Ju (g48 m) a b c d e h i j l o p q n r s t
def Jv(m:Nat):vD α:=ac_ m m
def QJ:jh vD:=⟨0,⟨53,[0],[0,8,9,28,29,30],[0,1000001,1000002,1000003,1000004],[(.vl (.sv (.aQ 0 5))),(.vl (.sv (.aQ 1000001 5))),(bL 1000002),(.vl (.sv (.eX 1000003 0 1))),bD,bD],[(false,[(.aD aB)]),(true,[(.aD aB)]),(true,[(.one (.eX 1000004 0 1))]),(true,[(.iD .bool)]),(true,[(.iD (.int .i16))])],[(2,[8])]⟩,λL ls k=>L (aO ls 0) (aO ls 1) (aO ls 2) (aI ls 3) ((lf ls 5).ak aB) (aO ls 7) (aO ls 8) (aO ls 9) (aO ls 10) ((lf ls 11).ak .bool) (aO ls 12) (λa=>k .normal (bG 53 [8] [(.vl (.sv (.aQ 1000001 5)))] [0,1000001] [(false,[(.aD aB ((lf ls 5).ak aB))]),(true,[(.aD aB a)])])) (aI ls 4) ((lf ls 6).ak aB) ((lf ls 13).ak (.int .i16))⟩
def apQ(r:vD α):vD α:=λa b c d e h i j l n o p q s t=>Y3 G48 a b c d e h i j l n o p (r a b c d e h i j l n o p) q s t
variable (L13l0:ax vD)
def axx:Tj α:=λa b c d=>G46 0 0 0 1 1 b [a] (λe=>cond (e !=0) (c e) (if((b.length:Nat):Int)=((b.length:Nat):Int)/\0<=((b.length:Nat):Int)/\((b.length:Nat):Int)<=1048576 then let h:Nat:=((b.length:Nat):Int).toNat;G47 a b (λi j l n=>L13l0 0 i j ((i:Nat):Int) b 0 h h l n h (λo=>d o) 0 [] (List.replicate h 0)) else none)) (λp q=>if((b.length:Nat):Int)=((b.length:Nat):Int)/\0<=((b.length:Nat):Int)/\((b.length:Nat):Int)<=1048576 then let r:Nat:=((b.length:Nat):Int).toNat;G47 a b (λs t u v=>L13l0 0 s t ((s:Nat):Int) b 0 r r u v r (λw=>d w) 0 [] (List.replicate r 0)) else none)
def g13(m:Nat):Tj α:=axx (EP m) (g47 m) (Jv m)
def aj5:bR Tj:=⟨13,[(.vl (.sv (.aQ 0 5))),bD],[(false,[(.aD aB)])],λG ls k=>G (aI ls 0) ((lf ls 1).ak aB)
  (λa=>k (.iO [(.sv .gM),(.sv (.int .i64 a))]) [[(.aD aB ((lf ls 1).ak aB))]] [])
  (λb=>k (.iO [(.sv (.aQ 1 5)),(.sv (.int .i64 (0:Int)))]) [[(.aD aB ((lf ls 1).ak aB))]] [[(.aD aB b)]])⟩
def aj4:Hd:=⟨aL 46 (aK Kb G46)<|aL 47 (aK adJ G47)<|aL 48 (aK amB G48)<|bZ,jD 0 (aS QJ L13l0)<|cO,bH 46 [0,1]<|bH 47 [0]<|bH 48 [0,1]<|cZ⟩
theorem apS:jq QJ (apQ G48) (aj4 G46 G47 G48 L13l0) Tryz.f13:=λ_ _ _ _=>by kernel_rfl
theorem aB1:dz aj5 (axx G46 G47 L13l0) (aj4 G46 G47 G48 L13l0) Tryz.f13:=λ_ _ _=>by kernel_rfl
theorem atj(m:Nat):(aj4 (EP m) (g47 m) (g48 m) (Jv m)).ah bE:=(aM (Wd m) (aM (aul m) (aM (aDS m) cK)))
theorem apP(m:Nat):jg (aS QJ (Jv m)) 0 Tryz.f13:=
 jy [] (λn=>ac_ m n) m (atj m) trivial (apS (EP m) (g47 m) (g48 m) (Jv m))
theorem aB0(m:Nat):bB aj5 (g13 m):=gu [0] (atj m) ⟨(apP m),trivial⟩ (aB1 (EP m) (g47 m) (g48 m) (Jv m))
variable (G13:ax Tj)
abbrev abw(α:Type):Type:=Int->aH->(aA->Option α)->Option α
abbrev FV(α:Type):Type:=Int->Ty6->aA->Option α
abbrev ab7(α β:Type):Type:=Nat->Nat->Nat->aH->Nat->(aA->Option α)->β
abbrev vR(α:Type):Type:=ab7 α (FV α)
def Z7(G90:ax H7)(G74:ax xH):ab7 α (FV α->FV α):=λa b c d e h i j l n=>cond (decide (j>=0)) (if 0<=j/\j<(b:Nat) then if(a+j.toNat)<e then cond (!(List.getD l (a+j.toNat) false)) (i (IntKind.wrap .i64 (j-1)) l n) (if 1+n.length<=67108864 then let o:List Int:=[j]++n;if 0<=j/\j<(d.length:Nat) then if j.toNat<d.length then G90 ((List.getD d j.toNat []).headD 0) (λp=>cond p (if 0<=j/\j<(d.length:Nat) then if j.toNat<d.length then let q:Int:=((List.getD d j.toNat []).tail).headD 0;if 0<=q/\q<(b:Nat) then if(a+q.toNat)<e then let r:Ty6:=List.set l (a+q.toNat) true;if 0<=j/\j<(d.length:Nat) then if j.toNat<d.length then G74 ((List.getD d j.toNat []).headD 0) (λs=>cond s (if 0<=j/\j<(d.length:Nat) then if j.toNat<d.length then let t:Int:=((List.getD d j.toNat []).tail.tail).headD 0;if 0<=t/\t<(b:Nat) then if(a+t.toNat)<e then i (IntKind.wrap .i64 (j-1)) (List.set r (a+t.toNat) true) o else none else none else none else none) (i (IntKind.wrap .i64 (j-1)) r o)) else none else none else none else none else none else none) (if 0<=j/\j<(d.length:Nat) then if j.toNat<d.length then G74 ((List.getD d j.toNat []).headD 0) (λu=>cond u (if 0<=j/\j<(d.length:Nat) then if j.toNat<d.length then let v:Int:=((List.getD d j.toNat []).tail).headD 0;if 0<=v/\v<(b:Nat) then if(a+v.toNat)<e then let w:Ty6:=List.set l (a+v.toNat) true;if 0<=j/\j<(d.length:Nat) then if j.toNat<d.length then G74 ((List.getD d j.toNat []).headD 0) (λx=>cond x (if 0<=j/\j<(d.length:Nat) then if j.toNat<d.length then let y:Int:=((List.getD d j.toNat []).tail.tail).headD 0;if 0<=y/\y<(b:Nat) then if(a+y.toNat)<e then i (IntKind.wrap .i64 (j-1)) (List.set w (a+y.toNat) true) o else none else none else none else none) (i (IntKind.wrap .i64 (j-1)) w o)) else none else none else none else none else none else none) (if 0<=j/\j<(d.length:Nat) then if j.toNat<d.length then G74 ((List.getD d j.toNat []).headD 0) (λz=>cond z (if 0<=j/\j<(d.length:Nat) then if j.toNat<d.length then let a0:Int:=((List.getD d j.toNat []).tail.tail).headD 0;if 0<=a0/\a0<(b:Nat) then if(a+a0.toNat)<e then i (IntKind.wrap .i64 (j-1)) (List.set l (a+a0.toNat) true) o else none else none else none else none) (i (IntKind.wrap .i64 (j-1)) l o)) else none else none)) else none else none)) else none else none else none) else none else none) (h n)
def NP(G90:ax H7)(G74:ax xH)(a b c:Nat)(d:aH)(e:Nat)(h:aA->Option α):Nat->FV α
 |0=>λ_ _ _=>none
 |m+1=>λi j l=>Z7 G90 G74 a b c d e h (NP G90 G74 a b c d e h m) i j l
def adO(m n:Nat):vR α:=λa b c d e h i j l=>NP (Mr m) (xM m) a b c d e h n i j l
def Ke(m:Nat):vR α:=adO m m
def Ro:jh vR:=⟨0,⟨64,[0],[0,5,6,7],[0,1000001,1000002],[(.vl (.sv (.aQ 0 5))),(.vl (.sv (.eX 1000001 0 1))),(.vl (.sv (.aQ 1000002 1))),bD],[(false,[(.aD aB)]),(true,[(.iD .bool)]),(true,[(.aD (.int .i64))])],[(2,[6])]⟩,λL ls k=>L (aO ls 0) (aO ls 1) (aO ls 2) ((lf ls 4).ak aB) (aO ls 5) (λa=>k .normal (bG 64 [6] [(.vl (.sv (.aQ 1000001 1)))] [0,1000001] [(false,[(.aD aB ((lf ls 4).ak aB))]),(true,[(.aD (.int .i64) a)])])) (aI ls 3) ((lf ls 6).ak .bool) ((lf ls 7).ak (.int .i64))⟩
def aqH(r:vR α):vR α:=λa b c d e h i j l=>Z7 G90 G74 a b c d e h (r a b c d e h) i j l
variable (L50l0:ax vR)
def azf:abw α:=λa b c=>if((b.length:Nat):Int)=((b.length:Nat):Int)/\0<=((b.length:Nat):Int)/\((b.length:Nat):Int)<=1048576 then let d:Nat:=((b.length:Nat):Int).toNat;if 0<=a/\a<(d:Nat) then if(0+a.toNat)<d then L50l0 0 d d b d (λe=>c e) a (List.set (List.replicate d false) (0+a.toNat) true) [] else none else none else none
def g50(m:Nat):abw α:=azf (Ke m)
def amE:bR abw:=⟨50,[(.vl (.sv (.aQ 0 5))),bD],[(false,[(.aD aB)])],λG ls k=>G (aI ls 0) ((lf ls 1).ak aB)
  (λa=>k (.vl (.sv (.aQ 1 1))) [[(.aD aB ((lf ls 1).ak aB))]] [[(.aD (.int .i64) a)]])⟩
def amD:Hd:=⟨aL 90 (aK NY G90)<|aL 74 (aK Ko G74)<|bZ,jD 0 (aS Ro L50l0)<|cO,cZ⟩
theorem aqI:jq Ro (aqH G74 G90) (amD G74 G90 L50l0) Tryz.f50:=λ_ _ _ _=>by kernel_rfl
theorem aD0:dz amE (azf L50l0) (amD G74 G90 L50l0) Tryz.f50:=λ_ _ _=>by kernel_rfl
theorem aup(m:Nat):(amD (xM m) (Mr m) (Ke m)).ah bE:=(aM (aek m) (aM (Wn m) cK))
theorem aqG(m:Nat):jg (aS Ro (Ke m)) 0 Tryz.f50:=
 jy [] (λn=>adO m n) m (aup m) trivial (aqI (xM m) (Mr m) (Ke m))
theorem aDZ(m:Nat):bB amE (g50 m):=gu [0] (aup m) ⟨(aqG m),trivial⟩ (aD0 (xM m) (Mr m) (Ke m))
variable (G50:ax abw)
abbrev abx(α:Type):Type:=Int->Int->Int->Int->Int->Nat->Nat->Nat->Nat->aA->(Int->Int->Option α)->Option α
def azg:abx α:=λa b c d e h i j l n o=>G90 a (λp=>cond p (if 0<=b/\b<(i:Nat) then if(h+b.toNat)<l then let q:Int:=IntKind.wrap .i16 (List.getD n (h+b.toNat) 0);G74 a (λr=>cond r (if 0<=c/\c<(i:Nat) then if(h+c.toNat)<l then o q (IntKind.wrap .i16 (List.getD n (h+c.toNat) 0)) else none else none) (o q c)) else none else none) (G74 a (λs=>cond s (if 0<=b/\b<(i:Nat) then if(h+b.toNat)<l then let t:Int:=IntKind.wrap .i16 (List.getD n (h+b.toNat) 0);G74 a (λu=>cond u (if 0<=c/\c<(i:Nat) then if(h+c.toNat)<l then o t (IntKind.wrap .i16 (List.getD n (h+c.toNat) 0)) else none else none) (o t c)) else none else none) (G74 a (λv=>cond v (if 0<=c/\c<(i:Nat) then if(h+c.toNat)<l then o b (IntKind.wrap .i16 (List.getD n (h+c.toNat) 0)) else none else none) (o b c))))))
def Kg(m:Nat):abx α:=azg (xM m) (Mr m)
def adQ:bR abx:=⟨51,[(.vl (.agg [(.one (.int .i8)),(.one (.int .i16)),(.one (.int .i16)),(.one (.int .i64)),(.one (.int .i64))])),(.vl (.sv (.eX 0 0 1)))],[(false,[(.iD (.int .i64))])],λG ls k=>G (aI ls 0) (aI ls 1) (aI ls 2) (aI ls 3) (aI ls 4) (aO ls 5) (aO ls 6) (aO ls 7) (aO ls 8) ((lf ls 9).ak (.int .i64))
  (λa b=>k (.vl (.agg [(.one (.int .i8 (aI ls 0))),(.one (.int .i16 a)),(.one (.int .i16 b)),(.one (.int .i64 (aI ls 3))),(.one (.int .i64 (aI ls 4)))])) [[(.seq (.int .i64) (aO ls 8) ((lf ls 9).ak (.int .i64)))]] [])⟩
def auq:Hd:=⟨aL 90 (aK NY G90)<|aL 74 (aK Ko G74)<|bZ,cO,cZ⟩
theorem aD3:dz adQ (azg G74 G90) (auq G74 G90) Tryz.f51:=λ_ _ _=>by kernel_rfl
theorem aD2(m:Nat):(auq (xM m) (Mr m)).ah bE:=(aM (aek m) (aM (Wn m) cK))
theorem aur(m:Nat):bB adQ (Kg m):=bT (aD2 m) (aD3 (xM m) (Mr m))
variable (G51:ax abx)
abbrev Tk(α:Type):Type:=Int->aH->(Int->aH->Option α)->Option α
abbrev FH(α:Type):Type:=Int->aA->aH->Option α
abbrev abU(α β:Type):Type:=Nat->Nat->Nat->aH->aA->Nat->(aH->Option α)->β
abbrev vE(α:Type):Type:=abU α (FH α)
def Zg:abU α (FH α->FH α):=λa b c d e h i j l n o=>cond (decide (l<((e.length:Nat):Int))) (if 0<=l/\l<(e.length:Nat) then if l.toNat<e.length then let p:Int:=List.getD e l.toNat 0;if 0<=p/\p<(b:Nat) then if(a+p.toNat)<h then let q:List Int:=List.set n (a+p.toNat) l;if 0<=l/\l<(e.length:Nat) then if l.toNat<e.length then let r:Int:=List.getD e l.toNat 0;if 0<=r/\r<(d.length:Nat) then if r.toNat<d.length then let s:Int:=(List.getD d r.toNat []).headD 0;let t:Int:=(List.getD d r.toNat []).tail.tail.tail.headD 0;let u:Int:=(List.getD d r.toNat []).tail.tail.tail.tail.headD 0;G51 s ((List.getD d r.toNat []).tail.headD 0) ((List.getD d r.toNat []).tail.tail.headD 0) t u a b c h q (λv w=>if o.length+1<=67108864 then j (IntKind.wrap .i64 (l+1)) q (o++[[s,v,w,t,u]]) else none) else none else none else none else none else none else none else none else none) (i o)
def NE(a b c:Nat)(d:aH)(e:aA)(h:Nat)(i:aH->Option α):Nat->FH α
 |0=>λ_ _ _=>none
 |m+1=>λj l n=>Zg G51 a b c d e h i (NE a b c d e h i m) j l n
def ade(m n:Nat):vE α:=λa b c d e h i j l o=>NE (Kg m) a b c d e h i n j l o
def JA(m:Nat):vE α:=ade m m
def QL:jh vE:=⟨0,⟨51,[0],[0,7,8,9,10],[0,1000001,1000002,1000003],[(.vl (.sv (.aQ 0 5))),(.vl (.sv (.aQ 1000001 1))),(.vl (.sv (.eX 1000002 0 1))),(.vl (.sv (.aQ 1000003 5))),bD],[(false,[(.aD aB)]),(true,[(.aD (.int .i64))]),(true,[(.iD (.int .i64))]),(true,[(.aD aB)])],[(2,[9])]⟩,λL ls k=>L (aO ls 0) (aO ls 1) (aO ls 2) ((lf ls 4).ak aB) ((lf ls 5).ak (.int .i64)) (aO ls 6) (λa=>k .normal (bG 51 [9] [(.vl (.sv (.aQ 1000001 5)))] [0,1000001] [(false,[(.aD aB ((lf ls 4).ak aB))]),(true,[(.aD aB a)])])) (aI ls 3) ((lf ls 7).ak (.int .i64)) ((lf ls 8).ak aB)⟩
def apU(r:vE α):vE α:=λa b c d e h i j l n=>Zg G51 a b c d e h i (r a b c d e h i) j l n
variable (L14l0:ax vE)
def axT:Tk α:=λa b c=>G43 a 0 b (λd=>cond (d !=0) (c d []) (G50 a b (λe=>if((b.length:Nat):Int)=((b.length:Nat):Int)/\0<=((b.length:Nat):Int)/\((b.length:Nat):Int)<=1048576 then let h:Nat:=((b.length:Nat):Int).toNat;L14l0 0 h h b e h (λi=>c 0 i) 0 (List.replicate h 0) [] else none)))
def g14(m:Nat):Tk α:=axT (NK m) (g50 m) (JA m)
def ako:bR Tk:=⟨14,[(.vl (.sv (.aQ 0 5))),bD],[(false,[(.aD aB)])],λG ls k=>G (aI ls 0) ((lf ls 1).ak aB)
  (λa b=>k (.iO [(.sv (.aQ 1 5)),(.sv (.int .i64 a))]) [[(.aD aB ((lf ls 1).ak aB))]] [[(.aD aB b)]])⟩
def akn:Hd:=⟨aL 43 (aK NM G43)<|aL 50 (aK amE G50)<|aL 51 (aK adQ G51)<|bZ,jD 0 (aS QL L14l0)<|cO,bH 43 [0]<|bH 50 [0]<|bH 51 [0]<|cZ⟩
theorem apV:jq QL (apU G51) (akn G43 G50 G51 L14l0) Tryz.f14:=λ_ _ _ _=>by kernel_rfl
theorem aB6:dz ako (axT G43 G50 L14l0) (akn G43 G50 G51 L14l0) Tryz.f14:=λ_ _ _=>by kernel_rfl
theorem ato(m:Nat):(akn (NK m) (g50 m) (Kg m) (JA m)).ah bE:=(aM (adG m) (aM (aDZ m) (aM (aur m) cK)))
theorem apT(m:Nat):jg (aS QL (JA m)) 0 Tryz.f14:=
 jy [] (λn=>ade m n) m (ato m) trivial (apV (NK m) (g50 m) (Kg m) (JA m))
theorem aB5(m:Nat):bB ako (g14 m):=gu [0] (ato m) ⟨(apT m),trivial⟩ (aB6 (NK m) (g50 m) (Kg m) (JA m))
variable (G14:ax Tk)
abbrev Tm(α:Type):Type:=Int->aH->(Int->Option α)->(aA->Option α)->Option α
abbrev FI(α:Type):Type:=Int->aA->Option α
abbrev abV(α β:Type):Type:=Nat->Nat->Nat->Int->aH->Nat->Ty6->(aA->Option α)->β
abbrev vF(α:Type):Type:=abV α (FI α)
def Zr:abV α (FI α->FI α):=λa b c d e h i j l n o=>cond (decide (n<d)) (if 0<=n/\n<(b:Nat) then if(a+n.toNat)<h then cond (List.getD i (a+n.toNat) false) (if o.length+1<=67108864 then l (IntKind.wrap .i64 (n+1)) (o++[n]) else none) (l (IntKind.wrap .i64 (n+1)) o) else none else none) (j o)
def JL(a b c:Nat)(d:Int)(e:aH)(h:Nat)(i:Ty6)(j:aA->Option α):Nat->FI α
 |0=>λ_ _=>none
 |m+1=>λl n=>Zr a b c d e h i j (JL a b c d e h i j m) l n
def adl(m n:Nat):vF α:=λa b c d e h i j l o=>JL a b c d e h i j n l o
def JM(m:Nat):vF α:=adl m m
def QW:jh vF:=⟨0,⟨38,[0],[8,24,25,26],[0,1000001,1000002],[(.vl (.sv (.aQ 1000001 1))),(.vl (.sv (.eX 1000002 0 1))),bD,bD],[(false,[(.aD aB)]),(true,[(.aD (.int .i64))]),(true,[(.iD .bool)])],[(2,[8])]⟩,λL ls k=>L (aO ls 0) (aO ls 1) (aO ls 2) (aI ls 3) ((lf ls 5).ak aB) (aO ls 7) ((lf ls 8).ak .bool) (λa=>k .normal (bG 38 [8] [(.vl (.sv (.aQ 1000001 1)))] [0,1000001] [(false,[(.aD aB ((lf ls 5).ak aB))]),(true,[(.aD (.int .i64) a)])])) (aI ls 4) ((lf ls 6).ak (.int .i64))⟩
def apY(r:vF α):vF α:=λa b c d e h i j l n=>Zr a b c d e h i j (r a b c d e h i j) l n
variable (L15l0:ax vF)
def aye:Tm α:=λa b c d=>G46 0 0 0 1 1 b [a] (λe=>cond (e !=0) (c e) (G47 a b (λh i j l=>L15l0 0 h i ((h:Nat):Int) b j l (λn=>d n) 0 []))) (λo p=>G47 a b (λq r s t=>L15l0 0 q r ((q:Nat):Int) b s t (λu=>d u) 0 []))
def g15(m:Nat):Tm α:=aye (EP m) (g47 m) (JM m)
def ak_:bR Tm:=⟨15,[(.vl (.sv (.aQ 0 5))),bD],[(false,[(.aD aB)])],λG ls k=>G (aI ls 0) ((lf ls 1).ak aB)
  (λa=>k (.iO [(.sv .gM),(.sv (.int .i64 a))]) [[(.aD aB ((lf ls 1).ak aB))]] [])
  (λb=>k (.iO [(.sv (.aQ 1 1)),(.sv (.int .i64 (0:Int)))]) [[(.aD aB ((lf ls 1).ak aB))]] [[(.aD (.int .i64) b)]])⟩
def ak9:Hd:=⟨aL 46 (aK Kb G46)<|aL 47 (aK adJ G47)<|bZ,jD 0 (aS QW L15l0)<|cO,bH 46 [0,1]<|bH 47 [0]<|cZ⟩
theorem apZ:jq QW (apY) (ak9 G46 G47 L15l0) Tryz.f15:=λ_ _ _ _=>by kernel_rfl
theorem aCf:dz ak_ (aye G46 G47 L15l0) (ak9 G46 G47 L15l0) Tryz.f15:=λ_ _ _=>by kernel_rfl
theorem atx(m:Nat):(ak9 (EP m) (g47 m) (JM m)).ah bE:=(aM (Wd m) (aM (aul m) cK))
theorem apX(m:Nat):jg (aS QW (JM m)) 0 Tryz.f15:=
 jy [] (λn=>adl m n) m (atx m) trivial (apZ (EP m) (g47 m) (JM m))
theorem aCe(m:Nat):bB ak_ (g15 m):=gu [0] (atx m) ⟨(apX m),trivial⟩ (aCf (EP m) (g47 m) (JM m))
variable (G15:ax Tm)
abbrev Ia(α:Type):Type:=aH->(Bool->Option α)->Option α
abbrev Ag(α:Type):Type:=Option α
abbrev Ur(α β:Type):Type:=Int->aH->(Option α)->β
abbrev qK(α:Type):Type:=Ur α (Ag α)
def aez:Ur α (Ag α->Ag α):=λa b c d=>cond (decide (a<0)) (none) (c)
def anz(a:Int)(b:aH)(c:Option α):Nat->Ag α
 |0=>none
 |m+1=>aez a b c (anz a b c m)
def Ww(m n:Nat):qK α:=λa b c=>anz a b c n
def Br(m:Nat):qK α:=Ww m m
def KA:jh qK:=⟨0,⟨26,[0],[0,1,5],[0],[(.vl (.sv .gM)),(.vl (.sv (.aQ 0 5))),bD],[(false,[(.aD aB)])],[(2,[])]⟩,λL ls k=>L (aI ls 0) ((lf ls 1).ak aB) (k .normal (bG 26 [] [] [0] [(false,[(.aD aB ((lf ls 1).ak aB))])]))⟩
def anB(r:qK α):qK α:=λa b c=>aez a b c (r a b c)
variable (L9v1l0:ax qK)
def avq:Ia α:=λa b=>cond (0 !=((a.length:Nat):Int)) (b false) (L9v1l0 0 a (b true))
def anw(m:Nat):Ia α:=avq (Br m)
def aaq:bR Ia:=⟨9,[(.vl (.sv .gM)),(.vl (.sv (.aQ 0 5)))],[(false,[(.aD aB)])],λG ls k=>G ((lf ls 0).ak aB)
  (λa=>k (zm a) [[(.aD aB ((lf ls 0).ak aB))]] [])⟩
def aap:Hd:=⟨bZ,jD 0 (aS KA L9v1l0)<|cO,cZ⟩
theorem anC:jq KA (anB) (aap L9v1l0) Tryz.f9:=λ_ _ _ _=>by kernel_rfl
theorem az_:dz aaq (avq L9v1l0) (aap L9v1l0) Tryz.f9:=λ_ _ _=>by kernel_rfl
theorem anx(m:Nat):(aap (Br m)).ah bE:=cK
theorem anA(m:Nat):jg (aS KA (Br m)) 0 Tryz.f9:=
 jy [] (λn=>Ww m n) m (anx m) trivial (anC (Br m))
theorem az9(m:Nat):bB aaq (anw m):=gu [0] (anx m) ⟨(anA m),trivial⟩ (az_ (Br m))
variable (G9v1:ax Ia)
abbrev HZ(α:Type):Type:=Bool->Int->aH->iM->aH->(Bool->Int->Option α)->Option α
def azj:HZ α:=λa b c d e h=>cond (b==0) (cond a (h true 3) (h (b !=0) b)) (h (b !=0) b)
def pJ(m:Nat):HZ α:=azj
def Bl:bR HZ:=⟨55,[(bL 0)],[(true,[(.one .bool),(.one (.aQ 1 5)),(.one (.jZ 2)),(.one (.aQ 3 2)),(.one (.int .i64))]),(false,[(.aD aB)]),(false,[(.mp aY iF)]),(false,[(.aD aY)])],λG ls k=>G (eu ls 0) (aI ls 1) ((lf ls 2).ak aB) ((lf ls 3).map aY iF) ((lf ls 4).ak aY)
  (λa b=>k (zm a) [[(.one (.bool (eu ls 0))),(.one (.aQ 1 5)),(.one (.jZ 2)),(.one (.aQ 3 2)),(Ml b)],[(.aD aB ((lf ls 2).ak aB))],[(.mp aY iF ((lf ls 3).map aY iF))],[(.aD aY ((lf ls 4).ak aY))]] [])⟩
def auy:Hd:=⟨bZ,cO,cZ⟩
theorem aEh:dz Bl (azj) (auy) Tryz.f55:=λ_ _ _=>by kernel_rfl
theorem aEg(m:Nat):(auy).ah bE:=cK
theorem Kh(m:Nat):bB Bl (pJ m):=bT (aEg m) (aEh)
variable (G55:ax HZ)
abbrev zq(α:Type):Type:=Bool->aA->Int->Bool->Int->aH->iM->aH->(Bool->aA->Bool->Option α)->Option α
def QE:zq α:=λa b c d e h i j l=>cond (decide (c>191)) (l false [0,0,0,0,0,0] true) (G113 b (λn=>cond (decide ((IntKind.wrap .i64 (n+c))>192)) (l false [0,0,0,0,0,0] true) (G99 b c (λo=>G65 a o (λp=>l p o d)))))
def nP(m:Nat):zq α:=QE (iI m) (pK m) (nM m)
def AU:bR zq:=⟨135,[(bL 0),xh,bD],[(true,[(.one .bool),(.one (.aQ 1 5)),(.one (.jZ 2)),(.one (.aQ 3 2)),(.one (.int .i64))]),(false,[(.aD aB)]),(false,[(.mp aY iF)]),(false,[(.aD aY)])],λG ls k=>G (eu ls 0) ((lf ls 1).ak aC) (aI ls 2) (eu ls 3) (aI ls 4) ((lf ls 5).ak aB) ((lf ls 6).map aY iF) ((lf ls 7).ak aY)
  (λa b c=>k (S_ a b) [[(lN c),(.one (.aQ 1 5)),(.one (.jZ 2)),(.one (.aQ 3 2)),(.one (.int .i64 (aI ls 4)))],[(.aD aB ((lf ls 5).ak aB))],[(.mp aY iF ((lf ls 6).map aY iF))],[(.aD aY ((lf ls 7).ak aY))]] [])⟩
def Vy:Hd:=⟨aL 113 (aK C8 G113)<|aL 99 (aK ES G99)<|aL 65 (aK qW G65)<|bZ,cO,cZ⟩
theorem ajN:dz AU (QE G65 G99 G113) (Vy G65 G99 G113) Tryz.f135:=λ_ _ _=>by kernel_rfl
theorem ajM(m:Nat):(Vy (iI m) (pK m) (nM m)).ah bE:=(aM (Qt m) (aM (N8 m) (aM (uV m) cK)))
theorem Vz(m:Nat):bB AU (nP m):=bT (ajM m) (ajN (iI m) (pK m) (nM m))
variable (G135v1:ax zq)
abbrev lT(α:Type):Type:=Bool->aA->Bool->aA->Bool->Int->aH->iM->aH->(Bool->aA->Bool->Option α)->Option α
def QG:lT α:=λa b c d e h i j l n=>cond (a==c) (G102 b d (λo p=>cond e (G65 a o (λq=>n q o true)) (G65 a o (λr=>n r o p)))) (G101 b d (λs=>cond (decide (s<0)) (G100 d b (λt=>G65 c t (λu=>n u t e))) (G100 b d (λv=>G65 a v (λw=>n w v e)))))
def dn(m:Nat):lT α:=QG (iI m) (kY m) (eU m) (jl m)
def nQ:bR lT:=⟨137,[(bL 0),xh,xh],[(true,[(.one .bool),(.one (.aQ 1 5)),(.one (.jZ 2)),(.one (.aQ 3 2)),(.one (.int .i64))]),(false,[(.aD aB)]),(false,[(.mp aY iF)]),(false,[(.aD aY)])],λG ls k=>G (eu ls 0) ((lf ls 1).ak aC) (eu ls 2) ((lf ls 3).ak aC) (eu ls 4) (aI ls 5) ((lf ls 6).ak aB) ((lf ls 7).map aY iF) ((lf ls 8).ak aY)
  (λa b c=>k (S_ a b) [[(lN c),(.one (.aQ 1 5)),(.one (.jZ 2)),(.one (.aQ 3 2)),(.one (.int .i64 (aI ls 5)))],[(.aD aB ((lf ls 6).ak aB))],[(.mp aY iF ((lf ls 7).map aY iF))],[(.aD aY ((lf ls 8).ak aY))]] [])⟩
def VA:Hd:=⟨aL 102 (aK CY G102)<|aL 65 (aK qW G65)<|aL 101 (aK r_ G101)<|aL 100 (aK CX G100)<|bZ,cO,cZ⟩
theorem ajU:dz nQ (QG G65 G100 G101 G102) (VA G65 G100 G101 G102) Tryz.f137:=λ_ _ _=>by kernel_rfl
theorem ajT(m:Nat):(VA (iI m) (kY m) (eU m) (jl m)).ah bE:=(aM (Ql m) (aM (uV m) (aM (yB m) (aM (Qk m) cK))))
theorem uN(m:Nat):bB nQ (dn m):=bT (ajT m) (ajU (iI m) (kY m) (eU m) (jl m))
variable (G137v1:ax lT)
abbrev zo(α:Type):Type:=Bool->aA->Bool->aA->Bool->Int->aH->iM->aH->(Bool->aA->Bool->Option α)->Option α
def QD:zo α:=λa b c d e h i j l n=>G173 a b c d (λo p q r=>G100 d r (λs=>G101 r s (λt=>cond (decide (t<0)) (n o p e) (G62 1 (λu v=>G137v1 o p u v e h i j l (λw x y=>n w x y))))))
def nO(m:Nat):zo α:=QD (kY m) (eU m) (JR m) (zb m) (dn m)
def AR:bR zo:=⟨134,[(bL 0),xh,xh],[(true,[(.one .bool),(.one (.aQ 1 5)),(.one (.jZ 2)),(.one (.aQ 3 2)),(.one (.int .i64))]),(false,[(.aD aB)]),(false,[(.mp aY iF)]),(false,[(.aD aY)])],λG ls k=>G (eu ls 0) ((lf ls 1).ak aC) (eu ls 2) ((lf ls 3).ak aC) (eu ls 4) (aI ls 5) ((lf ls 6).ak aB) ((lf ls 7).map aY iF) ((lf ls 8).ak aY)
  (λa b c=>k (S_ a b) [[(lN c),(.one (.aQ 1 5)),(.one (.jZ 2)),(.one (.aQ 3 2)),(.one (.int .i64 (aI ls 5)))],[(.aD aB ((lf ls 6).ak aB))],[(.mp aY iF ((lf ls 7).map aY iF))],[(.aD aY ((lf ls 8).ak aY))]] [])⟩
def Vw:Hd:=⟨aL 173 (aK ZE G173)<|aL 100 (aK CX G100)<|aL 101 (aK r_ G101)<|aL 62 (aK NS G62)<|aL 137 (aK nQ G137v1)<|bZ,cO,bH 137 [1,2,3]<|cZ⟩
theorem ajI:dz AR (QD G100 G101 G173 G62 G137v1) (Vw G100 G101 G173 G62 G137v1) Tryz.f134:=λ_ _ _=>by kernel_rfl
theorem ajH(m:Nat):(Vw (kY m) (eU m) (JR m) (zb m) (dn m)).ah bE:=(aM (ayv m) (aM (Qk m) (aM (yB m) (aM (ad3 m) (aM (uN m) cK)))))
theorem Vx(m:Nat):bB AR (nO m):=bT (ajH m) (ajI (kY m) (eU m) (JR m) (zb m) (dn m))
variable (G134v1:ax zo)
abbrev dH(α:Type):Type:=Int->Int->Bool->Int->aH->iM->aH->(Bool->aA->Bool->Int->aH->iM->aH->Option α)->Option α
def amJ:List TP:=[(bL 0),(.vl (.sv (.int .i16))),bD]
def amI:List BP:=[(true,[(.one .bool),(.one (.aQ 1 5)),(.one (.jZ 2)),(.one (.aQ 3 2)),(.one (.int .i64))]),(false,[(.aD aB)]),(true,[(.mp aY iF)]),(true,[(.aD aY)])]
def azi{α:Type}(G:dH α)(ls:List Lf)(k:Mk α):Option α:=
 G (lf ls 0).int (lf ls 1).int (lf ls 2).bool (lf ls 3).int ((lf ls 4).ak rN) ((lf ls 5).map rP mW) ((lf ls 6).ak rP)
  (λc d e h i j l=>k (.vl (.agg [(.one (.bool c)),(.seq uU 6 d)])) [[(.one (.bool e)),(.one (.aQ 1 5)),(.one (.jZ 2)),(.one (.aQ 4 2)),(.one (.int .i64 h))],[(.aD rN i)],[(.mp rP mW j)],[]] [[(.aD rP l)]])
def ig:bR dH:=⟨54,amJ,amI,azi⟩
variable (G54:ax dH)
abbrev O8(α:Type):Type:=Int->Int->Int->Int->Int->Int->Bool->Int->aH->iM->aH->(Bool->aA->Bool->aA->Bool->Int->iM->aH->Option α)->Option α
def ajQ:O8 α:=λa b c d e h i j l n o p=>G54 b h i j l n o (λq r s t u v w=>G54 c h s t l v w (λx y z a0 b0 c0 d0=>p q r x y z a0 c0 d0))
def Y1(A54:ax dH)(m:Nat):O8 α:=ajQ A54
def Y2:bR O8:=⟨136,[(bL 0),(.vl (.agg [(.one (.int .i8)),(.one (.int .i16)),(.one (.int .i16)),(.one (.int .i64)),(.one (.int .i64))])),bD],[(true,[(.one .bool),(.one (.aQ 1 5)),(.one (.jZ 2)),(.one (.aQ 3 2)),(.one (.int .i64))]),(false,[(.aD aB)]),(true,[(.mp aY iF)]),(true,[(.aD aY)])],λG ls k=>G (aI ls 0) (aI ls 1) (aI ls 2) (aI ls 3) (aI ls 4) (aI ls 5) (eu ls 6) (aI ls 7) ((lf ls 8).ak aB) ((lf ls 9).map aY iF) ((lf ls 10).ak aY)
  (λa b c d e h i j=>k (.iO [(.agg [(lN a),(bX b)]),(.agg [(lN c),(bX d)])]) [[(lN e),(.one (.aQ 1 5)),(.one (.jZ 2)),(.one (.aQ 4 2)),(Ml h)],[(.aD aB ((lf ls 8).ak aB))],[(.mp aY iF i)],[]] [[(.aD aY j)]])⟩
def ajP:Hd:=⟨aL 54 (aK ig G54)<|bZ,cO,bH 54 [1]<|cZ⟩
theorem axs:Ye Y2 (ajQ G54) (ajP G54) Tryz.f136 3:=λ_ _ _=>by kernel_rfl
theorem axq(A54:ax dH)(hA54:bB ig A54)(m:Nat):(ajP A54).ah bE:=(aM hA54 cK)
theorem axr(A54:ax dH)(hA54:bB ig A54)(m:Nat):bB Y2 (Y1 A54 m):=Fq [] (axq A54 hA54 m) trivial (axs A54)
variable (G136:ax O8)
abbrev zx(α:Type):Type:=Bool->aA->Int->Bool->Int->aH->iM->aH->(Bool->aA->Bool->Option α)->Option α
def aad:zx α:=λa b c d e h i j l=>cond (decide (c>191)) (l false [0,0,0,0,0,0] true) (G97 b c (λn=>cond (c==0) (l a b d) (G98 (λo=>G99 o (IntKind.wrap .i64 (c-1)) (λp=>G99 n c (λq=>G100 b q (λr=>G101 r p (λs=>cond (decide (s>0)) (G98 (λt=>G102 n t (λu v=>G65 a u (λw=>l w u d)))) (cond (s==0) (cond (!a) (G98 (λx=>G102 n x (λy z=>G65 a y (λa0=>l a0 y d)))) (G65 a n (λb0=>l b0 n d))) (G65 a n (λc0=>l c0 n d)))))))))))
def iq(m:Nat):zx α:=aad (iI m) (g97 m) (uj m) (pK m) (kY m) (eU m) (jl m)
def sH:bR zx:=⟨63,[(bL 0),xh,bD],[(true,[(.one .bool),(.one (.aQ 1 5)),(.one (.jZ 2)),(.one (.aQ 3 2)),(.one (.int .i64))]),(false,[(.aD aB)]),(false,[(.mp aY iF)]),(false,[(.aD aY)])],λG ls k=>G (eu ls 0) ((lf ls 1).ak aC) (aI ls 2) (eu ls 3) (aI ls 4) ((lf ls 5).ak aB) ((lf ls 6).map aY iF) ((lf ls 7).ak aY)
  (λa b c=>k (S_ a b) [[(lN c),(.one (.aQ 1 5)),(.one (.jZ 2)),(.one (.aQ 3 2)),(.one (.int .i64 (aI ls 4)))],[(.aD aB ((lf ls 5).ak aB))],[(.mp aY iF ((lf ls 6).map aY iF))],[(.aD aY ((lf ls 7).ak aY))]] [])⟩
def ad4:Hd:=⟨aL 97 (aK aev G97)<|aL 98 (aK Ky G98)<|aL 99 (aK ES G99)<|aL 100 (aK CX G100)<|aL 101 (aK r_ G101)<|aL 102 (aK CY G102)<|aL 65 (aK qW G65)<|bZ,cO,cZ⟩
theorem aq3:dz sH (aad G65 G97 G98 G99 G100 G101 G102) (ad4 G65 G97 G98 G99 G100 G101 G102) Tryz.f63:=λ_ _ _=>by kernel_rfl
theorem aq2(m:Nat):(ad4 (iI m) (g97 m) (uj m) (pK m) (kY m) (eU m) (jl m)).ah bE:=(aM (avm m) (aM (Wu m) (aM (N8 m) (aM (Qk m) (aM (yB m) (aM (Ql m) (aM (uV m) cK)))))))
theorem Bo(m:Nat):bB sH (iq m):=bT (aq2 m) (aq3 (iI m) (g97 m) (uj m) (pK m) (kY m) (eU m) (jl m))
variable (G63v1:ax zx)
abbrev zu(α:Type):Type:=Bool->aA->Bool->aA->Bool->Int->aH->iM->aH->(Bool->aA->Bool->Option α)->Option α
def QH:zu α:=λa b c d e h i j l n=>G139 c d (λo=>G137v1 a b o d e h i j l (λp q r=>n p q r))
def nR(m:Nat):zu α:=QH (Db m) (dn m)
def AV:bR zu:=⟨138,[(bL 0),xh,xh],[(true,[(.one .bool),(.one (.aQ 1 5)),(.one (.jZ 2)),(.one (.aQ 3 2)),(.one (.int .i64))]),(false,[(.aD aB)]),(false,[(.mp aY iF)]),(false,[(.aD aY)])],λG ls k=>G (eu ls 0) ((lf ls 1).ak aC) (eu ls 2) ((lf ls 3).ak aC) (eu ls 4) (aI ls 5) ((lf ls 6).ak aB) ((lf ls 7).map aY iF) ((lf ls 8).ak aY)
  (λa b c=>k (S_ a b) [[(lN c),(.one (.aQ 1 5)),(.one (.jZ 2)),(.one (.aQ 3 2)),(.one (.int .i64 (aI ls 5)))],[(.aD aB ((lf ls 6).ak aB))],[(.mp aY iF ((lf ls 7).map aY iF))],[(.aD aY ((lf ls 8).ak aY))]] [])⟩
def VB:Hd:=⟨aL 139 (aK QI G139)<|aL 137 (aK nQ G137v1)<|bZ,cO,bH 137 [1,2,3]<|cZ⟩
theorem ajY:dz AV (QH G139 G137v1) (VB G139 G137v1) Tryz.f138:=λ_ _ _=>by kernel_rfl
theorem ajX(m:Nat):(VB (Db m) (dn m)).ah bE:=(aM (aj1 m) (aM (uN m) cK))
theorem VD(m:Nat):bB AV (nR m):=bT (ajX m) (ajY (Db m) (dn m))
variable (G138v1:ax zu)
abbrev O9(α:Type):Type:=Bool->aA->Bool->aA->(Int->Option α)->Option α
def aj7:O9 α:=λa b c d e=>cond (!(a==c)) (cond a (e (-1)) (cond (!(a==c)) (e 1) (cond a (G101 d b (λh=>e h)) (G101 b d (λi=>e i))))) (cond (!(a==c)) (e 1) (cond a (G101 d b (λj=>e j)) (G101 b d (λl=>e l))))
def Y4(m:Nat):O9 α:=aj7 (eU m)
def Y5:bR O9:=⟨140,[xh,xh],[],λG ls k=>G (eu ls 0) ((lf ls 1).ak aC) (eu ls 2) ((lf ls 3).ak aC)
  (λa=>k (xE a) [] [])⟩
def aj6:Hd:=⟨aL 101 (aK r_ G101)<|bZ,cO,cZ⟩
theorem axA:dz Y5 (aj7 G101) (aj6 G101) Tryz.f140:=λ_ _ _=>by kernel_rfl
theorem axy(m:Nat):(aj6 (eU m)).ah bE:=(aM (yB m) cK)
theorem axz(m:Nat):bB Y5 (Y4 m):=bT (axy m) (axA (eU m))
variable (G140:ax O9)
abbrev TB(α:Type):Type:=Int->Bool->Int->aH->iM->aH->(Int->Bool->Int->iM->aH->Option α)->Option α
def azw:TB α:=λa b c d e h i=>G54 a 0 b c d e h (λj l n o p q r=>G113 l (λs=>i s n o q r))
def Wj(A54:ax dH)(m:Nat):TB α:=azw (nM m) A54
def Wl:bR TB:=⟨68,[(bL 0),(.vl (.sv (.int .i16)))],[(true,[(.one .bool),(.one (.aQ 1 5)),(.one (.jZ 2)),(.one (.aQ 3 2)),(.one (.int .i64))]),(false,[(.aD aB)]),(true,[(.mp aY iF)]),(true,[(.aD aY)])],λG ls k=>G (aI ls 0) (eu ls 1) (aI ls 2) ((lf ls 3).ak aB) ((lf ls 4).map aY iF) ((lf ls 5).ak aY)
  (λa b c d e=>k (xE a) [[(lN b),(.one (.aQ 1 5)),(.one (.jZ 2)),(.one (.aQ 4 2)),(Ml c)],[(.aD aB ((lf ls 3).ak aB))],[(.mp aY iF d)],[]] [[(.aD aY e)]])⟩
def auN:Hd:=⟨aL 54 (aK ig G54)<|aL 113 (aK C8 G113)<|bZ,cO,bH 54 [1]<|cZ⟩
theorem aEN:Ye Wl (azw G113 G54) (auN G113 G54) Tryz.f68 3:=λ_ _ _=>by kernel_rfl
theorem aEM(A54:ax dH)(hA54:bB ig A54)(m:Nat):(auN (nM m) A54).ah bE:=(aM hA54 (aM (Qt m) cK))
theorem amZ(A54:ax dH)(hA54:bB ig A54)(m:Nat):bB Wl (Wj A54 m):=Fq [] (aEM A54 hA54 m) trivial (aEN (nM m) A54)
variable (G68:ax TB)
abbrev zw(α:Type):Type:=Bool->aA->Bool->aA->Bool->Int->aH->iM->aH->(Bool->aA->Bool->Option α)->Option α
def aac:zw α:=λa b c d e h i j l n=>G96 b d (λo p=>cond e (G65 (!(a==c)) o (λq=>n q o true)) (G65 (!(a==c)) o (λr=>n r o p)))
def jc(m:Nat):zw α:=aac (Ms m) (iI m)
def Bn:bR zw:=⟨61,[(bL 0),xh,xh],[(true,[(.one .bool),(.one (.aQ 1 5)),(.one (.jZ 2)),(.one (.aQ 3 2)),(.one (.int .i64))]),(false,[(.aD aB)]),(false,[(.mp aY iF)]),(false,[(.aD aY)])],λG ls k=>G (eu ls 0) ((lf ls 1).ak aC) (eu ls 2) ((lf ls 3).ak aC) (eu ls 4) (aI ls 5) ((lf ls 6).ak aB) ((lf ls 7).map aY iF) ((lf ls 8).ak aY)
  (λa b c=>k (S_ a b) [[(lN c),(.one (.aQ 1 5)),(.one (.jZ 2)),(.one (.aQ 3 2)),(.one (.int .i64 (aI ls 5)))],[(.aD aB ((lf ls 6).ak aB))],[(.mp aY iF ((lf ls 7).map aY iF))],[(.aD aY ((lf ls 8).ak aY))]] [])⟩
def adZ:Hd:=⟨aL 96 (aK aep G96)<|aL 65 (aK qW G65)<|bZ,cO,cZ⟩
theorem aqY:dz Bn (aac G96 G65) (adZ G96 G65) Tryz.f61:=λ_ _ _=>by kernel_rfl
theorem aqX(m:Nat):(adZ (Ms m) (iI m)).ah bE:=(aM (avk m) (aM (uV m) cK))
theorem Ru(m:Nat):bB Bn (jc m):=bT (aqX m) (aqY (Ms m) (iI m))
variable (G61v1:ax zw)
abbrev O_(α:Type):Type:=Int->Int->Int->Int->Int->Int->Bool->Int->aH->iM->aH->(Bool->aA->Bool->Int->iM->aH->Option α)->Option α
def aj9:O_ α:=λa b c d e h i j l n o p=>G68 b i j l n o (λq r s t u=>G68 c r s l t u (λv w x y z=>G54 b (IntKind.wrap .i64 ((IntKind.wrap .i64 (h+v))+3)) w x l y z (λa0 b0 c0 d0 e0 h0 i0=>G54 c (IntKind.wrap .i64 ((IntKind.wrap .i64 (h+q))+3)) c0 d0 l h0 i0 (λj0 l0 n0 o0 p0 q0 r0=>G55 n0 o0 l q0 r0 (λs0 t0=>cond s0 (p false [0,0,0,0,0,0] n0 t0 q0 r0) (G61v1 a0 b0 j0 l0 n0 t0 l q0 r0 (λu0 v0 w0=>G63v1 u0 v0 (IntKind.wrap .i64 ((IntKind.wrap .i64 ((IntKind.wrap .i64 (h+q))+v))+6)) w0 t0 l q0 r0 (λx0 y0 z0=>p x0 y0 z0 t0 q0 r0))))))))
def Y6(A54:ax dH)(m:Nat):O_ α:=aj9 (pJ m) A54 (iq m) (Wj A54 m) (jc m)
def Y7:bR O_:=⟨141,[(bL 0),(.vl (.agg [(.one (.int .i8)),(.one (.int .i16)),(.one (.int .i16)),(.one (.int .i64)),(.one (.int .i64))])),bD],[(true,[(.one .bool),(.one (.aQ 1 5)),(.one (.jZ 2)),(.one (.aQ 3 2)),(.one (.int .i64))]),(false,[(.aD aB)]),(true,[(.mp aY iF)]),(true,[(.aD aY)])],λG ls k=>G (aI ls 0) (aI ls 1) (aI ls 2) (aI ls 3) (aI ls 4) (aI ls 5) (eu ls 6) (aI ls 7) ((lf ls 8).ak aB) ((lf ls 9).map aY iF) ((lf ls 10).ak aY)
  (λa b c d e h=>k (S_ a b) [[(lN c),(.one (.aQ 1 5)),(.one (.jZ 2)),(.one (.aQ 4 2)),(Ml d)],[(.aD aB ((lf ls 8).ak aB))],[(.mp aY iF e)],[]] [[(.aD aY h)]])⟩
def aj8:Hd:=⟨aL 68 (aK Wl G68)<|aL 54 (aK ig G54)<|aL 55 (aK Bl G55)<|aL 61 (aK Bn G61v1)<|aL 63 (aK sH G63v1)<|bZ,cO,bH 54 [1]<|bH 55 [1,2,3]<|bH 61 [1,2,3]<|bH 63 [1,2,3]<|bH 68 [1]<|cZ⟩
theorem axE:Ye Y7 (aj9 G55 G54 G63v1 G68 G61v1) (aj8 G55 G54 G63v1 G68 G61v1) Tryz.f141 3:=λ_ _ _=>by kernel_rfl
theorem axC(A54:ax dH)(hA54:bB ig A54)(m:Nat):(aj8 (pJ m) A54 (iq m) (Wj A54 m) (jc m)).ah bE:=(aM (amZ A54 hA54 m) (aM hA54 (aM (Kh m) (aM (Ru m) (aM (Bo m) cK)))))
theorem axD(A54:ax dH)(hA54:bB ig A54)(m:Nat):bB Y7 (Y6 A54 m):=Fq [] (axC A54 hA54 m) trivial (axE (pJ m) A54 (iq m) (Wj A54 m) (jc m))
variable (G141:ax O_)
abbrev Pt(α:Type):Type:=Int->Bool->Int->aH->iM->aH->(Int->Bool->Int->iM->aH->Option α)->Option α
abbrev z_(α:Type):Type:=Int->Bool->Int->iM->aH->Option α
abbrev Uj(α β:Type):Type:=Int->aH->(Int->Bool->Int->iM->aH->Option α)->(Bool->Int->iM->aH->Option α)->β
abbrev qD(α:Type):Type:=Uj α (z_ α)
def Q0(G54:ax dH)(G55:ax HZ)(G101:ax rF):Uj α (z_ α->z_ α):=λa b c d e h i j l n=>cond (decide (h<=40)) (G54 a (IntKind.wrap .i64 (h+2)) i j b l n (λo p q r s t u=>G55 q r b t u (λv w=>cond v (c 0 q w t u) (G101 p [5,0,0,0,0,0] (λx=>cond (decide (x>=0)) (c h q w t u) (e (IntKind.wrap .i64 (h+1)) q w t u)))))) (d i j l n)
def Dj(G54:ax dH)(G55:ax HZ)(G101:ax rF)(a:Int)(b:aH)(c:Int->Bool->Int->iM->aH->Option α)(d:Bool->Int->iM->aH->Option α):Nat->z_ α
 |0=>λ_ _ _ _ _=>none
 |m+1=>λe h i j l=>Q0 G54 G55 G101 a b c d (Dj G54 G55 G101 a b c d m) e h i j l
def VZ(A54:ax dH)(m n:Nat):qD α:=λa b c d e h i j l=>Dj A54 (pJ m) (eU m) a b c d n e h i j l
def Bd(A54:ax dH)(m:Nat):qD α:=VZ A54 m m
def JS:jh qD:=⟨0,⟨27,[0,1,2,3],[0,1,5],[0,1,2,3,1000004],[(bL 0),(.vl (.sv (.int .i16))),bD],[(true,[(.one .bool),(.one (.aQ 1 5)),(.one (.jZ 2)),(.one (.aQ 1000004 2)),(.one (.int .i64))]),(false,[(.aD aB)]),(true,[(.mp aY iF)]),(true,[]),(true,[(.aD aY)])],[(1,[4]),(2,[0])]⟩,λL ls k=>L (aI ls 0) ((lf ls 4).ak aB) (λa b c d e=>k .ret (bG 27 [4] [(xE a)] [0,1,2,3,1000004] [(true,[(lN b),(.one (.aQ 1 5)),(.one (.jZ 2)),(.one (.aQ 1000004 2)),(Ml c)]),(false,[(.aD aB ((lf ls 4).ak aB))]),(true,[(.mp aY iF d)]),(true,[]),(true,[(.aD aY e)])])) (λa b h d=>k .normal (bG 27 [0] [(gL 0)] [0,1,2,3,1000004] [(true,[(lN a),(.one (.aQ 1 5)),(.one (.jZ 2)),(.one (.aQ 1000004 2)),(Ml b)]),(false,[(.aD aB ((lf ls 4).ak aB))]),(true,[(.mp aY iF h)]),(true,[]),(true,[(.aD aY d)])])) (aI ls 1) (eu ls 2) (aI ls 3) ((lf ls 5).map aY iF) ((lf ls 6).ak aY)⟩
def alz(r:qD α):qD α:=λa b c d e h i j l=>Q0 G54 G55 G101 a b c d (r a b c d) e h i j l
variable (L174l0:ax qD)
def alx:Pt α:=λa b c d e h i=>L174l0 a d (λj l n o p=>i j l n o p) (λq r s t=>i 0 q 7 s t) 0 b c e h
def afN(A54:ax dH)(m:Nat):Pt α:=alx (Bd A54 m)
def ZG:bR Pt:=⟨174,[(bL 0),(.vl (.sv (.int .i16)))],[(true,[(.one .bool),(.one (.aQ 1 5)),(.one (.jZ 2)),(.one (.aQ 3 2)),(.one (.int .i64))]),(false,[(.aD aB)]),(true,[(.mp aY iF)]),(true,[(.aD aY)])],λG ls k=>G (aI ls 0) (eu ls 1) (aI ls 2) ((lf ls 3).ak aB) ((lf ls 4).map aY iF) ((lf ls 5).ak aY)
  (λa b c d e=>k (xE a) [[(lN b),(.one (.aQ 1 5)),(.one (.jZ 2)),(.one (.aQ 4 2)),(Ml c)],[(.aD aB ((lf ls 3).ak aB))],[(.mp aY iF d)],[]] [[(.aD aY e)]])⟩
def ZF:Hd:=⟨aL 54 (aK ig G54)<|aL 55 (aK Bl G55)<|aL 101 (aK r_ G101)<|bZ,jD 0 (aS JS L174l0)<|cO,bH 54 [1]<|bH 55 [1,2,3]<|cZ⟩
theorem alA:jq JS (alz G101 G55 G54) (ZF G101 G55 G54 L174l0) Tryz.f174:=λ_ _ _ _=>by kernel_rfl
theorem ayy:Ye ZG (alx L174l0) (ZF G101 G55 G54 L174l0) Tryz.f174 3:=λ_ _ _=>by kernel_rfl
theorem alv(A54:ax dH)(hA54:bB ig A54)(m:Nat):(ZF (eU m) (pJ m) A54 (Bd A54 m)).ah bE:=(aM hA54 (aM (Kh m) (aM (yB m) cK)))
theorem aly(A54:ax dH)(hA54:bB ig A54)(m:Nat):jg (aS JS (Bd A54 m)) 0 Tryz.f174:=
 jy [] (λn=>VZ A54 m n) m (alv A54 hA54 m) trivial (alA (eU m) (pJ m) A54 (Bd A54 m))
theorem ayx(A54:ax dH)(hA54:bB ig A54)(m:Nat):bB ZG (afN A54 m):=Fq [0] (alv A54 hA54 m) ⟨(aly A54 hA54 m),trivial⟩ (ayy (eU m) (pJ m) A54 (Bd A54 m))
variable (G174:ax Pt)
abbrev Pv(α:Type):Type:=Bool->aA->(Int->Option α)->Option α
def alC:Pv α:=λa b c=>cond a (c (-1)) (cond (dI b [0,0,0,0,0,0]) (c 0) (c 1))
def V4(m:Nat):Pv α:=alC
def ZH:bR Pv:=⟨175,[xh],[],λG ls k=>G (eu ls 0) ((lf ls 1).ak aC)
  (λa=>k (xE a) [] [])⟩
def alB:Hd:=⟨bZ,cO,cZ⟩
theorem ayC:dz ZH (alC) (alB) Tryz.f175:=λ_ _ _=>by kernel_rfl
theorem ayA(m:Nat):(alB).ah bE:=cK
theorem ayB(m:Nat):bB ZH (V4 m):=bT (ayA m) (ayC)
variable (G175:ax Pv)
abbrev Pb(α:Type):Type:=Int->Int->Int->Int->Int->Int->Bool->Int->aH->iM->aH->(Bool->aA->Bool->Int->iM->aH->Option α)->Option α
def akb:Pb α:=λa b c d e h i j l n o p=>G174 c i j l n o (λq r s t u=>G55 r s l t u (λv w=>cond v (p false [0,0,0,0,0,0] r w t u) (G68 b r w l t u (λx y z a0 b0=>G54 b (IntKind.wrap .i64 ((IntKind.wrap .i64 (h+q))+3)) y z l a0 b0 (λc0 d0 e0 h0 i0 j0 l0=>G54 c (IntKind.wrap .i64 ((IntKind.wrap .i64 ((IntKind.wrap .i64 (h+x))+(IntKind.wrap .i64 (2*q))))+4)) e0 h0 l j0 l0 (λn0 o0 p0 q0 r0 s0 t0=>G55 p0 q0 l s0 t0 (λu0 v0=>cond u0 (p false [0,0,0,0,0,0] p0 v0 s0 t0) (G135v1 c0 d0 (IntKind.wrap .i64 ((IntKind.wrap .i64 ((IntKind.wrap .i64 (h+x))+q))+1)) p0 v0 l s0 t0 (λw0 x0 y0=>G55 y0 v0 l s0 t0 (λz0 a1=>cond z0 (p false [0,0,0,0,0,0] y0 a1 s0 t0) (G175 n0 o0 (λb1=>cond (b1==0) (p false [0,0,0,0,0,0] y0 a1 s0 t0) (G134v1 w0 x0 n0 o0 y0 a1 l s0 t0 (λc1 d1 e1=>p c1 d1 e1 a1 s0 t0))))))))))))))
def Y8(A54:ax dH)(m:Nat):Pb α:=akb (pJ m) (nP m) (nO m) A54 (Wj A54 m) (afN A54 m) (V4 m)
def Y9:bR Pb:=⟨142,[(bL 0),(.vl (.agg [(.one (.int .i8)),(.one (.int .i16)),(.one (.int .i16)),(.one (.int .i64)),(.one (.int .i64))])),bD],[(true,[(.one .bool),(.one (.aQ 1 5)),(.one (.jZ 2)),(.one (.aQ 3 2)),(.one (.int .i64))]),(false,[(.aD aB)]),(true,[(.mp aY iF)]),(true,[(.aD aY)])],λG ls k=>G (aI ls 0) (aI ls 1) (aI ls 2) (aI ls 3) (aI ls 4) (aI ls 5) (eu ls 6) (aI ls 7) ((lf ls 8).ak aB) ((lf ls 9).map aY iF) ((lf ls 10).ak aY)
  (λa b c d e h=>k (S_ a b) [[(lN c),(.one (.aQ 1 5)),(.one (.jZ 2)),(.one (.aQ 4 2)),(Ml d)],[(.aD aB ((lf ls 8).ak aB))],[(.mp aY iF e)],[]] [[(.aD aY h)]])⟩
def aj_:Hd:=⟨aL 174 (aK ZG G174)<|aL 55 (aK Bl G55)<|aL 68 (aK Wl G68)<|aL 54 (aK ig G54)<|aL 135 (aK AU G135v1)<|aL 175 (aK ZH G175)<|aL 134 (aK AR G134v1)<|bZ,cO,bH 54 [1]<|bH 55 [1,2,3]<|bH 68 [1]<|bH 134 [1,2,3]<|bH 135 [1,2,3]<|bH 174 [1]<|cZ⟩
theorem axI:Ye Y9 (akb G55 G135v1 G134v1 G54 G68 G174 G175) (aj_ G55 G135v1 G134v1 G54 G68 G174 G175) Tryz.f142 3:=λ_ _ _=>by kernel_rfl
theorem axG(A54:ax dH)(hA54:bB ig A54)(m:Nat):(aj_ (pJ m) (nP m) (nO m) A54 (Wj A54 m) (afN A54 m) (V4 m)).ah bE:=(aM (ayx A54 hA54 m) (aM (Kh m) (aM (amZ A54 hA54 m) (aM hA54 (aM (Vz m) (aM (ayB m) (aM (Vx m) cK)))))))
theorem axH(A54:ax dH)(hA54:bB ig A54)(m:Nat):bB Y9 (Y8 A54 m):=Fq [] (axG A54 hA54 m) trivial (axI (pJ m) (nP m) (nO m) A54 (Wj A54 m) (afN A54 m) (V4 m))
variable (G142:ax Pb)
abbrev Pd(α:Type):Type:=aA->(aA->Option α)->Option α
abbrev zP(α:Type):Type:=Int->aA->Option α
abbrev T9(α β:Type):Type:=aA->aA->(aA->Option α)->β
abbrev ql(α:Type):Type:=T9 α (zP α)
def adb(G98:ax H9)(G99:ax H_)(G102:ax xX)(G96:ax H8)(G101:ax rF):T9 α (zP α->zP α):=λa b c d e h=>cond (decide (e>=0)) (G98 (λi=>G99 i e (λj=>G102 h j (λl n=>G96 l l (λo p=>cond (!p) (G101 o a (λq=>cond (decide (q<=0)) (d (IntKind.wrap .i64 (e-1)) l) (d (IntKind.wrap .i64 (e-1)) h))) (d (IntKind.wrap .i64 (e-1)) h)))))) (c h)
def pG(G98:ax H9)(G99:ax H_)(G102:ax xX)(G96:ax H8)(G101:ax rF)(a:aA)(b:aA)(c:aA->Option α):Nat->zP α
 |0=>λ_ _=>none
 |m+1=>λd e=>adb G98 G99 G102 G96 G101 a b c (pG G98 G99 G102 G96 G101 a b c m) d e
def VF(m n:Nat):ql α:=λa b c d e=>pG (uj m) (pK m) (jl m) (Ms m) (eU m) a b c n d e
def AX(m:Nat):ql α:=VF m m
def Jw:jh ql:=⟨0,⟨42,[],[1,2,3,4],[1000000,1000001,1000002],[(bL 1000000),(bL 1000001),(bL 1000002),bD],[(true,[(.seq aC 6)]),(true,[(.seq aC 6)]),(true,[(.seq aC 6)])],[(2,[2,3])]⟩,λL ls k=>L ((lf ls 1).ak aC) ((lf ls 2).ak aC) (λa=>k .normal (bG 42 [2,3] [(gL 1000000),(gL 1000001)] [1000000,1000001] [(true,[(bX ((lf ls 2).ak aC))]),(true,[(bX a)])])) (aI ls 0) ((lf ls 3).ak aC)⟩
def ake(r:ql α):ql α:=λa b c d e=>adb G98 G99 G102 G96 G101 a b c (r a b c) d e
variable (L143l0:ax ql)
def atm:Pd α:=λa b=>G113 a (λc=>L143l0 a [0,0,0,0,0,0] (λd=>b d) (IntKind.wrap .i64 (Int.tdiv (IntKind.wrap .i64 (c+1)) 2)) [0,0,0,0,0,0])
def VE(m:Nat):Pd α:=atm (nM m) (AX m)
def Za:bR Pd:=⟨143,[(.vl (.agg [(.seq aC 6)]))],[],λG ls k=>G ((lf ls 0).ak aC)
  (λa=>k (.vl (.agg [(bX a)])) [] [])⟩
def Y_:Hd:=⟨aL 113 (aK C8 G113)<|aL 98 (aK Ky G98)<|aL 99 (aK ES G99)<|aL 102 (aK CY G102)<|aL 96 (aK aep G96)<|aL 101 (aK r_ G101)<|bZ,jD 0 (aS Jw L143l0)<|cO,cZ⟩
theorem akf:jq Jw (ake G96 G98 G99 G101 G102) (Y_ G96 G98 G99 G101 G102 G113 L143l0) Tryz.f143:=λ_ _ _ _=>by kernel_rfl
theorem axL:dz Za (atm G113 L143l0) (Y_ G96 G98 G99 G101 G102 G113 L143l0) Tryz.f143:=λ_ _ _=>by kernel_rfl
theorem akc(m:Nat):(Y_ (Ms m) (uj m) (pK m) (eU m) (jl m) (nM m) (AX m)).ah bE:=(aM (Qt m) (aM (Wu m) (aM (N8 m) (aM (Ql m) (aM (avk m) (aM (yB m) cK))))))
theorem akd(m:Nat):jg (aS Jw (AX m)) 0 Tryz.f143:=
 jy [] (λn=>VF m n) m (akc m) trivial (akf (Ms m) (uj m) (pK m) (eU m) (jl m) (nM m) (AX m))
theorem axK(m:Nat):bB Za (VE m):=gu [0] (akc m) ⟨(akd m),trivial⟩ (axL (Ms m) (uj m) (pK m) (eU m) (jl m) (nM m) (AX m))
variable (G143:ax Pd)
abbrev Pw(α:Type):Type:=Int->Int->Bool->Int->aH->iM->aH->(Bool->aA->Bool->Option α)->Option α
abbrev Aa(α:Type):Type:=Int->Bool->aA->Bool->aA->Option α
abbrev Uk(α β:Type):Type:=Int->Int->aH->iM->aH->Bool->aA->(Bool->Bool->aA->Option α)->β
abbrev qE(α:Type):Type:=Uk α (Aa α)
def Q5(G104:ax mo)(G65:ax xG)(G137v1:ax lT):Uk α (Aa α->Aa α):=λa b c d e h i j l n o p q r=>cond (!(dI p [0,0,0,0,0,0])) (G104 p (IntKind.wrap .u32 ((IntKind.wrap .u32 (2*n))+1)) (λs t=>G65 ((Int.tmod n 2)==1) s (λu=>G137v1 q r u s o b c d e (λv w x=>G104 p (IntKind.wrap .u32 (a*a)) (λy z=>l (IntKind.wrap .u32 (n+1)) x y v w))))) (j o q r)
def Dk(G104:ax mo)(G65:ax xG)(G137v1:ax lT)(a b:Int)(c:aH)(d:iM)(e:aH)(h:Bool)(i:aA)(j:Bool->Bool->aA->Option α):Nat->Aa α
 |0=>λ_ _ _ _ _=>none
 |m+1=>λl n o p q=>Q5 G104 G65 G137v1 a b c d e h i j (Dk G104 G65 G137v1 a b c d e h i j m) l n o p q
def V5(m n:Nat):qE α:=λa b c d e h i j l o p q r=>Dk (iA m) (iI m) (dn m) a b c d e h i j n l o p q r
def Be(m:Nat):qE α:=V5 m m
def JU:jh qE:=⟨0,⟨55,[0,1,2,3],[0,1,6,7,9,10],[0,1,2,3,1000004,1000005,1000006],[(bL 0),(.vl (.sv (.int .u32))),(bL 1000004),(bL 1000005),(bL 1000006),(.vl (.sv (.int .u32)))],[(true,[(.one .bool),(.one (.aQ 1 5)),(.one (.jZ 2)),(.one (.aQ 3 2)),(.one (.int .i64))]),(false,[(.aD aB)]),(false,[(.mp aY iF)]),(false,[(.aD aY)]),(true,[(.one .bool),(.seq aC 6)]),(true,[(.seq aC 6)]),(true,[(.one .bool),(.seq aC 6)])],[(2,[6,9])]⟩,λL ls k=>L (aI ls 0) (aI ls 3) ((lf ls 4).ak aB) ((lf ls 5).map aY iF) ((lf ls 6).ak aY) (eu ls 7) ((lf ls 8).ak aC) (λa b c=>k .normal (bG 55 [6,9] [(gL 1000004),(gL 1000005)] [0,1,2,3,1000004,1000005] [(true,[(lN a),(.one (.aQ 1 5)),(.one (.jZ 2)),(.one (.aQ 3 2)),(.one (.int .i64 (aI ls 3)))]),(false,[(.aD aB ((lf ls 4).ak aB))]),(false,[(.mp aY iF ((lf ls 5).map aY iF))]),(false,[(.aD aY ((lf ls 6).ak aY))]),(true,[(.one (.bool (eu ls 7))),(bX ((lf ls 8).ak aC))]),(true,[(lN b),(bX c)])])) (aI ls 1) (eu ls 2) ((lf ls 9).ak aC) (eu ls 10) ((lf ls 11).ak aC)⟩
def alG(r:qE α):qE α:=λa b c d e h i j l n o p q=>Q5 G104 G65 G137v1 a b c d e h i j (r a b c d e h i j) l n o p q
variable (L176l0:ax qE)
def alE:Pw α:=λa b c d e h i j=>G98 (λl=>G99 l (IntKind.wrap .i64 (b+16)) (λn=>G104 n a (λo p=>L176l0 a d e h i false [0,0,0,0,0,0] (λq r s=>j r s q) 0 c o false [0,0,0,0,0,0])))
def ZI(m:Nat):Pw α:=alE (uj m) (pK m) (iA m) (Be m)
def ZK:bR Pw:=⟨176,[(bL 0),(.vl (.sv (.int .u32))),bD],[(true,[(.one .bool),(.one (.aQ 1 5)),(.one (.jZ 2)),(.one (.aQ 3 2)),(.one (.int .i64))]),(false,[(.aD aB)]),(false,[(.mp aY iF)]),(false,[(.aD aY)])],λG ls k=>G (aI ls 0) (aI ls 1) (eu ls 2) (aI ls 3) ((lf ls 4).ak aB) ((lf ls 5).map aY iF) ((lf ls 6).ak aY)
  (λa b c=>k (S_ a b) [[(lN c),(.one (.aQ 1 5)),(.one (.jZ 2)),(.one (.aQ 3 2)),(.one (.int .i64 (aI ls 3)))],[(.aD aB ((lf ls 4).ak aB))],[(.mp aY iF ((lf ls 5).map aY iF))],[(.aD aY ((lf ls 6).ak aY))]] [])⟩
def ZJ:Hd:=⟨aL 98 (aK Ky G98)<|aL 99 (aK ES G99)<|aL 104 (aK CZ G104)<|aL 65 (aK qW G65)<|aL 137 (aK nQ G137v1)<|bZ,jD 0 (aS JU L176l0)<|cO,bH 137 [1,2,3]<|cZ⟩
theorem alH:jq JU (alG G65 G104 G137v1) (ZJ G65 G98 G99 G104 G137v1 L176l0) Tryz.f176:=λ_ _ _ _=>by kernel_rfl
theorem ayE:dz ZK (alE G98 G99 G104 L176l0) (ZJ G65 G98 G99 G104 G137v1 L176l0) Tryz.f176:=λ_ _ _=>by kernel_rfl
theorem alD(m:Nat):(ZJ (iI m) (uj m) (pK m) (iA m) (dn m) (Be m)).ah bE:=(aM (Wu m) (aM (N8 m) (aM (Qn m) (aM (uV m) (aM (uN m) cK)))))
theorem alF(m:Nat):jg (aS JU (Be m)) 0 Tryz.f176:=
 jy [] (λn=>V5 m n) m (alD m) trivial (alH (iI m) (uj m) (pK m) (iA m) (dn m) (Be m))
theorem ayD(m:Nat):bB ZK (ZI m):=gu [0] (alD m) ⟨(alF m),trivial⟩ (ayE (iI m) (uj m) (pK m) (iA m) (dn m) (Be m))
variable (G176:ax Pw)
abbrev Pe(α:Type):Type:=Int->Bool->Int->aH->iM->aH->(Bool->aA->Bool->Option α)->Option α
def akh:Pe α:=λa b c d e h i=>G62 16 (λj l=>G176 5 a b c d e h (λn o p=>G61v1 j l n o p c d e h (λq r s=>G62 4 (λt u=>G176 239 a s c d e h (λv w x=>G61v1 t u v w x c d e h (λy z a0=>G138v1 q r y z a0 c d e h (λb0 c0 d0=>G63v1 b0 c0 16 d0 c d e h (λe0 h0 i0=>i e0 h0 i0))))))))
def Zb(m:Nat):Pe α:=akh (zb m) (iq m) (nR m) (jc m) (ZI m)
def Zc:bR Pe:=⟨144,[(bL 0),bD],[(true,[(.one .bool),(.one (.aQ 1 5)),(.one (.jZ 2)),(.one (.aQ 3 2)),(.one (.int .i64))]),(false,[(.aD aB)]),(false,[(.mp aY iF)]),(false,[(.aD aY)])],λG ls k=>G (aI ls 0) (eu ls 1) (aI ls 2) ((lf ls 3).ak aB) ((lf ls 4).map aY iF) ((lf ls 5).ak aY)
  (λa b c=>k (S_ a b) [[(lN c),(.one (.aQ 1 5)),(.one (.jZ 2)),(.one (.aQ 3 2)),(.one (.int .i64 (aI ls 2)))],[(.aD aB ((lf ls 3).ak aB))],[(.mp aY iF ((lf ls 4).map aY iF))],[(.aD aY ((lf ls 5).ak aY))]] [])⟩
def akg:Hd:=⟨aL 62 (aK NS G62)<|aL 176 (aK ZK G176)<|aL 61 (aK Bn G61v1)<|aL 138 (aK AV G138v1)<|aL 63 (aK sH G63v1)<|bZ,cO,bH 61 [1,2,3]<|bH 63 [1,2,3]<|bH 138 [1,2,3]<|bH 176 [1,2,3]<|cZ⟩
theorem axO:dz Zc (akh G62 G63v1 G138v1 G61v1 G176) (akg G62 G63v1 G138v1 G61v1 G176) Tryz.f144:=λ_ _ _=>by kernel_rfl
theorem axM(m:Nat):(akg (zb m) (iq m) (nR m) (jc m) (ZI m)).ah bE:=(aM (ad3 m) (aM (ayD m) (aM (Ru m) (aM (VD m) (aM (Bo m) cK)))))
theorem axN(m:Nat):bB Zc (Zb m):=bT (axM m) (axO (zb m) (iq m) (nR m) (jc m) (ZI m))
variable (G144:ax Pe)
abbrev Pf(α:Type):Type:=Int->Bool->Int->aH->iM->aH->(Bool->aA->Bool->Option α)->Option α
abbrev zQ(α:Type):Type:=Int->Bool->aA->Bool->aA->Option α
abbrev T_(α β:Type):Type:=Int->aH->iM->aH->Bool->aA->(Bool->Bool->aA->Option α)->β
abbrev qm(α:Type):Type:=T_ α (zQ α)
def QK(G65:ax xG)(G137v1:ax lT)(G104:ax mo):T_ α (zQ α->zQ α):=λa b c d e h i j l n o p q=>cond (!(dI o [0,0,0,0,0,0])) (G65 false o (λr=>G137v1 p q r o n a b c d (λs t u=>G104 o l (λv w=>j (IntKind.wrap .u32 (l+1)) u v s t)))) (i n p q)
def Dc(G65:ax xG)(G137v1:ax lT)(G104:ax mo)(a:Int)(b:aH)(c:iM)(d:aH)(e:Bool)(h:aA)(i:Bool->Bool->aA->Option α):Nat->zQ α
 |0=>λ_ _ _ _ _=>none
 |m+1=>λj l n o p=>QK G65 G137v1 G104 a b c d e h i (Dc G65 G137v1 G104 a b c d e h i m) j l n o p
def VH(m n:Nat):qm α:=λa b c d e h i j l o p q=>Dc (iI m) (dn m) (iA m) a b c d e h i n j l o p q
def AY(m:Nat):qm α:=VH m m
def Jy:jh qm:=⟨0,⟨36,[0,1,2,3],[0,4,5,6,7],[0,1,2,3,1000004,1000005,1000006],[(bL 0),(bL 1000004),(bL 1000005),(bL 1000006),(.vl (.sv (.int .u32)))],[(true,[(.one .bool),(.one (.aQ 1 5)),(.one (.jZ 2)),(.one (.aQ 3 2)),(.one (.int .i64))]),(false,[(.aD aB)]),(false,[(.mp aY iF)]),(false,[(.aD aY)]),(true,[(.one .bool),(.seq aC 6)]),(true,[(.seq aC 6)]),(true,[(.one .bool),(.seq aC 6)])],[(2,[0,4,6])]⟩,λL ls k=>L (aI ls 2) ((lf ls 3).ak aB) ((lf ls 4).map aY iF) ((lf ls 5).ak aY) (eu ls 6) ((lf ls 7).ak aC) (λa b c=>k .normal (bG 36 [0,4,6] [(gL 0),(gL 1000004),(gL 1000005)] [0,1,2,3,1000004,1000005] [(true,[(lN a),(.one (.aQ 1 5)),(.one (.jZ 2)),(.one (.aQ 3 2)),(.one (.int .i64 (aI ls 2)))]),(false,[(.aD aB ((lf ls 3).ak aB))]),(false,[(.mp aY iF ((lf ls 4).map aY iF))]),(false,[(.aD aY ((lf ls 5).ak aY))]),(true,[(.one (.bool (eu ls 6))),(bX ((lf ls 7).ak aC))]),(true,[(lN b),(bX c)])])) (aI ls 0) (eu ls 1) ((lf ls 8).ak aC) (eu ls 9) ((lf ls 10).ak aC)⟩
def akl(r:qm α):qm α:=λa b c d e h i j l n o p=>QK G65 G137v1 G104 a b c d e h i (r a b c d e h i) j l n o p
variable (L145l0:ax qm)
def akj:Pf α:=λa b c d e h i=>G98 (λj=>G99 j (IntKind.wrap .i64 (a+16)) (λl=>L145l0 c d e h false [0,0,0,0,0,0] (λn o p=>G63v1 o p 16 n c d e h (λq r s=>i q r s)) 1 b l false [0,0,0,0,0,0]))
def Zd(m:Nat):Pf α:=akj (uj m) (pK m) (iq m) (AY m)
def Zf:bR Pf:=⟨145,[(bL 0),bD],[(true,[(.one .bool),(.one (.aQ 1 5)),(.one (.jZ 2)),(.one (.aQ 3 2)),(.one (.int .i64))]),(false,[(.aD aB)]),(false,[(.mp aY iF)]),(false,[(.aD aY)])],λG ls k=>G (aI ls 0) (eu ls 1) (aI ls 2) ((lf ls 3).ak aB) ((lf ls 4).map aY iF) ((lf ls 5).ak aY)
  (λa b c=>k (S_ a b) [[(lN c),(.one (.aQ 1 5)),(.one (.jZ 2)),(.one (.aQ 3 2)),(.one (.int .i64 (aI ls 2)))],[(.aD aB ((lf ls 3).ak aB))],[(.mp aY iF ((lf ls 4).map aY iF))],[(.aD aY ((lf ls 5).ak aY))]] [])⟩
def Ze:Hd:=⟨aL 98 (aK Ky G98)<|aL 99 (aK ES G99)<|aL 65 (aK qW G65)<|aL 137 (aK nQ G137v1)<|aL 104 (aK CZ G104)<|aL 63 (aK sH G63v1)<|bZ,jD 0 (aS Jy L145l0)<|cO,bH 63 [1,2,3]<|bH 137 [1,2,3]<|cZ⟩
theorem akm:jq Jy (akl G65 G104 G137v1) (Ze G65 G98 G99 G104 G137v1 G63v1 L145l0) Tryz.f145:=λ_ _ _ _=>by kernel_rfl
theorem axR:dz Zf (akj G98 G99 G63v1 L145l0) (Ze G65 G98 G99 G104 G137v1 G63v1 L145l0) Tryz.f145:=λ_ _ _=>by kernel_rfl
theorem aki(m:Nat):(Ze (iI m) (uj m) (pK m) (iA m) (dn m) (iq m) (AY m)).ah bE:=(aM (Wu m) (aM (N8 m) (aM (uV m) (aM (uN m) (aM (Qn m) (aM (Bo m) cK))))))
theorem akk(m:Nat):jg (aS Jy (AY m)) 0 Tryz.f145:=
 jy [] (λn=>VH m n) m (aki m) trivial (akm (iI m) (uj m) (pK m) (iA m) (dn m) (iq m) (AY m))
theorem axQ(m:Nat):bB Zf (Zd m):=gu [0] (aki m) ⟨(akk m),trivial⟩ (axR (iI m) (uj m) (pK m) (iA m) (dn m) (iq m) (AY m))
variable (G145:ax Pf)
abbrev abO(α:Type):Type:=Int->Int->Int->Int->Int->Int->Bool->Int->aH->iM->aH->(Bool->aA->Bool->Int->iM->aH->Option α)->Option α
def azT:abO α:=λa b c d e h i j l n o p=>cond (a==1) (G62 d (λq r=>G135v1 q r h i j l n o (λs t u=>G62 e (λv w=>G134v1 s t v w u j l n o (λx y z=>p x y z j n o))))) (cond (a==2) (G136 a b c d e (IntKind.wrap .i64 (h+2)) i j l n o (λa0 b0 c0 d0 e0 h0 i0 j0=>G137v1 a0 b0 c0 d0 e0 h0 l i0 j0 (λl0 n0 o0=>G63v1 l0 n0 2 o0 h0 l i0 j0 (λp0 q0 r0=>p p0 q0 r0 h0 i0 j0)))) (cond (a==3) (G136 a b c d e (IntKind.wrap .i64 (h+2)) i j l n o (λs0 t0 u0 v0 w0 x0 y0 z0=>G138v1 s0 t0 u0 v0 w0 x0 l y0 z0 (λa1 b1 c1=>G63v1 a1 b1 2 c1 x0 l y0 z0 (λd1 e1 h1=>p d1 e1 h1 x0 y0 z0)))) (cond (a==6) (G54 b h i j l n o (λi1 j1 l1 n1 o1 p1 q1=>G139 i1 j1 (λr1=>p r1 j1 l1 n1 p1 q1))) (cond (a==7) (G54 b h i j l n o (λs1 t1 u1 v1 w1 x1 y1=>G65 false t1 (λz1=>p z1 t1 u1 v1 x1 y1))) (cond (a==8) (G136 a b c d e h i j l n o (λa2 b2 c2 d2 e2 h2 i2 j2=>G140 a2 b2 c2 d2 (λl2=>cond ((decide (l2<=0))==(a==8)) (p a2 b2 e2 h2 i2 j2) (p c2 d2 e2 h2 i2 j2)))) (cond (a==9) (G136 a b c d e h i j l n o (λn2 o2 p2 q2 r2 s2 t2 u2=>G140 n2 o2 p2 q2 (λv2=>cond ((decide (v2<=0))==(a==8)) (p n2 o2 r2 s2 t2 u2) (p p2 q2 r2 s2 t2 u2)))) (cond (a==4) (G141 a b c d e h i j l n o (λw2 x2 y2 z2 a3 b3=>p w2 x2 y2 z2 a3 b3)) (cond (a==5) (G142 a b c d e h i j l n o (λc3 d3 e3 h3 i3 j3=>p c3 d3 e3 h3 i3 j3)) (cond (a==10) (G54 b (IntKind.wrap .i64 ((IntKind.wrap .i64 (2*h))+6)) i j l n o (λl3 n3 o3 p3 q3 r3 s3=>cond l3 (p false [0,0,0,0,0,0] o3 p3 r3 s3) (G143 n3 (λt3=>G65 false t3 (λu3=>G63v1 u3 t3 3 o3 p3 l r3 s3 (λv3 w3 x3=>p v3 w3 x3 p3 r3 s3)))))) (cond (a==11) (G144 h i j l n o (λy3 z3 a4=>p y3 z3 a4 j n o)) (G145 h i j l n o (λb4 c4 d4=>p b4 c4 d4 j n o))))))))))))
def g91(A54:ax dH)(m:Nat):abO α:=azT (iI m) (zb m) (Db m) (nP m) (dn m) (nO m) A54 (Y1 A54 m) (iq m) (nR m) (Y4 m) (Y6 A54 m) (Y8 A54 m) (VE m) (Zb m) (Zd m)
def ani:bR abO:=⟨91,[(bL 0),(.vl (.agg [(.one (.int .i8)),(.one (.int .i16)),(.one (.int .i16)),(.one (.int .i64)),(.one (.int .i64))])),bD],[(true,[(.one .bool),(.one (.aQ 1 5)),(.one (.jZ 2)),(.one (.aQ 3 2)),(.one (.int .i64))]),(false,[(.aD aB)]),(true,[(.mp aY iF)]),(true,[(.aD aY)])],λG ls k=>G (aI ls 0) (aI ls 1) (aI ls 2) (aI ls 3) (aI ls 4) (aI ls 5) (eu ls 6) (aI ls 7) ((lf ls 8).ak aB) ((lf ls 9).map aY iF) ((lf ls 10).ak aY)
  (λa b c d e h=>k (S_ a b) [[(lN c),(.one (.aQ 1 5)),(.one (.jZ 2)),(.one (.aQ 4 2)),(Ml d)],[(.aD aB ((lf ls 8).ak aB))],[(.mp aY iF e)],[]] [[(.aD aY h)]])⟩
def avf:Hd:=⟨aL 62 (aK NS G62)<|aL 135 (aK AU G135v1)<|aL 134 (aK AR G134v1)<|aL 136 (aK Y2 G136)<|aL 137 (aK nQ G137v1)<|aL 63 (aK sH G63v1)<|aL 138 (aK AV G138v1)<|aL 54 (aK ig G54)<|aL 139 (aK QI G139)<|aL 65 (aK qW G65)<|aL 140 (aK Y5 G140)<|aL 141 (aK Y7 G141)<|aL 142 (aK Y9 G142)<|aL 143 (aK Za G143)<|aL 144 (aK Zc G144)<|aL 145 (aK Zf G145)<|bZ,cO,bH 54 [1]<|bH 63 [1,2,3]<|bH 134 [1,2,3]<|bH 135 [1,2,3]<|bH 136 [1]<|bH 137 [1,2,3]<|bH 138 [1,2,3]<|bH 141 [1]<|bH 142 [1]<|bH 144 [1,2,3]<|bH 145 [1,2,3]<|cZ⟩
theorem aFC:Ye ani (azT G65 G62 G139 G135v1 G137v1 G134v1 G54 G136 G63v1 G138v1 G140 G141 G142 G143 G144 G145) (avf G65 G62 G139 G135v1 G137v1 G134v1 G54 G136 G63v1 G138v1 G140 G141 G142 G143 G144 G145) Tryz.f91 3:=λ_ _ _=>by kernel_rfl
theorem aFA(A54:ax dH)(hA54:bB ig A54)(m:Nat):(avf (iI m) (zb m) (Db m) (nP m) (dn m) (nO m) A54 (Y1 A54 m) (iq m) (nR m) (Y4 m) (Y6 A54 m) (Y8 A54 m) (VE m) (Zb m) (Zd m)).ah bE:=(aM (ad3 m) (aM (Vz m) (aM (Vx m) (aM (axr A54 hA54 m) (aM (uN m) (aM (Bo m) (aM (VD m) (aM hA54 (aM (aj1 m) (aM (uV m) (aM (axz m) (aM (axD A54 hA54 m) (aM (axH A54 hA54 m) (aM (axK m) (aM (axN m) (aM (axQ m) cK))))))))))))))))
theorem aFB(A54:ax dH)(hA54:bB ig A54)(m:Nat):bB ani (g91 A54 m):=Fq [] (aFA A54 hA54 m) trivial (aFC (iI m) (zb m) (Db m) (nP m) (dn m) (nO m) A54 (Y1 A54 m) (iq m) (nR m) (Y4 m) (Y6 A54 m) (Y8 A54 m) (VE m) (Zb m) (Zd m))
variable (G91:ax abO)
def aEf:dH α:=λc d e h i j l n=>G55 e h i j l (λo p=>cond o (n false [0,0,0,0,0,0] e p i j l) (cond (decide (d>160)) (n false [0,0,0,0,0,0] e 3 i j l) (let q:Int:=IntKind.wrap .i16 d;let r:Ty7:=Xc [.i16, .i16] mW j [c,q];cond (W9 [.i16, .i16] j [c,q]) (n (r.1) (xC 6 r.2.1) e p i j l) (if l.length+1<=67108864 then if 0<=c/\c<(i.length:Nat) then if c.toNat<i.length then G91 ((List.getD i c.toNat []).headD 0) ((List.getD i c.toNat []).tail.headD 0) ((List.getD i c.toNat []).tail.tail.headD 0) ((List.getD i c.toNat []).tail.tail.tail.headD 0) ((List.getD i c.toNat []).tail.tail.tail.tail.headD 0) d e p i j (l++[[c,q]]) (λs t u v w x=>G55 u v i w x (λy z=>cond y (n false [0,0,0,0,0,0] u z i w x) (n s t u z i (DL [.i16, .i16] w [c,q] (s,t,())) x))) else none else none else none))))
def y_(m:Nat):ax dH:=
 Nat.rec (motive:=λ_=>ax dH) (λ{α}=>λ_ _ _ _ _ _ _ _=>none) (λm ih {α}=>aEf (pJ m) (g91 ih m)) m
def auv:Hd:=⟨aL 55 (aK Bl G55)<|aL 91 (aK ani G91)<|bZ,cO,bH 55 [1,2,3]<|bH 91 [1]<|cZ⟩
theorem aEe:Ye ig (aEf G55 G91) (auv G55 G91) Tryz.f54 3:=λ_ _ _=>by kernel_rfl
theorem aEd(A54:ax dH)(hA54:bB ig A54)(m:Nat):(auv (pJ m) (g91 A54 m)).ah bE:=(aM (Kh m) (aM (aFB A54 hA54 m) cK))
theorem azh(m:Nat)(hA:bB ig (y_ m)):uo bE 54 amJ amI (azi (y_ (m+1))):=
 avK (X:=ig) (l:=[]) (aEd (y_ m) hA m) trivial (aEe (pJ m) (g91 (y_ m) m))
theorem auu:∀m:Nat,uo bE 54 amJ amI (azi (y_ m))
 |0=>λα ls k r h=>nomatch (show(none:Option α)=some r from h)
 |m+1=>azh m (row_of (auu m))
theorem amH(m:Nat):bB ig (y_ m):=row_of (auu m)
abbrev Tn(α:Type):Type:=Int->Int->aH->(Bool->aA->Int->Option α)->Option α
def ayG:Tn α:=λa b c d=>G46 b 64 0 1 1 c [a] (λe=>cond (e !=0) (d false [0,0,0,0,0,0] e) (none)) (λh i=>G54 (IntKind.wrap .i16 a) b false 0 c h i (λj l n o p q r=>G55 n o c q r (λs t=>cond s (d false [0,0,0,0,0,0] t) (d j l 0))))
def g17(m:Nat):Tn α:=ayG (EP m) (pJ m) (y_ m)
def alI:bR Tn:=⟨17,[(.vl (.sv (.aQ 0 5))),bD,bD],[(false,[(.aD aB)])],λG ls k=>G (aI ls 0) (aI ls 1) ((lf ls 2).ak aB)
  (λa b c=>k (.iO [(.agg [(lN a),(bX b)]),(.sv (.int .i64 c))]) [[(.aD aB ((lf ls 2).ak aB))]] [])⟩
def atE:Hd:=⟨aL 46 (aK Kb G46)<|aL 54 (aK ig G54)<|aL 55 (aK Bl G55)<|bZ,cO,bH 46 [0,1]<|bH 54 [1]<|bH 55 [1,2,3]<|cZ⟩
theorem aCv:dz alI (ayG G46 G55 G54) (atE G46 G55 G54) Tryz.f17:=λ_ _ _=>by kernel_rfl
theorem aCt(m:Nat):(atE (EP m) (pJ m) (y_ m)).ah bE:=(aM (Wd m) (aM (amH m) (aM (Kh m) cK)))
theorem aCu(m:Nat):bB alI (g17 m):=bT (aCt m) (aCv (EP m) (pJ m) (y_ m))
variable (G17:ax Tn)
abbrev abP(α:Type):Type:=Int->Nat->Nat->Nat->Nat->aA->(Int->Option α)->Option α
def azU:abP α:=λa b c d e h i=>if 0<=a/\a<(c:Nat) then if(b+a.toNat)<e then i (IntKind.wrap .i16 (List.getD h (b+a.toNat) 0)) else none else none
def g92(m:Nat):abP α:=azU
def anj:bR abP:=⟨92,[(.vl (.sv (.int .i16))),(bL 0)],[(false,[(.one (.eX 1 0 1))]),(false,[(.iD (.int .i64))])],λG ls k=>G (aI ls 0) (aO ls 1) (aO ls 2) (aO ls 3) (aO ls 4) ((lf ls 5).ak (.int .i64))
  (λa=>k (.vl (.sv (.int .i16 a))) [[(.one (.eX 1 0 1 (aO ls 1) (aO ls 2) (aO ls 3)))],[(.seq (.int .i64) (aO ls 4) ((lf ls 5).ak (.int .i64)))]] [])⟩
def avg:Hd:=⟨bZ,cO,cZ⟩
theorem aFG:dz anj (azU) (avg) Tryz.f92:=λ_ _ _=>by kernel_rfl
theorem aFE(m:Nat):(avg).ah bE:=cK
theorem aFF(m:Nat):bB anj (g92 m):=bT (aFE m) (aFG)
variable (G92:ax abP)
abbrev FB(α:Type):Type:=Int->Int->Int->Int->Int->Nat->Nat->Nat->Nat->aA->(Int->Int->Option α)->Option α
def Z5:FB α:=λa b c d e h i j l n o=>G35 a (λp q r=>cond p (G92 b h i j l n (λs=>cond q (G92 c h i j l n (λt=>o s t)) (o s c))) (cond q (G92 c h i j l n (λu=>o b u)) (o b c)))
def qV(m:Nat):FB α:=Z5 (kG m) (g92 m)
def Rm:bR FB:=⟨48,[(.vl (.agg [(.one (.int .i8)),(.one (.int .i16)),(.one (.int .i16)),(.one (.int .i64)),(.one (.int .i64))])),(.vl (.sv (.PW 92 [(0,0)])))],[(false,[(.one (.eX 1 0 1))]),(false,[(.iD (.int .i64))])],λG ls k=>G (aI ls 0) (aI ls 1) (aI ls 2) (aI ls 3) (aI ls 4) (aO ls 5) (aO ls 6) (aO ls 7) (aO ls 8) ((lf ls 9).ak (.int .i64))
  (λa b=>k (.vl (.agg [(.one (.int .i8 (aI ls 0))),(.one (.int .i16 a)),(.one (.int .i16 b)),(.one (.int .i64 (aI ls 3))),(.one (.int .i64 (aI ls 4)))])) [[(.one (.eX 1 0 1 (aO ls 5) (aO ls 6) (aO ls 7)))],[(.seq (.int .i64) (aO ls 8) ((lf ls 9).ak (.int .i64)))]] [])⟩
def adM:Hd:=⟨aL 35 (aK xK G35)<|aL 92 (aK anj G92)<|bZ,cO,bH 92 [0,1]<|cZ⟩
theorem aqA:dz Rm (Z5 G35 G92) (adM G35 G92) Tryz.f48:=λ_ _ _=>by kernel_rfl
theorem aqy(m:Nat):(adM (kG m) (g92 m)).ah bE:=(aM (EM m) (aM (aFF m) cK))
theorem aqz(m:Nat):bB Rm (qV m):=bT (aqy m) (aqA (kG m) (g92 m))
variable (G48v1:ax FB)
abbrev abQ(α:Type):Type:=Int->Int->Int->Int->Int->aH->(Int->Option α)->Option α
abbrev F7(α:Type):Type:=Int->Option α
abbrev aci(α β:Type):Type:=Int->aH->Int->Int->Int->Int->Int->(Int->Option α)->(Option α)->β
abbrev wh(α:Type):Type:=aci α (F7 α)
def aal:aci α (F7 α->F7 α):=λa b c d e h i j l n o=>cond (decide (o<a)) (if 0<=o/\o<(b.length:Nat) then if o.toNat<b.length then cond ((c==((List.getD b o.toNat []).headD 0))&&((d==((List.getD b o.toNat []).tail.headD 0))&&((e==((List.getD b o.toNat []).tail.tail.headD 0))&&((h==((List.getD b o.toNat []).tail.tail.tail.headD 0))&&(i==((List.getD b o.toNat []).tail.tail.tail.tail.headD 0)))))) (j o) (n (IntKind.wrap .i64 (o+1))) else none else none) (l)
def NZ(a:Int)(b:aH)(c d:Int)(e h i:Int)(j:Int->Option α)(l:Option α):Nat->F7 α
 |0=>λ_=>none
 |m+1=>λn=>aal a b c d e h i j l (NZ a b c d e h i j l m) n
def ael(m n:Nat):wh α:=λa b c d e h i j l o=>NZ a b c d e h i j l n o
def Kv(m:Nat):wh α:=ael m m
def RF:jh wh:=⟨0,⟨19,[0],[0,3,7,8],[0,1000001],[(.vl (.sv (.aQ 0 5))),(bL 1000001),bD,bD],[(false,[(.aD aB)]),(true,[(.one (.int .i8)),(.one (.int .i16)),(.one (.int .i16)),(.one (.int .i64)),(.one (.int .i64))])],[(1,[4]),(2,[])]⟩,λL ls k=>L (aI ls 0) ((lf ls 2).ak aB) (aI ls 3) (aI ls 4) (aI ls 5) (aI ls 6) (aI ls 7) (λa=>k .ret (bG 19 [4] [(xE a)] [0] [(false,[(.aD aB ((lf ls 2).ak aB))])])) (k .normal (bG 19 [] [] [0] [(false,[(.aD aB ((lf ls 2).ak aB))])])) (aI ls 1)⟩
def arw(r:wh α):wh α:=λa b c d e h i j l n=>aal a b c d e h i j l (r a b c d e h i j l) n
variable (L93l0:ax wh)
def azV:abQ α:=λa b c d e h i=>L93l0 ((h.length:Nat):Int) h a b c d e (λj=>i j) (i (-1)) 0
def g93(m:Nat):abQ α:=azV (Kv m)
def anl:bR abQ:=⟨93,[(.vl (.sv (.aQ 0 5))),(.vl (.agg [(.one (.int .i8)),(.one (.int .i16)),(.one (.int .i16)),(.one (.int .i64)),(.one (.int .i64))]))],[(false,[(.aD aB)])],λG ls k=>G (aI ls 0) (aI ls 1) (aI ls 2) (aI ls 3) (aI ls 4) ((lf ls 5).ak aB)
  (λa=>k (xE a) [[(.aD aB ((lf ls 5).ak aB))]] [])⟩
def ank:Hd:=⟨bZ,jD 0 (aS RF L93l0)<|cO,cZ⟩
theorem arx:jq RF (arw) (ank L93l0) Tryz.f93:=λ_ _ _ _=>by kernel_rfl
theorem aFJ:dz anl (azV L93l0) (ank L93l0) Tryz.f93:=λ_ _ _=>by kernel_rfl
theorem avh(m:Nat):(ank (Kv m)).ah bE:=cK
theorem arv(m:Nat):jg (aS RF (Kv m)) 0 Tryz.f93:=
 jy [] (λn=>ael m n) m (avh m) trivial (arx (Kv m))
theorem aFI(m:Nat):bB anl (g93 m):=gu [0] (avh m) ⟨(arv m),trivial⟩ (aFJ (Kv m))
variable (G93:ax abQ)
abbrev abA(α:Type):Type:=aH->(Nat->Nat->aH->Nat->aA->Option α)->Option α
abbrev FW(α:Type):Type:=Int->aH->aA->Option α
abbrev ab8(α β:Type):Type:=Int->aH->Nat->Nat->Nat->Nat->(aH->aA->Option α)->β
abbrev vS(α:Type):Type:=ab8 α (FW α)
def Z9:ab8 α (FW α->FW α):=λa b c d e h i j l n o=>cond (decide (l<a)) (if 0<=l/\l<(b.length:Nat) then if l.toNat<b.length then let p:Int:=(List.getD b l.toNat []).headD 0;let q:Int:=(List.getD b l.toNat []).tail.tail.tail.headD 0;let r:Int:=(List.getD b l.toNat []).tail.tail.tail.tail.headD 0;G48v1 p ((List.getD b l.toNat []).tail.headD 0) ((List.getD b l.toNat []).tail.tail.headD 0) q r c d e h o (λs t=>G93 p s t q r n (λu=>cond (decide (u<0)) (if n.length+1<=67108864 then if 0<=l/\l<(d:Nat) then if(c+l.toNat)<h then j (IntKind.wrap .i64 (l+1)) (n++[[p,s,t,q,r]]) (List.set o (c+l.toNat) ((n.length:Nat):Int)) else none else none else none) (if 0<=l/\l<(d:Nat) then if(c+l.toNat)<h then j (IntKind.wrap .i64 (l+1)) n (List.set o (c+l.toNat) u) else none else none))) else none else none) (i n o)
def Ki(a:Int)(b:aH)(c d:Nat)(e h:Nat)(i:aH->aA->Option α):Nat->FW α
 |0=>λ_ _ _=>none
 |m+1=>λj l n=>Z9 G48v1 G93 a b c d e h i (Ki a b c d e h i m) j l n
def adT(m n:Nat):vS α:=λa b c d e h i j l o=>Ki (qV m) (g93 m) a b c d e h i n j l o
def Kj(m:Nat):vS α:=adT m m
def Rq:jh vS:=⟨0,⟨41,[0],[4,5,13,14,15],[0,1000001,1000002,1000003],[(.vl (.sv (.aQ 1000001 5))),(bL 1000002),(.vl (.sv (.aQ 0 5))),bD,bD],[(false,[(.aD aB)]),(true,[(.aD aB)]),(true,[(.one (.eX 1000003 0 1))]),(true,[(.iD (.int .i64))])],[(2,[4,5])]⟩,λL ls k=>L (aI ls 0) ((lf ls 2).ak aB) (aO ls 4) (aO ls 5) (aO ls 6) (aO ls 7) (λa b=>k .normal (bG 41 [4,5] [(.vl (.sv (.aQ 1000001 5))),(gL 1000002)] [0,1000001,1000002,1000003] [(false,[(.aD aB ((lf ls 2).ak aB))]),(true,[(.aD aB a)]),(true,[(.one (.eX 1000003 0 1 (aO ls 4) (aO ls 5) (aO ls 6)))]),(true,[(.seq (.int .i64) (aO ls 7) b)])])) (aI ls 1) ((lf ls 3).ak aB) ((lf ls 8).ak (.int .i64))⟩
def aqO(r:vS α):vS α:=λa b c d e h i j l n=>Z9 G48v1 G93 a b c d e h i (r a b c d e h i) j l n
variable (L56l0:ax vS)
def azk:abA α:=λa b=>if((a.length:Nat):Int)=((a.length:Nat):Int)/\0<=((a.length:Nat):Int)/\((a.length:Nat):Int)<=1048576 then let c:Nat:=((a.length:Nat):Int).toNat;L56l0 ((a.length:Nat):Int) a 0 c c c (λd e=>b c c d c e) 0 [] (List.replicate c 0) else none
def g56(m:Nat):abA α:=azk (Kj m)
def amM:bR abA:=⟨56,[(.vl (.sv (.aQ 0 5)))],[(false,[(.aD aB)])],λG ls k=>G ((lf ls 0).ak aB)
  (λa b c d e=>k (.iO [(.sv (.aQ 1 5)),(.sv (.eX 2 0 1 0 a b))]) [[(.aD aB ((lf ls 0).ak aB))]] [[(.aD aB c)],[(.seq (.int .i64) d e)]])⟩
def amL:Hd:=⟨aL 48 (aK Rm G48v1)<|aL 93 (aK anl G93)<|bZ,jD 0 (aS Rq L56l0)<|cO,bH 48 [0,1]<|bH 93 [0]<|cZ⟩
theorem aqP:jq Rq (aqO G48v1 G93) (amL G48v1 G93 L56l0) Tryz.f56:=λ_ _ _ _=>by kernel_rfl
theorem aEj:dz amM (azk L56l0) (amL G48v1 G93 L56l0) Tryz.f56:=λ_ _ _=>by kernel_rfl
theorem auz(m:Nat):(amL (qV m) (g93 m) (Kj m)).ah bE:=(aM (aqz m) (aM (aFI m) cK))
theorem aqN(m:Nat):jg (aS Rq (Kj m)) 0 Tryz.f56:=
 jy [] (λn=>adT m n) m (auz m) trivial (aqP (qV m) (g93 m) (Kj m))
theorem aEi(m:Nat):bB amM (g56 m):=gu [0] (auz m) ⟨(aqN m),trivial⟩ (aEj (qV m) (g93 m) (Kj m))
variable (G56:ax abA)
abbrev Tp(α:Type):Type:=aH->(Option α)->(Nat->Nat->aH->Nat->aA->Option α)->Option α
def ayH:Tp α:=λa b c=>G16 a (λd=>cond (!d) (b) (G56 a (λe h i j l=>c e h i j l)))
def g18(m:Nat):Tp α:=ayH (g16 m) (g56 m)
def alJ:bR Tp:=⟨18,[(.vl (.sv (.aQ 0 5)))],[(false,[(.aD aB)])],λG ls k=>G ((lf ls 0).ak aB)
  (k (.iO [(.sv .gM),(.sv .gM),(.sv (.int .i64 (1:Int)))]) [[(.aD aB ((lf ls 0).ak aB))]] [])
  (λa b c d e=>k (.iO [(.sv (.aQ 1 5)),(.sv (.eX 2 0 1 0 a b)),(.sv (.int .i64 (0:Int)))]) [[(.aD aB ((lf ls 0).ak aB))]] [[(.aD aB c)],[(.seq (.int .i64) d e)]])⟩
def atF:Hd:=⟨aL 16 (aK EJ G16)<|aL 56 (aK amM G56)<|bZ,cO,bH 16 [0]<|bH 56 [0]<|cZ⟩
theorem aCz:dz alJ (ayH G16 G56) (atF G16 G56) Tryz.f18:=λ_ _ _=>by kernel_rfl
theorem aCx(m:Nat):(atF (g16 m) (g56 m)).ah bE:=(aM (VW m) (aM (aEi m) cK))
theorem aCy(m:Nat):bB alJ (g18 m):=bT (aCx m) (aCz (g16 m) (g56 m))
variable (G18:ax Tp)
abbrev Tq(α:Type):Type:=aH->(aH->aA->Option α)->(Nat->Nat->aH->Nat->aA->Option α)->Option α
abbrev FL(α:Type):Type:=Int->Option α
abbrev abY(α β:Type):Type:=Nat->Nat->Nat->Int->aH->aH->Nat->aA->Int->Int->Int->Int->Int->(Int->Option α)->β
abbrev vI(α:Type):Type:=abY α (FL α)
def ZO:abY α (FL α->FL α):=λa b c d e h i j l n o p q r s t=>cond (decide (t<((h.length:Nat):Int))) (if 0<=t/\t<(h.length:Nat) then if t.toNat<h.length then cond (!((((List.getD h t.toNat []).headD 0)==l)&&((((List.getD h t.toNat []).tail.headD 0)==n)&&((((List.getD h t.toNat []).tail.tail.headD 0)==o)&&((((List.getD h t.toNat []).tail.tail.tail.headD 0)==p)&&(((List.getD h t.toNat []).tail.tail.tail.tail.headD 0)==q)))))) (s (IntKind.wrap .i64 (t+1))) (r t) else none else none) (r t)
def EL(a b c:Nat)(d:Int)(e h:aH)(i:Nat)(j:aA)(l n:Int)(o p q:Int)(r:Int->Option α):Nat->FL α
 |0=>λ_=>none
 |m+1=>λs=>ZO a b c d e h i j l n o p q r (EL a b c d e h i j l n o p q r m) s
def ap6(m n:Nat):vI α:=λa b c d e h i j l o p q r s t=>EL a b c d e h i j l o p q r s n t
def nS(m:Nat):vI α:=λa b c d e h i j l n o p q r s=>EL a b c d e h i j l n o p q r m s
def Q7:jh vI:=⟨2,⟨59,[0],[0,5,6,7,8,9],[0,1000001,1000002,1000003],[(.vl (.sv (.aQ 0 5))),(.vl (.sv (.aQ 1000001 5))),(.vl (.sv (.eX 1000002 0 1))),bD,(bL 1000003),bD],[(false,[(.aD aB)]),(true,[(.aD aB)]),(true,[(.iD (.int .i64))]),(true,[(.one (.int .i8)),(.one (.int .i16)),(.one (.int .i16)),(.one (.int .i64)),(.one (.int .i64))])],[(4,[0,5,6,7,8,9])]⟩,λL ls k=>L (aO ls 0) (aO ls 1) (aO ls 2) (aI ls 3) ((lf ls 5).ak aB) ((lf ls 6).ak aB) (aO ls 7) ((lf ls 8).ak (.int .i64)) (aI ls 9) (aI ls 10) (aI ls 11) (aI ls 12) (aI ls 13) (λa=>k .normal (bG 59 [0,5,6,7,8,9] [(.vl (.sv (.aQ 0 5))),(.vl (.sv (.aQ 1000001 5))),(.vl (.sv (.eX 1000002 0 1 (aO ls 0) (aO ls 1) (aO ls 2)))),(.vl (.sv (.int .i64 (aI ls 3)))),(gL 1000003),(xE a)] [0,1000001,1000002,1000003] [(false,[(.aD aB ((lf ls 5).ak aB))]),(true,[(.aD aB ((lf ls 6).ak aB))]),(true,[(.seq (.int .i64) (aO ls 7) ((lf ls 8).ak (.int .i64)))]),(true,[(.one (.int .i8 (aI ls 9))),(.one (.int .i16 (aI ls 10))),(.one (.int .i16 (aI ls 11))),(.one (.int .i64 (aI ls 12))),(.one (.int .i64 (aI ls 13)))])])) (aI ls 4)⟩
def ap8(r:vI α):vI α:=λa b c d e h i j l n o p q s t=>ZO a b c d e h i j l n o p q s (r a b c d e h i j l n o p q s) t
variable (L19l2:ax vI)
abbrev FK(α:Type):Type:=Int->aH->aA->Option α
abbrev abX(α β:Type):Type:=Nat->Nat->Nat->aH->Nat->(aH->aA->Option α)->β
abbrev vH(α:Type):Type:=abX α (FK α)
def ZN:abX α (FK α->FK α):=λa b c d e h i j l n=>cond (decide (j<((d.length:Nat):Int))) (if 0<=j/\j<(d.length:Nat) then if j.toNat<d.length then let o:Int:=(List.getD d j.toNat []).headD 0;let p:Int:=(List.getD d j.toNat []).tail.tail.tail.headD 0;let q:Int:=(List.getD d j.toNat []).tail.tail.tail.tail.headD 0;G51 o ((List.getD d j.toNat []).tail.headD 0) ((List.getD d j.toNat []).tail.tail.headD 0) p q a b c e n (λr s=>L19l2 a b c j d l e n o r s p q (λt=>cond (t==((l.length:Nat):Int)) (if l.length+1<=67108864 then if 0<=j/\j<(b:Nat) then if(a+j.toNat)<e then i (IntKind.wrap .i64 (j+1)) (l++[[o,r,s,p,q]]) (List.set n (a+j.toNat) t) else none else none else none) (if 0<=j/\j<(b:Nat) then if(a+j.toNat)<e then i (IntKind.wrap .i64 (j+1)) l (List.set n (a+j.toNat) t) else none else none)) 0) else none else none) (h l n)
def JW(a b c:Nat)(d:aH)(e:Nat)(h:aH->aA->Option α):Nat->FK α
 |0=>λ_ _ _=>none
 |m+1=>λi j l=>ZN G51 L19l2 a b c d e h (JW a b c d e h m) i j l
def adr(m n:Nat):vH α:=λa b c d e h i j l=>JW (Kg m) (nS m) a b c d e h n i j l
def Dl(m:Nat):vH α:=adr m m
def Q6:jh vH:=⟨0,⟨59,[0],[0,5,6,7],[0,1000001,1000002],[(.vl (.sv (.aQ 0 5))),(.vl (.sv (.aQ 1000001 5))),(.vl (.sv (.eX 1000002 0 1))),bD],[(false,[(.aD aB)]),(true,[(.aD aB)]),(true,[(.iD (.int .i64))])],[(2,[5,6])]⟩,λL ls k=>L (aO ls 0) (aO ls 1) (aO ls 2) ((lf ls 4).ak aB) (aO ls 6) (λa b=>k .normal (bG 59 [5,6] [(.vl (.sv (.aQ 1000001 5))),(.vl (.sv (.eX 1000002 0 1 (aO ls 0) (aO ls 1) (aO ls 2))))] [0,1000001,1000002] [(false,[(.aD aB ((lf ls 4).ak aB))]),(true,[(.aD aB a)]),(true,[(.seq (.int .i64) (aO ls 6) b)])])) (aI ls 3) ((lf ls 5).ak aB) ((lf ls 7).ak (.int .i64))⟩
def ap4(r:vH α):vH α:=λa b c d e h i j l=>ZN G51 L19l2 a b c d e h (r a b c d e h) i j l
variable (L19l0:ax vH)
def ayK:Tq α:=λa b c=>G57 a (λd=>cond (!d) (b [] []) (if((a.length:Nat):Int)=((a.length:Nat):Int)/\0<=((a.length:Nat):Int)/\((a.length:Nat):Int)<=1048576 then let e:Nat:=((a.length:Nat):Int).toNat;L19l0 0 e e a e (λh i=>c e e h e i) 0 [] (List.replicate e 0) else none))
def g19(m:Nat):Tq α:=ayK (Ta m) (Dl m)
def alR:bR Tq:=⟨19,[(.vl (.sv (.aQ 0 5)))],[(false,[(.aD aB)])],λG ls k=>G ((lf ls 0).ak aB)
  (λa b=>k (.iO [(.sv (.aQ 1 5)),(.sv (.aQ 2 1)),(.sv (.int .i64 (1:Int)))]) [[(.aD aB ((lf ls 0).ak aB))]] [[(.aD aB a)],[(.aD (.int .i64) b)]])
  (λc a d e h=>k (.iO [(.sv (.aQ 1 5)),(.sv (.eX 2 0 1 0 c a)),(.sv (.int .i64 (0:Int)))]) [[(.aD aB ((lf ls 0).ak aB))]] [[(.aD aB d)],[(.seq (.int .i64) e h)]])⟩
def adq:Hd:=⟨aL 57 (aK Wh G57)<|aL 51 (aK adQ G51)<|bZ,jD 2 (aS Q7 L19l2)<|jD 0 (aS Q6 L19l0)<|cO,bH 51 [0]<|bH 57 [0]<|cZ⟩
theorem ap9:jq Q7 (ap8) (adq G57 G51 L19l2 L19l0) Tryz.f19:=λ_ _ _ _=>by kernel_rfl
theorem ap5:jq Q6 (ap4 G51 L19l2) (adq G57 G51 L19l2 L19l0) Tryz.f19:=λ_ _ _ _=>by kernel_rfl
theorem aCF:dz alR (ayK G57 L19l0) (adq G57 G51 L19l2 L19l0) Tryz.f19:=λ_ _ _=>by kernel_rfl
theorem alQ(m:Nat):(adq (Ta m) (Kg m) (nS m) (Dl m)).ah bE:=(aM (amO m) (aM (aur m) cK))
theorem ap7(m:Nat):jg (aS Q7 (nS m)) 2 Tryz.f19:=
 jy [] (λn=>ap6 m n) m (alQ m) trivial (ap9 (Ta m) (Kg m) (nS m) (Dl m))
theorem ap3(m:Nat):jg (aS Q6 (Dl m)) 0 Tryz.f19:=
 jy [2] (λn=>adr m n) m (alQ m) ⟨(ap7 m),trivial⟩ (ap5 (Ta m) (Kg m) (nS m) (Dl m))
theorem aCE(m:Nat):bB alR (g19 m):=gu [0] (alQ m) ⟨(ap3 m),trivial⟩ (aCF (Ta m) (Kg m) (nS m) (Dl m))
variable (G19:ax Tq)
abbrev abB(α:Type):Type:=Nat->Nat->Nat->Nat->Nat->Nat->Nat->aA->Nat->aA->(Bool->Option α)->Option α
abbrev FY(α:Type):Type:=Int->Option α
abbrev ab_(α β:Type):Type:=Nat->Nat->Nat->Nat->Nat->Nat->Nat->aA->Nat->aA->(Option α)->(Option α)->β
abbrev vU(α:Type):Type:=ab_ α (FY α)
def Z_:ab_ α (FY α->FY α):=λa b c d e h i j l n o p q r=>cond (decide (r<((b:Nat):Int))) (if 0<=r/\r<(b:Nat) then if(a+r.toNat)<i then if 0<=r/\r<(e:Nat) then if(d+r.toNat)<l then cond ((List.getD j (a+r.toNat) 0) !=(List.getD n (d+r.toNat) 0)) (o) (q (IntKind.wrap .i64 (r+1))) else none else none else none else none) (p)
def NR(a b:Nat)(c d:Nat)(e h i:Nat)(j:aA)(l:Nat)(n:aA)(o p:Option α):Nat->FY α
 |0=>λ_=>none
 |m+1=>λq=>Z_ a b c d e h i j l n o p (NR a b c d e h i j l n o p m) q
def adX(m n:Nat):vU α:=λa b c d e h i j l o p q r=>NR a b c d e h i j l o p q n r
def Kl(m:Nat):vU α:=adX m m
def Rt:jh vU:=⟨0,⟨26,[0,1],[0,1,5],[0,1],[(.vl (.sv (.eX 0 0 1))),(.vl (.sv (.eX 1 0 1))),bD],[(false,[(.iD (.int .i64))]),(false,[(.iD (.int .i64))])],[(1,[4]),(2,[])]⟩,λL ls k=>L (aO ls 0) (aO ls 1) (aO ls 2) (aO ls 3) (aO ls 4) (aO ls 5) (aO ls 7) ((lf ls 8).ak (.int .i64)) (aO ls 9) ((lf ls 10).ak (.int .i64)) (k .ret (bG 26 [4] [(zm false)] [0,1] [(false,[(.seq (.int .i64) (aO ls 7) ((lf ls 8).ak (.int .i64)))]),(false,[(.seq (.int .i64) (aO ls 9) ((lf ls 10).ak (.int .i64)))])])) (k .normal (bG 26 [] [] [0,1] [(false,[(.seq (.int .i64) (aO ls 7) ((lf ls 8).ak (.int .i64)))]),(false,[(.seq (.int .i64) (aO ls 9) ((lf ls 10).ak (.int .i64)))])])) (aI ls 6)⟩
def aqV(r:vU α):vU α:=λa b c d e h i j l n o p q=>Z_ a b c d e h i j l n o p (r a b c d e h i j l n o p) q
variable (L58l0:ax vU)
def azl:abB α:=λa b c d e h i j l n o=>cond (((b:Nat):Int) !=((e:Nat):Int)) (o false) (L58l0 a b c d e h i j l n (o false) (o true) 0)
def g58(m:Nat):abB α:=azl (Kl m)
def amR:bR abB:=⟨58,[(.vl (.sv (.eX 0 0 1))),(.vl (.sv (.eX 1 0 1)))],[(false,[(.iD (.int .i64))]),(false,[(.iD (.int .i64))])],λG ls k=>G (aO ls 0) (aO ls 1) (aO ls 2) (aO ls 3) (aO ls 4) (aO ls 5) (aO ls 6) ((lf ls 7).ak (.int .i64)) (aO ls 8) ((lf ls 9).ak (.int .i64))
  (λa=>k (zm a) [[(.seq (.int .i64) (aO ls 6) ((lf ls 7).ak (.int .i64)))],[(.seq (.int .i64) (aO ls 8) ((lf ls 9).ak (.int .i64)))]] [])⟩
def amQ:Hd:=⟨bZ,jD 0 (aS Rt L58l0)<|cO,cZ⟩
theorem aqW:jq Rt (aqV) (amQ L58l0) Tryz.f58:=λ_ _ _ _=>by kernel_rfl
theorem aEp:dz amR (azl L58l0) (amQ L58l0) Tryz.f58:=λ_ _ _=>by kernel_rfl
theorem auB(m:Nat):(amQ (Kl m)).ah bE:=cK
theorem aqU(m:Nat):jg (aS Rt (Kl m)) 0 Tryz.f58:=
 jy [] (λn=>adX m n) m (auB m) trivial (aqW (Kl m))
theorem aEo(m:Nat):bB amR (g58 m):=gu [0] (auB m) ⟨(aqU m),trivial⟩ (aEp (Kl m))
variable (G58:ax abB)
abbrev Tt(α:Type):Type:=Nat->Nat->Nat->Nat->Nat->Nat->Nat->aA->Nat->aA->(Bool->Option α)->Option α
def ayQ:Tt α:=λa b c d e h i j l n o=>G58 a b c d e h i j l n (λp=>o p)
def g20(m:Nat):Tt α:=ayQ (g58 m)
def al6:bR Tt:=⟨20,[(.vl (.sv (.eX 0 0 1))),(.vl (.sv (.eX 1 0 1)))],[(false,[(.iD (.int .i64))]),(false,[(.iD (.int .i64))])],λG ls k=>G (aO ls 0) (aO ls 1) (aO ls 2) (aO ls 3) (aO ls 4) (aO ls 5) (aO ls 6) ((lf ls 7).ak (.int .i64)) (aO ls 8) ((lf ls 9).ak (.int .i64))
  (λa=>k (zm a) [[(.seq (.int .i64) (aO ls 6) ((lf ls 7).ak (.int .i64)))],[(.seq (.int .i64) (aO ls 8) ((lf ls 9).ak (.int .i64)))]] [])⟩
def atH:Hd:=⟨aL 58 (aK amR G58)<|bZ,cO,bH 58 [0,1]<|cZ⟩
theorem aCM:dz al6 (ayQ G58) (atH G58) Tryz.f20:=λ_ _ _=>by kernel_rfl
theorem aCK(m:Nat):(atH (g58 m)).ah bE:=(aM (aEo m) cK)
theorem aCL(m:Nat):bB al6 (g20 m):=bT (aCK m) (aCM (g58 m))
variable (G20:ax Tt)
abbrev abC(α:Type):Type:=aH->(Option α)->Option α
def azn:abC α:=λa b=>if 0<a.length then if 0+a.length<=67108864 then b else none else none
def g59(m:Nat):abC α:=azn
def amS:bR abC:=⟨59,[(.vl (.sv (.aQ 0 5)))],[(false,[(.aD aB)])],λG ls k=>G ((lf ls 0).ak aB)
  (k (.vl (.sv (.aQ 1 5))) [[(.aD aB ((lf ls 0).ak aB))]] [[(.aD aB ((lf ls 0).ak aB))]])⟩
def auC:Hd:=⟨bZ,cO,cZ⟩
theorem aEt:dz amS (azn) (auC) Tryz.f59:=λ_ _ _=>by kernel_rfl
theorem aEr(m:Nat):(auC).ah bE:=cK
theorem aEs(m:Nat):bB amS (g59 m):=bT (aEr m) (aEt)
variable (G59:ax abC)
abbrev abD(α:Type):Type:=Int->aH->(Int->Option α)->Option α
def azp:abD α:=λa b c=>c (IntKind.wrap .i16 (a+(IntKind.wrap .i16 ((b.length:Nat):Int))))
def g60(m:Nat):abD α:=azp
def amT:bR abD:=⟨60,[(.vl (.sv (.int .i16))),(bL 0)],[(false,[(.one (.aQ 1 5))]),(false,[(.aD aB)])],λG ls k=>G (aI ls 0) ((lf ls 1).ak aB)
  (λa=>k (.vl (.sv (.int .i16 a))) [[(.one (.aQ 1 5))],[(.aD aB ((lf ls 1).ak aB))]] [])⟩
def auD:Hd:=⟨bZ,cO,cZ⟩
theorem aEz:dz amT (azp) (auD) Tryz.f60:=λ_ _ _=>by kernel_rfl
theorem aEx(m:Nat):(auD).ah bE:=cK
theorem aEy(m:Nat):bB amT (g60 m):=bT (aEx m) (aEz)
variable (G60:ax abD)
abbrev FC(α:Type):Type:=Int->Int->Int->Int->Int->aH->(Int->Int->Option α)->Option α
def Z6:FC α:=λa b c d e h i=>G35 a (λj l n=>cond j (G60 b h (λo=>cond l (G60 c h (λp=>i o p)) (i o c))) (cond l (G60 c h (λq=>i b q)) (i b c)))
def tL(m:Nat):FC α:=Z6 (kG m) (g60 m)
def Rn:bR FC:=⟨48,[(.vl (.agg [(.one (.int .i8)),(.one (.int .i16)),(.one (.int .i16)),(.one (.int .i64)),(.one (.int .i64))])),(.vl (.sv (.PW 60 [(0,0)])))],[(false,[(.one (.aQ 1 5))]),(false,[(.aD aB)])],λG ls k=>G (aI ls 0) (aI ls 1) (aI ls 2) (aI ls 3) (aI ls 4) ((lf ls 5).ak aB)
  (λa b=>k (.vl (.agg [(.one (.int .i8 (aI ls 0))),(.one (.int .i16 a)),(.one (.int .i16 b)),(.one (.int .i64 (aI ls 3))),(.one (.int .i64 (aI ls 4)))])) [[(.one (.aQ 1 5))],[(.aD aB ((lf ls 5).ak aB))]] [])⟩
def adN:Hd:=⟨aL 35 (aK xK G35)<|aL 60 (aK amT G60)<|bZ,cO,bH 60 [0,1]<|cZ⟩
theorem aqE:dz Rn (Z6 G35 G60) (adN G35 G60) Tryz.f48:=λ_ _ _=>by kernel_rfl
theorem aqC(m:Nat):(adN (kG m) (g60 m)).ah bE:=(aM (EM m) (aM (aEy m) cK))
theorem aqD(m:Nat):bB Rn (tL m):=bT (aqC m) (aqE (kG m) (g60 m))
variable (G48v2:ax FC)
abbrev Tv(α:Type):Type:=aH->aH->(Int->Option α)->(aH->Option α)->Option α
abbrev FM(α:Type):Type:=Int->aH->Option α
abbrev abZ(α β:Type):Type:=Int->aH->aH->(aH->Option α)->β
abbrev vJ(α:Type):Type:=abZ α (FM α)
def ZT:abZ α (FM α->FM α):=λa b c d e h i=>cond (decide (h<a)) (if 0<=h/\h<(c.length:Nat) then if h.toNat<c.length then let j:Int:=(List.getD c h.toNat []).headD 0;let l:Int:=(List.getD c h.toNat []).tail.tail.tail.headD 0;let n:Int:=(List.getD c h.toNat []).tail.tail.tail.tail.headD 0;G48v2 j ((List.getD c h.toNat []).tail.headD 0) ((List.getD c h.toNat []).tail.tail.headD 0) l n b (λo p=>if i.length+1<=67108864 then e (IntKind.wrap .i64 (h+1)) (i++[[j,o,p,l,n]]) else none) else none else none) (d i)
def NG(a:Int)(b c:aH)(d:aH->Option α):Nat->FM α
 |0=>λ_ _=>none
 |m+1=>λe h=>ZT G48v2 a b c d (NG a b c d m) e h
def adu(m n:Nat):vJ α:=λa b c d e h=>NG (tL m) a b c d n e h
def J4(m:Nat):vJ α:=adu m m
def Q_:jh vJ:=⟨0,⟨39,[0,1],[2,6,25,26,27],[0,1,1000002,1000003],[(bL 1000002),(.vl (.sv (.aQ 1000003 5))),(.vl (.sv (.aQ 1 5))),bD,bD],[(false,[(.aD aB)]),(false,[(.aD aB)]),(true,[(.one (.aQ 0 5))]),(true,[(.aD aB)])],[(2,[6])]⟩,λL ls k=>L (aI ls 0) ((lf ls 2).ak aB) ((lf ls 3).ak aB) (λa=>k .normal (bG 39 [6] [(.vl (.sv (.aQ 1000002 5)))] [0,1,1000002] [(false,[(.aD aB ((lf ls 2).ak aB))]),(false,[(.aD aB ((lf ls 3).ak aB))]),(true,[(.aD aB a)])])) (aI ls 1) ((lf ls 4).ak aB)⟩
def aqa(r:vJ α):vJ α:=λa b c d e h=>ZT G48v2 a b c d (r a b c d) e h
variable (L21l0:ax vJ)
def ayR:Tv α:=λa b c d=>G16 a (λe=>cond (!e) (c 1) (G16 b (λh=>cond (!h) (c 1) (cond (decide ((IntKind.wrap .i64 (((a.length:Nat):Int)+((b.length:Nat):Int)))>40)) (c 3) (G59 a (L21l0 ((b.length:Nat):Int) a b (λi=>d i) 0 a))))))
def g21(m:Nat):Tv α:=ayR (g16 m) (g59 m) (J4 m)
def al8:bR Tv:=⟨21,[(.vl (.sv (.aQ 0 5))),(.vl (.sv (.aQ 1 5)))],[(false,[(.aD aB)]),(false,[(.aD aB)])],λG ls k=>G ((lf ls 0).ak aB) ((lf ls 1).ak aB)
  (λa=>k (.iO [(.sv .gM),(.sv (.int .i64 a))]) [[(.aD aB ((lf ls 0).ak aB))],[(.aD aB ((lf ls 1).ak aB))]] [])
  (λb=>k (.iO [(.sv (.aQ 2 5)),(.sv (.int .i64 (0:Int)))]) [[(.aD aB ((lf ls 0).ak aB))],[(.aD aB ((lf ls 1).ak aB))]] [[(.aD aB b)]])⟩
def al7:Hd:=⟨aL 16 (aK EJ G16)<|aL 59 (aK amS G59)<|aL 48 (aK Rn G48v2)<|bZ,jD 0 (aS Q_ L21l0)<|cO,bH 16 [0]<|bH 48 [0,1]<|bH 59 [0]<|cZ⟩
theorem aqb:jq Q_ (aqa G48v2) (al7 G16 G59 G48v2 L21l0) Tryz.f21:=λ_ _ _ _=>by kernel_rfl
theorem aCP:dz al8 (ayR G16 G59 L21l0) (al7 G16 G59 G48v2 L21l0) Tryz.f21:=λ_ _ _=>by kernel_rfl
theorem atI(m:Nat):(al7 (g16 m) (g59 m) (tL m) (J4 m)).ah bE:=(aM (VW m) (aM (aEs m) (aM (aqD m) cK)))
theorem ap_(m:Nat):jg (aS Q_ (J4 m)) 0 Tryz.f21:=
 jy [] (λn=>adu m n) m (atI m) trivial (aqb (g16 m) (g59 m) (tL m) (J4 m))
theorem aCO(m:Nat):bB al8 (g21 m):=gu [0] (atI m) ⟨(ap_ m),trivial⟩ (aCP (g16 m) (g59 m) (tL m) (J4 m))
variable (G21:ax Tv)
abbrev FD(α:Type):Type:=Int->Int->Int->Int->Int->aA->(Int->Int->Option α)->Option α
def Z8:FD α:=λa b c d e h i=>G90 a (λj=>cond j (if 0<=b/\b<(h.length:Nat) then if b.toNat<h.length then let l:Int:=IntKind.wrap .i16 (List.getD h b.toNat 0);G74 a (λn=>cond n (if 0<=c/\c<(h.length:Nat) then if c.toNat<h.length then i l (IntKind.wrap .i16 (List.getD h c.toNat 0)) else none else none) (i l c)) else none else none) (G74 a (λo=>cond o (if 0<=b/\b<(h.length:Nat) then if b.toNat<h.length then let p:Int:=IntKind.wrap .i16 (List.getD h b.toNat 0);G74 a (λq=>cond q (if 0<=c/\c<(h.length:Nat) then if c.toNat<h.length then i p (IntKind.wrap .i16 (List.getD h c.toNat 0)) else none else none) (i p c)) else none else none) (G74 a (λr=>cond r (if 0<=c/\c<(h.length:Nat) then if c.toNat<h.length then i b (IntKind.wrap .i16 (List.getD h c.toNat 0)) else none else none) (i b c))))))
def oP(m:Nat):FD α:=Z8 (xM m) (Mr m)
def Rp:bR FD:=⟨51,[(.vl (.agg [(.one (.int .i8)),(.one (.int .i16)),(.one (.int .i16)),(.one (.int .i64)),(.one (.int .i64))])),(.vl (.sv (.aQ 0 1)))],[(false,[(.aD (.int .i64))])],λG ls k=>G (aI ls 0) (aI ls 1) (aI ls 2) (aI ls 3) (aI ls 4) ((lf ls 5).ak (.int .i64))
  (λa b=>k (.vl (.agg [(.one (.int .i8 (aI ls 0))),(.one (.int .i16 a)),(.one (.int .i16 b)),(.one (.int .i64 (aI ls 3))),(.one (.int .i64 (aI ls 4)))])) [[(.aD (.int .i64) ((lf ls 5).ak (.int .i64)))]] [])⟩
def adR:Hd:=⟨aL 90 (aK NY G90)<|aL 74 (aK Ko G74)<|bZ,cO,cZ⟩
theorem aqL:dz Rp (Z8 G74 G90) (adR G74 G90) Tryz.f51:=λ_ _ _=>by kernel_rfl
theorem aqJ(m:Nat):(adR (xM m) (Mr m)).ah bE:=(aM (aek m) (aM (Wn m) cK))
theorem aqK(m:Nat):bB Rp (oP m):=bT (aqJ m) (aqL (xM m) (Mr m))
variable (G51v1:ax FD)
abbrev Tw(α:Type):Type:=aH->aH->(Int->aH->Option α)->Option α
abbrev FN(α:Type):Type:=Int->aA->Option α
abbrev ab0(α β:Type):Type:=aH->aH->(aA->Option α)->β
abbrev vK(α:Type):Type:=ab0 α (FN α)
def ZU:ab0 α (FN α->FN α):=λa b c d e h=>cond (decide (e<((b.length:Nat):Int))) (if h.length+1<=67108864 then d (IntKind.wrap .i64 (e+1)) (h++[(IntKind.wrap .i64 (((a.length:Nat):Int)+e))]) else none) (c h)
def NH(a b:aH)(c:aA->Option α):Nat->FN α
 |0=>λ_ _=>none
 |m+1=>λd e=>ZU a b c (NH a b c m) d e
def adx(m n:Nat):vK α:=λa b c d e=>NH a b c n d e
def Dm(m:Nat):vK α:=adx m m
def Ra:jh vK:=⟨0,⟨59,[0,1],[0,1,6,7],[0,1,1000002],[(.vl (.sv (.aQ 0 5))),(.vl (.sv (.aQ 1 5))),(.vl (.sv (.aQ 1000002 1))),bD],[(false,[(.aD aB)]),(false,[(.aD aB)]),(true,[(.aD (.int .i64))])],[(2,[0,1,6])]⟩,λL ls k=>L ((lf ls 1).ak aB) ((lf ls 2).ak aB) (λa=>k .normal (bG 59 [0,1,6] [(.vl (.sv (.aQ 0 5))),(.vl (.sv (.aQ 1 5))),(.vl (.sv (.aQ 1000002 1)))] [0,1,1000002] [(false,[(.aD aB ((lf ls 1).ak aB))]),(false,[(.aD aB ((lf ls 2).ak aB))]),(true,[(.aD (.int .i64) a)])])) (aI ls 0) ((lf ls 3).ak (.int .i64))⟩
def aqd(r:vK α):vK α:=λa b c d e=>ZU a b c (r a b c) d e
variable (L22l0:ax vK)
abbrev FO(α:Type):Type:=Int->aH->Option α
abbrev ab1(α β:Type):Type:=aH->aH->aA->(aH->Option α)->β
abbrev vL(α:Type):Type:=ab1 α (FO α)
def ZV:ab1 α (FO α->FO α):=λa b c d e h i=>cond (decide (h<((b.length:Nat):Int))) (if 0<=h/\h<(b.length:Nat) then if h.toNat<b.length then let j:Int:=(List.getD b h.toNat []).headD 0;let l:Int:=(List.getD b h.toNat []).tail.tail.tail.headD 0;let n:Int:=(List.getD b h.toNat []).tail.tail.tail.tail.headD 0;G51v1 j ((List.getD b h.toNat []).tail.headD 0) ((List.getD b h.toNat []).tail.tail.headD 0) l n c (λo p=>if i.length+1<=67108864 then e (IntKind.wrap .i64 (h+1)) (i++[[j,o,p,l,n]]) else none) else none else none) (d i)
def J5(a b:aH)(c:aA)(d:aH->Option α):Nat->FO α
 |0=>λ_ _=>none
 |m+1=>λe h=>ZV G51v1 a b c d (J5 a b c d m) e h
def adz(m n:Nat):vL α:=λa b c d e h=>J5 (oP m) a b c d n e h
def Dn(m:Nat):vL α:=adz m m
def Rb:jh vL:=⟨2,⟨59,[0,1],[1,6,8,9],[0,1,1000002,1000003],[(.vl (.sv (.aQ 1 5))),(.vl (.sv (.aQ 1000002 1))),(.vl (.sv (.aQ 1000003 5))),bD],[(false,[(.aD aB)]),(false,[(.aD aB)]),(true,[(.aD (.int .i64))]),(true,[(.aD aB)])],[(4,[8])]⟩,λL ls k=>L ((lf ls 1).ak aB) ((lf ls 2).ak aB) ((lf ls 3).ak (.int .i64)) (λa=>k .normal (bG 59 [8] [(.vl (.sv (.aQ 1000002 5)))] [0,1,1000002] [(false,[(.aD aB ((lf ls 1).ak aB))]),(false,[(.aD aB ((lf ls 2).ak aB))]),(true,[(.aD aB a)])])) (aI ls 0) ((lf ls 4).ak aB)⟩
def aqg(r:vL α):vL α:=λa b c d e h=>ZV G51v1 a b c d (r a b c d) e h
variable (L22l2:ax vL)
def ayS:Tw α:=λa b c=>G57 a (λd=>cond (!d) (c 1 []) (G57 b (λe=>cond (!e) (c 1 []) (cond (decide ((IntKind.wrap .i64 (((a.length:Nat):Int)+((b.length:Nat):Int)))>40)) (c 3 []) (L22l0 a b (λh=>if 0+a.length<=67108864 then L22l2 a b h (λi=>c 0 i) 0 a else none) 0 [])))))
def g22(m:Nat):Tw α:=ayS (Ta m) (Dm m) (Dn m)
def al_:bR Tw:=⟨22,[(.vl (.sv (.aQ 0 5))),(.vl (.sv (.aQ 1 5)))],[(false,[(.aD aB)]),(false,[(.aD aB)])],λG ls k=>G ((lf ls 0).ak aB) ((lf ls 1).ak aB)
  (λa b=>k (.iO [(.sv (.aQ 2 5)),(.sv (.int .i64 a))]) [[(.aD aB ((lf ls 0).ak aB))],[(.aD aB ((lf ls 1).ak aB))]] [[(.aD aB b)]])⟩
def adw:Hd:=⟨aL 57 (aK Wh G57)<|aL 51 (aK Rp G51v1)<|bZ,jD 0 (aS Ra L22l0)<|jD 2 (aS Rb L22l2)<|cO,bH 51 [0]<|bH 57 [0]<|cZ⟩
theorem aqe:jq Ra (aqd) (adw G57 G51v1 L22l0 L22l2) Tryz.f22:=λ_ _ _ _=>by kernel_rfl
theorem aqh:jq Rb (aqg G51v1) (adw G57 G51v1 L22l0 L22l2) Tryz.f22:=λ_ _ _ _=>by kernel_rfl
theorem aCS:dz al_ (ayS G57 L22l0 L22l2) (adw G57 G51v1 L22l0 L22l2) Tryz.f22:=λ_ _ _=>by kernel_rfl
theorem al9(m:Nat):(adw (Ta m) (oP m) (Dm m) (Dn m)).ah bE:=(aM (amO m) (aM (aqK m) cK))
theorem aqc(m:Nat):jg (aS Ra (Dm m)) 0 Tryz.f22:=
 jy [] (λn=>adx m n) m (al9 m) trivial (aqe (Ta m) (oP m) (Dm m) (Dn m))
theorem aqf(m:Nat):jg (aS Rb (Dn m)) 2 Tryz.f22:=
 jy [] (λn=>adz m n) m (al9 m) trivial (aqh (Ta m) (oP m) (Dm m) (Dn m))
theorem aCR(m:Nat):bB al_ (g22 m):=gu [0,2] (al9 m) ⟨(aqc m),(aqf m),trivial⟩ (aCS (Ta m) (oP m) (Dm m) (Dn m))
variable (G22:ax Tw)
abbrev Hg(α:Type):Type:=Bool->aA->(Bool->Option α)->Option α
def aid:Hg α:=λa b c=>cond (!a) (c true) (c (!(dI b [0,0,0,0,0,0])))
def Qm(m:Nat):Hg α:=aid
def YI:bR Hg:=⟨103,[xh],[],λG ls k=>G (eu ls 0) ((lf ls 1).ak aC)
  (λa=>k (zm a) [] [])⟩
def aic:Hd:=⟨bZ,cO,cZ⟩
theorem awn:dz YI (aid) (aic) Tryz.f103:=λ_ _ _=>by kernel_rfl
theorem awl(m:Nat):(aic).ah bE:=cK
theorem awm(m:Nat):bB YI (Qm m):=bT (awl m) (awn)
variable (G103:ax Hg)
end
noncomputable section
variable {α:Type}
variable (G39:ax En)(G66:ax Eo)(G65:ax xG)(G104:ax mo)(G62:ax M0)(G5:ax ag1)(G6:ax ag2)(G16:ax Ej)(G8:ax afj)(G7:ax ag5)(G9:ax ag6)(G10:ax Tf)(G11:ax Tg)(G43:ax MX)(G44:ax MZ)(G157:ax x_)(G109:ax jT)(G155:ax xZ)(G110:ax rG)(G111:ax Ct)(G45:ax dG)(G69:ax TD)(G12:ax Ti)(G46:ax Tz)(G13:ax Tj)(G14:ax Tk)(G15:ax Tm)(G9v1:ax Ia)(G55:ax HZ)(G54:ax dH)(G63v1:ax zx)(G68:ax TB)(G61v1:ax zw)(G17:ax Tn)(G18:ax Tp)(G19:ax Tq)(G20:ax Tt)(G21:ax Tv)(G22:ax Tw)(G103:ax Hg)
abbrev abE(α:Type):Type:=Bool->aA->(ByteArray->Option α)->Option α
abbrev FZ(α:Type):Type:=ByteArray->aA->Option α
abbrev acd(α β:Type):Type:=Bool->aA->(ByteArray->Option α)->β
abbrev vV(α:Type):Type:=acd α (FZ α)
def aae(G104:ax mo)(G39:ax En)(G66:ax Eo):acd α (FZ α->FZ α):=λa b c d e h=>G104 h 1000000000 (λi j=>G39 (IntKind.wrap .i64 j) (λl=>cond (dI i [0,0,0,0,0,0]) (if l.size+e.size<=9223372036854775807 then c (l++e) else none) (G66 (⟨#[48]⟩:ByteArray) (IntKind.wrap .i64 (9-((l.size:Nat):Int))) (λn=>if n.size+l.size<=9223372036854775807 then let o:ByteArray:=n++l;if o.size+e.size<=9223372036854775807 then d (o++e) i else none else none))))
def EQ(G104:ax mo)(G39:ax En)(G66:ax Eo)(a:Bool)(b:aA)(c:ByteArray->Option α):Nat->FZ α
 |0=>λ_ _=>none
 |m+1=>λd e=>aae G104 G39 G66 a b c (EQ G104 G39 G66 a b c m) d e
def ad5(m n:Nat):vV α:=λa b c d e=>EQ (iA m) (Gs m) (Gt m) a b c n d e
def Km(m:Nat):vV α:=ad5 m m
def Rv:jh vV:=⟨0,⟨39,[],[1,3,4],[1000000,1000001],[(bL 1000000),(bL 1000001),(.vl (.sv .str))],[(true,[(.one .bool),(.seq aC 6)]),(true,[(.seq aC 6)])],[(2,[1,4])]⟩,λL ls k=>L (eu ls 1) ((lf ls 2).ak aC) (λa=>k .normal (bG 39 [1,4] [(gL 1000000),(.vl (.sv (.str a)))] [1000000] [(true,[(.one (.bool (eu ls 1))),(bX ((lf ls 2).ak aC))])])) (QvS ls 0) ((lf ls 3).ak aC)⟩
def aq7(r:vV α):vV α:=λa b c d e=>aae G104 G39 G66 a b c (r a b c) d e
variable (L64l0:ax vV)
def azr:abE α:=λa b c=>G103 a b (λd=>cond (!d) (c (⟨#[]⟩:ByteArray)) (L64l0 a b (λe=>cond a (if(⟨#[45]⟩:ByteArray).size+e.size<=9223372036854775807 then c ((⟨#[45]⟩:ByteArray)++e) else none) (c e)) (⟨#[]⟩:ByteArray) b))
def g64(m:Nat):abE α:=azr (Qm m) (Km m)
def amV:bR abE:=⟨64,[xh],[],λG ls k=>G (eu ls 0) ((lf ls 1).ak aC)
  (λa=>k (.vl (.sv (.str a))) [] [])⟩
def amU:Hd:=⟨aL 103 (aK YI G103)<|aL 104 (aK CZ G104)<|aL 39 (aK aDs G39)<|aL 66 (aK auK G66)<|bZ,jD 0 (aS Rv L64l0)<|cO,cZ⟩
theorem aq8:jq Rv (aq7 G39 G66 G104) (amU G39 G66 G104 G103 L64l0) Tryz.f64:=λ_ _ _ _=>by kernel_rfl
theorem aEG:dz amV (azr G103 L64l0) (amU G39 G66 G104 G103 L64l0) Tryz.f64:=λ_ _ _=>by kernel_rfl
theorem auH(m:Nat):(amU (Gs m) (Gt m) (iA m) (Qm m) (Km m)).ah bE:=(aM (awm m) (aM (Qn m) (aM (aDr m) (aM (auJ m) cK))))
theorem aq6(m:Nat):jg (aS Rv (Km m)) 0 Tryz.f64:=
 jy [] (λn=>ad5 m n) m (auH m) trivial (aq8 (Gs m) (Gt m) (iA m) (Qm m) (Km m))
theorem aEF(m:Nat):bB amV (g64 m):=gu [0] (auH m) ⟨(aq6 m),trivial⟩ (aEG (Gs m) (Gt m) (iA m) (Qm m) (Km m))
variable (G64:ax abE)
abbrev abl(α:Type):Type:=Int->Int->aH->(ByteArray->Int->Option α)->Option α
abbrev FP(α:Type):Type:=Int->Bool->Bool->aA->Option α
abbrev ab2(α β:Type):Type:=Int->Int->Int->aH->Int->iM->aH->(Bool->Bool->aA->Option α)->β
abbrev vM(α:Type):Type:=ab2 α (FP α)
def ZW:ab2 α (FP α->FP α):=λa b c d e h i j l n o p q=>cond (decide (n<c)) (G62 10 (λr s=>G61v1 p q r s o e d h i (λt u v=>l (IntKind.wrap .i64 (n+1)) v t u))) (j o p q)
def Bf(a b c:Int)(d:aH)(e:Int)(h:iM)(i:aH)(j:Bool->Bool->aA->Option α):Nat->FP α
 |0=>λ_ _ _ _=>none
 |m+1=>λl n o p=>ZW G62 G61v1 a b c d e h i j (Bf a b c d e h i j m) l n o p
def adB(m n:Nat):vM α:=λa b c d e h i j l o p q=>Bf (zb m) (jc m) a b c d e h i j n l o p q
def J6(m:Nat):vM α:=adB m m
def Rc:jh vM:=⟨0,⟨90,[0],[2,8,10,11,34,35],[0,1000001,1000002,1000003,1000004],[bD,(bL 1000001),bD,(bL 1000002),bD,bD],[(false,[(.aD aB)]),(true,[(.one .bool),(.one (.aQ 0 5)),(.one (.jZ 1000003)),(.one (.aQ 1000004 2)),(.one (.int .i64))]),(true,[(.one .bool),(.seq aC 6)]),(true,[(.mp aY iF)]),(true,[(.aD aY)])],[(2,[2,8,10,11])]⟩,λL ls k=>L (aI ls 0) (aI ls 1) (aI ls 2) ((lf ls 4).ak aB) (aI ls 6) ((lf ls 9).map aY iF) ((lf ls 10).ak aY) (λa b c=>k .normal (bG 90 [2,8,10,11] [(.vl (.sv (.int .i64 (aI ls 0)))),(gL 1000001),(.vl (.sv (.int .i64 (aI ls 1)))),(gL 1000002)] [0,1000001,1000002,1000003,1000004] [(false,[(.aD aB ((lf ls 4).ak aB))]),(true,[(lN a),(.one (.aQ 0 5)),(.one (.jZ 1000003)),(.one (.aQ 1000004 2)),(.one (.int .i64 (aI ls 6)))]),(true,[(lN b),(bX c)]),(true,[(.mp aY iF ((lf ls 9).map aY iF))]),(true,[(.aD aY ((lf ls 10).ak aY))])])) (aI ls 3) (eu ls 5) (eu ls 7) ((lf ls 8).ak aC)⟩
def aqj(r:vM α):vM α:=λa b c d e h i j l n o p=>ZW G62 G61v1 a b c d e h i j (r a b c d e h i j) l n o p
variable (L23l0:ax vM)
def ayT:abl α:=λa b c d=>G46 b 15 0 1 1 c [a] (λe=>cond (e !=0) (d (⟨#[]⟩:ByteArray) e) (none)) (λh i=>let j:Int:=IntKind.wrap .i64 ((IntKind.wrap .i64 (4*b))+4);G54 (IntKind.wrap .i16 a) j false 0 c h i (λl n o p q r s=>L23l0 b j b c p r s (λt u v=>G63v1 u v j t p c r s (λw x y=>G55 y p c r s (λz a0=>cond z (d (⟨#[]⟩:ByteArray) a0) (G65 false x (λb0=>G64 b0 x (λc0=>let d0:Int:=IntKind.wrap .i64 ((IntKind.wrap .i64 (b+1))-((c0.size:Nat):Int));cond (decide (d0>0)) (G66 (⟨#[48]⟩:ByteArray) d0 (λe0=>if e0.size+c0.size<=9223372036854775807 then let h0:ByteArray:=e0++c0;cond (decide (b>0)) (let i0:Int:=IntKind.wrap .i64 (((h0.size:Nat):Int)-b);if 0<=(0:Int)/\0<=i0/\i0<=((h0.size:Nat):Int) then let j0:ByteArray:=ByteArray.extract h0 0 (Int.toNat i0);if j0.size+(⟨#[46]⟩:ByteArray).size<=9223372036854775807 then let l0:ByteArray:=j0++(⟨#[46]⟩:ByteArray);if 0<=i0/\i0<=((h0.size:Nat):Int)/\((h0.size:Nat):Int)<=((h0.size:Nat):Int) then let n0:ByteArray:=ByteArray.extract h0 (Int.toNat i0) (Int.toNat ((h0.size:Nat):Int));if l0.size+n0.size<=9223372036854775807 then let o0:ByteArray:=l0++n0;cond w (if(⟨#[45]⟩:ByteArray).size+o0.size<=9223372036854775807 then d ((⟨#[45]⟩:ByteArray)++o0) 0 else none) (d o0 0) else none else none else none else none) (cond w (if(⟨#[45]⟩:ByteArray).size+h0.size<=9223372036854775807 then d ((⟨#[45]⟩:ByteArray)++h0) 0 else none) (d h0 0)) else none)) (cond (decide (b>0)) (let p0:Int:=IntKind.wrap .i64 (((c0.size:Nat):Int)-b);if 0<=(0:Int)/\0<=p0/\p0<=((c0.size:Nat):Int) then let q0:ByteArray:=ByteArray.extract c0 0 (Int.toNat p0);if q0.size+(⟨#[46]⟩:ByteArray).size<=9223372036854775807 then let r0:ByteArray:=q0++(⟨#[46]⟩:ByteArray);if 0<=p0/\p0<=((c0.size:Nat):Int)/\((c0.size:Nat):Int)<=((c0.size:Nat):Int) then let s0:ByteArray:=ByteArray.extract c0 (Int.toNat p0) (Int.toNat ((c0.size:Nat):Int));if r0.size+s0.size<=9223372036854775807 then let t0:ByteArray:=r0++s0;cond w (if(⟨#[45]⟩:ByteArray).size+t0.size<=9223372036854775807 then d ((⟨#[45]⟩:ByteArray)++t0) 0 else none) (d t0 0) else none else none else none else none) (cond w (if(⟨#[45]⟩:ByteArray).size+c0.size<=9223372036854775807 then d ((⟨#[45]⟩:ByteArray)++c0) 0 else none) (d c0 0))))))))) 0 o l n))
def g23(m:Nat):abl α:=ayT (Gt m) (iI m) (EP m) (pJ m) (y_ m) (iq m) (g64 m) (J6 m)
def amb:bR abl:=⟨23,[(.vl (.sv (.aQ 0 5))),bD,bD],[(false,[(.aD aB)])],λG ls k=>G (aI ls 0) (aI ls 1) ((lf ls 2).ak aB)
  (λa b=>k (.iO [(.sv (.str a)),(.sv (.int .i64 b))]) [[(.aD aB ((lf ls 2).ak aB))]] [])⟩
def ama:Hd:=⟨aL 46 (aK Kb G46)<|aL 54 (aK ig G54)<|aL 62 (aK NS G62)<|aL 61 (aK Bn G61v1)<|aL 63 (aK sH G63v1)<|aL 55 (aK Bl G55)<|aL 65 (aK qW G65)<|aL 64 (aK amV G64)<|aL 66 (aK auK G66)<|bZ,jD 0 (aS Rc L23l0)<|cO,bH 46 [0,1]<|bH 54 [1]<|bH 55 [1,2,3]<|bH 61 [1,2,3]<|bH 63 [1,2,3]<|cZ⟩
theorem aqk:jq Rc (aqj G62 G61v1) (ama G66 G65 G62 G46 G55 G54 G63v1 G61v1 G64 L23l0) Tryz.f23:=λ_ _ _ _=>by kernel_rfl
theorem aCV:dz amb (ayT G66 G65 G46 G55 G54 G63v1 G64 L23l0) (ama G66 G65 G62 G46 G55 G54 G63v1 G61v1 G64 L23l0) Tryz.f23:=λ_ _ _=>by kernel_rfl
theorem atJ(m:Nat):(ama (Gt m) (iI m) (zb m) (EP m) (pJ m) (y_ m) (iq m) (jc m) (g64 m) (J6 m)).ah bE:=(aM (Wd m) (aM (amH m) (aM (ad3 m) (aM (Ru m) (aM (Bo m) (aM (Kh m) (aM (uV m) (aM (aEF m) (aM (auJ m) cK)))))))))
theorem aqi(m:Nat):jg (aS Rc (J6 m)) 0 Tryz.f23:=
 jy [] (λn=>adB m n) m (atJ m) trivial (aqk (Gt m) (iI m) (zb m) (EP m) (pJ m) (y_ m) (iq m) (jc m) (g64 m) (J6 m))
theorem aCU(m:Nat):bB amb (g23 m):=gu [0] (atJ m) ⟨(aqi m),trivial⟩ (aCV (Gt m) (iI m) (zb m) (EP m) (pJ m) (y_ m) (iq m) (jc m) (g64 m) (J6 m))
variable (G23:ax abl)
abbrev rH(α:Type):Type:=Int->(ByteArray->Option α)->Option α
def Zp:List TP:=[bD]
def Zo:List BP:=[]
def akX{α:Type}(G:rH α)(ls:List Lf)(k:Mk α):Option α:=
 G (lf ls 0).int
  (λa=>k (.vl (.sv (.str a))) [] [])
def yK:bR rH:=⟨156,Zp,Zo,akX⟩
variable (G156:ax rH)
def atv:rH α:=λa b=>cond (decide (a<10)) (b (aF (List.take 1 (List.drop 0 [(IntKind.wrap .u8 (IntKind.wrap .i64 (48+(Int.tmod a 10))))])))) (G156 (IntKind.wrap .i64 (Int.tdiv a 10)) (λc=>let d:ByteArray:=aF (List.take 1 (List.drop 0 [(IntKind.wrap .u8 (IntKind.wrap .i64 (48+(Int.tmod a 10))))]));if c.size+d.size<=9223372036854775807 then b (c++d) else none))
def pI(m:Nat):ax rH:=
 Nat.rec (motive:=λ_=>ax rH) (λ{α}=>λ_ _=>none) (λm ih {α}=>atv ih) m
def akW:Hd:=⟨aL 156 (aK yK G156)<|bZ,cO,cZ⟩
theorem ax7:dz yK (atv G156) (akW G156) Tryz.f156:=λ_ _ _=>by kernel_rfl
theorem ax5(A156:ax rH)(hA156:bB yK A156)(m:Nat):(akW A156).ah bE:=(aM hA156 cK)
theorem apW(m:Nat)(hA:bB yK (pI m)):uo bE 156 Zp Zo (akX (pI (m+1))):=
 afi (X:=yK) (l:=[]) (ax5 (pI m) hA m) trivial (ax7 (pI m))
theorem akV:∀m:Nat,uo bE 156 Zp Zo (akX (pI m))
 |0=>λα ls k r h=>nomatch (show(none:Option α)=some r from h)
 |m+1=>apW m (row_of (akV m))
theorem ax6(m:Nat):bB yK (pI m):=row_of (akV m)
abbrev O5(α:Type):Type:=Bool->aA->(ByteArray->Option α)->Option α
abbrev zJ(α:Type):Type:=ByteArray->Option α
abbrev TR(α β:Type):Type:=ByteArray->Bool->aA->aA->aA->aA->(ByteArray->Option α)->β
abbrev lS(α:Type):Type:=TR α (zJ α)
def Qs:TR α (zJ α->zJ α):=λa b c d e h i j l=>cond (decide (((l.size:Nat):Int)<9)) (if(⟨#[48]⟩:ByteArray).size+l.size<=9223372036854775807 then j ((⟨#[48]⟩:ByteArray)++l) else none) (i l)
def uM(a:ByteArray)(b:Bool)(c:aA)(d:aA)(e:aA)(h:aA)(i:ByteArray->Option α):Nat->zJ α
 |0=>λ_=>none
 |m+1=>λj=>Qs a b c d e h i (uM a b c d e h i m) j
def aiO(m n:Nat):lS α:=λa b c d e h i j=>uM a b c d e h i n j
def jA(m:Nat):lS α:=λa b c d e h i j=>uM a b c d e h i m j
def Jh:jh lS:=⟨2,⟨42,[0],[0,3,4,5,6,8],[0,1000001,1000002,1000003],[(bL 0),(bL 1000001),(bL 1000002),(.vl (.sv .str)),(bL 1000003),(.vl (.sv .str))],[(false,[(.one .bool),(.seq aC 6)]),(true,[(.seq aC 6)]),(true,[(.seq aC 6)]),(true,[(.seq aC 6)])],[(4,[0,3,4,5,6,8])]⟩,λL ls k=>L (QvS ls 0) (eu ls 2) ((lf ls 3).ak aC) ((lf ls 4).ak aC) ((lf ls 5).ak aC) ((lf ls 6).ak aC) (λa=>k .normal (bG 42 [0,3,4,5,6,8] [(gL 0),(gL 1000001),(gL 1000002),(.vl (.sv (.str (QvS ls 0)))),(gL 1000003),(.vl (.sv (.str a)))] [0,1000001,1000002,1000003] [(false,[(.one (.bool (eu ls 2))),(bX ((lf ls 3).ak aC))]),(true,[(bX ((lf ls 4).ak aC))]),(true,[(bX ((lf ls 5).ak aC))]),(true,[(bX ((lf ls 6).ak aC))])])) (QvS ls 1)⟩
def aiQ(r:lS α):lS α:=λa b c d e h i j=>Qs a b c d e h i (r a b c d e h i) j
variable (L112l2:ax lS)
abbrev zI(α:Type):Type:=ByteArray->aA->Option α
abbrev TQ(α β:Type):Type:=Bool->aA->aA->(ByteArray->Option α)->β
abbrev qc(α:Type):Type:=TQ α (zI α)
def Qr(G155:ax xZ)(G156:ax rH)(G157:ax x_)(L112l2:ax lS):TQ α (zI α->zI α):=λa b c d e h i=>G155 i c (λj l=>G156 (IntKind.wrap .i64 (List.getD l 0 0)) (λn=>G157 j (λo=>cond o (if n.size+h.size<=9223372036854775807 then d (n++h) else none) (L112l2 h a b i c j (λp=>if p.size+h.size<=9223372036854775807 then e (p++h) j else none) n))))
def uL(G155:ax xZ)(G156:ax rH)(G157:ax x_)(L112l2:ax lS)(a:Bool)(b:aA)(c:aA)(d:ByteArray->Option α):Nat->zI α
 |0=>λ_ _=>none
 |m+1=>λe h=>Qr G155 G156 G157 L112l2 a b c d (uL G155 G156 G157 L112l2 a b c d m) e h
def Vk(m n:Nat):qc α:=λa b c d e h=>uL (qU m) (pI m) (lX m) (jA m) a b c d n e h
def wJ(m:Nat):qc α:=Vk m m
def Jg:jh qc:=⟨0,⟨42,[0],[0,3,4,5],[0,1000001,1000002],[(bL 0),(bL 1000001),(bL 1000002),(.vl (.sv .str))],[(false,[(.one .bool),(.seq aC 6)]),(true,[(.seq aC 6)]),(true,[(.seq aC 6)])],[(2,[0,5])]⟩,λL ls k=>L (eu ls 1) ((lf ls 2).ak aC) ((lf ls 4).ak aC) (λa=>k .normal (bG 42 [0,5] [(gL 0),(.vl (.sv (.str a)))] [0] [(false,[(.one (.bool (eu ls 1))),(bX ((lf ls 2).ak aC))])])) (QvS ls 0) ((lf ls 3).ak aC)⟩
def aiL(r:qc α):qc α:=λa b c d e h=>Qr G155 G156 G157 L112l2 a b c d (r a b c d) e h
variable (L112l0:ax qc)
def aiJ:O5 α:=λa b c=>L112l0 a b [1000000000,0,0,0,0,0] (λd=>cond a (if(⟨#[45]⟩:ByteArray).size+d.size<=9223372036854775807 then c ((⟨#[45]⟩:ByteArray)++d) else none) (c d)) (⟨#[]⟩:ByteArray) b
def ME(m:Nat):O5 α:=aiJ (wJ m)
def YL:bR O5:=⟨112,[(bL 0)],[(false,[(.one .bool),(.seq aC 6)])],λG ls k=>G (eu ls 0) ((lf ls 1).ak aC)
  (λa=>k (.vl (.sv (.str a))) [[(.one (.bool (eu ls 0))),(bX ((lf ls 1).ak aC))]] [])⟩
def Qq:Hd:=⟨aL 155 (aK QR G155)<|aL 156 (aK yK G156)<|aL 157 (aK Df G157)<|bZ,jD 2 (aS Jh L112l2)<|jD 0 (aS Jg L112l0)<|cO,bH 155 [0,1]<|bH 157 [0]<|cZ⟩
theorem aiR:jq Jh (aiQ) (Qq G157 G155 G156 L112l2 L112l0) Tryz.f112:=λ_ _ _ _=>by kernel_rfl
theorem aiM:jq Jg (aiL G157 G155 G156 L112l2) (Qq G157 G155 G156 L112l2 L112l0) Tryz.f112:=λ_ _ _ _=>by kernel_rfl
theorem awF:dz YL (aiJ L112l0) (Qq G157 G155 G156 L112l2 L112l0) Tryz.f112:=λ_ _ _=>by kernel_rfl
theorem YK(m:Nat):(Qq (lX m) (qU m) (pI m) (jA m) (wJ m)).ah bE:=(aM (akN m) (aM (ax6 m) (aM (QT m) cK)))
theorem aiP(m:Nat):jg (aS Jh (jA m)) 2 Tryz.f112:=
 jy [] (λn=>aiO m n) m (YK m) trivial (aiR (lX m) (qU m) (pI m) (jA m) (wJ m))
theorem aiK(m:Nat):jg (aS Jg (wJ m)) 0 Tryz.f112:=
 jy [2] (λn=>Vk m n) m (YK m) ⟨(aiP m),trivial⟩ (aiM (lX m) (qU m) (pI m) (jA m) (wJ m))
theorem awE(m:Nat):bB YL (ME m):=gu [0] (YK m) ⟨(aiK m),trivial⟩ (awF (lX m) (qU m) (pI m) (jA m) (wJ m))
variable (G112:ax O5)
abbrev abF(α:Type):Type:=Int->Int->Nat->Nat->Nat->aH->gN->aH->(ByteArray->Int->Nat->Nat->Nat->gN->aH->Option α)->Option α
abbrev F3(α:Type):Type:=Int->Bool->aA->Option α
abbrev ace(α β:Type):Type:=Int->Int->Nat->Nat->Nat->aH->gN->Bool->aA->aH->(Bool->aA->Option α)->β
abbrev vX(α:Type):Type:=ace α (F3 α)
def aaf:ace α (F3 α->F3 α):=λa b c d e h i j l n o p q r s=>cond (decide (q<a)) (G109 10 (λt u=>G110 r s t u (λv w x=>p (IntKind.wrap .i64 (q+1)) v w))) (o r s)
def NT(a b:Int)(c d e:Nat)(h:aH)(i:gN)(j:Bool)(l:aA)(n:aH)(o:Bool->aA->Option α):Nat->F3 α
 |0=>λ_ _ _=>none
 |m+1=>λp q r=>aaf G109 G110 a b c d e h i j l n o (NT a b c d e h i j l n o m) p q r
def ad7(m n:Nat):vX α:=λa b c d e h i j l o p q r s=>NT (bM m) (fG m) a b c d e h i j l o p n q r s
def Dp(m:Nat):vX α:=ad7 m m
def Rw:jh vX:=⟨0,⟨86,[0,1,2,3],[2,8,9,11,12],[0,1,2,3,1000004,1000005,1000006],[bD,bD,(bL 1000004),(bL 1000005),bD],[(true,[(.one (.aQ 1 5)),(.one (.eX 2 0 1)),(.one (.aQ 1000006 2))]),(false,[(.aD aB)]),(true,[(.rws tJ)]),(true,[]),(true,[(.one .bool),(.seq aC 6)]),(true,[(.one .bool),(.seq aC 6)]),(true,[(.aD aY)])],[(2,[2,8,9,11])]⟩,λL ls k=>L (aI ls 0) (aI ls 1) (aO ls 3) (aO ls 4) (aO ls 5) ((lf ls 6).ak aB) ((lf ls 7).rows tJ) (eu ls 8) ((lf ls 9).ak aC) ((lf ls 12).ak aY) (λa b=>k .normal (bG 86 [2,8,9,11] [(.vl (.sv (.int .i64 (aI ls 0)))),(.vl (.sv (.int .i64 (aI ls 1)))),(gL 1000004),(gL 1000005)] [0,1,2,3,1000004,1000005,1000006] [(true,[(.one (.aQ 1 5)),(.one (.eX 2 0 1 (aO ls 3) (aO ls 4) (aO ls 5))),(.one (.aQ 1000006 2))]),(false,[(.aD aB ((lf ls 6).ak aB))]),(true,[(.rws tJ ((lf ls 7).rows tJ) none)]),(true,[]),(true,[(.one (.bool (eu ls 8))),(bX ((lf ls 9).ak aC))]),(true,[(lN a),(bX b)]),(true,[(.aD aY ((lf ls 12).ak aY))])])) (aI ls 2) (eu ls 10) ((lf ls 11).ak aC)⟩
def arb(r:vX α):vX α:=λa b c d e h i j l n o p q s=>aaf G109 G110 a b c d e h i j l n o (r a b c d e h i j l n o) p q s
variable (L67l0:ax vX)
abbrev F4(α:Type):Type:=ByteArray->Option α
abbrev acf(α β:Type):Type:=Int->ByteArray->Nat->Nat->Nat->aH->gN->aH->(ByteArray->Option α)->β
abbrev vY(α:Type):Type:=acf α (F4 α)
def aag:acf α (F4 α->F4 α):=λa b c d e h i j l n o=>cond (decide (((o.size:Nat):Int)<(IntKind.wrap .i64 (a+1)))) (if(⟨#[48]⟩:ByteArray).size+o.size<=9223372036854775807 then n ((⟨#[48]⟩:ByteArray)++o) else none) (l o)
def Kn(a:Int)(b:ByteArray)(c d e:Nat)(h:aH)(i:gN)(j:aH)(l:ByteArray->Option α):Nat->F4 α
 |0=>λ_=>none
 |m+1=>λn=>aag a b c d e h i j l (Kn a b c d e h i j l m) n
def ad9(m n:Nat):vY α:=λa b c d e h i j l o=>Kn a b c d e h i j l n o
def Dq(m:Nat):vY α:=ad9 m m
def Rx:jh vY:=⟨2,⟨86,[0,1,2,3],[2,16,17],[0,1,2,3,1000004],[bD,(.vl (.sv .str)),(.vl (.sv .str))],[(true,[(.one (.aQ 1 5)),(.one (.eX 2 0 1)),(.one (.aQ 1000004 2))]),(false,[(.aD aB)]),(true,[(.rws tJ)]),(true,[]),(true,[(.aD aY)])],[(4,[2,16,17])]⟩,λL ls k=>L (aI ls 0) (QvS ls 1) (aO ls 3) (aO ls 4) (aO ls 5) ((lf ls 6).ak aB) ((lf ls 7).rows tJ) ((lf ls 8).ak aY) (λa=>k .normal (bG 86 [2,16,17] [(.vl (.sv (.int .i64 (aI ls 0)))),(.vl (.sv (.str (QvS ls 1)))),(.vl (.sv (.str a)))] [0,1,2,3,1000004] [(true,[(.one (.aQ 1 5)),(.one (.eX 2 0 1 (aO ls 3) (aO ls 4) (aO ls 5))),(.one (.aQ 1000004 2))]),(false,[(.aD aB ((lf ls 6).ak aB))]),(true,[(.rws tJ ((lf ls 7).rows tJ) none)]),(true,[]),(true,[(.aD aY ((lf ls 8).ak aY))])])) (QvS ls 2)⟩
def arh(r:vY α):vY α:=λa b c d e h i j l n=>aag a b c d e h i j l (r a b c d e h i j l) n
variable (L67l2:ax vY)
def azv:abF α:=λa b c d e h i j l=>let n:Int:=IntKind.wrap .i64 ((IntKind.wrap .i64 (4*b))+4);G45 a n c d e h i j (λo p q r s t u v w=>cond (q !=0) (l (⟨#[]⟩:ByteArray) q r s t v w) (G109 1 (λx y=>L67l0 b n r s t h v o p w (λz a0=>G110 o p z a0 (λb0 c0 d0=>cond (d0 !=0) (l (⟨#[]⟩:ByteArray) d0 r s t v w) (G111 b0 c0 n (λe0 h0=>cond e0 (G112 false h0 (λi0=>cond (b==0) (if(⟨#[45]⟩:ByteArray).size+i0.size<=9223372036854775807 then l ((⟨#[45]⟩:ByteArray)++i0) 0 r s t v w else none) (L67l2 b (⟨#[45]⟩:ByteArray) r s t h v w (λj0=>let l0:Int:=IntKind.wrap .i64 (((j0.size:Nat):Int)-b);if 0<=(0:Int)/\0<=l0/\l0<=((j0.size:Nat):Int) then let n0:ByteArray:=ByteArray.extract j0 0 (Int.toNat l0);if(⟨#[45]⟩:ByteArray).size+n0.size<=9223372036854775807 then let o0:ByteArray:=(⟨#[45]⟩:ByteArray)++n0;if o0.size+(⟨#[46]⟩:ByteArray).size<=9223372036854775807 then let p0:ByteArray:=o0++(⟨#[46]⟩:ByteArray);if 0<=l0/\l0<=((j0.size:Nat):Int)/\((j0.size:Nat):Int)<=((j0.size:Nat):Int) then let q0:ByteArray:=ByteArray.extract j0 (Int.toNat l0) (Int.toNat ((j0.size:Nat):Int));if p0.size+q0.size<=9223372036854775807 then l (p0++q0) 0 r s t v w else none else none else none else none else none) i0))) (G112 e0 h0 (λr0=>cond (b==0) (if(⟨#[]⟩:ByteArray).size+r0.size<=9223372036854775807 then l ((⟨#[]⟩:ByteArray)++r0) 0 r s t v w else none) (L67l2 b (⟨#[]⟩:ByteArray) r s t h v w (λs0=>let t0:Int:=IntKind.wrap .i64 (((s0.size:Nat):Int)-b);if 0<=(0:Int)/\0<=t0/\t0<=((s0.size:Nat):Int) then let u0:ByteArray:=ByteArray.extract s0 0 (Int.toNat t0);if(⟨#[]⟩:ByteArray).size+u0.size<=9223372036854775807 then let v0:ByteArray:=(⟨#[]⟩:ByteArray)++u0;if v0.size+(⟨#[46]⟩:ByteArray).size<=9223372036854775807 then let w0:ByteArray:=v0++(⟨#[46]⟩:ByteArray);if 0<=t0/\t0<=((s0.size:Nat):Int)/\((s0.size:Nat):Int)<=((s0.size:Nat):Int) then let x0:ByteArray:=ByteArray.extract s0 (Int.toNat t0) (Int.toNat ((s0.size:Nat):Int));if w0.size+x0.size<=9223372036854775807 then l (w0++x0) 0 r s t v w else none else none else none else none else none) r0))))))) 0 x y)))
def g67(m:Nat):abF α:=azv (bM m) (fG m) (kZ m) (xL m) (ME m) (Dp m) (Dq m)
def amX:bR abF:=⟨67,[(bL 0),bD,bD],[(true,[(.one (.aQ 1 5)),(.one (.eX 2 0 1)),(.one (.aQ 3 2))]),(false,[(.aD aB)]),(true,[(.rws tJ)]),(true,[(.aD aY)])],λG ls k=>G (aI ls 0) (aI ls 1) (aO ls 2) (aO ls 3) (aO ls 4) ((lf ls 5).ak aB) ((lf ls 6).rows tJ) ((lf ls 7).ak aY)
  (λa b c d e h i=>k (.iO [(.sv (.str a)),(.sv (.int .i64 b))]) [[(.one (.aQ 1 5)),(.one (.eX 2 0 1 c d e)),(.one (.aQ 4 2))],[(.aD aB ((lf ls 5).ak aB))],[(.rws tJ h none)],[]] [[(.aD aY i)]])⟩
def ad6:Hd:=⟨aL 45 (aK iU G45)<|aL 109 (aK nL G109)<|aL 110 (aK yC G110)<|aL 111 (aK yD G111)<|aL 112 (aK YL G112)<|bZ,jD 0 (aS Rw L67l0)<|jD 2 (aS Rx L67l2)<|cO,bH 45 [1]<|bH 112 [0]<|cZ⟩
theorem ard:jq Rw (arb G109 G110) (ad6 G109 G110 G111 G45 G112 L67l0 L67l2) Tryz.f67:=λ_ _ _ _=>by kernel_rfl
theorem ari:jq Rx (arh) (ad6 G109 G110 G111 G45 G112 L67l0 L67l2) Tryz.f67:=λ_ _ _ _=>by kernel_rfl
theorem aEL:Ye amX (azv G109 G110 G111 G45 G112 L67l0 L67l2) (ad6 G109 G110 G111 G45 G112 L67l0 L67l2) Tryz.f67 3:=λ_ _ _=>by kernel_rfl
theorem amW(m:Nat):(ad6 (bM m) (fG m) (kZ m) (xL m) (ME m) (Dp m) (Dq m)).ah bE:=(aM (amw m) (aM (si m) (aM (Jb m) (aM (Jf m) (aM (awE m) cK)))))
theorem ara(m:Nat):jg (aS Rw (Dp m)) 0 Tryz.f67:=
 jy [] (λn=>ad7 m n) m (amW m) trivial (ard (bM m) (fG m) (kZ m) (xL m) (ME m) (Dp m) (Dq m))
theorem arf(m:Nat):jg (aS Rx (Dq m)) 2 Tryz.f67:=
 jy [] (λn=>ad9 m n) m (amW m) trivial (ari (bM m) (fG m) (kZ m) (xL m) (ME m) (Dp m) (Dq m))
theorem aEK(m:Nat):bB amX (g67 m):=Fq [0,2] (amW m) ⟨(ara m),(arf m),trivial⟩ (aEL (bM m) (fG m) (kZ m) (xL m) (ME m) (Dp m) (Dq m))
variable (G67:ax abF)
abbrev abm(α:Type):Type:=Int->Int->aH->(ByteArray->Int->Option α)->Option α
def ayU:abm α:=λa b c d=>G43 a b c (λe=>cond (e !=0) (d (⟨#[]⟩:ByteArray) e) (cond (decide (b>15)) (d (⟨#[]⟩:ByteArray) 2) (G44 c (λh i j l=>G67 a b 0 h i c j l (λn o p q r s t=>d n o)))))
def g24(m:Nat):abm α:=ayU (NK m) (Z0 m) (g67 m)
def amc:bR abm:=⟨24,[(.vl (.sv (.aQ 0 5))),bD,bD],[(false,[(.aD aB)])],λG ls k=>G (aI ls 0) (aI ls 1) ((lf ls 2).ak aB)
  (λa b=>k (.iO [(.sv (.str a)),(.sv (.int .i64 b))]) [[(.aD aB ((lf ls 2).ak aB))]] [])⟩
def atK:Hd:=⟨aL 43 (aK NM G43)<|aL 44 (aK V_ G44)<|aL 67 (aK amX G67)<|bZ,cO,bH 43 [0]<|bH 44 [0]<|bH 67 [1]<|cZ⟩
theorem aCY:dz amc (ayU G43 G44 G67) (atK G43 G44 G67) Tryz.f24:=λ_ _ _=>by kernel_rfl
theorem aCW(m:Nat):(atK (NK m) (Z0 m) (g67 m)).ah bE:=(aM (adG m) (aM (amu m) (aM (aEK m) cK)))
theorem aCX(m:Nat):bB amc (g24 m):=bT (aCW m) (aCY (NK m) (Z0 m) (g67 m))
variable (G24:ax abm)
abbrev abn(α:Type):Type:=Int->aH->(Int->Int->Option α)->Option α
def ayV:abn α:=λa b c=>G46 0 0 0 1 1 b [a] (λd=>cond (d !=0) (c 0 d) (none)) (λe h=>G68 (IntKind.wrap .i16 a) false 0 b e h (λi j l n o=>G55 j l b n o (λp q=>cond p (c 0 q) (c i 0))))
def g25(m:Nat):abn α:=ayV (EP m) (pJ m) (Wj (y_ m) m)
def ame:bR abn:=⟨25,[(.vl (.sv (.aQ 0 5))),bD],[(false,[(.aD aB)])],λG ls k=>G (aI ls 0) ((lf ls 1).ak aB)
  (λa b=>k (.iO [(.sv (.int .i64 a)),(.sv (.int .i64 b))]) [[(.aD aB ((lf ls 1).ak aB))]] [])⟩
def atM:Hd:=⟨aL 46 (aK Kb G46)<|aL 68 (aK Wl G68)<|aL 55 (aK Bl G55)<|bZ,cO,bH 46 [0,1]<|bH 55 [1,2,3]<|bH 68 [1]<|cZ⟩
theorem aC1:dz ame (ayV G46 G55 G68) (atM G46 G55 G68) Tryz.f25:=λ_ _ _=>by kernel_rfl
theorem aCZ(m:Nat):(atM (EP m) (pJ m) (Wj (y_ m) m)).ah bE:=(aM (Wd m) (aM (amZ (y_ m) (amH m) m) (aM (Kh m) cK)))
theorem aC0(m:Nat):bB ame (g25 m):=bT (aCZ m) (aC1 (EP m) (pJ m) (Wj (y_ m) m))
variable (G25:ax abn)
abbrev abo(α:Type):Type:=Int->aH->(Int->Int->Option α)->Option α
def ayW:abo α:=λa b c=>G43 a 0 b (λd=>cond (d !=0) (c 0 d) (G44 b (λe h i j=>G69 a 0 e h b i j (λl n o p q r s=>c l n))))
def g26(m:Nat):abo α:=ayW (NK m) (Z0 m) (Yf (xL m) m)
def amg:bR abo:=⟨26,[(.vl (.sv (.aQ 0 5))),bD],[(false,[(.aD aB)])],λG ls k=>G (aI ls 0) ((lf ls 1).ak aB)
  (λa b=>k (.iO [(.sv (.int .i64 a)),(.sv (.int .i64 b))]) [[(.aD aB ((lf ls 1).ak aB))]] [])⟩
def atO:Hd:=⟨aL 43 (aK NM G43)<|aL 44 (aK V_ G44)<|aL 69 (aK Wm G69)<|bZ,cO,bH 43 [0]<|bH 44 [0]<|bH 69 [1]<|cZ⟩
theorem aC4:dz amg (ayW G43 G44 G69) (atO G43 G44 G69) Tryz.f26:=λ_ _ _=>by kernel_rfl
theorem aC2(m:Nat):(atO (NK m) (Z0 m) (Yf (xL m) m)).ah bE:=(aM (adG m) (aM (amu m) (aM (am0 (xL m) (amw m) m) cK)))
theorem aC3(m:Nat):bB amg (g26 m):=bT (aC2 m) (aC4 (NK m) (Z0 m) (Yf (xL m) m))
variable (G26:ax abo)
abbrev ag0(α:Type):Type:=Nat->Nat->Nat->Nat->Nat->Nat->Nat->aA->Nat->aA->(Bool->Option α)->Option α
def g3b:ag0 α:=λa b c d e h i j l n o=>G5 a b c i j (λp=>cond p (o true) (G5 d e h l n (λq=>cond q (o true) (G6 a b c i j (λr=>G6 d e h l n (λs=>G8 r (λt=>G7 t (o false) (λu=>G9 u r (λv=>cond (!v) (o false) (G10 u r (λw=>cond (!w) (o false) (G11 d e h ((r.length:Nat):Int) l n (λx=>G11 a b c 10 i j (λy=>G12 x y r (λz a0 b0=>G13 x r (λc0=>G14 x r (λd0 e0=>G15 x r (λh0=>cond (c0 !=d0) (o false) (cond (c0 !=0) (o false) (G9v1 e0 (λi0=>cond (!i0) (o false) (cond (h0 !=0) (o false) (cond (0 !=((e0.length:Nat):Int)) (o false) (G16 e0 (λj0=>cond (!j0) (o false) (G17 (IntKind.wrap .i64 (((e0.length:Nat):Int)-1)) y e0 (λl0 n0 o0=>G18 r (G19 r (λp0 q0=>cond (o0 !=b0) (o false) (cond (!((l0==z)&&(dI n0 a0))) (o false) (o false))) (λr0 s0 t0 u0 v0=>cond (o0 !=b0) (o false) (cond (!((l0==z)&&(dI n0 a0))) (o false) (o false)))) (λw0 x0 y0 z0 a1=>G19 r (λb1 c1=>cond (o0 !=b0) (o false) (cond (!((l0==z)&&(dI n0 a0))) (o false) (o false))) (λd1 e1 h1 i1 j1=>cond (o0 !=b0) (o false) (cond (!((l0==z)&&(dI n0 a0))) (o false) (G9 y0 h1 (λl1=>cond (!l1) (o false) (G20 0 w0 x0 0 d1 e1 z0 a1 i1 j1 (λn1=>cond (!n1) (o false) (cond (((d1:Nat):Int) !=((r.length:Nat):Int)) (o false) (if 0<=x/\x<(d1:Nat) then if(0+x.toNat)<i1 then G17 (List.getD j1 (0+x.toNat) 0) y h1 (λo1 p1 q1=>G21 s r (λr1=>G22 s r (λs1 t1=>cond (q1 !=b0) (o false) (cond (!((o1==z)&&(dI p1 a0))) (o false) (cond (r1 !=s1) (o false) (cond (r1 !=0) (o false) (G9v1 t1 (λu1=>cond (!u1) (o false) (G17 (IntKind.wrap .i64 (((s.length:Nat):Int)+x)) y t1 (λv1 w1 x1=>G18 h1 (cond (x1 !=b0) (o false) (cond (!((v1==z)&&(dI w1 a0))) (o false) (o false))) (λy1 z1 a2 b2 c2=>cond (x1 !=b0) (o false) (cond (!((v1==z)&&(dI w1 a0))) (o false) (G9 a2 h1 (λd2=>cond (!d2) (o false) (cond (((y1:Nat):Int) !=((h1.length:Nat):Int)) (o false) (G23 x 3 r (λe2 h2=>G24 x 3 r (λi2 j2=>G25 x r (λl2 n2=>G26 x r (λo2 p2=>cond (h2==j2) (cond (bY e2 i2) (cond (n2==p2) (cond (l2==o2) (o (decide (l2>=0))) (o false)) (o false)) (o false)) (o false)))))))))))))))))))) (λq2=>G22 s r (λr2 s2=>cond (q1 !=b0) (o false) (cond (!((o1==z)&&(dI p1 a0))) (o false) (cond (0 !=r2) (o false) (G9 q2 s2 (λt2=>cond (!t2) (o false) (G17 (IntKind.wrap .i64 (((s.length:Nat):Int)+x)) y s2 (λu2 v2 w2=>G18 h1 (cond (w2 !=b0) (o false) (cond (!((u2==z)&&(dI v2 a0))) (o false) (o false))) (λx2 y2 z2 a3 b3=>cond (w2 !=b0) (o false) (cond (!((u2==z)&&(dI v2 a0))) (o false) (G9 z2 h1 (λc3=>cond (!c3) (o false) (cond (((x2:Nat):Int) !=((h1.length:Nat):Int)) (o false) (G23 x 3 r (λd3 e3=>G24 x 3 r (λh3 i3=>G25 x r (λj3 l3=>G26 x r (λn3 o3=>cond (e3==i3) (cond (bY d3 h3) (cond (l3==o3) (cond (j3==n3) (o (decide (j3>=0))) (o false)) (o false)) (o false)) (o false)))))))))))))))))))) else none else none))))))))))))))))))) (λp3=>cond (c0 !=d0) (o false) (cond (c0 !=0) (o false) (G9v1 e0 (λq3=>cond (!q3) (o false) (cond (((p3.length:Nat):Int) !=((e0.length:Nat):Int)) (o false) (G16 e0 (λr3=>cond (!r3) (o false) (G17 (IntKind.wrap .i64 (((e0.length:Nat):Int)-1)) y e0 (λs3 t3 u3=>G18 r (G19 r (λv3 w3=>cond (u3 !=b0) (o false) (cond (!((s3==z)&&(dI t3 a0))) (o false) (o false))) (λx3 y3 z3 a4 b4=>cond (u3 !=b0) (o false) (cond (!((s3==z)&&(dI t3 a0))) (o false) (o false)))) (λc4 d4 e4 h4 i4=>G19 r (λj4 l4=>cond (u3 !=b0) (o false) (cond (!((s3==z)&&(dI t3 a0))) (o false) (o false))) (λn4 o4 p4 q4 r4=>cond (u3 !=b0) (o false) (cond (!((s3==z)&&(dI t3 a0))) (o false) (G9 e4 p4 (λs4=>cond (!s4) (o false) (G20 0 c4 d4 0 n4 o4 h4 i4 q4 r4 (λt4=>cond (!t4) (o false) (cond (((n4:Nat):Int) !=((r.length:Nat):Int)) (o false) (if 0<=x/\x<(n4:Nat) then if(0+x.toNat)<q4 then G17 (List.getD r4 (0+x.toNat) 0) y p4 (λu4 v4 w4=>G21 s r (λx4=>G22 s r (λy4 z4=>cond (w4 !=b0) (o false) (cond (!((u4==z)&&(dI v4 a0))) (o false) (cond (x4 !=y4) (o false) (cond (x4 !=0) (o false) (G9v1 z4 (λa5=>cond (!a5) (o false) (G17 (IntKind.wrap .i64 (((s.length:Nat):Int)+x)) y z4 (λb5 c5 d5=>G18 p4 (cond (d5 !=b0) (o false) (cond (!((b5==z)&&(dI c5 a0))) (o false) (o false))) (λe5 h5 i5 j5 l5=>cond (d5 !=b0) (o false) (cond (!((b5==z)&&(dI c5 a0))) (o false) (G9 i5 p4 (λn5=>cond (!n5) (o false) (cond (((e5:Nat):Int) !=((p4.length:Nat):Int)) (o false) (G23 x 3 r (λo5 p5=>G24 x 3 r (λq5 r5=>G25 x r (λs5 t5=>G26 x r (λu5 v5=>cond (p5==r5) (cond (bY o5 q5) (cond (t5==v5) (cond (s5==u5) (o (decide (s5>=0))) (o false)) (o false)) (o false)) (o false)))))))))))))))))))) (λw5=>G22 s r (λx5 y5=>cond (w4 !=b0) (o false) (cond (!((u4==z)&&(dI v4 a0))) (o false) (cond (0 !=x5) (o false) (G9 w5 y5 (λz5=>cond (!z5) (o false) (G17 (IntKind.wrap .i64 (((s.length:Nat):Int)+x)) y y5 (λa6 b6 c6=>G18 p4 (cond (c6 !=b0) (o false) (cond (!((a6==z)&&(dI b6 a0))) (o false) (o false))) (λd6 e6 h6 i6 j6=>cond (c6 !=b0) (o false) (cond (!((a6==z)&&(dI b6 a0))) (o false) (G9 h6 p4 (λl6=>cond (!l6) (o false) (cond (((d6:Nat):Int) !=((p4.length:Nat):Int)) (o false) (G23 x 3 r (λn6 o6=>G24 x 3 r (λp6 q6=>G25 x r (λr6 s6=>G26 x r (λt6 u6=>cond (o6==q6) (cond (bY n6 p6) (cond (s6==u6) (cond (r6==t6) (o (decide (r6>=0))) (o false)) (o false)) (o false)) (o false)))))))))))))))))))) else none else none)))))))))))))))))))) (λv6=>G14 x r (λw6 x6=>G15 x r (λy6=>cond (0 !=w6) (o false) (G9 v6 x6 (λz6=>cond (!z6) (o false) (cond (y6 !=0) (o false) (cond (0 !=((x6.length:Nat):Int)) (o false) (G16 x6 (λa7=>cond (!a7) (o false) (G17 (IntKind.wrap .i64 (((x6.length:Nat):Int)-1)) y x6 (λb7 c7 d7=>G18 r (G19 r (λe7 h7=>cond (d7 !=b0) (o false) (cond (!((b7==z)&&(dI c7 a0))) (o false) (o false))) (λi7 j7 l7 n7 o7=>cond (d7 !=b0) (o false) (cond (!((b7==z)&&(dI c7 a0))) (o false) (o false)))) (λp7 q7 r7 s7 t7=>G19 r (λu7 v7=>cond (d7 !=b0) (o false) (cond (!((b7==z)&&(dI c7 a0))) (o false) (o false))) (λw7 x7 y7 z7 a8=>cond (d7 !=b0) (o false) (cond (!((b7==z)&&(dI c7 a0))) (o false) (G9 r7 y7 (λb8=>cond (!b8) (o false) (G20 0 p7 q7 0 w7 x7 s7 t7 z7 a8 (λc8=>cond (!c8) (o false) (cond (((w7:Nat):Int) !=((r.length:Nat):Int)) (o false) (if 0<=x/\x<(w7:Nat) then if(0+x.toNat)<z7 then G17 (List.getD a8 (0+x.toNat) 0) y y7 (λd8 e8 h8=>G21 s r (λi8=>G22 s r (λj8 l8=>cond (h8 !=b0) (o false) (cond (!((d8==z)&&(dI e8 a0))) (o false) (cond (i8 !=j8) (o false) (cond (i8 !=0) (o false) (G9v1 l8 (λn8=>cond (!n8) (o false) (G17 (IntKind.wrap .i64 (((s.length:Nat):Int)+x)) y l8 (λo8 p8 q8=>G18 y7 (cond (q8 !=b0) (o false) (cond (!((o8==z)&&(dI p8 a0))) (o false) (o false))) (λr8 s8 t8 u8 v8=>cond (q8 !=b0) (o false) (cond (!((o8==z)&&(dI p8 a0))) (o false) (G9 t8 y7 (λw8=>cond (!w8) (o false) (cond (((r8:Nat):Int) !=((y7.length:Nat):Int)) (o false) (G23 x 3 r (λx8 y8=>G24 x 3 r (λz8 a9=>G25 x r (λb9 c9=>G26 x r (λd9 e9=>cond (y8==a9) (cond (bY x8 z8) (cond (c9==e9) (cond (b9==d9) (o (decide (b9>=0))) (o false)) (o false)) (o false)) (o false)))))))))))))))))))) (λh9=>G22 s r (λi9 j9=>cond (h8 !=b0) (o false) (cond (!((d8==z)&&(dI e8 a0))) (o false) (cond (0 !=i9) (o false) (G9 h9 j9 (λl9=>cond (!l9) (o false) (G17 (IntKind.wrap .i64 (((s.length:Nat):Int)+x)) y j9 (λn9 o9 p9=>G18 y7 (cond (p9 !=b0) (o false) (cond (!((n9==z)&&(dI o9 a0))) (o false) (o false))) (λq9 r9 s9 t9 u9=>cond (p9 !=b0) (o false) (cond (!((n9==z)&&(dI o9 a0))) (o false) (G9 s9 y7 (λv9=>cond (!v9) (o false) (cond (((q9:Nat):Int) !=((y7.length:Nat):Int)) (o false) (G23 x 3 r (λw9 x9=>G24 x 3 r (λy9 z9=>G25 x r (λaa0 ba0=>G26 x r (λca0 da0=>cond (x9==z9) (cond (bY w9 y9) (cond (ba0==da0) (cond (aa0==ca0) (o (decide (aa0>=0))) (o false)) (o false)) (o false)) (o false)))))))))))))))))))) else none else none)))))))))))))))))) (λea0=>cond (0 !=w6) (o false) (G9 v6 x6 (λha0=>cond (!ha0) (o false) (cond (((ea0.length:Nat):Int) !=((x6.length:Nat):Int)) (o false) (G16 x6 (λia0=>cond (!ia0) (o false) (G17 (IntKind.wrap .i64 (((x6.length:Nat):Int)-1)) y x6 (λja0 la0 na0=>G18 r (G19 r (λoa0 pa0=>cond (na0 !=b0) (o false) (cond (!((ja0==z)&&(dI la0 a0))) (o false) (o false))) (λqa0 ra0 sa0 ta0 ua0=>cond (na0 !=b0) (o false) (cond (!((ja0==z)&&(dI la0 a0))) (o false) (o false)))) (λva0 wa0 xa0 ya0 za0=>G19 r (λaa1 ba1=>cond (na0 !=b0) (o false) (cond (!((ja0==z)&&(dI la0 a0))) (o false) (o false))) (λca1 da1 ea1 ha1 ia1=>cond (na0 !=b0) (o false) (cond (!((ja0==z)&&(dI la0 a0))) (o false) (G9 xa0 ea1 (λja1=>cond (!ja1) (o false) (G20 0 va0 wa0 0 ca1 da1 ya0 za0 ha1 ia1 (λla1=>cond (!la1) (o false) (cond (((ca1:Nat):Int) !=((r.length:Nat):Int)) (o false) (if 0<=x/\x<(ca1:Nat) then if(0+x.toNat)<ha1 then G17 (List.getD ia1 (0+x.toNat) 0) y ea1 (λna1 oa1 pa1=>G21 s r (λqa1=>G22 s r (λra1 sa1=>cond (pa1 !=b0) (o false) (cond (!((na1==z)&&(dI oa1 a0))) (o false) (cond (qa1 !=ra1) (o false) (cond (qa1 !=0) (o false) (G9v1 sa1 (λta1=>cond (!ta1) (o false) (G17 (IntKind.wrap .i64 (((s.length:Nat):Int)+x)) y sa1 (λua1 va1 wa1=>G18 ea1 (cond (wa1 !=b0) (o false) (cond (!((ua1==z)&&(dI va1 a0))) (o false) (o false))) (λxa1 ya1 za1 aa2 ba2=>cond (wa1 !=b0) (o false) (cond (!((ua1==z)&&(dI va1 a0))) (o false) (G9 za1 ea1 (λca2=>cond (!ca2) (o false) (cond (((xa1:Nat):Int) !=((ea1.length:Nat):Int)) (o false) (G23 x 3 r (λda2 ea2=>G24 x 3 r (λha2 ia2=>G25 x r (λja2 la2=>G26 x r (λna2 oa2=>cond (ea2==ia2) (cond (bY da2 ha2) (cond (la2==oa2) (cond (ja2==na2) (o (decide (ja2>=0))) (o false)) (o false)) (o false)) (o false)))))))))))))))))))) (λpa2=>G22 s r (λqa2 ra2=>cond (pa1 !=b0) (o false) (cond (!((na1==z)&&(dI oa1 a0))) (o false) (cond (0 !=qa2) (o false) (G9 pa2 ra2 (λsa2=>cond (!sa2) (o false) (G17 (IntKind.wrap .i64 (((s.length:Nat):Int)+x)) y ra2 (λta2 ua2 va2=>G18 ea1 (cond (va2 !=b0) (o false) (cond (!((ta2==z)&&(dI ua2 a0))) (o false) (o false))) (λwa2 xa2 ya2 za2 aa3=>cond (va2 !=b0) (o false) (cond (!((ta2==z)&&(dI ua2 a0))) (o false) (G9 ya2 ea1 (λba3=>cond (!ba3) (o false) (cond (((wa2:Nat):Int) !=((ea1.length:Nat):Int)) (o false) (G23 x 3 r (λca3 da3=>G24 x 3 r (λea3 ha3=>G25 x r (λia3 ja3=>G26 x r (λla3 na3=>cond (da3==ha3) (cond (bY ca3 ea3) (cond (ja3==na3) (cond (ia3==la3) (o (decide (ia3>=0))) (o false)) (o false)) (o false)) (o false)))))))))))))))))))) else none else none))))))))))))))))))))))))))))))))))
def g3(m:Nat):ag0 α:=g3b (g5 m) (g6 m) (g16 m) (g8 m) (g7 m) (g9 m) (g10 m) (g11 m) (g12 m) (g13 m) (g14 m) (g15 m) (anw m) (g17 m) (g18 m) (g19 m) (g20 m) (g21 m) (g22 m) (g23 m) (g24 m) (g25 m) (g26 m)
def aDx:List TP:=[(.vl (.sv (.rA 0 0 1))),(.vl (.sv (.rA 1 0 1)))]
def aDw:List BP:=[(false,[(.iD (.int .u8))]),(false,[(.iD (.int .u8))])]
def g3K{α:Type}(G:ag0 α)(ls:List Lf)(k:Mk α):Option α:=
 G (lf ls 0).nat (lf ls 1).nat (lf ls 2).nat (lf ls 3).nat (lf ls 4).nat (lf ls 5).nat (lf ls 6).nat ((lf ls 7).ak (.int .u8)) (lf ls 8).nat ((lf ls 9).ak (.int .u8))
  (λa=>k (.vl (.sv (.bool a))) [[(.seq (.int .u8) (lf ls 6).nat ((lf ls 7).ak (.int .u8)))],[(.seq (.int .u8) (lf ls 8).nat ((lf ls 9).ak (.int .u8)))]] [])
def aDv:bR ag0:=⟨3,aDx,aDw,g3K⟩
def aDt:Hd:=⟨aL 5 (aK azo G5)<|aL 6 (aK azy G6)<|aL 8 (aK aHO G8)<|aL 7 (aK azF G7)<|aL 9 (QRe az5 G9 (aK aaq G9v1))<|aL 10 (aK ain G10)<|aL 11 (aK ajf G11)<|aL 12 (aK aju G12)<|aL 13 (aK aj5 G13)<|aL 14 (aK ako G14)<|aL 15 (aK ak_ G15)<|aL 16 (aK EJ G16)<|aL 17 (aK alI G17)<|aL 18 (aK alJ G18)<|aL 19 (aK alR G19)<|aL 20 (aK al6 G20)<|aL 21 (aK al8 G21)<|aL 22 (aK al_ G22)<|aL 23 (aK amb G23)<|aL 24 (aK amc G24)<|aL 25 (aK ame G25)<|aL 26 (aK amg G26)<|bZ,cO,bH 5 [0]<|bH 6 [0]<|bH 8 [0]<|bH 9 [0,1]<|bH 10 [0,1]<|bH 11 [0]<|bH 12 [0]<|bH 13 [0]<|bH 14 [0]<|bH 15 [0]<|bH 16 [0]<|bH 17 [0]<|bH 18 [0]<|bH 19 [0]<|bH 20 [0,1]<|bH 21 [0,1]<|bH 22 [0,1]<|bH 23 [0]<|bH 24 [0]<|bH 25 [0]<|bH 26 [0]<|cZ⟩
theorem aHn:dz aDv (g3b G5 G6 G16 G8 G7 G9 G10 G11 G12 G13 G14 G15 G9v1 G17 G18 G19 G20 G21 G22 G23 G24 G25 G26) (aDt G5 G6 G16 G8 G7 G9 G10 G11 G12 G13 G14 G15 G9v1 G17 G18 G19 G20 G21 G22 G23 G24 G25 G26) Tryz.f3:=λ_ _ _=>by kernel_rfl
theorem aHl(m:Nat):(aDt (g5 m) (g6 m) (g16 m) (g8 m) (g7 m) (g9 m) (g10 m) (g11 m) (g12 m) (g13 m) (g14 m) (g15 m) (anw m) (g17 m) (g18 m) (g19 m) (g20 m) (g21 m) (g22 m) (g23 m) (g24 m) (g25 m) (g26 m)).ah bE:=(aM (aHs m) (aM (aHC m) (aM (aHN m) (aM (aHH m) (aM (Qce (aHS m) (az9 m)) (aM (aBF m) (aM (aBM m) (aM (aBS m) (aM (aB0 m) (aM (aB5 m) (aM (aCe m) (aM (VW m) (aM (aCu m) (aM (aCy m) (aM (aCE m) (aM (aCL m) (aM (aCO m) (aM (aCR m) (aM (aCU m) (aM (aCX m) (aM (aC0 m) (aM (aC3 m) cK))))))))))))))))))))))
theorem aHm(m:Nat):uo bE 3 aDx aDw (g3K (g3 m)):=afi (X:=aDv) (l:=[]) (aHl m) trivial (aHn (g5 m) (g6 m) (g16 m) (g8 m) (g7 m) (g9 m) (g10 m) (g11 m) (g12 m) (g13 m) (g14 m) (g15 m) (anw m) (g17 m) (g18 m) (g19 m) (g20 m) (g21 m) (g22 m) (g23 m) (g24 m) (g25 m) (g26 m))
variable (G3:ax ag0)
end
end Go.Proofs.YtlmmgjngihlpeaaGreatDoor.Sx
