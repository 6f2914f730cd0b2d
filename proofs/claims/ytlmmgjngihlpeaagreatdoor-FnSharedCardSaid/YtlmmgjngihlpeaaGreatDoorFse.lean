/- Part 5 of the proof that what is shared, pruned and joined is approximated as before, that terms are read from their texts, and that decimals begin as the approximations tell. Our own work, shortened by a program of ours. -/
import Derived.Test.YtlmmgjngihlpeaaGreatDoorFsd
import Derived.Deep.RegionHeld3
namespace Go.Proofs.YtlmmgjngihlpeaaGreatDoor.Sx
open Go
set_option linter.unusedVariables false
set_option linter.unusedSimpArgs false
set_option maxRecDepth 100000
noncomputable section
variable {α:Type}
variable (G82:ax H6)
abbrev Pn(α:Type):Type:=Int->(Int->Option α)->Option α
def ak3:Pn α:=λa b=>cond (decide (a>=65536)) (let c:Int:=Int.fdiv a (2^16);cond (decide (c>=256)) (let d:Int:=IntKind.wrap .u8 (Int.fdiv c (2^8));if 0<=d/\d<oq.size then b (IntKind.wrap .i64 (24+(IntKind.wrap .i64 (iZ oq d.toNat)))) else none) (let e:Int:=IntKind.wrap .u8 c;if 0<=e/\e<oq.size then b (IntKind.wrap .i64 (16+(IntKind.wrap .i64 (iZ oq e.toNat)))) else none)) (cond (decide (a>=256)) (let h:Int:=IntKind.wrap .u8 (Int.fdiv a (2^8));if 0<=h/\h<oq.size then b (IntKind.wrap .i64 (8+(IntKind.wrap .i64 (iZ oq h.toNat)))) else none) (let i:Int:=IntKind.wrap .u8 a;if 0<=i/\i<oq.size then b (IntKind.wrap .i64 (0+(IntKind.wrap .i64 (iZ oq i.toNat)))) else none))
def ug(m:Nat):Pn α:=ak3
def QU:bR Pn:=⟨158,[(.vl (.sv (.int .u32)))],[],λG ls k=>G (aI ls 0)
  (λa=>k (xE a) [] [])⟩
def ak1:Hd:=⟨bZ,cO,cZ⟩
theorem ayb:dz QU (ak3) (ak1) Tryz.f158:=λ_ _ _=>by kernel_rfl
theorem aya(m:Nat):(ak1).ah bE:=cK
theorem ak2(m:Nat):bB QU (ug m):=bT (aya m) (ayb)
variable (G158:ax Pn)
abbrev H8(α:Type):Type:=aA->aA->(aA->Bool->Option α)->Option α
abbrev F9(α:Type):Type:=Int->Int->aA->Option α
abbrev ack(α β:Type):Type:=Int->Int->aA->Int->aA->aA->aA->(Int->aA->Option α)->β
abbrev wo(α:Type):Type:=ack α (F9 α)
def ano:ack α (F9 α->F9 α):=λa b c d e h i j l n o p=>cond (decide (o<6)) (if 0<=o/\o<(6:Nat) then let q:Int:=IntKind.wrap .i64 (a+o);if 0<=q/\q<(12:Nat) then if q.toNat<12 then let r:Int:=IntKind.wrap .u64 (n+(IntKind.wrap .u64 ((IntKind.wrap .u64 ((IntKind.wrap .u64 b)*(IntKind.wrap .u64 (List.getD e o.toNat 0))))+(IntKind.wrap .u64 (List.getD p q.toNat 0)))));let s:Int:=IntKind.wrap .i64 (a+o);if 0<=s/\s<(12:Nat) then if s.toNat<12 then l (Int.fdiv r (2^32)) (IntKind.wrap .i64 (o+1)) (List.set p (s.toNat) (IntKind.wrap .u32 r)) else none else none else none else none else none) (j n p)
def nT(a b:Int)(c:aA)(d:Int)(e:aA)(h:aA)(i:aA)(j:Int->aA->Option α):Nat->F9 α
 |0=>λ_ _ _=>none
 |m+1=>λl n o=>ano a b c d e h i j (nT a b c d e h i j m) l n o
def arD(m n:Nat):wo α:=λa b c d e h i j l o p=>nT a b c d e h i j n l o p
def bS(m:Nat):wo α:=λa b c d e h i j l n o=>nT a b c d e h i j m l n o
def RH:jh wo:=⟨2,⟨66,[],[3,4,6,7,8,9,14,15,19,20],[1000000,1000001,1000002],[(bL 1000000),(bL 1000001),(bL 1000002),bD,(.vl (.sv (.int .u32))),(.vl (.sv (.int .u64))),(.vl (.agg [(.seq aC 6)])),bD,(.vl (.agg [(.seq aC 6)])),bD],[(true,[(.seq aC 6)]),(true,[(.seq aC 6)]),(true,[(.seq aC 12)])],[(4,[3,4,6,7,9,14,15])]⟩,λL ls k=>L (aI ls 0) (aI ls 1) ((lf ls 3).ak aC) (aI ls 4) ((lf ls 5).ak aC) ((lf ls 7).ak aC) ((lf ls 8).ak aC) (λa b=>k .normal (bG 66 [3,4,6,7,9,14,15] [(gL 1000000),(gL 1000001),(gL 1000002),(.vl (.sv (.int .i64 (aI ls 0)))),(.vl (.sv (.int .u64 a))),(.vl (.agg [(bX ((lf ls 3).ak aC))])),(.vl (.sv (.int .i64 (aI ls 4))))] [1000000,1000001,1000002] [(true,[(bX ((lf ls 7).ak aC))]),(true,[(bX ((lf ls 8).ak aC))]),(true,[(.seq aC 12 b)])])) (aI ls 2) (aI ls 6) ((lf ls 9).ak aC)⟩
def arF(r:wo α):wo α:=λa b c d e h i j l n o=>ano a b c d e h i j (r a b c d e h i j) l n o
variable (L96l2:ax wo)
abbrev F8(α:Type):Type:=Int->aA->Option α
abbrev acj(α β:Type):Type:=aA->aA->aA->(aA->Option α)->β
abbrev wm(α:Type):Type:=acj α (F8 α)
def ann:acj α (F8 α->F8 α):=λa b c d e h i=>cond (decide (h<6)) (if 0<=h/\h<(6:Nat) then L96l2 h (List.getD a h.toNat 0) a h b b c (λj l=>let n:Int:=IntKind.wrap .i64 (h+6);if 0<=n/\n<(12:Nat) then if n.toNat<12 then e (IntKind.wrap .i64 (h+1)) (List.set l (n.toNat) (IntKind.wrap .u32 j)) else none else none) 0 0 i else none) (d i)
def fA(a:aA)(b:aA)(c:aA)(d:aA->Option α):Nat->F8 α
 |0=>λ_ _=>none
 |m+1=>λe h=>ann L96l2 a b c d (fA a b c d m) e h
def aer(m n:Nat):wm α:=λa b c d e h=>fA (bS m) a b c d n e h
def yN(m:Nat):wm α:=aer m m
def RG:jh wm:=⟨0,⟨66,[],[3,4,6,14,15],[1000000,1000001,1000002],[(bL 1000000),(bL 1000001),(bL 1000002),(.vl (.agg [(.seq aC 6)])),bD],[(true,[(.seq aC 6)]),(true,[(.seq aC 6)]),(true,[(.seq aC 12)])],[(2,[4,6])]⟩,λL ls k=>L ((lf ls 0).ak aC) ((lf ls 2).ak aC) ((lf ls 3).ak aC) (λa=>k .normal (bG 66 [4,6] [(gL 1000000),(gL 1000001)] [1000000,1000001] [(true,[(bX ((lf ls 3).ak aC))]),(true,[(.seq aC 12 a)])])) (aI ls 1) ((lf ls 4).ak aC)⟩
def arB(r:wm α):wm α:=λa b c d e h=>ann L96l2 a b c d (r a b c d) e h
variable (L96l0:ax wm)
abbrev F_(α:Type):Type:=Int->Option α
abbrev acn(α β:Type):Type:=Nat->Nat->Nat->Int->aA->aA->(aA->Option α)->(Option α)->β
abbrev wu(α:Type):Type:=acn α (F_ α)
def anp:acn α (F_ α->F_ α):=λa b c d e h i j l n=>cond (decide (n<d)) (if 0<=n/\n<(b:Nat) then if(a+n.toNat)<12 then cond ((List.getD h (a+n.toNat) 0) !=0) (i [0,0,0,0,0,0]) (l (IntKind.wrap .i64 (n+1))) else none else none) (j)
def aes(a b c:Nat)(d:Int)(e:aA)(h:aA)(i:aA->Option α)(j:Option α):Nat->F_ α
 |0=>λ_=>none
 |m+1=>λl=>anp a b c d e h i j (aes a b c d e h i j m) l
def aeu(m n:Nat):wu α:=λa b c d e h i j l=>aes a b c d e h i j n l
def yO(m:Nat):wu α:=aeu m m
def RI:jh wu:=⟨4,⟨66,[],[4,6,53,54,55],[1000000,1000001],[(bL 1000000),(bL 1000001),(.vl (.sv (.eX 1000001 0 1))),bD,bD],[(true,[(.seq aC 6)]),(true,[(.seq aC 12)])],[(1,[4,5]),(6,[4,6])]⟩,λL ls k=>L (aO ls 0) (aO ls 1) (aO ls 2) (aI ls 3) ((lf ls 5).ak aC) ((lf ls 6).ak aC) (λa=>k .ret (bG 66 [4,5] [(gL 1000000),(zm true)] [1000000] [(true,[(bX a)])])) (k .normal (bG 66 [4,6] [(gL 1000000),(gL 1000001)] [1000000,1000001] [(true,[(bX ((lf ls 5).ak aC))]),(true,[(.seq aC 12 ((lf ls 6).ak aC))])])) (aI ls 4)⟩
def arI(r:wu α):wu α:=λa b c d e h i j l=>anp a b c d e h i j (r a b c d e h i j) l
variable (L96l4:ax wu)
def azX:H8 α:=λa b c=>L96l0 a b [0,0,0,0,0,0] (λd=>L96l4 6 6 6 6 [0,0,0,0,0,0] d (λe=>c e true) (c (List.take 6 (List.drop 0 d)) false) 0) 0 [0,0,0,0,0,0,0,0,0,0,0,0]
def Ms(m:Nat):H8 α:=azX (yN m) (yO m)
def aep:bR H8:=⟨96,[(.vl (.agg [(.seq aC 6)])),(.vl (.agg [(.seq aC 6)]))],[],λG ls k=>G ((lf ls 0).ak aC) ((lf ls 1).ak aC)
  (λa b=>k (.iO [(.agg [(bX a)]),(.sv (.bool b))]) [] [])⟩
def Wt:Hd:=⟨bZ,jD 2 (aS RH L96l2)<|jD 0 (aS RG L96l0)<|jD 4 (aS RI L96l4)<|cO,cZ⟩
theorem arG:jq RH (arF) (Wt L96l2 L96l0 L96l4) Tryz.f96:=λ_ _ _ _=>by kernel_rfl
theorem arC:jq RG (arB L96l2) (Wt L96l2 L96l0 L96l4) Tryz.f96:=λ_ _ _ _=>by kernel_rfl
theorem arJ:jq RI (arI) (Wt L96l2 L96l0 L96l4) Tryz.f96:=λ_ _ _ _=>by kernel_rfl
theorem aFS:dz aep (azX L96l0 L96l4) (Wt L96l2 L96l0 L96l4) Tryz.f96:=λ_ _ _=>by kernel_rfl
theorem aeo(m:Nat):(Wt (bS m) (yN m) (yO m)).ah bE:=cK
theorem arE(m:Nat):jg (aS RH (bS m)) 2 Tryz.f96:=
 jy [] (λn=>arD m n) m (aeo m) trivial (arG (bS m) (yN m) (yO m))
theorem arA(m:Nat):jg (aS RG (yN m)) 0 Tryz.f96:=
 jy [2] (λn=>aer m n) m (aeo m) ⟨(arE m),trivial⟩ (arC (bS m) (yN m) (yO m))
theorem arH(m:Nat):jg (aS RI (yO m)) 4 Tryz.f96:=
 jy [] (λn=>aeu m n) m (aeo m) trivial (arJ (bS m) (yN m) (yO m))
theorem avk(m:Nat):bB aep (Ms m):=gu [0,4] (aeo m) ⟨(arA m),(arH m),trivial⟩ (aFS (bS m) (yN m) (yO m))
variable (G96:ax H8)
abbrev xG(α:Type):Type:=Bool->aA->(Bool->Option α)->Option α
def azs:xG α:=λa b c=>cond a (c (!(dI b [0,0,0,0,0,0]))) (c false)
def iI(m:Nat):xG α:=azs
def qW:bR xG:=⟨65,[(.vl (.sv .bool)),(.vl (.agg [(.seq aC 6)]))],[],λG ls k=>G (eu ls 0) ((lf ls 1).ak aC)
  (λa=>k (.vl (.agg [(lN a),(bX ((lf ls 1).ak aC))])) [] [])⟩
def auI:Hd:=⟨bZ,cO,cZ⟩
theorem aEJ:dz qW (azs) (auI) Tryz.f65:=λ_ _ _=>by kernel_rfl
theorem aEI(m:Nat):(auI).ah bE:=cK
theorem uV(m:Nat):bB qW (iI m):=bT (aEI m) (aEJ)
variable (G65:ax xG)
abbrev ag3(α:Type):Type:=Bool->aA->Bool->aA->Bool->(Bool->aA->Bool->Option α)->Option α
def aEB:ag3 α:=λa b c d e h=>G96 b d (λi j=>cond e (G65 (!(a==c)) i (λl=>h l i true)) (G65 (!(a==c)) i (λn=>h n i j)))
def g61(m:Nat):ag3 α:=aEB (Ms m) (iI m)
variable (G61:ax ag3)
abbrev TG(α:Type):Type:=aA->Int->(aA->Option α)->Option α
abbrev Ga(α:Type):Type:=Int->aA->Option α
abbrev aco(α β:Type):Type:=Int->Int->aA->aA->(aA->Option α)->β
abbrev wz(α:Type):Type:=aco α (Ga α)
def RL:aco α (Ga α->Ga α):=λa b c d e h i j=>cond (decide ((IntKind.wrap .i64 (i+a))<6)) (let l:Int:=IntKind.wrap .i64 (i+a);if 0<=l/\l<(6:Nat) then if l.toNat<6 then if b<0 then none else if 0<=i/\i<(6:Nat) then if i.toNat<6 then let n:List Int:=List.set j (i.toNat) (Int.fdiv (List.getD c l.toNat 0) (2^(min b.toNat 32)));cond (decide (b>0)) (cond (decide ((IntKind.wrap .i64 ((IntKind.wrap .i64 (i+a))+1))<6)) (if 0<=i/\i<(6:Nat) then if i.toNat<6 then let o:Int:=IntKind.wrap .i64 ((IntKind.wrap .i64 (i+a))+1);if 0<=o/\o<(6:Nat) then if o.toNat<6 then let p:Int:=IntKind.wrap .i64 (32-b);if p<0 then none else if 0<=i/\i<(6:Nat) then if i.toNat<6 then h (IntKind.wrap .i64 (i+1)) (List.set n (i.toNat) (dJ .or .u32 (List.getD n i.toNat 0) (IntKind.wrap .u32 ((List.getD c o.toNat 0)*2^(min p.toNat 32))))) else none else none else none else none else none else none) (h (IntKind.wrap .i64 (i+1)) n)) (h (IntKind.wrap .i64 (i+1)) n) else none else none else none else none) (e j)
def ER(a b:Int)(c:aA)(d:aA)(e:aA->Option α):Nat->Ga α
 |0=>λ_ _=>none
 |m+1=>λh i=>RL a b c d e (ER a b c d e m) h i
def aew(m n:Nat):wz α:=λa b c d e h i=>ER a b c d e n h i
def Kw(m:Nat):wz α:=aew m m
def RJ:jh wz:=⟨0,⟨53,[],[2,4,5,6,7,8],[1000000,1000001,1000002],[(bL 1000000),(bL 1000001),(bL 1000002),bD,bD,bD],[(true,[(.seq aC 6)]),(true,[(.seq aC 6)]),(true,[(.seq aC 6)])],[(2,[4,5])]⟩,λL ls k=>L (aI ls 0) (aI ls 1) ((lf ls 3).ak aC) ((lf ls 4).ak aC) (λa=>k .normal (bG 53 [4,5] [(gL 1000000),(gL 1000001)] [1000000,1000001] [(true,[(bX ((lf ls 4).ak aC))]),(true,[(bX a)])])) (aI ls 2) ((lf ls 5).ak aC)⟩
def arS(r:wz α):wz α:=λa b c d e h i=>RL a b c d e (r a b c d e) h i
variable (L97l0:ax wz)
def az0:TG α:=λa b c=>L97l0 (IntKind.wrap .i64 (Int.tdiv b 32)) (Int.tmod b 32) a [0,0,0,0,0,0] (λd=>c d) 0 [0,0,0,0,0,0]
def g97(m:Nat):TG α:=az0 (Kw m)
def aev:bR TG:=⟨97,[(.vl (.agg [(.seq aC 6)])),bD],[],λG ls k=>G ((lf ls 0).ak aC) (aI ls 1)
  (λa=>k (.vl (.agg [(bX a)])) [] [])⟩
def anq:Hd:=⟨bZ,jD 0 (aS RJ L97l0)<|cO,cZ⟩
theorem arT:jq RJ (arS) (anq L97l0) Tryz.f97:=λ_ _ _ _=>by kernel_rfl
theorem aFZ:dz aev (az0 L97l0) (anq L97l0) Tryz.f97:=λ_ _ _=>by kernel_rfl
theorem avl(m:Nat):(anq (Kw m)).ah bE:=cK
theorem arR(m:Nat):jg (aS RJ (Kw m)) 0 Tryz.f97:=
 jy [] (λn=>aew m n) m (avl m) trivial (arT (Kw m))
theorem avm(m:Nat):bB aev (g97 m):=gu [0] (avl m) ⟨(arR m),trivial⟩ (aFZ (Kw m))
variable (G97:ax TG)
abbrev H9(α:Type):Type:=(aA->Option α)->Option α
def az2:H9 α:=λa=>a [1,0,0,0,0,0]
def uj(m:Nat):H9 α:=az2
def Ky:bR H9:=⟨98,[],[],λG ls k=>G
  (λa=>k (.vl (.agg [(bX a)])) [] [])⟩
def avn:Hd:=⟨bZ,cO,cZ⟩
theorem aF1:dz Ky (az2) (avn) Tryz.f98:=λ_ _ _=>by kernel_rfl
theorem aF0(m:Nat):(avn).ah bE:=cK
theorem Wu(m:Nat):bB Ky (uj m):=bT (aF0 m) (aF1)
variable (G98:ax H9)
abbrev H_(α:Type):Type:=aA->Int->(aA->Option α)->Option α
abbrev Gb(α:Type):Type:=Int->aA->Option α
abbrev acp(α β:Type):Type:=Int->Int->aA->aA->(aA->Option α)->β
abbrev wE(α:Type):Type:=acp α (Gb α)
def RO:acp α (Gb α->Gb α):=λa b c d e h i j=>cond (decide (i>=a)) (let l:Int:=IntKind.wrap .i64 (i-a);if 0<=l/\l<(6:Nat) then if l.toNat<6 then if b<0 then none else if 0<=i/\i<(6:Nat) then if i.toNat<6 then let n:List Int:=List.set j (i.toNat) (IntKind.wrap .u32 ((List.getD c l.toNat 0)*2^(min b.toNat 32)));cond (decide (b>0)) (cond (decide (i>a)) (if 0<=i/\i<(6:Nat) then if i.toNat<6 then let o:Int:=IntKind.wrap .i64 ((IntKind.wrap .i64 (i-a))-1);if 0<=o/\o<(6:Nat) then if o.toNat<6 then let p:Int:=IntKind.wrap .i64 (32-b);if p<0 then none else if 0<=i/\i<(6:Nat) then if i.toNat<6 then h (IntKind.wrap .i64 (i-1)) (List.set n (i.toNat) (dJ .or .u32 (List.getD n i.toNat 0) (Int.fdiv (List.getD c o.toNat 0) (2^(min p.toNat 32))))) else none else none else none else none else none else none) (h (IntKind.wrap .i64 (i-1)) n)) (h (IntKind.wrap .i64 (i-1)) n) else none else none else none else none) (e j)
def Bq(a b:Int)(c:aA)(d:aA)(e:aA->Option α):Nat->Gb α
 |0=>λ_ _=>none
 |m+1=>λh i=>RO a b c d e (Bq a b c d e m) h i
def aey(m n:Nat):wE α:=λa b c d e h i=>Bq a b c d e n h i
def Kz(m:Nat):wE α:=aey m m
def RN:jh wE:=⟨0,⟨50,[],[2,4,5,6,7,8],[1000000,1000001,1000002],[(bL 1000000),(bL 1000001),(bL 1000002),bD,bD,bD],[(true,[(.seq aC 6)]),(true,[(.seq aC 6)]),(true,[(.seq aC 6)])],[(2,[4,5])]⟩,λL ls k=>L (aI ls 0) (aI ls 1) ((lf ls 3).ak aC) ((lf ls 4).ak aC) (λa=>k .normal (bG 50 [4,5] [(gL 1000000),(gL 1000001)] [1000000,1000001] [(true,[(bX ((lf ls 4).ak aC))]),(true,[(bX a)])])) (aI ls 2) ((lf ls 5).ak aC)⟩
def arV(r:wE α):wE α:=λa b c d e h i=>RO a b c d e (r a b c d e) h i
variable (L99l0:ax wE)
def az3:H_ α:=λa b c=>L99l0 (IntKind.wrap .i64 (Int.tdiv b 32)) (Int.tmod b 32) a [0,0,0,0,0,0] (λd=>c d) 5 [0,0,0,0,0,0]
def pK(m:Nat):H_ α:=az3 (Kz m)
def ES:bR H_:=⟨99,[(.vl (.agg [(.seq aC 6)])),bD],[],λG ls k=>G ((lf ls 0).ak aC) (aI ls 1)
  (λa=>k (.vl (.agg [(bX a)])) [] [])⟩
def anr:Hd:=⟨bZ,jD 0 (aS RN L99l0)<|cO,cZ⟩
theorem arW:jq RN (arV) (anr L99l0) Tryz.f99:=λ_ _ _ _=>by kernel_rfl
theorem aF2:dz ES (az3 L99l0) (anr L99l0) Tryz.f99:=λ_ _ _=>by kernel_rfl
theorem avp(m:Nat):(anr (Kz m)).ah bE:=cK
theorem arU(m:Nat):jg (aS RN (Kz m)) 0 Tryz.f99:=
 jy [] (λn=>aey m n) m (avp m) trivial (arW (Kz m))
theorem N8(m:Nat):bB ES (pK m):=gu [0] (avp m) ⟨(arU m),trivial⟩ (aF2 (Kz m))
variable (G99:ax H_)
abbrev Hf(α:Type):Type:=aA->aA->(aA->Option α)->Option α
abbrev zA(α:Type):Type:=Int->Int->aA->Option α
abbrev TH(α β:Type):Type:=aA->aA->(aA->Option α)->β
abbrev pV(α:Type):Type:=TH α (zA α)
def acX:TH α (zA α->zA α):=λa b c d e h i=>cond (decide (h<6)) (if 0<=h/\h<(6:Nat) then if h.toNat<6 then if 0<=h/\h<(6:Nat) then if h.toNat<6 then let j:Int:=IntKind.wrap .u64 ((IntKind.wrap .u64 ((IntKind.wrap .u64 (List.getD i h.toNat 0))-(IntKind.wrap .u64 (List.getD a h.toNat 0))))-e);if 0<=h/\h<(6:Nat) then if h.toNat<6 then d (Int.fdiv j (2^63)) (IntKind.wrap .i64 (h+1)) (List.set i (h.toNat) (IntKind.wrap .u32 j)) else none else none else none else none else none else none) (c i)
def ahZ(a:aA)(b:aA)(c:aA->Option α):Nat->zA α
 |0=>λ_ _ _=>none
 |m+1=>λd e h=>acX a b c (ahZ a b c m) d e h
def Va(m n:Nat):pV α:=λa b c d e h=>ahZ a b c n d e h
def Ay(m:Nat):pV α:=Va m m
def I7:jh pV:=⟨0,⟨30,[],[2,3,4,5,8],[1000000,1000001,1000002],[(bL 1000000),(bL 1000001),(bL 1000002),(.vl (.sv (.int .u64))),bD],[(true,[(.seq aC 6)]),(true,[(.seq aC 6)]),(true,[(.seq aC 6)])],[(2,[2,4])]⟩,λL ls k=>L ((lf ls 3).ak aC) ((lf ls 4).ak aC) (λa=>k .normal (bG 30 [2,4] [(gL 1000000),(gL 1000001)] [1000000,1000001] [(true,[(bX a)]),(true,[(bX ((lf ls 4).ak aC))])])) (aI ls 0) (aI ls 1) ((lf ls 2).ak aC)⟩
def ah1(r:pV α):pV α:=λa b c d e h=>acX a b c (r a b c) d e h
variable (L100l0:ax pV)
def as0:Hf α:=λa b c=>L100l0 b [0,0,0,0,0,0] (λd=>c d) 0 0 a
def kY(m:Nat):Hf α:=as0 (Ay m)
def CX:bR Hf:=⟨100,[(.vl (.agg [(.seq aC 6)])),(.vl (.agg [(.seq aC 6)]))],[],λG ls k=>G ((lf ls 0).ak aC) ((lf ls 1).ak aC)
  (λa=>k (.vl (.agg [(bX a)])) [] [])⟩
def YF:Hd:=⟨bZ,jD 0 (aS I7 L100l0)<|cO,cZ⟩
theorem ah2:jq I7 (ah1) (YF L100l0) Tryz.f100:=λ_ _ _ _=>by kernel_rfl
theorem awg:dz CX (as0 L100l0) (YF L100l0) Tryz.f100:=λ_ _ _=>by kernel_rfl
theorem ahY(m:Nat):(YF (Ay m)).ah bE:=cK
theorem ah0(m:Nat):jg (aS I7 (Ay m)) 0 Tryz.f100:=
 jy [] (λn=>Va m n) m (ahY m) trivial (ah2 (Ay m))
theorem Qk(m:Nat):bB CX (kY m):=gu [0] (ahY m) ⟨(ah0 m),trivial⟩ (awg (Ay m))
variable (G100:ax Hf)
abbrev rF(α:Type):Type:=aA->aA->(Int->Option α)->Option α
abbrev zB(α:Type):Type:=Int->Option α
abbrev TI(α β:Type):Type:=aA->aA->(Int->Option α)->(Option α)->β
abbrev pW(α:Type):Type:=TI α (zB α)
def acY:TI α (zB α->zB α):=λa b c d e h=>cond (decide (h>=0)) (if 0<=h/\h<(6:Nat) then if h.toNat<6 then if 0<=h/\h<(6:Nat) then if h.toNat<6 then cond ((List.getD a h.toNat 0) !=(List.getD b h.toNat 0)) (if 0<=h/\h<(6:Nat) then if h.toNat<6 then if 0<=h/\h<(6:Nat) then if h.toNat<6 then cond (decide ((List.getD a h.toNat 0)<(List.getD b h.toNat 0))) (c (-1)) (c 1) else none else none else none else none) (e (IntKind.wrap .i64 (h-1))) else none else none else none else none) (d)
def ah4(a:aA)(b:aA)(c:Int->Option α)(d:Option α):Nat->zB α
 |0=>λ_=>none
 |m+1=>λe=>acY a b c d (ah4 a b c d m) e
def Vb(m n:Nat):pW α:=λa b c d e=>ah4 a b c d n e
def AA(m:Nat):pW α:=Vb m m
def I8:jh pW:=⟨0,⟨24,[],[2,3,5],[1000000,1000001],[(bL 1000000),(bL 1000001),bD],[(true,[(.seq aC 6)]),(true,[(.seq aC 6)])],[(1,[4]),(2,[])]⟩,λL ls k=>L ((lf ls 1).ak aC) ((lf ls 2).ak aC) (λa=>k .ret (bG 24 [4] [(xE a)] [] [])) (k .normal (bG 24 [] [] [] [])) (aI ls 0)⟩
def ah6(r:pW α):pW α:=λa b c d e=>acY a b c d (r a b c d) e
variable (L101l0:ax pW)
def as1:rF α:=λa b c=>L101l0 a b (λd=>c d) (c 0) 5
def eU(m:Nat):rF α:=as1 (AA m)
def r_:bR rF:=⟨101,[(.vl (.agg [(.seq aC 6)])),(.vl (.agg [(.seq aC 6)]))],[],λG ls k=>G ((lf ls 0).ak aC) ((lf ls 1).ak aC)
  (λa=>k (xE a) [] [])⟩
def YG:Hd:=⟨bZ,jD 0 (aS I8 L101l0)<|cO,cZ⟩
theorem ah7:jq I8 (ah6) (YG L101l0) Tryz.f101:=λ_ _ _ _=>by kernel_rfl
theorem awi:dz r_ (as1 L101l0) (YG L101l0) Tryz.f101:=λ_ _ _=>by kernel_rfl
theorem ah3(m:Nat):(YG (AA m)).ah bE:=cK
theorem ah5(m:Nat):jg (aS I8 (AA m)) 0 Tryz.f101:=
 jy [] (λn=>Vb m n) m (ah3 m) trivial (ah7 (AA m))
theorem yB(m:Nat):bB r_ (eU m):=gu [0] (ah3 m) ⟨(ah5 m),trivial⟩ (awi (AA m))
variable (G101:ax rF)
abbrev xX(α:Type):Type:=aA->aA->(aA->Bool->Option α)->Option α
abbrev zC(α:Type):Type:=Int->Int->aA->Option α
abbrev TJ(α β:Type):Type:=aA->aA->(Int->aA->Option α)->β
abbrev pX(α:Type):Type:=TJ α (zC α)
def acZ:TJ α (zC α->zC α):=λa b c d e h i=>cond (decide (h<6)) (if 0<=h/\h<(6:Nat) then if h.toNat<6 then if 0<=h/\h<(6:Nat) then if h.toNat<6 then let j:Int:=IntKind.wrap .u64 (e+(IntKind.wrap .u64 ((IntKind.wrap .u64 (List.getD i h.toNat 0))+(IntKind.wrap .u64 (List.getD a h.toNat 0)))));if 0<=h/\h<(6:Nat) then if h.toNat<6 then d (Int.fdiv j (2^32)) (IntKind.wrap .i64 (h+1)) (List.set i (h.toNat) (IntKind.wrap .u32 j)) else none else none else none else none else none else none) (c e i)
def ah9(a:aA)(b:aA)(c:Int->aA->Option α):Nat->zC α
 |0=>λ_ _ _=>none
 |m+1=>λd e h=>acZ a b c (ah9 a b c m) d e h
def Ve(m n:Nat):pX α:=λa b c d e h=>ah9 a b c n d e h
def AB(m:Nat):pX α:=Ve m m
def I9:jh pX:=⟨0,⟨32,[],[2,3,4,6,8],[1000000,1000001,1000002],[(bL 1000000),(bL 1000001),(bL 1000002),(.vl (.sv (.int .u64))),bD],[(true,[(.seq aC 6)]),(true,[(.seq aC 6)]),(true,[(.seq aC 6)])],[(2,[2,4,6])]⟩,λL ls k=>L ((lf ls 3).ak aC) ((lf ls 4).ak aC) (λa b=>k .normal (bG 32 [2,4,6] [(gL 1000000),(gL 1000001),(.vl (.sv (.int .u64 a)))] [1000000,1000001] [(true,[(bX b)]),(true,[(bX ((lf ls 4).ak aC))])])) (aI ls 0) (aI ls 1) ((lf ls 2).ak aC)⟩
def aia(r:pX α):pX α:=λa b c d e h=>acZ a b c (r a b c) d e h
variable (L102l0:ax pX)
def as2:xX α:=λa b c=>L102l0 b [0,0,0,0,0,0] (λd e=>c e (d !=0)) 0 0 a
def jl(m:Nat):xX α:=as2 (AB m)
def CY:bR xX:=⟨102,[(.vl (.agg [(.seq aC 6)])),(.vl (.agg [(.seq aC 6)]))],[],λG ls k=>G ((lf ls 0).ak aC) ((lf ls 1).ak aC)
  (λa b=>k (.iO [(.agg [(bX a)]),(.sv (.bool b))]) [] [])⟩
def YH:Hd:=⟨bZ,jD 0 (aS I9 L102l0)<|cO,cZ⟩
theorem aib:jq I9 (aia) (YH L102l0) Tryz.f102:=λ_ _ _ _=>by kernel_rfl
theorem awk:dz CY (as2 L102l0) (YH L102l0) Tryz.f102:=λ_ _ _=>by kernel_rfl
theorem ah8(m:Nat):(YH (AB m)).ah bE:=cK
theorem ah_(m:Nat):jg (aS I9 (AB m)) 0 Tryz.f102:=
 jy [] (λn=>Ve m n) m (ah8 m) trivial (aib (AB m))
theorem Ql(m:Nat):bB CY (jl m):=gu [0] (ah8 m) ⟨(ah_ m),trivial⟩ (awk (AB m))
variable (G102:ax xX)
abbrev ag4(α:Type):Type:=Bool->aA->Int->Bool->(Bool->aA->Bool->Option α)->Option α
def aq1:ag4 α:=λa b c d e=>cond (decide (c>191)) (e false [0,0,0,0,0,0] true) (G97 b c (λh=>cond (c==0) (e a b d) (G98 (λi=>G99 i (IntKind.wrap .i64 (c-1)) (λj=>G99 h c (λl=>G100 b l (λn=>G101 n j (λo=>cond (decide (o>0)) (G98 (λp=>G102 h p (λq r=>G65 a q (λs=>e s q d)))) (cond (o==0) (cond (!a) (G98 (λt=>G102 h t (λu v=>G65 a u (λw=>e w u d)))) (G65 a h (λx=>e x h d))) (G65 a h (λy=>e y h d)))))))))))
def g63(m:Nat):ag4 α:=aq1 (iI m) (g97 m) (uj m) (pK m) (kY m) (eU m) (jl m)
variable (G63:ax ag4)
abbrev Hl(α:Type):Type:=aA->(Int->Option α)->Option α
abbrev zK(α:Type):Type:=Int->Option α
abbrev TS(α β:Type):Type:=aA->(Int->Option α)->(Option α)->β
abbrev qd(α:Type):Type:=TS α (zK α)
def ac4:TS α (zK α->zK α):=λa b c d e=>cond (decide (e>=0)) (if 0<=e/\e<(6:Nat) then if e.toNat<6 then cond ((List.getD a e.toNat 0) !=0) (if 0<=e/\e<(6:Nat) then if e.toNat<6 then G158 (List.getD a e.toNat 0) (λh=>b (IntKind.wrap .i64 ((IntKind.wrap .i64 (32*e))+h))) else none else none) (d (IntKind.wrap .i64 (e-1))) else none else none) (c)
def aiT(a:aA)(b:Int->Option α)(c:Option α):Nat->zK α
 |0=>λ_=>none
 |m+1=>λd=>ac4 G158 a b c (aiT a b c m) d
def Vm(m n:Nat):qd α:=λa b c d=>aiT (ug m) a b c n d
def AL(m:Nat):qd α:=Vm m m
def Ji:jh qd:=⟨0,⟨19,[],[1,3],[1000000],[(bL 1000000),bD],[(true,[(.seq aC 6)])],[(1,[2]),(2,[])]⟩,λL ls k=>L ((lf ls 1).ak aC) (λa=>k .ret (bG 19 [2] [(xE a)] [] [])) (k .normal (bG 19 [] [] [] [])) (aI ls 0)⟩
def aiV(r:qd α):qd α:=λa b c d=>ac4 G158 a b c (r a b c) d
variable (L113l0:ax qd)
def as6:Hl α:=λa b=>L113l0 a (λc=>b c) (b 0) 5
def nM(m:Nat):Hl α:=as6 (AL m)
def C8:bR Hl:=⟨113,[(.vl (.agg [(.seq aC 6)]))],[],λG ls k=>G ((lf ls 0).ak aC)
  (λa=>k (xE a) [] [])⟩
def YM:Hd:=⟨aL 158 (aK QU G158)<|bZ,jD 0 (aS Ji L113l0)<|cO,cZ⟩
theorem aiW:jq Ji (aiV G158) (YM G158 L113l0) Tryz.f113:=λ_ _ _ _=>by kernel_rfl
theorem awH:dz C8 (as6 L113l0) (YM G158 L113l0) Tryz.f113:=λ_ _ _=>by kernel_rfl
theorem aiS(m:Nat):(YM (ug m) (AL m)).ah bE:=(aM (ak2 m) cK)
theorem aiU(m:Nat):jg (aS Ji (AL m)) 0 Tryz.f113:=
 jy [] (λn=>Vm m n) m (aiS m) trivial (aiW (ug m) (AL m))
theorem Qt(m:Nat):bB C8 (nM m):=gu [0] (aiS m) ⟨(aiU m),trivial⟩ (awH (ug m) (AL m))
variable (G113:ax Hl)
abbrev mo(α:Type):Type:=aA->Int->(aA->Int->Option α)->Option α
abbrev zD(α:Type):Type:=Int->Int->aA->Option α
abbrev TK(α β:Type):Type:=Int->aA->(Int->aA->Option α)->β
abbrev pY(α:Type):Type:=TK α (zD α)
def Gj:TK α (zD α->zD α):=λa b c d e h i=>cond (decide (h>=0)) (if 0<=h/\h<(6:Nat) then if h.toNat<6 then let j:Int:=dJ .or .u64 (IntKind.wrap .u64 (e*2^32)) (IntKind.wrap .u64 (List.getD i h.toNat 0));let l:Int:=IntKind.wrap .u64 a;if l=0 then none else if 0<=h/\h<(6:Nat) then if h.toNat<6 then let n:Int:=IntKind.wrap .u64 a;if n=0 then none else d (Int.tmod j n) (IntKind.wrap .i64 (h-1)) (List.set i (h.toNat) (IntKind.wrap .u32 (IntKind.wrap .u64 (Int.tdiv j l)))) else none else none else none else none) (c e i)
def uK(a:Int)(b:aA)(c:Int->aA->Option α):Nat->zD α
 |0=>λ_ _ _=>none
 |m+1=>λd e h=>Gj a b c (uK a b c m) d e h
def Vf(m n:Nat):pY α:=λa b c d e h=>uK a b c n d e h
def AJ(m:Nat):pY α:=Vf m m
def I_:jh pY:=⟨0,⟨33,[],[1,2,4,6,7],[1000000,1000001],[(.vl (.sv (.int .u32))),(bL 1000000),(bL 1000001),(.vl (.sv (.int .u64))),bD],[(true,[(.seq aC 6)]),(true,[(.seq aC 6)])],[(2,[2,4,6])]⟩,λL ls k=>L (aI ls 0) ((lf ls 4).ak aC) (λa b=>k .normal (bG 33 [2,4,6] [(gL 1000000),(gL 1000001),(.vl (.sv (.int .u64 a)))] [1000000,1000001] [(true,[(bX b)]),(true,[(bX ((lf ls 4).ak aC))])])) (aI ls 1) (aI ls 2) ((lf ls 3).ak aC)⟩
def aij(r:pY α):pY α:=λa b c d e h=>Gj a b c (r a b c) d e h
variable (L104l0:ax pY)
def as3:mo α:=λa b c=>L104l0 b [0,0,0,0,0,0] (λd e=>c e (IntKind.wrap .u32 d)) 0 5 a
def iA(m:Nat):mo α:=as3 (AJ m)
def CZ:bR mo:=⟨104,[(.vl (.agg [(.seq aC 6)])),(.vl (.sv (.int .u32)))],[],λG ls k=>G ((lf ls 0).ak aC) (aI ls 1)
  (λa b=>k (.iO [(.agg [(bX a)]),(.sv (.int .u32 b))]) [] [])⟩
def YJ:Hd:=⟨bZ,jD 0 (aS I_ L104l0)<|cO,cZ⟩
theorem aik:jq I_ (aij) (YJ L104l0) Tryz.f104:=λ_ _ _ _=>by kernel_rfl
theorem awo:dz CZ (as3 L104l0) (YJ L104l0) Tryz.f104:=λ_ _ _=>by kernel_rfl
theorem aie(m:Nat):(YJ (AJ m)).ah bE:=cK
theorem aii(m:Nat):jg (aS I_ (AJ m)) 0 Tryz.f104:=
 jy [] (λn=>Vf m n) m (aie m) trivial (aik (AJ m))
theorem Qn(m:Nat):bB CZ (iA m):=gu [0] (aie m) ⟨(aii m),trivial⟩ (awo (AJ m))
variable (G104:ax mo)
abbrev Py(α:Type):Type:=Int->(Int->Option α)->Option α
def atG:Py α:=λa b=>G158 a (λc=>b (IntKind.wrap .i64 (32-c)))
def ZP(m:Nat):Py α:=atG (ug m)
def ZQ:bR Py:=⟨202,[(.vl (.sv (.int .u32)))],[],λG ls k=>G (aI ls 0)
  (λa=>k (xE a) [] [])⟩
def alS:Hd:=⟨aL 158 (aK QU G158)<|bZ,cO,cZ⟩
theorem ayN:dz ZQ (atG G158) (alS G158) Tryz.f202:=λ_ _ _=>by kernel_rfl
theorem ayL(m:Nat):(alS (ug m)).ah bE:=(aM (ak2 m) cK)
theorem ayM(m:Nat):bB ZQ (ZP m):=bT (ayL m) (ayN (ug m))
variable (G202:ax Py)
abbrev Pz(α:Type):Type:=Nat->Nat->Nat->Nat->Nat->Nat->aA->aA->(Int->aA->Option α)->Option α
abbrev Ac(α:Type):Type:=Int->Int->Option α
abbrev Um(α β:Type):Type:=Nat->Nat->Nat->Nat->Nat->Nat->Int->aA->aA->(Int->Option α)->β
abbrev qG(α:Type):Type:=Um α (Ac α)
def Q9:Um α (Ac α->Ac α):=λa b c d e h i j l n o p q=>cond ((Int.fdiv p (2^32)) !=0) (let r:Int:=IntKind.wrap .u64 (p-1);let s:Int:=IntKind.wrap .i64 (i-1);if 0<=s/\s<(e:Nat) then if(d+s.toNat)<6 then let t:Int:=IntKind.wrap .u64 (q+(IntKind.wrap .u64 (List.getD l (d+s.toNat) 0)));cond ((Int.fdiv t (2^32)) !=0) (n r) (o r t) else none else none) (let u:Int:=IntKind.wrap .i64 (i-2);if 0<=u/\u<(e:Nat) then if(d+u.toNat)<6 then let v:Int:=IntKind.wrap .i64 (i-2);if 0<=v/\v<(b:Nat) then if(a+v.toNat)<7 then cond (decide ((IntKind.wrap .u64 (p*(IntKind.wrap .u64 (List.getD l (d+u.toNat) 0))))>(dJ .or .u64 (IntKind.wrap .u64 (q*2^32)) (IntKind.wrap .u64 (List.getD j (a+v.toNat) 0))))) (let w:Int:=IntKind.wrap .u64 (p-1);let x:Int:=IntKind.wrap .i64 (i-1);if 0<=x/\x<(e:Nat) then if(d+x.toNat)<6 then let y:Int:=IntKind.wrap .u64 (q+(IntKind.wrap .u64 (List.getD l (d+x.toNat) 0)));cond ((Int.fdiv y (2^32)) !=0) (n w) (o w y) else none else none) (n p) else none else none else none else none)
def yL(a b:Nat)(c d:Nat)(e h:Nat)(i:Int)(j:aA)(l:aA)(n:Int->Option α):Nat->Ac α
 |0=>λ_ _=>none
 |m+1=>λo p=>Q9 a b c d e h i j l n (yL a b c d e h i j l n m) o p
def alU(m n:Nat):qG α:=λa b c d e h i j l o p q=>yL a b c d e h i j l o n p q
def oM(m:Nat):qG α:=λa b c d e h i j l n o p=>yL a b c d e h i j l n m o p
def JZ:jh qG:=⟨0,⟨170,[0,1],[0,1,5,7,8],[0,1],[(.vl (.sv (.eX 0 0 1))),(.vl (.sv (.eX 1 0 1))),bD,(.vl (.sv (.int .u64))),(.vl (.sv (.int .u64)))],[(true,[(.seq aC 7)]),(false,[(.seq aC 6)])],[(2,[0,1,5,7])]⟩,λL ls k=>L (aO ls 0) (aO ls 1) (aO ls 2) (aO ls 3) (aO ls 4) (aO ls 5) (aI ls 6) ((lf ls 9).ak aC) ((lf ls 10).ak aC) (λa=>k .normal (bG 170 [0,1,5,7] [(.vl (.sv (.eX 0 0 1 (aO ls 0) (aO ls 1) (aO ls 2)))),(.vl (.sv (.eX 1 0 1 (aO ls 3) (aO ls 4) (aO ls 5)))),(.vl (.sv (.int .i64 (aI ls 6)))),(.vl (.sv (.int .u64 a)))] [0,1] [(true,[(.seq aC 7 ((lf ls 9).ak aC))]),(false,[(bX ((lf ls 10).ak aC))])])) (aI ls 7) (aI ls 8)⟩
def alW(r:qG α):qG α:=λa b c d e h i j l n o p=>Q9 a b c d e h i j l n (r a b c d e h i j l n) o p
variable (L203l0:ax qG)
abbrev Ad(α:Type):Type:=Int->Int->Int->aA->Option α
abbrev Un(α β:Type):Type:=Nat->Nat->Nat->Nat->Nat->Nat->Int->Int->Int->aA->(Int->Int->aA->Option α)->β
abbrev qH(α:Type):Type:=Un α (Ad α)
def Gq:Un α (Ad α->Ad α):=λa b c d e h i j l n o p q r s t=>cond (decide (s<l)) (if 0<=s/\s<(e:Nat) then if(d+s.toNat)<6 then let u:Int:=IntKind.wrap .u64 (r+(IntKind.wrap .u64 (j*(IntKind.wrap .u64 (List.getD n (d+s.toNat) 0)))));if 0<=s/\s<(b:Nat) then if(a+s.toNat)<7 then let v:Int:=IntKind.wrap .u64 ((IntKind.wrap .u64 ((IntKind.wrap .u64 (List.getD t (a+s.toNat) 0))-(dJ .and .u64 u 4294967295)))-q);if 0<=s/\s<(b:Nat) then if(a+s.toNat)<7 then p (Int.fdiv v (2^63)) (Int.fdiv u (2^32)) (IntKind.wrap .i64 (s+1)) (List.set t (a+s.toNat) (IntKind.wrap .u32 v)) else none else none else none else none else none else none) (o q r t)
def sF(a b:Nat)(c d:Nat)(e h:Nat)(i j l:Int)(n:aA)(o:Int->Int->aA->Option α):Nat->Ad α
 |0=>λ_ _ _ _=>none
 |m+1=>λp q r s=>Gq a b c d e h i j l n o (sF a b c d e h i j l n o m) p q r s
def alY(m n:Nat):qH α:=λa b c d e h i j l o p q r s t=>sF a b c d e h i j l o p n q r s t
def oN(m:Nat):qH α:=λa b c d e h i j l n o p q r s=>sF a b c d e h i j l n o m p q r s
def J2:jh qH:=⟨2,⟨170,[0,1],[0,1,5,7,9,10,82,83],[0,1],[(.vl (.sv (.eX 0 0 1))),(.vl (.sv (.eX 1 0 1))),bD,(.vl (.sv (.int .u64))),(.vl (.sv (.int .u64))),(.vl (.sv (.int .u64))),bD,bD],[(true,[(.seq aC 7)]),(false,[(.seq aC 6)])],[(4,[0,1,5,7,9,10])]⟩,λL ls k=>L (aO ls 0) (aO ls 1) (aO ls 2) (aO ls 3) (aO ls 4) (aO ls 5) (aI ls 6) (aI ls 7) (aI ls 10) ((lf ls 13).ak aC) (λa b c=>k .normal (bG 170 [0,1,5,7,9,10] [(.vl (.sv (.eX 0 0 1 (aO ls 0) (aO ls 1) (aO ls 2)))),(.vl (.sv (.eX 1 0 1 (aO ls 3) (aO ls 4) (aO ls 5)))),(.vl (.sv (.int .i64 (aI ls 6)))),(.vl (.sv (.int .u64 (aI ls 7)))),(.vl (.sv (.int .u64 a))),(.vl (.sv (.int .u64 b)))] [0,1] [(true,[(.seq aC 7 c)]),(false,[(bX ((lf ls 13).ak aC))])])) (aI ls 8) (aI ls 9) (aI ls 11) ((lf ls 12).ak aC)⟩
def al0(r:qH α):qH α:=λa b c d e h i j l n o p q s t=>Gq a b c d e h i j l n o (r a b c d e h i j l n o) p q s t
variable (L203l2:ax qH)
abbrev Ae(α:Type):Type:=Int->Int->aA->Option α
abbrev Uo(α β:Type):Type:=Nat->Nat->Nat->Nat->Nat->Nat->Int->Int->Int->aA->(Int->aA->Option α)->β
abbrev qI(α:Type):Type:=Uo α (Ae α)
def Gr:Uo α (Ae α->Ae α):=λa b c d e h i j l n o p q r s=>cond (decide (r<l)) (if 0<=r/\r<(b:Nat) then if(a+r.toNat)<7 then if 0<=r/\r<(e:Nat) then if(d+r.toNat)<6 then let t:Int:=IntKind.wrap .u64 (q+(IntKind.wrap .u64 ((IntKind.wrap .u64 (List.getD s (a+r.toNat) 0))+(IntKind.wrap .u64 (List.getD n (d+r.toNat) 0)))));if 0<=r/\r<(b:Nat) then if(a+r.toNat)<7 then p (Int.fdiv t (2^32)) (IntKind.wrap .i64 (r+1)) (List.set s (a+r.toNat) (IntKind.wrap .u32 t)) else none else none else none else none else none else none) (o q s)
def sG(a b:Nat)(c d:Nat)(e h:Nat)(i j l:Int)(n:aA)(o:Int->aA->Option α):Nat->Ae α
 |0=>λ_ _ _=>none
 |m+1=>λp q r=>Gr a b c d e h i j l n o (sG a b c d e h i j l n o m) p q r
def al2(m n:Nat):qI α:=λa b c d e h i j l o p q r s=>sG a b c d e h i j l o p n q r s
def oO(m:Nat):qI α:=λa b c d e h i j l n o p q r=>sG a b c d e h i j l n o m p q r
def J3:jh qI:=⟨4,⟨170,[0,1],[0,1,5,7,10,134,135],[0,1],[(.vl (.sv (.eX 0 0 1))),(.vl (.sv (.eX 1 0 1))),bD,(.vl (.sv (.int .u64))),(.vl (.sv (.int .u64))),bD,bD],[(true,[(.seq aC 7)]),(false,[(.seq aC 6)])],[(6,[0,5,7,10])]⟩,λL ls k=>L (aO ls 0) (aO ls 1) (aO ls 2) (aO ls 3) (aO ls 4) (aO ls 5) (aI ls 6) (aI ls 7) (aI ls 9) ((lf ls 12).ak aC) (λa b=>k .normal (bG 170 [0,5,7,10] [(.vl (.sv (.eX 0 0 1 (aO ls 0) (aO ls 1) (aO ls 2)))),(.vl (.sv (.int .i64 (aI ls 6)))),(.vl (.sv (.int .u64 (aI ls 7)))),(.vl (.sv (.int .u64 a)))] [0,1] [(true,[(.seq aC 7 b)]),(false,[(bX ((lf ls 12).ak aC))])])) (aI ls 8) (aI ls 10) ((lf ls 11).ak aC)⟩
def al4(r:qI α):qI α:=λa b c d e h i j l n o p q s=>Gr a b c d e h i j l n o (r a b c d e h i j l n o) p q s
variable (L203l4:ax qI)
def alT:Pz α:=λa b c d e h i j l=>if 0<=((e:Nat):Int)/\((e:Nat):Int)<(b:Nat) then if(a+((e:Nat):Int).toNat)<7 then let n:Int:=IntKind.wrap .i64 (((e:Nat):Int)-1);if 0<=n/\n<(b:Nat) then if(a+n.toNat)<7 then let o:Int:=dJ .or .u64 (IntKind.wrap .u64 ((IntKind.wrap .u64 (List.getD i (a+((e:Nat):Int).toNat) 0))*2^32)) (IntKind.wrap .u64 (List.getD i (a+n.toNat) 0));let p:Int:=IntKind.wrap .i64 (((e:Nat):Int)-1);if 0<=p/\p<(e:Nat) then if(d+p.toNat)<6 then let q:Int:=IntKind.wrap .u64 (List.getD j (d+p.toNat) 0);if q=0 then none else let r:Int:=IntKind.wrap .i64 (((e:Nat):Int)-1);if 0<=r/\r<(e:Nat) then if(d+r.toNat)<6 then let s:Int:=IntKind.wrap .u64 (List.getD j (d+r.toNat) 0);if s=0 then none else L203l0 a b c d e h ((e:Nat):Int) i j (λt=>L203l2 a b c d e h ((e:Nat):Int) t ((e:Nat):Int) j (λu v w=>if 0<=((e:Nat):Int)/\((e:Nat):Int)<(b:Nat) then if(a+((e:Nat):Int).toNat)<7 then let x:Int:=IntKind.wrap .u64 ((IntKind.wrap .u64 ((IntKind.wrap .u64 (List.getD w (a+((e:Nat):Int).toNat) 0))-v))-u);if 0<=((e:Nat):Int)/\((e:Nat):Int)<(b:Nat) then if(a+((e:Nat):Int).toNat)<7 then let y:List Int:=List.set w (a+((e:Nat):Int).toNat) (IntKind.wrap .u32 x);cond ((Int.fdiv x (2^63))==0) (l (IntKind.wrap .u32 t) y) (L203l4 a b c d e h ((e:Nat):Int) t ((e:Nat):Int) j (λz a0=>if 0<=((e:Nat):Int)/\((e:Nat):Int)<(b:Nat) then if(a+((e:Nat):Int).toNat)<7 then if 0<=((e:Nat):Int)/\((e:Nat):Int)<(b:Nat) then if(a+((e:Nat):Int).toNat)<7 then l (IntKind.wrap .u32 (IntKind.wrap .u64 (t-1))) (List.set a0 (a+((e:Nat):Int).toNat) (IntKind.wrap .u32 ((List.getD a0 (a+((e:Nat):Int).toNat) 0)+(IntKind.wrap .u32 z)))) else none else none else none else none) 0 0 y) else none else none else none else none) 0 0 0 i) (IntKind.wrap .u64 (Int.tdiv o q)) (Int.tmod o s) else none else none else none else none else none else none else none else none
def JX(m:Nat):Pz α:=alT (oM m) (oN m) (oO m)
def ZR:bR Pz:=⟨203,[(.vl (.sv (.eX 0 0 1))),(.vl (.sv (.eX 1 0 1)))],[(true,[(.seq aC 7)]),(false,[(.seq aC 6)])],λG ls k=>G (aO ls 0) (aO ls 1) (aO ls 2) (aO ls 3) (aO ls 4) (aO ls 5) ((lf ls 6).ak aC) ((lf ls 7).ak aC)
  (λa b=>k (.vl (.sv (.int .u32 a))) [[(.seq aC 7 b)],[(bX ((lf ls 7).ak aC))]] [])⟩
def JY:Hd:=⟨bZ,jD 0 (aS JZ L203l0)<|jD 2 (aS J2 L203l2)<|jD 4 (aS J3 L203l4)<|cO,cZ⟩
theorem alX:jq JZ (alW) (JY L203l0 L203l2 L203l4) Tryz.f203:=λ_ _ _ _=>by kernel_rfl
theorem al1:jq J2 (al0) (JY L203l0 L203l2 L203l4) Tryz.f203:=λ_ _ _ _=>by kernel_rfl
theorem al5:jq J3 (al4) (JY L203l0 L203l2 L203l4) Tryz.f203:=λ_ _ _ _=>by kernel_rfl
theorem ayP:dz ZR (alT L203l0 L203l2 L203l4) (JY L203l0 L203l2 L203l4) Tryz.f203:=λ_ _ _=>by kernel_rfl
theorem Q8(m:Nat):(JY (oM m) (oN m) (oO m)).ah bE:=cK
theorem alV(m:Nat):jg (aS JZ (oM m)) 0 Tryz.f203:=
 jy [] (λn=>alU m n) m (Q8 m) trivial (alX (oM m) (oN m) (oO m))
theorem alZ(m:Nat):jg (aS J2 (oN m)) 2 Tryz.f203:=
 jy [] (λn=>alY m n) m (Q8 m) trivial (al1 (oM m) (oN m) (oO m))
theorem al3(m:Nat):jg (aS J3 (oO m)) 4 Tryz.f203:=
 jy [] (λn=>al2 m n) m (Q8 m) trivial (al5 (oM m) (oN m) (oO m))
theorem ayO(m:Nat):bB ZR (JX m):=gu [0,2,4] (Q8 m) ⟨(alV m),(alZ m),(al3 m),trivial⟩ (ayP (oM m) (oN m) (oO m))
variable (G203:ax Pz)
abbrev Px(α:Type):Type:=aA->aA->(aA->aA->Option α)->Option α
abbrev Ab(α:Type):Type:=Int->aA->aA->Option α
abbrev Ul(α β:Type):Type:=Int->Int->aA->aA->aA->(aA->aA->Option α)->β
abbrev qF(α:Type):Type:=Ul α (Ab α)
def Gp:Ul α (Ab α->Ab α):=λa b c d e h i j l n=>cond (decide (j>=0)) (let o:Int:=IntKind.wrap .i64 ((IntKind.wrap .i64 (j+a))+1);if 0<=j/\j<=o/\o<=((7:Nat):Int) then if 0<=(0:Int)/\0<=a/\a<=((6:Nat):Int) then G203 (cond (Nat.beq 7 (Int.toNat j)) 0 (Int.toNat j)) ((Int.toNat o)-(Int.toNat j)) (7-(Int.toNat j)) 0 ((Int.toNat a)-0) 6 l e (λp q=>if 0<=j/\j<(6:Nat) then if j.toNat<6 then i (IntKind.wrap .i64 (j-1)) q (List.set n (j.toNat) p) else none else none) else none else none) (h l n)
def uS(a b:Int)(c:aA)(d:aA)(e:aA)(h:aA->aA->Option α):Nat->Ab α
 |0=>λ_ _ _=>none
 |m+1=>λi j l=>Gp G203 a b c d e h (uS a b c d e h m) i j l
def alM(m n:Nat):qF α:=λa b c d e h i j l=>uS (JX m) a b c d e h n i j l
def wO(m:Nat):qF α:=λa b c d e h i j l=>uS (JX m) a b c d e h m i j l
def JV:jh qF:=⟨0,⟨86,[],[4,5,6,9,10,11,13,14],[1000000,1000001,1000002,1000003,1000004],[(bL 1000000),(bL 1000001),bD,bD,(bL 1000002),(bL 1000003),(bL 1000004),bD],[(true,[(.seq aC 6)]),(true,[(.seq aC 6)]),(true,[(.seq aC 6)]),(true,[(.seq aC 7)]),(true,[(.seq aC 6)])],[(2,[4,5,9,11,13])]⟩,λL ls k=>L (aI ls 0) (aI ls 1) ((lf ls 3).ak aC) ((lf ls 4).ak aC) ((lf ls 5).ak aC) (λa b=>k .normal (bG 86 [4,5,9,11,13] [(gL 1000000),(gL 1000001),(.vl (.sv (.int .i64 (aI ls 1)))),(gL 1000002),(gL 1000003)] [1000000,1000001,1000002,1000003] [(true,[(bX ((lf ls 3).ak aC))]),(true,[(bX ((lf ls 4).ak aC))]),(true,[(.seq aC 7 a)]),(true,[(bX b)])])) (aI ls 2) ((lf ls 6).ak aC) ((lf ls 7).ak aC)⟩
def alO(r:qF α):qF α:=λa b c d e h i j l=>Gp G203 a b c d e h (r a b c d e h) i j l
variable (L193l0:ax qF)
def alL:Px α:=λa b c=>G113 b (λd=>let e:Int:=IntKind.wrap .i64 (Int.tdiv (IntKind.wrap .i64 (d+31)) 32);cond (e==1) (G104 a (List.getD b 0 0) (λh i=>c h [i,0,0,0,0,0])) (G101 a b (λj=>cond (decide (j<0)) (c [0,0,0,0,0,0] a) (let l:Int:=IntKind.wrap .i64 (e-1);if 0<=l/\l<(6:Nat) then if l.toNat<6 then G202 (List.getD b l.toNat 0) (λn=>G99 b n (λo=>G99 a n (λp=>let q:List Int:=List.take 0 [0,0,0,0,0,0,0]++(List.take 6 (List.drop 0 p)++List.drop (0+6) [0,0,0,0,0,0,0]);cond (decide (n>0)) (let r:Int:=IntKind.wrap .i64 (32-n);if r<0 then none else L193l0 e n [0,0,0,0,0,0] [0,0,0,0,0,0] o (λs t=>G97 (List.take 0 [0,0,0,0,0,0]++(List.take 6 (List.drop 0 s)++List.drop (0+6) [0,0,0,0,0,0])) n (λu=>c t u)) (IntKind.wrap .i64 (6-e)) (List.set q 6 (Int.fdiv (List.getD a 5 0) (2^(min r.toNat 32)))) [0,0,0,0,0,0]) (L193l0 e n [0,0,0,0,0,0] [0,0,0,0,0,0] o (λv w=>G97 (List.take 0 [0,0,0,0,0,0]++(List.take 6 (List.drop 0 v)++List.drop (0+6) [0,0,0,0,0,0])) n (λx=>c w x)) (IntKind.wrap .i64 (6-e)) q [0,0,0,0,0,0])))) else none else none))))
def V7(m:Nat):Px α:=alL (g97 m) (pK m) (eU m) (nM m) (iA m) (ZP m) (wO m)
def ZM:bR Px:=⟨193,[(.vl (.agg [(.seq aC 6)])),(.vl (.agg [(.seq aC 6)]))],[],λG ls k=>G ((lf ls 0).ak aC) ((lf ls 1).ak aC)
  (λa b=>k (.iO [(.agg [(bX a)]),(.agg [(bX b)])]) [] [])⟩
def ZL:Hd:=⟨aL 113 (aK C8 G113)<|aL 104 (aK CZ G104)<|aL 101 (aK r_ G101)<|aL 202 (aK ZQ G202)<|aL 99 (aK ES G99)<|aL 203 (aK ZR G203)<|aL 97 (aK aev G97)<|bZ,jD 0 (aS JV L193l0)<|cO,bH 203 [1]<|cZ⟩
theorem alP:jq JV (alO G203) (ZL G97 G99 G101 G113 G104 G202 G203 L193l0) Tryz.f193:=λ_ _ _ _=>by kernel_rfl
theorem ayJ:dz ZM (alL G97 G99 G101 G113 G104 G202 L193l0) (ZL G97 G99 G101 G113 G104 G202 G203 L193l0) Tryz.f193:=λ_ _ _=>by kernel_rfl
theorem alK(m:Nat):(ZL (g97 m) (pK m) (eU m) (nM m) (iA m) (ZP m) (JX m) (wO m)).ah bE:=(aM (Qt m) (aM (Qn m) (aM (yB m) (aM (ayM m) (aM (N8 m) (aM (ayO m) (aM (avm m) cK)))))))
theorem alN(m:Nat):jg (aS JV (wO m)) 0 Tryz.f193:=
 jy [] (λn=>alM m n) m (alK m) trivial (alP (g97 m) (pK m) (eU m) (nM m) (iA m) (ZP m) (JX m) (wO m))
theorem ayI(m:Nat):bB ZM (V7 m):=gu [0] (alK m) ⟨(alN m),trivial⟩ (ayJ (g97 m) (pK m) (eU m) (nM m) (iA m) (ZP m) (JX m) (wO m))
variable (G193:ax Px)
abbrev HV(α:Type):Type:=Bool->aA->Bool->aA->(Bool->aA->Bool->aA->Option α)->Option α
def atD:HV α:=λa b c d e=>G193 b d (λh i=>cond (!(a==c)) (cond (!(dI i [0,0,0,0,0,0])) (G98 (λj=>G102 h j (λl n=>G100 d i (λo=>G65 (!(a==c)) l (λp=>G65 c o (λq=>e p l q o)))))) (G65 (!(a==c)) h (λr=>G65 c i (λs=>e r h s i)))) (G65 (!(a==c)) h (λt=>G65 c i (λu=>e t h u i))))
def JR(m:Nat):HV α:=atD (iI m) (uj m) (kY m) (jl m) (V7 m)
def ZE:bR HV:=⟨173,[xh,xh],[],λG ls k=>G (eu ls 0) ((lf ls 1).ak aC) (eu ls 2) ((lf ls 3).ak aC)
  (λa b c d=>k (.iO [(.agg [(lN a),(bX b)]),(.agg [(lN c),(bX d)])]) [] [])⟩
def alu:Hd:=⟨aL 193 (aK ZM G193)<|aL 98 (aK Ky G98)<|aL 102 (aK CY G102)<|aL 100 (aK CX G100)<|aL 65 (aK qW G65)<|bZ,cO,cZ⟩
theorem ayw:dz ZE (atD G65 G98 G100 G102 G193) (alu G65 G98 G100 G102 G193) Tryz.f173:=λ_ _ _=>by kernel_rfl
theorem ayu(m:Nat):(alu (iI m) (uj m) (kY m) (jl m) (V7 m)).ah bE:=(aM (ayI m) (aM (Wu m) (aM (Ql m) (aM (Qk m) (aM (uV m) cK)))))
theorem ayv(m:Nat):bB ZE (JR m):=bT (ayu m) (ayw (iI m) (uj m) (kY m) (jl m) (V7 m))
variable (G173:ax HV)
abbrev M0(α:Type):Type:=Int->(Bool->aA->Option α)->Option α
def azq:M0 α:=λa b=>let c:Int:=IntKind.wrap .u64 a;cond (decide (a<0)) (let d:Int:=IntKind.wrap .u64 (0-c);let e:Int:=IntKind.wrap .u32 d;let h:Int:=IntKind.wrap .u32 (Int.fdiv d (2^32));G65 (decide (a<0)) [e,h,0,0,0,0] (λi=>b i [e,h,0,0,0,0])) (let j:Int:=IntKind.wrap .u32 c;let l:Int:=IntKind.wrap .u32 (Int.fdiv c (2^32));G65 (decide (a<0)) [j,l,0,0,0,0] (λn=>b n [j,l,0,0,0,0]))
def zb(m:Nat):M0 α:=azq (iI m)
def NS:bR M0:=⟨62,[bD],[],λG ls k=>G (aI ls 0)
  (λa b=>k (S_ a b) [] [])⟩
def auF:Hd:=⟨aL 65 (aK qW G65)<|bZ,cO,cZ⟩
theorem aED:dz NS (azq G65) (auF G65) Tryz.f62:=λ_ _ _=>by kernel_rfl
theorem aEC(m:Nat):(auF (iI m)).ah bE:=(aM (uV m) cK)
theorem ad3(m:Nat):bB NS (zb m):=bT (aEC m) (aED (iI m))
variable (G62:ax M0)
abbrev Yk(α:Type):Type:=Bool->aA->Bool->aA->Bool->(Bool->aA->Bool->Option α)->Option α
def ath:Yk α:=λa b c d e h=>cond (a==c) (G102 b d (λi j=>cond e (G65 a i (λl=>h l i true)) (G65 a i (λn=>h n i j)))) (G101 b d (λo=>cond (decide (o<0)) (G100 d b (λp=>G65 c p (λq=>h q p e))) (G100 b d (λr=>G65 a r (λs=>h s r e)))))
def QF(m:Nat):Yk α:=ath (iI m) (kY m) (eU m) (jl m)
variable (G137:ax Yk)
abbrev Yi(α:Type):Type:=Bool->aA->Bool->aA->Bool->(Bool->aA->Bool->Option α)->Option α
def atg:Yi α:=λa b c d e h=>G173 a b c d (λi j l n=>G100 d n (λo=>G101 n o (λp=>cond (decide (p<0)) (h i j e) (G62 1 (λq r=>G137 i j q r e (λs t u=>h s t u))))))
def apN(m:Nat):Yi α:=atg (kY m) (eU m) (JR m) (zb m) (QF m)
variable (G134:ax Yi)
abbrev Yj(α:Type):Type:=Bool->aA->Int->Bool->(Bool->aA->Bool->Option α)->Option α
def ajL:Yj α:=λa b c d e=>cond (decide (c>191)) (e false [0,0,0,0,0,0] true) (G113 b (λh=>cond (decide ((IntKind.wrap .i64 (h+c))>192)) (e false [0,0,0,0,0,0] true) (G99 b c (λi=>G65 a i (λj=>e j i d)))))
def afK(m:Nat):Yj α:=ajL (iI m) (pK m) (nM m)
variable (G135:ax Yj)
abbrev Hz(α:Type):Type:=Bool->aA->(Bool->Option α)->Option α
def aj3:Hz α:=λa b c=>G65 (!a) b (λd=>c d)
def Db(m:Nat):Hz α:=aj3 (iI m)
def QI:bR Hz:=⟨139,[xh],[],λG ls k=>G (eu ls 0) ((lf ls 1).ak aC)
  (λa=>k (.vl (.agg [(lN a),(bX ((lf ls 1).ak aC))])) [] [])⟩
def aj0:Hd:=⟨aL 65 (aK qW G65)<|bZ,cO,cZ⟩
theorem axv:dz QI (aj3 G65) (aj0 G65) Tryz.f139:=λ_ _ _=>by kernel_rfl
theorem axu(m:Nat):(aj0 (iI m)).ah bE:=(aM (uV m) cK)
theorem aj1(m:Nat):bB QI (Db m):=bT (axu m) (axv (iI m))
variable (G139:ax Hz)
abbrev Yl(α:Type):Type:=Bool->aA->Bool->aA->Bool->(Bool->aA->Bool->Option α)->Option α
def ati:Yl α:=λa b c d e h=>G139 c d (λi=>G137 a b i d e (λj l n=>h j l n))
def apO(m:Nat):Yl α:=ati (QF m) (Db m)
variable (G138:ax Yl)
abbrev ag1(α:Type):Type:=Nat->Nat->Nat->Nat->aA->(Bool->Option α)->Option α
def g5b:ag1 α:=λa b c d e h=>h (decide (((b:Nat):Int)>4096))
def g5(m:Nat):ag1 α:=g5b
def azo:bR ag1:=⟨5,[(.vl (.sv (.rA 0 0 1)))],[(false,[(.iD (.int .u8))])],λG ls k=>G (aO ls 0) (aO ls 1) (aO ls 2) (aO ls 3) ((lf ls 4).ak (.int .u8))
  (λa=>k (zm a) [[(.seq (.int .u8) (aO ls 3) ((lf ls 4).ak (.int .u8)))]] [])⟩
def aEv:Hd:=⟨bZ,cO,cZ⟩
theorem aHt:dz azo (g5b) (aEv) Tryz.f5:=λ_ _ _=>by kernel_rfl
theorem aHr(m:Nat):(aEv).ah bE:=cK
theorem aHs(m:Nat):bB azo (g5 m):=bT (aHr m) (aHt)
variable (G5:ax ag1)
abbrev Tx(α:Type):Type:=Nat->Nat->Nat->Nat->aA->(Option α)->Option α
def ayY:Tx α:=λa b c d e h=>h
def g31(m:Nat):Tx α:=ayY
def adD:bR Tx:=⟨31,[(.vl (.sv (.rA 0 0 1)))],[(false,[(.iD (.int .u8))])],λG ls k=>G (aO ls 0) (aO ls 1) (aO ls 2) (aO ls 3) ((lf ls 4).ak (.int .u8))
  (k (gL 1) [[(.seq (.int .u8) (aO ls 3) ((lf ls 4).ak (.int .u8)))]] [[(.one (.rA 0 0 1 (aO ls 0) (aO ls 1) (aO ls 2))),(Ml (0:Int)),(.one (.int .u64 (0:Int)))]])⟩
def atQ:Hd:=⟨bZ,cO,cZ⟩
theorem aC9:dz adD (ayY) (atQ) Tryz.f31:=λ_ _ _=>by kernel_rfl
theorem aC8(m:Nat):(atQ).ah bE:=cK
theorem atS(m:Nat):bB adD (g31 m):=bT (aC8 m) (aC9)
variable (G31:ax Tx)
abbrev abI(α:Type):Type:=Nat->Nat->Nat->Int->Int->Nat->aA->(Int->Int->Int->Option α)->Option α
def azM:abI α:=λa b c d e h i j=>cond (decide (d<((b:Nat):Int))) (if 0<=d/\d<(b:Nat) then if(a+d.toNat)<h then let l:Int:=IntKind.wrap .i64 (List.getD i (a+d.toNat) 0);let n:Int:=IntKind.wrap .i64 (d+1);let o:Int:=IntKind.wrap .u64 ((IntKind.wrap .u64 ((IntKind.wrap .u64 (e*6364136223846793005))+(IntKind.wrap .u64 l)))+1442695040888963407);cond (decide (n<=((b:Nat):Int))) (j l n o) (j (IntKind.wrap .i64 (dJ .and .u64 (Int.fdiv o (2^40)) 255)) n o) else none else none) (let p:Int:=IntKind.wrap .i64 (d+1);let q:Int:=IntKind.wrap .u64 ((IntKind.wrap .u64 ((IntKind.wrap .u64 (e*6364136223846793005))+0))+1442695040888963407);cond (decide (p<=((b:Nat):Int))) (j 0 p q) (j (IntKind.wrap .i64 (dJ .and .u64 (Int.fdiv q (2^40)) 255)) p q))
def g84(m:Nat):abI α:=azM
def am_:bR abI:=⟨84,[(bL 0)],[(true,[(.one (.rA 1 0 1)),(.one (.int .i64)),(.one (.int .u64))]),(false,[(.iD (.int .u8))])],λG ls k=>G (aO ls 0) (aO ls 1) (aO ls 2) (aI ls 3) (aI ls 4) (aO ls 5) ((lf ls 6).ak (.int .u8))
  (λa b c=>k (xE a) [[(.one (.rA 1 0 1 (aO ls 0) (aO ls 1) (aO ls 2))),(Ml b),(.one (.int .u64 c))],[(.seq (.int .u8) (aO ls 5) ((lf ls 6).ak (.int .u8)))]] [])⟩
def au8:Hd:=⟨bZ,cO,cZ⟩
theorem aFe:dz am_ (azM) (au8) Tryz.f84:=λ_ _ _=>by kernel_rfl
theorem aFc(m:Nat):(au8).ah bE:=cK
theorem aFd(m:Nat):bB am_ (g84 m):=bT (aFc m) (aFe)
variable (G84:ax abI)
abbrev HY(α:Type):Type:=Int->Nat->Nat->Nat->Int->Int->Nat->aA->(Int->Int->Int->Option α)->Option α
def ay7:HY α:=λa b c d e h i j l=>cond (decide (a<=1)) (l 0 e h) (G84 b c d e h i j (λn o p=>cond (decide (a>200)) (G84 b c d o p i j (λq r s=>if a=0 then none else l (Int.tmod (IntKind.wrap .i64 ((IntKind.wrap .i64 (n*256))+q)) a) r s)) (if a=0 then none else l (Int.tmod n a) o p)))
def uT(m:Nat):HY α:=ay7 (g84 m)
def EO:bR HY:=⟨42,[(bL 0),bD],[(true,[(.one (.rA 1 0 1)),(.one (.int .i64)),(.one (.int .u64))]),(false,[(.iD (.int .u8))])],λG ls k=>G (aI ls 0) (aO ls 1) (aO ls 2) (aO ls 3) (aI ls 4) (aI ls 5) (aO ls 6) ((lf ls 7).ak (.int .u8))
  (λa b c=>k (xE a) [[(.one (.rA 1 0 1 (aO ls 1) (aO ls 2) (aO ls 3))),(Ml b),(.one (.int .u64 c))],[(.seq (.int .u8) (aO ls 6) ((lf ls 7).ak (.int .u8)))]] [])⟩
def aue:Hd:=⟨aL 84 (aK am_ G84)<|bZ,cO,bH 84 [1]<|cZ⟩
theorem aDC:dz EO (ay7 G84) (aue G84) Tryz.f42:=λ_ _ _=>by kernel_rfl
theorem aDB(m:Nat):(aue (g84 m)).ah bE:=(aM (aFd m) cK)
theorem NJ(m:Nat):bB EO (uT m):=bT (aDB m) (aDC (g84 m))
variable (G42:ax HY)
abbrev O7(α:Type):Type:=Nat->Nat->Nat->Nat->Nat->Nat->Int->Int->aA->Nat->aA->(Int->Int->Int->Option α)->Option α
def aja:O7 α:=λa b c d e h i j l n o p=>G42 ((b:Nat):Int) d e h i j n o (λq r s=>if 0<=q/\q<(b:Nat) then if(a+q.toNat)<4 then p (List.getD l (a+q.toNat) 0) r s else none else none)
def afJ(m:Nat):O7 α:=aja (uT m)
def YO:bR O7:=⟨118,[(bL 0),(.vl (.sv (.eX 1 0 1)))],[(true,[(.one (.rA 2 0 1)),(.one (.int .i64)),(.one (.int .u64))]),(false,[(.seq (.int .i64) 4)]),(false,[(.iD (.int .u8))])],λG ls k=>G (aO ls 0) (aO ls 1) (aO ls 2) (aO ls 3) (aO ls 4) (aO ls 5) (aI ls 6) (aI ls 7) ((lf ls 8).ak (.int .i64)) (aO ls 9) ((lf ls 10).ak (.int .u8))
  (λa b c=>k (xE a) [[(.one (.rA 2 0 1 (aO ls 3) (aO ls 4) (aO ls 5))),(Ml b),(.one (.int .u64 c))],[(.seq (.int .i64) 4 ((lf ls 8).ak (.int .i64)))],[(.seq (.int .u8) (aO ls 9) ((lf ls 10).ak (.int .u8)))]] [])⟩
def ai_:Hd:=⟨aL 42 (aK EO G42)<|bZ,cO,bH 42 [1]<|cZ⟩
theorem awV:dz YO (aja G42) (ai_ G42) Tryz.f118:=λ_ _ _=>by kernel_rfl
theorem awT(m:Nat):(ai_ (uT m)).ah bE:=(aM (NJ m) cK)
theorem awU(m:Nat):bB YO (afJ m):=bT (awT m) (awV (uT m))
variable (G118:ax O7)
abbrev zn(α:Type):Type:=Nat->Nat->Nat->Nat->Nat->Nat->Int->Int->aA->Nat->aA->(Int->Int->Int->Option α)->Option α
def Qx:zn α:=λa b c d e h i j l n o p=>G42 ((b:Nat):Int) d e h i j n o (λq r s=>if 0<=q/\q<(b:Nat) then if(a+q.toNat)<3 then p (List.getD l (a+q.toNat) 0) r s else none else none)
def C_(m:Nat):zn α:=Qx (uT m)
def Jo:bR zn:=⟨118,[(bL 0),(.vl (.sv (.eX 1 0 1)))],[(true,[(.one (.rA 2 0 1)),(.one (.int .i64)),(.one (.int .u64))]),(false,[(.seq (.int .i64) 3)]),(false,[(.iD (.int .u8))])],λG ls k=>G (aO ls 0) (aO ls 1) (aO ls 2) (aO ls 3) (aO ls 4) (aO ls 5) (aI ls 6) (aI ls 7) ((lf ls 8).ak (.int .i64)) (aO ls 9) ((lf ls 10).ak (.int .u8))
  (λa b c=>k (xE a) [[(.one (.rA 2 0 1 (aO ls 3) (aO ls 4) (aO ls 5))),(Ml b),(.one (.int .u64 c))],[(.seq (.int .i64) 3 ((lf ls 8).ak (.int .i64)))],[(.seq (.int .u8) (aO ls 9) ((lf ls 10).ak (.int .u8)))]] [])⟩
def Vq:Hd:=⟨aL 42 (aK EO G42)<|bZ,cO,bH 42 [1]<|cZ⟩
theorem ajd:dz Jo (Qx G42) (Vq G42) Tryz.f118:=λ_ _ _=>by kernel_rfl
theorem ajb(m:Nat):(Vq (uT m)).ah bE:=(aM (NJ m) cK)
theorem ajc(m:Nat):bB Jo (C_ m):=bT (ajb m) (ajd (uT m))
variable (G118v1:ax zn)
abbrev M5(α:Type):Type:=Nat->Nat->Nat->Int->Int->Nat->aA->(Int->Int->Int->Int->Int->Option α)->Option α
def azA:M5 α:=λa b c d e h i j=>G42 8 a b c d e h i (λl n o=>cond (l==0) (j 11 0 0 n o) (cond (l==1) (j 12 0 0 n o) (cond (l==2) (G118 0 4 4 a b c n o [1000000000,(-1000000000),1,0] h i (λp q r=>G118v1 0 3 3 a b c q r [1,1000000000,999999937] h i (λs t u=>j 1 p s t u))) (G42 41 a b c n o h i (λv w x=>G42 20 a b c w x h i (λy z a0=>j 1 (IntKind.wrap .i64 (v-20)) (IntKind.wrap .i64 (1+y)) z a0))))))
def g73(m:Nat):M5 α:=azA (uT m) (afJ m) (C_ m)
def am3:bR M5:=⟨73,[(bL 0)],[(true,[(.one (.rA 1 0 1)),(.one (.int .i64)),(.one (.int .u64))]),(false,[(.iD (.int .u8))])],λG ls k=>G (aO ls 0) (aO ls 1) (aO ls 2) (aI ls 3) (aI ls 4) (aO ls 5) ((lf ls 6).ak (.int .u8))
  (λa b c d e=>k (.vl (.agg [(.one (.int .i8 a)),(.one (.int .i16 (0:Int))),(.one (.int .i16 (0:Int))),(Ml b),(Ml c)])) [[(.one (.rA 1 0 1 (aO ls 0) (aO ls 1) (aO ls 2))),(Ml d),(.one (.int .u64 e))],[(.seq (.int .u8) (aO ls 5) ((lf ls 6).ak (.int .u8)))]] [])⟩
def auR:Hd:=⟨aL 42 (aK EO G42)<|aL 118 (QRe YO G118 (aK Jo G118v1))<|bZ,cO,bH 42 [1]<|bH 118 [1,2]<|cZ⟩
theorem aEX:dz am3 (azA G42 G118 G118v1) (auR G42 G118 G118v1) Tryz.f73:=λ_ _ _=>by kernel_rfl
theorem aEV(m:Nat):(auR (uT m) (afJ m) (C_ m)).ah bE:=(aM (NJ m) (aM (Qce (awU m) (ajc m)) cK))
theorem aEW(m:Nat):bB am3 (g73 m):=bT (aEV m) (aEX (uT m) (afJ m) (C_ m))
variable (G73:ax M5)
abbrev M4(α:Type):Type:=Int->Nat->Nat->Nat->Int->Int->Nat->aA->(Bool->Int->Int->Option α)->Option α
def azz:M4 α:=λa b c d e h i j l=>G42 a b c d e h i j (λn o p=>l (n==0) o p)
def g72(m:Nat):M4 α:=azz (uT m)
def am1:bR M4:=⟨72,[(bL 0),bD],[(true,[(.one (.rA 1 0 1)),(.one (.int .i64)),(.one (.int .u64))]),(false,[(.iD (.int .u8))])],λG ls k=>G (aI ls 0) (aO ls 1) (aO ls 2) (aO ls 3) (aI ls 4) (aI ls 5) (aO ls 6) ((lf ls 7).ak (.int .u8))
  (λa b c=>k (zm a) [[(.one (.rA 1 0 1 (aO ls 1) (aO ls 2) (aO ls 3))),(Ml b),(.one (.int .u64 c))],[(.seq (.int .u8) (aO ls 6) ((lf ls 7).ak (.int .u8)))]] [])⟩
def auQ:Hd:=⟨aL 42 (aK EO G42)<|bZ,cO,bH 42 [1]<|cZ⟩
theorem aEU:dz am1 (azz G42) (auQ G42) Tryz.f72:=λ_ _ _=>by kernel_rfl
theorem aES(m:Nat):(auQ (uT m)).ah bE:=(aM (NJ m) cK)
theorem aET(m:Nat):bB am1 (g72 m):=bT (aES m) (aEU (uT m))
variable (G72:ax M4)
abbrev xH(α:Type):Type:=Int->(Bool->Option α)->Option α
def aE0:xH α:=λa b=>cond (decide (a>=2)) (cond (decide (a<=5)) (b true) (cond (a==8) (b true) (b (a==9)))) (cond (a==8) (b true) (b (a==9)))
def xM(m:Nat):xH α:=aE0
def Ko:bR xH:=⟨74,[(.vl (.sv (.int .i8)))],[],λG ls k=>G (aI ls 0)
  (λa=>k (zm a) [] [])⟩
def auS:Hd:=⟨bZ,cO,cZ⟩
theorem aEZ:dz Ko (aE0) (auS) Tryz.f74:=λ_ _ _=>by kernel_rfl
theorem aEY(m:Nat):(auS).ah bE:=cK
theorem Wn(m:Nat):bB Ko (xM m):=bT (aEY m) (aEZ)
variable (G74:ax xH)
abbrev abp(α:Type):Type:=Int->Nat->Nat->Nat->Int->Int->Nat->aA->(Int->Int->aH->Option α)->Option α
abbrev FQ(α:Type):Type:=Int->Int->Int->aH->Option α
abbrev ab3(α β:Type):Type:=Nat->Nat->Nat->Nat->aA->(Int->Int->aH->Option α)->β
abbrev vN(α:Type):Type:=ab3 α (FQ α)
def ZX(G73:ax M5)(G72:ax M4)(G42:ax HY)(G74:ax xH):ab3 α (FQ α->FQ α):=λa b c d e h i j l n o=>cond (decide (j>0)) (cond (((o.length:Nat):Int)==0) (G73 a b c l n d e (λp q r s t=>if o.length+1<=67108864 then i (IntKind.wrap .i64 (j-1)) s t (o++[[p,0,0,q,r]]) else none)) (G72 3 a b c l n d e (λu v w=>cond u (G73 a b c v w d e (λx y z a0 b0=>if o.length+1<=67108864 then i (IntKind.wrap .i64 (j-1)) a0 b0 (o++[[x,0,0,y,z]]) else none)) (G42 9 a b c v w d e (λc0 d0 e0=>let h0:Int:=IntKind.wrap .i8 (IntKind.wrap .i64 (2+c0));G42 ((o.length:Nat):Int) a b c d0 e0 d e (λi0 j0 l0=>let n0:Int:=IntKind.wrap .i16 i0;G74 h0 (λo0=>cond o0 (G42 ((o.length:Nat):Int) a b c j0 l0 d e (λp0 q0 r0=>if o.length+1<=67108864 then i (IntKind.wrap .i64 (j-1)) q0 r0 (o++[[h0,n0,(IntKind.wrap .i16 p0),0,0]]) else none)) (if o.length+1<=67108864 then i (IntKind.wrap .i64 (j-1)) j0 l0 (o++[[h0,n0,0,0,0]]) else none)))))))) (h l n o)
def J7(G73:ax M5)(G72:ax M4)(G42:ax HY)(G74:ax xH)(a b:Nat)(c d:Nat)(e:aA)(h:Int->Int->aH->Option α):Nat->FQ α
 |0=>λ_ _ _ _=>none
 |m+1=>λi j l n=>ZX G73 G72 G42 G74 a b c d e h (J7 G73 G72 G42 G74 a b c d e h m) i j l n
def adC(m n:Nat):vN α:=λa b c d e h i j l o=>J7 (g73 m) (g72 m) (uT m) (xM m) a b c d e h n i j l o
def J8(m:Nat):vN α:=adC m m
def Rh:jh vN:=⟨0,⟨53,[0,1],[0,5,6],[0,1,1000002],[(bL 0),(.vl (.sv (.aQ 1000002 5))),bD],[(true,[(.one (.rA 1 0 1)),(.one (.int .i64)),(.one (.int .u64))]),(false,[(.iD (.int .u8))]),(true,[(.aD aB)])],[(2,[5])]⟩,λL ls k=>L (aO ls 1) (aO ls 2) (aO ls 3) (aO ls 6) ((lf ls 7).ak (.int .u8)) (λa b c=>k .normal (bG 53 [5] [(.vl (.sv (.aQ 1000002 5)))] [0,1,1000002] [(true,[(.one (.rA 1 0 1 (aO ls 1) (aO ls 2) (aO ls 3))),(Ml a),(.one (.int .u64 b))]),(false,[(.seq (.int .u8) (aO ls 6) ((lf ls 7).ak (.int .u8)))]),(true,[(.aD aB c)])])) (aI ls 0) (aI ls 4) (aI ls 5) ((lf ls 8).ak aB)⟩
def aqm(r:vN α):vN α:=λa b c d e h i j l n=>ZX G73 G72 G42 G74 a b c d e h (r a b c d e h) i j l n
variable (L30l0:ax vN)
def ayX:abp α:=λa b c d e h i j l=>G42 a b c d e h i j (λn o p=>L30l0 b c d i j (λq r s=>l q r s) (IntKind.wrap .i64 (1+n)) o p [])
def g30(m:Nat):abp α:=ayX (uT m) (J8 m)
def amj:bR abp:=⟨30,[(bL 0),bD],[(true,[(.one (.rA 1 0 1)),(.one (.int .i64)),(.one (.int .u64))]),(false,[(.iD (.int .u8))])],λG ls k=>G (aI ls 0) (aO ls 1) (aO ls 2) (aO ls 3) (aI ls 4) (aI ls 5) (aO ls 6) ((lf ls 7).ak (.int .u8))
  (λa b c=>k (.vl (.sv (.aQ 2 5))) [[(.one (.rA 1 0 1 (aO ls 1) (aO ls 2) (aO ls 3))),(Ml a),(.one (.int .u64 b))],[(.seq (.int .u8) (aO ls 6) ((lf ls 7).ak (.int .u8)))]] [[(.aD aB c)]])⟩
def ami:Hd:=⟨aL 42 (aK EO G42)<|aL 73 (aK am3 G73)<|aL 72 (aK am1 G72)<|aL 74 (aK Ko G74)<|bZ,jD 0 (aS Rh L30l0)<|cO,bH 42 [1]<|bH 72 [1]<|bH 73 [1]<|cZ⟩
theorem aqn:jq Rh (aqm G42 G73 G72 G74) (ami G42 G73 G72 G74 L30l0) Tryz.f30:=λ_ _ _ _=>by kernel_rfl
theorem aC6:dz amj (ayX G42 L30l0) (ami G42 G73 G72 G74 L30l0) Tryz.f30:=λ_ _ _=>by kernel_rfl
theorem atP(m:Nat):(ami (uT m) (g73 m) (g72 m) (xM m) (J8 m)).ah bE:=(aM (NJ m) (aM (aEW m) (aM (aET m) (aM (Wn m) cK))))
theorem aql(m:Nat):jg (aS Rh (J8 m)) 0 Tryz.f30:=
 jy [] (λn=>adC m n) m (atP m) trivial (aqn (uT m) (g73 m) (g72 m) (xM m) (J8 m))
theorem aC5(m:Nat):bB amj (g30 m):=gu [0] (atP m) ⟨(aql m),trivial⟩ (aC6 (uT m) (g73 m) (g72 m) (xM m) (J8 m))
variable (G30:ax abp)
abbrev ag2(α:Type):Type:=Nat->Nat->Nat->Nat->aA->(aH->Option α)->Option α
def g6b:ag2 α:=λa b c d e h=>G31 a b c d e (G30 7 a b c 0 0 d e (λi j l=>h l))
def g6(m:Nat):ag2 α:=g6b (g31 m) (g30 m)
def azy:bR ag2:=⟨6,[(.vl (.sv (.rA 0 0 1)))],[(false,[(.iD (.int .u8))])],λG ls k=>G (aO ls 0) (aO ls 1) (aO ls 2) (aO ls 3) ((lf ls 4).ak (.int .u8))
  (λa=>k (.vl (.sv (.aQ 1 5))) [[(.seq (.int .u8) (aO ls 3) ((lf ls 4).ak (.int .u8)))]] [[(.aD aB a)]])⟩
def aER:Hd:=⟨aL 31 (aK adD G31)<|aL 30 (aK amj G30)<|bZ,cO,bH 30 [1]<|bH 31 [0]<|cZ⟩
theorem aHD:dz azy (g6b G31 G30) (aER G31 G30) Tryz.f6:=λ_ _ _=>by kernel_rfl
theorem aHB(m:Nat):(aER (g31 m) (g30 m)).ah bE:=(aM (atS m) (aM (aC5 m) cK))
theorem aHC(m:Nat):bB azy (g6 m):=bT (aHB m) (aHD (g31 m) (g30 m))
variable (G6:ax ag2)
abbrev Em(α:Type):Type:=Int->(Bool->Bool->Bool->Option α)->Option α
def aDi:Em α:=λa b=>cond (a==1) (b false false true) (cond (a==2) (b true true false) (cond (a==3) (b true true false) (cond (a==4) (b true true false) (cond (a==5) (b true true false) (cond (a==8) (b true true false) (cond (a==9) (b true true false) (cond (a==6) (b true false false) (cond (a==7) (b true false false) (cond (a==10) (b true false false) (b false false false))))))))))
def kG(m:Nat):Em α:=aDi
def xK:bR Em:=⟨35,[(.vl (.sv (.int .i8)))],[],λG ls k=>G (aI ls 0)
  (λa b c=>k (.iO [(.sv (.bool a)),(.sv (.bool b)),(.sv (.bool c))]) [] [])⟩
def at1:Hd:=⟨bZ,cO,cZ⟩
theorem aDh:dz xK (aDi) (at1) Tryz.f35:=λ_ _ _=>by kernel_rfl
theorem aDg(m:Nat):(at1).ah bE:=cK
theorem EM(m:Nat):bB xK (kG m):=bT (aDg m) (aDh)
variable (G35:ax Em)
abbrev M7(α:Type):Type:=Int->Int->Int->(Bool->Option α)->Option α
def aE9:M7 α:=λa b c d=>cond (decide (a>=b)) (d (decide (a<=c))) (d false)
def Kr(m:Nat):M7 α:=aE9
def NU:bR M7:=⟨79,[bD,bD,bD],[],λG ls k=>G (aI ls 0) (aI ls 1) (aI ls 2)
  (λa=>k (zm a) [] [])⟩
def au0:Hd:=⟨bZ,cO,cZ⟩
theorem aE8:dz NU (aE9) (au0) Tryz.f79:=λ_ _ _=>by kernel_rfl
theorem aE7(m:Nat):(au0).ah bE:=cK
theorem aef(m:Nat):bB NU (Kr m):=bT (aE7 m) (aE8)
variable (G79:ax M7)
abbrev aby(α:Type):Type:=Int->Int->Int->(Bool->Option α)->Option α
def aD8:aby α:=λa b c d=>cond (a==1) (G79 b (-1000000000) 1000000000 (λe=>cond e (G79 c 1 1000000000 (λh=>d h)) (d false))) (cond (b==0) (d (c==0)) (d false))
def g52(m:Nat):aby α:=aD8 (Kr m)
def amF:bR aby:=⟨52,[(.vl (.sv (.int .i8))),bD,bD],[],λG ls k=>G (aI ls 0) (aI ls 1) (aI ls 2)
  (λa=>k (zm a) [] [])⟩
def aus:Hd:=⟨aL 79 (aK NU G79)<|bZ,cO,cZ⟩
theorem aD7:dz amF (aD8 G79) (aus G79) Tryz.f52:=λ_ _ _=>by kernel_rfl
theorem aD5(m:Nat):(aus (Kr m)).ah bE:=(aM (aef m) cK)
theorem aD6(m:Nat):bB amF (g52 m):=bT (aD5 m) (aD7 (Kr m))
variable (G52:ax aby)
abbrev abz(α:Type):Type:=Int->Int->Bool->(Bool->Option α)->Option α
def aEc:abz α:=λa b c d=>cond (!c) (d (a==0)) (cond (decide (a>=0)) (d (decide ((IntKind.wrap .i64 a)<b))) (d false))
def g53(m:Nat):abz α:=aEc
def amG:bR abz:=⟨53,[(.vl (.sv (.int .i16))),bD,(.vl (.sv .bool))],[],λG ls k=>G (aI ls 0) (aI ls 1) (eu ls 2)
  (λa=>k (zm a) [] [])⟩
def aut:Hd:=⟨bZ,cO,cZ⟩
theorem aEb:dz amG (aEc) (aut) Tryz.f53:=λ_ _ _=>by kernel_rfl
theorem aD9(m:Nat):(aut).ah bE:=cK
theorem aEa(m:Nat):bB amG (g53 m):=bT (aD9 m) (aEb)
variable (G53:ax abz)
abbrev Ej(α:Type):Type:=aH->(Bool->Option α)->Option α
abbrev FJ(α:Type):Type:=Int->Option α
abbrev abW(α β:Type):Type:=Int->aH->(Option α)->(Option α)->β
abbrev vG(α:Type):Type:=abW α (FJ α)
def alh:abW α (FJ α->FJ α):=λa b c d e h=>cond (decide (h<a)) (if 0<=h/\h<(b.length:Nat) then if h.toNat<b.length then let i:Int:=(List.getD b h.toNat []).headD 0;G35 i (λj l n=>cond (decide (i<1)) (c) (cond (decide (i>12)) (c) (G52 i ((List.getD b h.toNat []).tail.tail.tail.headD 0) ((List.getD b h.toNat []).tail.tail.tail.tail.headD 0) (λo=>cond (!o) (c) (G53 ((List.getD b h.toNat []).tail.headD 0) h j (λp=>cond (!p) (c) (G53 ((List.getD b h.toNat []).tail.tail.headD 0) h l (λq=>cond (!q) (c) (e (IntKind.wrap .i64 (h+1))))))))))) else none else none) (d)
def NF(a:Int)(b:aH)(c d:Option α):Nat->FJ α
 |0=>λ_=>none
 |m+1=>λe=>alh G35 G52 G53 a b c d (NF a b c d m) e
def ado(m n:Nat):vG α:=λa b c d e=>NF (kG m) (g52 m) (g53 m) a b c d n e
def JP(m:Nat):vG α:=ado m m
def QY:jh vG:=⟨0,⟨65,[0],[16,17,18],[0],[(.vl (.sv (.aQ 0 5))),bD,bD],[(false,[(.aD aB)])],[(1,[2]),(2,[])]⟩,λL ls k=>L (aI ls 0) ((lf ls 2).ak aB) (k .ret (bG 65 [2] [(zm false)] [0] [(false,[(.aD aB ((lf ls 2).ak aB))])])) (k .normal (bG 65 [] [] [0] [(false,[(.aD aB ((lf ls 2).ak aB))])])) (aI ls 1)⟩
def ap1(r:vG α):vG α:=λa b c d e=>alh G35 G52 G53 a b c d (r a b c d) e
variable (L16l0:ax vG)
def aCl:Ej α:=λa b=>cond (decide (((a.length:Nat):Int)<1)) (b false) (cond (decide (((a.length:Nat):Int)>40)) (b false) (L16l0 ((a.length:Nat):Int) a (b false) (b true) 0))
def g16(m:Nat):Ej α:=aCl (JP m)
def atC:List TP:=[(.vl (.sv (.aQ 0 5)))]
def atB:List BP:=[(false,[(.aD aB)])]
def aCj{α:Type}(G:Ej α)(ls:List Lf)(k:Mk α):Option α:=
 G ((lf ls 0).ak rN)
  (λa=>k (.vl (.sv (.bool a))) [[(.aD rN ((lf ls 0).ak rN))]] [])
def EJ:bR Ej:=⟨16,atC,atB,aCj⟩
def alg:Hd:=⟨aL 35 (aK xK G35)<|aL 52 (aK amF G52)<|aL 53 (aK amG G53)<|bZ,jD 0 (aS QY L16l0)<|cO,cZ⟩
theorem ap2:jq QY (ap1 G35 G52 G53) (alg G35 G52 G53 L16l0) Tryz.f16:=λ_ _ _ _=>by kernel_rfl
theorem aCk:dz EJ (aCl L16l0) (alg G35 G52 G53 L16l0) Tryz.f16:=λ_ _ _=>by kernel_rfl
theorem atz(m:Nat):(alg (kG m) (g52 m) (g53 m) (JP m)).ah bE:=(aM (EM m) (aM (aD6 m) (aM (aEa m) cK)))
theorem ap0(m:Nat):jg (aS QY (JP m)) 0 Tryz.f16:=
 jy [] (λn=>ado m n) m (atz m) trivial (ap2 (kG m) (g52 m) (g53 m) (JP m))
theorem atA(m:Nat):uo bE 16 atC atB (aCj (g16 m)):=afi (X:=EJ) (l:=[0]) (atz m) ⟨(ap0 m),trivial⟩ (aCk (kG m) (g52 m) (g53 m) (JP m))
theorem VW(m:Nat):bB EJ (g16 m):=row_of (atA m)
variable (G16:ax Ej)
abbrev TF(α:Type):Type:=Int->(ByteArray->Option α)->Option α
def aFb:TF α:=λa b=>if 0<=a/\a<(13:Nat) then if(0+a.toNat)<13 then b (List.getD [(⟨#[]⟩:ByteArray),(⟨#[114,97,116,105,111]⟩:ByteArray),(⟨#[115,117,109]⟩:ByteArray),(⟨#[100,105,102,102]⟩:ByteArray),(⟨#[112,114,111,100,117,99,116]⟩:ByteArray),(⟨#[113,117,111,116,105,101,110,116]⟩:ByteArray),(⟨#[110,101,103]⟩:ByteArray),(⟨#[97,98,115]⟩:ByteArray),(⟨#[109,105,110]⟩:ByteArray),(⟨#[109,97,120]⟩:ByteArray),(⟨#[114,111,111,116]⟩:ByteArray),(⟨#[112,105]⟩:ByteArray),(⟨#[101,117,108,101,114]⟩:ByteArray)] (0+a.toNat) ⟨#[]⟩) else none else none
def Tc(m:Nat):TF α:=aFb
def aeg:bR TF:=⟨81,[(.vl (.sv (.int .i8)))],[],λG ls k=>G (aI ls 0)
  (λa=>k (.vl (.sv (.str a))) [] [])⟩
def au2:Hd:=⟨bZ,cO,cZ⟩
theorem aFa:dz aeg (aFb) (au2) Tryz.f81:=λ_ _ _=>by kernel_rfl
theorem aE_(m:Nat):(au2).ah bE:=cK
theorem au3(m:Nat):bB aeg (Tc m):=bT (aE_ m) (aFa)
variable (G81:ax TF)
abbrev Ty(α:Type):Type:=Int->Int->Int->ByteArray->ByteArray->(ByteArray->Option α)->Option α
def ay4:Ty α:=λa b c d e h=>G35 a (λi j l=>G81 a (λn=>cond l (if n.size+(⟨#[32]⟩:ByteArray).size<=9223372036854775807 then let o:ByteArray:=n++(⟨#[32]⟩:ByteArray);G82 b 10 (λp=>if o.size+p.size<=9223372036854775807 then let q:ByteArray:=o++p;if q.size+(⟨#[32]⟩:ByteArray).size<=9223372036854775807 then let r:ByteArray:=q++(⟨#[32]⟩:ByteArray);G82 c 10 (λs=>if r.size+s.size<=9223372036854775807 then h (r++s) else none) else none else none) else none) (cond i (if(⟨#[32]⟩:ByteArray).size+d.size<=9223372036854775807 then let t:ByteArray:=(⟨#[32]⟩:ByteArray)++d;if n.size+t.size<=9223372036854775807 then let u:ByteArray:=n++t;cond j (if(⟨#[32]⟩:ByteArray).size+e.size<=9223372036854775807 then let v:ByteArray:=(⟨#[32]⟩:ByteArray)++e;if u.size+v.size<=9223372036854775807 then h (u++v) else none else none) (h u) else none else none) (cond j (if(⟨#[32]⟩:ByteArray).size+e.size<=9223372036854775807 then let w:ByteArray:=(⟨#[32]⟩:ByteArray)++e;if n.size+w.size<=9223372036854775807 then h (n++w) else none else none) (h n)))))
def g38(m:Nat):Ty α:=ay4 (g82 m) (kG m) (Tc m)
def aub:List TP:=[(.vl (.sv (.int .i8))),bD,bD,(.vl (.sv .str)),(.vl (.sv .str))]
def aua:List BP:=[]
def aDo{α:Type}(G:Ty α)(ls:List Lf)(k:Mk α):Option α:=
 G (lf ls 0).int (lf ls 1).int (lf ls 2).int (lf ls 3).str (lf ls 4).str
  (λa=>k (.vl (.sv (.str a))) [] [])
def at7:bR Ty:=⟨38,aub,aua,aDo⟩
def at6:Hd:=⟨aL 35 (aK xK G35)<|aL 81 (aK aeg G81)<|aL 82 (aK au5 G82)<|bZ,cO,cZ⟩
theorem aDp:dz at7 (ay4 G82 G35 G81) (at6 G82 G35 G81) Tryz.f38:=λ_ _ _=>by kernel_rfl
theorem aDm(m:Nat):(at6 (g82 m) (kG m) (Tc m)).ah bE:=(aM (EM m) (aM (au3 m) (aM (au4 m) cK)))
theorem aDn(m:Nat):uo bE 38 aub aua (aDo (g38 m)):=afi (X:=at7) (l:=[]) (aDm m) trivial (aDp (g82 m) (kG m) (Tc m))
variable (G38:ax Ty)
abbrev avN(α:Type):Type:=Int->(ByteArray->Option α)->Option α
variable (G164:ax avN)
abbrev avR(α:Type):Type:=Int->(Int->Option α)->Option α
variable (G189:ax avR)
abbrev avQ(α:Type):Type:=Int->(Int->Option α)->Option α
variable (G188:ax avQ)
abbrev avS(α:Type):Type:=Bool->(Int->Option α)->Option α
variable (G190:ax avS)
abbrev avO(α:Type):Type:=Int->(Int->Option α)->Option α
variable (G165:ax avO)
abbrev avP(α:Type):Type:=Nat->Nat->Nat->Int->aA->(aA->Option α)->Option α
abbrev ag8(α:Type):Type:=Int->Int->aA->Option α
abbrev ag_(α β:Type):Type:=Nat->Nat->Nat->(Int->Int->aA->Option α)->β
abbrev agZ(α:Type):Type:=ag_ α (ag8 α)
variable (L166l0:ax agZ)(G166:ax avP)
abbrev avM(α:Type):Type:=Int->Int->(ByteArray->Option α)->Option α
variable (G125:ax avM)
abbrev aBa(α:Type):Type:=Int->(ByteArray->Option α)->Option α
variable (G83:ax aBa)
abbrev afj(α:Type):Type:=aH->(ByteArray->Option α)->Option α
def RD:List TP:=[(.vl (.sv (.aQ 0 5)))]
def afR:List BP:=[(false,[(.aD aB)])]
def g8K{α:Type}(G:afj α)(ls:List Lf)(k:Mk α):Option α:=
 G ((lf ls 0).ak rN)
  (λa=>k (.vl (.sv (.str a))) [[(.aD rN ((lf ls 0).ak rN))]] [])
def g8R{α:Type}(G:afj α):=yY RD afR (g8K G)
def aHO:bR afj:=⟨8,RD,afR,g8K⟩
variable (G8:ax afj)
end
section
open Go Go.RowKit
set_option maxHeartbeats 2000000
theorem afn(b:Nat)(w:World)(h0:w.cell? ⟨b,0,none⟩=some (.pointer none))(hsh:w.shape? b=some (73,2))(hfz:w.frozen? ⟨b,0,none⟩=false):
  Calls Tryz.prog 80 #[.pointer (some ⟨b,0,none⟩)] w λe w'=>e= .returned (.tuple #[])/\w'=w.setCell ⟨b,0,none⟩ (.pointer (some ⟨b,0,none⟩)):=by
 obtain⟨j,hj,hjs⟩:=Option.map_eq_some_iff.1 Tryz.fu.sizeBuilder
 go_enter Tryz.func80,Tryz.ntmps80
 go_wp2
 rw[Lib.run_to_unsafe w ⟨b,0,none⟩ Tryz.underlying71 Tryz.underlying185 hj (by rw[hjs];decide) hsh (Nat.zero_lt_succ 1)]
 simp only[Result.andThen]
 rw[Oper.upon_value]
 go_wp2
 rw[run_callFunc_extern Tryz.func124 (by kernel_rfl) (by kernel_rfl) (by kernel_rfl) (e:=Extern.AbiNoEscape.same) (by kernel_rfl)]
 rw[Lib.run_noEscape]
 simp only[Result.andThen]
 rw[Oper.upon_value]
 go_wp2
 rw[Lib.run_from_unsafe w ⟨b,0,none⟩ Tryz.underlying185 Tryz.underlying71 hj hsh Tryz.fu.liesBuilder]
 simp only[Result.andThen]
 rw[Oper.upon_value]
 go_wp2
 go_end0
 exact⟨rfl,rfl⟩
theorem ahl(b:Nat)(w:World)(h0:w.cell? ⟨b,0,none⟩=some (.pointer (some ⟨b,0,none⟩))):
  Calls Tryz.prog 80 #[.pointer (some ⟨b,0,none⟩)] w λe w'=>e= .returned (.tuple #[])/\w'=w:=by
 obtain⟨j,hj,hjs⟩:=Option.map_eq_some_iff.1 Tryz.fu.sizeBuilder
 have hne:=Lib.run_neq_ptr_same (P:=Tryz.prog) w (tp:=71) ⟨b,0,none⟩ Tryz.underlying71 hj
 go_enter Tryz.func80,Tryz.ntmps80
 go_wp2
 go_end0
 exact⟨rfl,rfl⟩
theorem afm(B b:Nat)(bs:List Value)(w:World)(h:Lib.IsBuilderF 73 5 B b bs w):
  Calls Tryz.prog 80 #[.pointer (some ⟨b,0,none⟩)] w λe w'=>e= .returned (.tuple #[])/\(Lib.BuilderAtF 73 5 B b (.pointer (some ⟨b,0,none⟩)) bs w'/\Below B w w'/\Lib.OthersKept 5 (some b) w w'):=by
 rcases h with h|h
 .refine(afn b w h.cell0 h.shape h.frozen0).mono ?_
  rintro e w' ⟨rfl,rfl⟩
  exact⟨rfl,h.used _,(Below.refl B w).setCell (p:=⟨b,0,none⟩) h.1 _,(Lib.OthersKept.refl _ _ w).setCell ⟨b,0,none⟩ rfl _⟩
 .refine(ahl b w h.cell0).mono ?_
  rintro e w' ⟨rfl,rfl⟩
  exact⟨rfl,h,Below.refl B _,Lib.OthersKept.refl _ _ _⟩
theorem afo(B b:Nat)(bs:List Value)(s:ByteArray)(w:World)(h:Lib.IsBuilderF 73 5 B b bs w)(hlen:bs.length+s.size<=140737488355328)(hBw:B<=w.heap.size):
  Calls Tryz.prog 37 #[.pointer (some ⟨b,0,none⟩), .string s] w λe w'=>e= .returned (.tuple #[.int .i64 s.size, .nilIface])/\(Lib.IsBuilderF 73 5 B b (bs++Lib.strCells s) w'/\Below B w w'/\Lib.OthersKept 5 (some b) w w'):=by
 obtain⟨i0,hi,hz0,hz1,hz2⟩:=info_parts Tryz.fu.infoByte
 go_enter Tryz.func37,Tryz.ntmps37
 go_wp2_with (go_at_call 80;refine(afm B b bs _ h).mono ?_)
 rintro e w1 ⟨rfl,h1,hb1,hk1⟩
 obtain⟨hB,v,hbk,hown,hne⟩:=h1
 have c0:w1.cell? ⟨b,0,none⟩=some (.pointer (some ⟨b,0,none⟩)):=by rw[Lib.cell_of_heap hbk];rfl
 have c1:w1.cell? ⟨b,1,none⟩=some v:=by rw[Lib.cell_of_heap hbk];rfl
 go_wp2_with (at_builtin;refine Lib.wpList_append_own_stringF _ rfl _ _ 22 9 rfl B 5 i0 Tryz.underlying22 Tryz.underlying9 hi hz0 hz1 hz2 _ _ _ rfl hown s rfl ?c3 ?c4 ?c5 ?_)
 case c3=>unfold maxLen;omega
 case c4=>omega
 case c5=>have:=hb1.size;omega
 intro v' w2 hown' hgrow _
 have hlt:b<w1.heap.size:=by
  rcases Nat.lt_or_ge b w1.heap.size with h'|h'
  .exact h'
  .simp[Array.getElem?_eq_none h'] at hbk
 have hb2:w2.heap[b]? =some (.cells #[.pointer (some ⟨b,0,none⟩),v] 73 (0,0)):=by
  rw[hgrow.block b hlt (λe=>hne e.symm)]
  exact hbk
 have d0:w2.cell? ⟨b,0,none⟩=some (.pointer (some ⟨b,0,none⟩)):=by rw[Lib.cell_of_heap hb2];rfl
 have d1:w2.cell? ⟨b,1,none⟩=some v:=by rw[Lib.cell_of_heap hb2];rfl
 have f1:w2.frozen? ⟨b,1,none⟩=false:=Lib.frozen_of_heap hb2 1
 obtain⟨ao,n',cap,rfl⟩:∃ao n' cap,v'= .slice ao n' cap:=by
  rcases hown'.2 with⟨hv,_⟩|⟨g,cap,cur,fz,hv,_⟩
  .exact⟨_,_,_,hv⟩
  .exact⟨_,_,_,hv⟩
 go_wp2
 go_ret2
 refine⟨rfl, .inr ?_, ?_,(hk1.grown hgrow (Lib.ownsRowF_kind hown)).setCell ⟨b,1,none⟩ rfl _⟩
 .exact Lib.BuilderAtF.put (T:=73) (e:=5) hB hb2 (bs':=bs++Lib.strCells s) (by simpa[Lib.strCells_length] using hown') Tryz.fu.neB5
 .exact(hb1.grown hgrow (by have:=hb1.size;omega) (λk hk=>(hown.lt k hk).1)).setCell (p:=⟨b,1,none⟩) hB _
theorem Gd{T e:TypeId}{B b:Nat}{bs:List Value}{w w':World}(h:Lib.IsBuilderF T e B b bs w)(k:Below w.heap.size w w'):Lib.IsBuilderF T e B b bs w':=by
 have hA:∀p,Lib.BuilderAtF T e B b p bs w->Lib.BuilderAtF T e B b p bs w':=by
  intro p hp
  have hlt:=hp.lt
  obtain⟨hB,v,hb,hown,hne⟩:=hp
  refine⟨hB,v,by rw[k.block b hlt];exact hb,⟨hown.1, ?_⟩,hne⟩
  rcases hown.2 with hn|⟨g,cap,cur,fz,hv,hbg,hg,hr⟩
  .exact .inl hn
  .exact .inr ⟨g,cap,cur,fz,hv,hbg,by rw[k.block g (Array.getElem?_eq_some_iff.1 hg).1];exact hg,hr⟩
 exact h.imp (hA _) (hA _)
theorem ahk{T e:TypeId}{B b:Nat}{bs:List Value}{w:World}(h:Lib.IsBuilderF T e B b bs w)(o:Obj):Lib.IsBuilderF T e B b bs (w.alloc o):=Gd h ((Below.refl _ w).alloc (Nat.le_refl _) o)
theorem apl{T e:TypeId}{B b:Nat}{bs:List Value}{w:World}(h:Lib.IsBuilderF T e B b bs w):Lib.IsBuilderF T e B b bs w.drew:=h
theorem PU{w w':World}{b:Nat}{o:Obj}(h:w.heap[b]? =some o)(k:Below w.heap.size w w'):w'.heap[b]? =some o:=(k.block b (Array.getElem?_eq_some_iff.1 h).1).trans h
theorem avZ(w:World)(o:Obj):(w.alloc o).drew.heap[w.heap.size]? =some o:=heap_alloc_new w o
theorem SI(a b:ByteArray):Lib.strCells (a++b)=Lib.strCells a++Lib.strCells b:=by simp[Lib.strCells]
end
section
open Go Go.RowKit
set_option maxHeartbeats 4000000
theorem aF7{B0:Nat}{W0 w' w2:World}{b:Nat}{v0 v1 v2 v3 v4:Value}(k:Below w'.heap.size w' w2)
  (h:Below B0 W0 w'/\B0<=w'.heap.size/\b<w'.heap.size/\w'.cell? ⟨b,0,none⟩=some v0/\w'.cell? ⟨b,1,none⟩=some v1/\w'.cell? ⟨b,2,none⟩=some v2/\w'.cell? ⟨b,3,none⟩=some v3/\w'.cell? ⟨b,4,none⟩=some v4):
  Below B0 W0 w2/\B0<=w2.heap.size/\b<w2.heap.size/\w2.cell? ⟨b,0,none⟩=some v0/\w2.cell? ⟨b,1,none⟩=some v1/\w2.cell? ⟨b,2,none⟩=some v2/\w2.cell? ⟨b,3,none⟩=some v3/\w2.cell? ⟨b,4,none⟩=some v4:=by
 obtain⟨h0,h1,h2,h⟩:=h
 have hs:=k.size
 have hc:∀o,w2.cell? ⟨b,o,none⟩=w'.cell? ⟨b,o,none⟩:=λo=>World.cell?_of_block (k.block b h2)
 rw[hc,hc,hc,hc,hc]
 exact⟨h0.trans (k.mono h1),by omega,by omega,h⟩
theorem aF8{B0:Nat}{W0 w' w2:World}{b e d:Nat}{v0 v1 v2 v3 v4:Value}(k:Below B0 w' w2)(ko:Lib.OthersKept e (some d) w' w2)(hbd:b≠d)(hT:∃cs T fz,w'.heap[b]? =some (.cells cs T fz)/\T≠e)
  (h:Below B0 W0 w'/\B0<=w'.heap.size/\b<w'.heap.size/\w'.cell? ⟨b,0,none⟩=some v0/\w'.cell? ⟨b,1,none⟩=some v1/\w'.cell? ⟨b,2,none⟩=some v2/\w'.cell? ⟨b,3,none⟩=some v3/\w'.cell? ⟨b,4,none⟩=some v4):
  Below B0 W0 w2/\B0<=w2.heap.size/\b<w2.heap.size/\w2.cell? ⟨b,0,none⟩=some v0/\w2.cell? ⟨b,1,none⟩=some v1/\w2.cell? ⟨b,2,none⟩=some v2/\w2.cell? ⟨b,3,none⟩=some v3/\w2.cell? ⟨b,4,none⟩=some v4:=by
 obtain⟨h0,h1,h2,h⟩:=h
 have hs:=k.size
 obtain⟨cs,T,fz,hb,hne⟩:=hT
 have hb2:=ko b _ hb (by simpa using hbd) (λc f e=>by injection e with _ e _;exact hne e)
 have hc:∀o,w2.cell? ⟨b,o,none⟩=w'.cell? ⟨b,o,none⟩:=λo=>World.cell?_of_block (hb2.trans hb.symm)
 rw[hc,hc,hc,hc,hc]
 exact⟨h0.trans k,by omega,by omega,h⟩
theorem aAB{B0:Nat}{W0 w:World}{T:TypeId}{v0 v1 v2 v3 v4:Value}(h:Below B0 W0 w)(hB:B0<=w.heap.size):
  Below B0 W0 (w.alloc (.cells #[v0,v1,v2,v3,v4] T)).drew/\B0<=(w.alloc (.cells #[v0,v1,v2,v3,v4] T)).drew.heap.size/\w.heap.size<(w.alloc (.cells #[v0,v1,v2,v3,v4] T)).drew.heap.size/\
  (w.alloc (.cells #[v0,v1,v2,v3,v4] T)).drew.cell? ⟨w.heap.size,0,none⟩=some v0/\
  (w.alloc (.cells #[v0,v1,v2,v3,v4] T)).drew.cell? ⟨w.heap.size,1,none⟩=some v1/\(w.alloc (.cells #[v0,v1,v2,v3,v4] T)).drew.cell? ⟨w.heap.size,2,none⟩=some v2/\(w.alloc (.cells #[v0,v1,v2,v3,v4] T)).drew.cell? ⟨w.heap.size,3,none⟩=some v3/\
  (w.alloc (.cells #[v0,v1,v2,v3,v4] T)).drew.cell? ⟨w.heap.size,4,none⟩=some v4:=by
 have hc:∀o,(w.alloc (.cells #[v0,v1,v2,v3,v4] T)).drew.cell? ⟨w.heap.size,o,none⟩= #[v0,v1,v2,v3,v4][o]? :=λo=>Lib.cell_of_heap (heap_alloc_new w _) o
 rw[hc,hc,hc,hc,hc]
 exact⟨(h.alloc hB _).drew,by simp;omega,by simp,rfl,rfl,rfl,rfl,rfl⟩
theorem asG(u:List (List Int))(blk off cap:Nat)(w:World)(hblk:blk<w.heap.size)(hu:u≠ [])(hul:u.length<=40)
  (ln:List Int->ByteArray) (it:Int->ByteArray) (nt:Int->Int->Int->ByteArray->ByteArray->ByteArray)
  (hln:∀x∈u,ln x=nt (x.getD 0 0) (x.getD 3 0) (x.getD 4 0) (it (x.getD 1 0)) (it (x.getD 2 0))++⟨#[10]⟩/\(ln x).size<=1000000)
  (hcells:∀i (h:i<u.length),w.cell? ⟨blk,off+i*5,none⟩=some (.int .i8 (u[i].getD 0 0))/\w.cell? ⟨blk,off+i*5+1,none⟩=some (.int .i16 (u[i].getD 1 0))/\
   w.cell? ⟨blk,off+i*5+2,none⟩=some (.int .i16 (u[i].getD 2 0))/\w.cell? ⟨blk,off+i*5+3,none⟩=some (.int .i64 (u[i].getD 3 0))/\w.cell? ⟨blk,off+i*5+4,none⟩=some (.int .i64 (u[i].getD 4 0)))
  (hw:∀x∈u,IntKind.wrap .i64 (x.getD 1 0)=x.getD 1 0/\IntKind.wrap .i64 (x.getD 2 0)=x.getD 2 0)
  (hV:∀w',Below w.heap.size w w'->Calls Tryz.prog 16 #[.slice (some ⟨blk,off,none⟩) u.length cap] w' λe w2=>e= .returned (.bool true)/\Below w'.heap.size w' w2)
  (hI:∀x∈u,∀w',Below w.heap.size w w'->(Calls Tryz.prog 39 #[.int .i64 (x.getD 1 0)] w' λe w2=>e= .returned (.string (it (x.getD 1 0)))/\Below w'.heap.size w' w2)/\
   (Calls Tryz.prog 39 #[.int .i64 (x.getD 2 0)] w' λe w2=>e= .returned (.string (it (x.getD 2 0)))/\Below w'.heap.size w' w2))
  (hN:∀x∈u,∀w',Below w.heap.size w w'->Calls Tryz.prog 38 #[.int .i8 (x.getD 0 0), .int .i64 (x.getD 3 0), .int .i64 (x.getD 4 0), .string (it (x.getD 1 0)), .string (it (x.getD 2 0))] w' λe w2=>
   e= .returned (.string (nt (x.getD 0 0) (x.getD 3 0) (x.getD 4 0) (it (x.getD 1 0)) (it (x.getD 2 0))))/\Below w'.heap.size w' w2):
  Calls Tryz.prog 8 #[.slice (some ⟨blk,off,none⟩) u.length cap] w λe w'=>e= .returned (.string (u.foldl (λs x=>s++ln x) ⟨#[]⟩))/\Below w.heap.size w w':=by
 have hsize:∀k,((u.take k).foldl (λs x=>s++ln x) (⟨#[]⟩:ByteArray)).size<=k*1000000:=by
  intro k
  induction k with
  |zero=>exact Nat.zero_le _
  |succ k ih=>
   by_cases hlt:k<u.length
   .rw[List.take_succ_eq_append_getElem hlt,List.foldl_append]
    have:=(hln _ (List.getElem_mem hlt)).2
    simp only[List.foldl_cons,List.foldl_nil,ByteArray.size_append]
    omega
   .rw[List.take_of_length_le (show u.length<=k+1 from Nat.le_succ_of_le (Nat.le_of_not_lt hlt))]
    rw[List.take_of_length_le (Nat.le_of_not_lt hlt)] at ih
    exact Nat.le_trans ih (Nat.mul_le_mul_right _ (Nat.le_succ k))
 go_enter Tryz.func8,Tryz.ntmps8
 go_wp2_with (go_at_call 16;refine(hV _ (Below.refl _ _)).mono ?_)
 rintro e w1 ⟨rfl,hb1⟩
 go_wp2
 have hsz1:=hb1.size
 go_loopw [12] (λi wr=>∃k:Nat,k<=u.length/\i= .int .i64 k/\Lib.IsBuilderF 73 5 w1.heap.size w1.heap.size (Lib.strCells ((u.take k).foldl (λs x=>s++ln x) ⟨#[]⟩)) wr/\Below w1.heap.size w1 wr)
  (λi _=>u.length-(intOf i).toNat)
 case atStart=>
  refine⟨0,Nat.zero_le _,rfl, ?_,(Below.refl _ w1).alloc (Nat.le_refl _) _⟩
  exact Lib.IsBuilderF.of (Lib.fresh_isBuilder 73 5 w1)
 case round=>
  obtain⟨k,hk,hi,hB,hbw⟩:=hrel
  subst hi
  have hbw0:Below w.heap.size w wr:=hb1.trans (hbw.mono hsz1)
  have hcell:∀o,wr.cell? ⟨blk,o,none⟩=w.cell? ⟨blk,o,none⟩:=λo=>World.cell?_of_block (hbw0.block blk hblk)
  by_cases hlt:k<u.length
  .obtain⟨c0,c1,c2,c3,c4⟩:=hcells k hlt
   have hxm:u[k]∈u:=List.getElem_mem hlt
   obtain⟨hw1,hw2⟩:=hw _ hxm
   have hlx:=hln _ hxm
   have hIx:=hI _ hxm
   have hNx:=hN _ hxm
   have hszk:=hsize k
   have hstep:(u.take (k+1)).foldl (λs x=>s++ln x) (⟨#[]⟩:ByteArray)=(u.take k).foldl (λs x=>s++ln x) (⟨#[]⟩:ByteArray)++ln u[k]:=by
    rw[List.take_succ_eq_append_getElem hlt,List.foldl_append];rfl
   rw[<-hcell] at c0 c1 c2 c3 c4
   generalize u[k].getD 0 0=kd at*
   generalize u[k].getD 1 0=xa at*
   generalize u[k].getD 2 0=xb at*
   generalize u[k].getD 3 0=xp at*
   generalize u[k].getD 4 0=xq at*
   have hlsz:=hlx.2
   have hlH:Hid (ln u[k]=nt kd xp xq (it xa) (it xb)++⟨#[10]⟩):=hlx.1
   have hntz:(nt kd xp xq (it xa) (it xb)).size+1=(ln u[k]).size:=by rw[hlx.1,ByteArray.size_append];rfl
   have hB2:Hid (Lib.IsBuilderF 73 5 w1.heap.size w1.heap.size (Lib.strCells ((u.take k).foldl (λs x=>s++ln x) ⟨#[]⟩)) wr):=hB
   have hstH:Hid ((u.take (k+1)).foldl (λs x=>s++ln x) (⟨#[]⟩:ByteArray)=(u.take k).foldl (λs x=>s++ln x) (⟨#[]⟩:ByteArray)++ln u[k]):=hstep
   have hbsz:=hbw.size
   have hrlt:w1.heap.size<wr.heap.size:=by
    rcases hB with h|h<;>exact h.lt
   have hcat:∀W:World,(Op.stringOp .add (nt kd xp xq (it xa) (it xb)) ⟨#[10]⟩).run Tryz.prog W= .ok (.string (ln u[k])) W:=λW=>by
    rw[run_string_add_sum W _ _ (by show _+1<=_;omega),hlx.1]
   have hX:∀w',Below w1.heap.size w1 w'->Below w.heap.size w w':=λw' h=>hb1.trans (h.mono hsz1)
   clear hI hN hw hcells hV hln hcell hlx hsize hB hstep
   go_wp2
   go_region_held3 (λw'=>Below w1.heap.size w1 w'/\w1.heap.size<=w'.heap.size/\wr.heap.size<w'.heap.size/\
     w'.cell? ⟨wr.heap.size,0,none⟩=some (.int .i8 kd)/\w'.cell? ⟨wr.heap.size,1,none⟩=some (.int .i16 xa)/\w'.cell? ⟨wr.heap.size,2,none⟩=some (.int .i16 xb)/\w'.cell? ⟨wr.heap.size,3,none⟩=some (.int .i64 xp)/\w'.cell? ⟨wr.heap.size,4,none⟩=some (.int .i64 xq))
    (first|exact aAB hbw hbsz|exact aF7 (by assumption) (by assumption)|exact aF8 (by assumption) (by assumption) (by omega) ⟨_,_,_,by assumption,by decide⟩ (by assumption))
    (first
     |(go_at_call_of 39 (Value.int .i64 xa);refine((hIx _ ?_).1).mono ?_;(exact hX _ (And.left (by assumption)));rintro e wA ⟨rfl,hbA⟩)
     |(go_at_call_of 39 (Value.int .i64 xb);refine((hIx _ ?_).2).mono ?_;(exact hX _ (And.left (by assumption)));rintro e wB ⟨rfl,hbB⟩)
     |(go_at_call 38;refine(hNx _ ?_).mono ?_;(exact hX _ (And.left (by assumption)));rintro e wC ⟨rfl,hbC⟩)
     |(go_at_call 37;refine(afo w1.heap.size w1.heap.size _ _ _ (Gd (Gd (Gd (apl (ahk hB2.out _)) hbA) hbB) hbC) ?_ ?_).mono ?_;(rw[Lib.strCells_length];omega);(omega);rintro e wD ⟨rfl,hbD,hbD2,hbD3⟩;have hT:=PU (PU (PU (avZ wr _) hbA) hbB) hbC))
   go_wp2
   go_roundw
   case rel=>
    refine⟨k+1,by omega,rfl, ?_,And.left (by assumption)⟩
    rw[hstH.out,SI]
    exact hbD
   case measure=>
    simp[intOf]
    omega
  .obtain rfl:k=u.length:=by omega
   have hBs:Lib.IsBuilderF 73 5 w1.heap.size w1.heap.size (Lib.byteCells ((u.take u.length).foldl (λs x=>s++ln x) (⟨#[]⟩:ByteArray)).data.toList) wr:=hB
   clear hI hN hw hcells hV hln hcell
   go_wp2_with (go_at_call 40;refine(Any.Builder_String_any_k Tryz.ar6 Tryz.fu w1.heap.size w1.heap.size _ _ hBs hbw.size).mono ?_)
   rintro e W1 ⟨rfl,_,b1,_⟩
   go_wp2
   go_ret
   exact⟨rfl,hbw0.trans (b1.mono hsz1)⟩
theorem aAH(v:Value)(w:World)(hV:Calls Tryz.prog 16 #[v] w λe w2=>e= .returned (.bool false)/\Below w.heap.size w w2):
  Calls Tryz.prog 8 #[v] w λe w'=>e= .returned (.string ⟨#[]⟩)/\Below w.heap.size w w':=by
 go_enter Tryz.func8,Tryz.ntmps8
 go_wp2_with (go_at_call 16;refine hV.mono ?_)
 rintro e w1 ⟨rfl,hb1⟩
 go_wp2
 go_ret
 exact⟨rfl,hb1⟩
end
abbrev EN:EK:= .rc [.i8, .i16, .i16, .i64, .i64]
noncomputable def BD(m:Nat)(x:List Int):Option ByteArray:=
 (Gs m (x.getD 1 0) some).bind λsa=>(Gs m (x.getD 2 0) some).bind λsb=>(g38 m (x.getD 0 0) (x.getD 3 0) (x.getD 4 0) sa sb some).map (·++⟨#[10]⟩)
structure apg (m:Nat) (u:List (List Int)):Prop where
 ne:u≠ []
 le:u.length<=40
 wr:∀x∈u,IntKind.wrap .i64 (x.getD 1 0)=x.getD 1 0/\IntKind.wrap .i64 (x.getD 2 0)=x.getD 2 0
 ln:∀x∈u,∃l,BD m x=some l/\l.size<=1000000
noncomputable def X3(m:Nat)(u:List (List Int)):ByteArray:=u.foldl (λs x=>s++(BD m x).getD ⟨#[]⟩) ⟨#[]⟩
theorem WL(m:Nat){n:Int}{s:ByteArray}(h:Gs m n some=some s):Yd Go.Proofs.Tryz.prog 39 [.vl (.sv (.int .i64 n))] [] (.vl (.sv (.str s))) [] []:=by
 obtain⟨v,Bs,Ns,h1,h2⟩:=auc m ByteArray [.i n] (λv Bs Ns=>match v,Bs,Ns with| .vl (.sv (.str s)),[],[]=>some s|_,_,_=>none) s h
 split at h1
 .cases h1;exact h2
 .cases h1
theorem aog(m:Nat){kd p q:Int}{sa sb s:ByteArray}(h:g38 m kd p q sa sb some=some s):
  Yd Go.Proofs.Tryz.prog 38 [.vl (.sv (.int .i8 kd)), .vl (.sv (.int .i64 p)), .vl (.sv (.int .i64 q)), .vl (.sv (.str sa)), .vl (.sv (.str sb))] [] (.vl (.sv (.str s))) [] []:=by
 obtain⟨v,Bs,Ns,h1,h2⟩:=aDn m ByteArray [.i kd, .i p, .i q, .s sa, .s sb] (λv Bs Ns=>match v,Bs,Ns with| .vl (.sv (.str s)),[],[]=>some s|_,_,_=>none) s h
 split at h1
 .cases h1;exact h2
 .cases h1
theorem aoX(m:Nat){args:List TV}{Bs:List bg}{u:List (List Int)}(hfl:∀B∈Bs,B.1=false/\gB B.2=true)(hl:Bs.length<=1000)(hnm:∀x∈args,∀b∈x.nm,b<Bs.length){b:Bool}{Bs' Ns:List (List Seg)}
  (hV:Yd Go.Proofs.Tryz.prog 16 args Bs (.vl (.sv (.bool b))) Bs' Ns) (hok:b=true->apg m u) {ids:bF} {w:World} {v:Value} (hH:uw ids Bs w) (hA:Cz ids args [v]) (hg:gQ w [])
  (hmem:b=true->u≠ []->∃blk off cap,v= .slice (some ⟨blk,off,none⟩) u.length cap/\blk<w.heap.size/\∀i (h:i<u.length) j x,(encR [.i8, .i16, .i16, .i64, .i64] u[i])[j]? =some x->∃v',w.cell? ⟨blk,off+i*5+j,none⟩=some v'/\x.R ids v'):
  Calls Go.Proofs.Tryz.prog 8 #[v] w λe w'=>e= .returned (.string (cond b (X3 m u) ⟨#[]⟩))/\RowKit.Below w.heap.size w w':=by
 have hVc:∀w',RowKit.Below w.heap.size w w'->Calls Go.Proofs.Tryz.prog 16 #[v] w' λe w2=>e= .returned (.bool b)/\RowKit.Below w'.heap.size w' w2:=by
  intro w' hk
  refine(wI hV hfl hl hnm (hH.kept (gX hk)) hA (hg.kept (gX hk))).mono ?_
  rintro e w2 ⟨ids',cv,rfl,hv,hk2⟩
  have hv':cv= .bool b:=hv
  exact⟨by rw[hv'],hk2⟩
 cases b with
 |false=>exact aAH v w (hVc w (RowKit.Below.refl _ _))
 |true=>
  obtain⟨h1,h2,h3,h4⟩:=hok rfl
  obtain⟨blk,off,cap,rfl,hblk,hcells⟩:=hmem rfl h1
  have hline:∀x∈u,∃sa sb s,Gs m (x.getD 1 0) some=some sa/\Gs m (x.getD 2 0) some=some sb/\g38 m (x.getD 0 0) (x.getD 3 0) (x.getD 4 0) sa sb some=some s/\BD m x=some (s++⟨#[10]⟩):=by
   intro x hx
   obtain⟨l,hl,_⟩:=h4 x hx
   unfold BD at hl
   simp only[Option.bind_eq_some_iff,Option.map_eq_some_iff] at hl
   obtain⟨sa,ha,sb,hb,s,hs,rfl⟩:=hl
   refine⟨sa,sb,s,ha,hb,hs, ?_⟩
   unfold BD
   rw[ha,Option.bind_some,hb,Option.bind_some,hs];rfl
  have hread:∀x:List Int,x.headD 0=x.getD 0 0/\x.tail.headD 0=x.getD 1 0/\x.tail.tail.headD 0=x.getD 2 0/\x.tail.tail.tail.headD 0=x.getD 3 0/\x.tail.tail.tail.tail.headD 0=x.getD 4 0:=by
   intro x
   rcases x with _|⟨a,_|⟨b,_|⟨c,_|⟨d,_|⟨e,r⟩⟩⟩⟩⟩<;>exact⟨rfl,rfl,rfl,rfl,rfl⟩
  exact asG u blk off cap w hblk h1 h2 (λx=>(BD m x).getD ⟨#[]⟩) (λn=>(Gs m n some).getD ⟨#[]⟩) (λkd p q sa sb=>(g38 m kd p q sa sb some).getD ⟨#[]⟩)
   (λx hx=>by
    obtain⟨sa,sb,s,e1,e2,e3,e4⟩:=hline x hx
    obtain⟨l,hl,hsz⟩:=h4 x hx
    refine⟨?_,by rw[hl];exact hsz⟩
    simp only[e1,e2,e3,e4,Option.getD_some])
   (λi h=>by
    have hc:=hcells i h
    obtain⟨r0,r1,r2,r3,r4⟩:=hread u[i]
    rw[<-r0,<-r1,<-r2,<-r3,<-r4]
    refine⟨?_, ?_, ?_, ?_, ?_⟩
    .obtain⟨v',e,hv⟩:=hc 0 _ rfl
     rw[show v'=_ from hv] at e;exact e
    .obtain⟨v',e,hv⟩:=hc 1 _ rfl
     rw[show v'=_ from hv] at e;exact e
    .obtain⟨v',e,hv⟩:=hc 2 _ rfl
     rw[show v'=_ from hv] at e;exact e
    .obtain⟨v',e,hv⟩:=hc 3 _ rfl
     rw[show v'=_ from hv] at e;exact e
    .obtain⟨v',e,hv⟩:=hc 4 _ rfl
     rw[show v'=_ from hv] at e;exact e)
   h3 hVc
   (λx hx w' hk=>by
    obtain⟨sa,sb,s,e1,e2,e3,e4⟩:=hline x hx
    have hg':=hg.kept (gX hk)
    simp only[e1,e2,Option.getD_some]
    constructor
    .refine(wI (WL m e1) (by simp) (by simp) (by simp[TV.nm,Val.nm,SV.nm]) (KE ids w') (cargs:=[_]) ⟨rfl,trivial⟩ hg').mono ?_
     rintro e w2 ⟨ids',cv,rfl,hv,hk2⟩
     exact⟨by rw[show cv=_ from hv],hk2⟩
    .refine(wI (WL m e2) (by simp) (by simp) (by simp[TV.nm,Val.nm,SV.nm]) (KE ids w') (cargs:=[_]) ⟨rfl,trivial⟩ hg').mono ?_
     rintro e w2 ⟨ids',cv,rfl,hv,hk2⟩
     exact⟨by rw[show cv=_ from hv],hk2⟩)
   (λx hx w' hk=>by
    obtain⟨sa,sb,s,e1,e2,e3,e4⟩:=hline x hx
    have hg':=hg.kept (gX hk)
    simp only[e1,e2,e3,Option.getD_some]
    refine(wI (aog m e3) (by simp) (by simp) (by simp[TV.nm,Val.nm,SV.nm]) (KE ids w') (cargs:=[_,_,_,_,_]) ⟨rfl,rfl,rfl,rfl,rfl,trivial⟩ hg').mono ?_
    rintro e w2 ⟨ids',cv,rfl,hv,hk2⟩
    exact⟨by rw[show cv=_ from hv],hk2⟩)
open Classical in
noncomputable def g8{α:Type}(m:Nat):afj α:=λu k=>
 match g16 m u some with
 |some true=>if apg m u then k (X3 m u) else none
 |some false=>k ⟨#[]⟩
 |none=>none
theorem aHN(m:Nat):lQ Go.Proofs.Tryz.prog 8 (λ{α}=>g8R (g8 m (α:=α))):=by
 refine row_of (F:=λ{α}=>g8K (g8 m (α:=α))) λα ls k r h=> ?_
 have hBs:(fZ afR (dS RD ls).2).1=[(false,[.aD EN ((lf ls 0).ak EN)])]:=rfl
 have hTs:(dS RD ls).1=[.vl (.sv (.aQ 0 5))]:=rfl
 have hVal:∀b,g16 m ((lf ls 0).ak EN) some=some b->∃Bs' Ns,Yd Go.Proofs.Tryz.prog 16 (dS RD ls).1 (fZ afR (dS RD ls).2).1 (.vl (.sv (.bool b))) Bs' Ns:=by
  intro b hb
  obtain⟨v,Bs,Ns,h1,h2⟩:=atA m Bool ls (λv Bs Ns=>match v with| .vl (.sv (.bool b))=>some b|_=>none) b hb
  split at h1
  .cases h1;exact⟨Bs,Ns,h2⟩
  .cases h1
 have hmain:∀b,g16 m ((lf ls 0).ak EN) some=some b->(b=true->apg m ((lf ls 0).ak EN))->
   Yd Go.Proofs.Tryz.prog 8 (dS RD ls).1 (fZ afR (dS RD ls).2).1 (.vl (.sv (.str (cond b (X3 m ((lf ls 0).ak EN)) ⟨#[]⟩)))) ((fZ afR (dS RD ls).2).1.map (·.2)) []:=by
  intro b hb hok
  obtain⟨Bs',Ns,hV⟩:=hVal b hb
  refine qR (fn:=Go.Proofs.Tryz.f8) (by kernel_rfl) (by kernel_rfl) (by kernel_rfl) rfl λids w cargs hH hA hg=> ?_
  obtain⟨v,rfl⟩:∃v,cargs=[v]:=by
   match cargs,hA with
   |[v],_=>exact⟨v,rfl⟩
  have hv:(SV.aQ 0 5).R ids v:=hA.1
  have hblk:=hH.blk 0 (false,[.aD EN ((lf ls 0).ak EN)]) rfl
  have hlen:(ids 0).2.2.1=((lf ls 0).ak EN).length:=hblk.2.1.1
  refine(aoX m (u:=(lf ls 0).ak EN) (by rw[hBs];intro B hB;simp only[List.mem_singleton] at hB;subst hB;exact⟨rfl,rfl⟩) (by rw[hBs];show 1<=1000;omega)
   (by rw[hBs,hTs];intro x hx b hb;simp only[List.mem_singleton] at hx;subst hx;simp only[TV.nm,Val.nm,SV.nm,List.mem_singleton] at hb;subst hb;show 0<1;omega) hV hok hH hA hg.sub (λhbt hne=> ?_)).mono ?_
  .have hpos:0<((lf ls 0).ak EN).length:=List.length_pos_iff.2 hne
   rcases hv with⟨h0,_⟩|⟨h0,hv⟩
   .omega
   .refine⟨(ids 0).1,(ids 0).2.1,(ids 0).2.2.2,by rw[hv,hlen],hblk.2.2.1 (by show Lv [.aD EN ((lf ls 0).ak EN)];first|trivial|(simp[Lv];done)|(simpa[Lv] using hne)),λi hi j x hx=> ?_⟩
    have hj:j<5:=by
     have:=(List.getElem?_eq_some_iff.1 hx).1
     rwa[oJ] at this
    have hget:=iG EN ((lf ls 0).ak EN) i j hi hj
    have hcl:af [.aD EN ((lf ls 0).ak EN)]=((lf ls 0).ak EN).flatMap EN.enc:=gF _ _
    obtain⟨v',h1,h2,_⟩:=hblk.2.2.2 (i*5+j) x (by
     rw[hcl]
     refine hget.trans ?_
     rw[show List.getD ((lf ls 0).ak EN) i EN.d=((lf ls 0).ak EN)[i] by simp[List.getD,hi]]
     exact hx)
    exact⟨v',by rw[<-h1];congr 2;omega,h2⟩
  .rintro e w' ⟨rfl,hk⟩
   exact⟨_,rfl,rfl,gX hk⟩
 replace h:g8 m ((lf ls 0).ak EN) (λy0=>k (.vl (.sv (.str y0))) [[.aD EN ((lf ls 0).ak EN)]] [])=some r:=h
 unfold g8 at h
 split at h
 .rename_i hb
  split at h
  .rename_i hc
   exact⟨_,_,_,h,hmain true hb (λ_=>hc)⟩
  .cases h
 .rename_i hb
  exact⟨_,_,_,h,hmain false hb (λh=>by cases h)⟩
 .cases h
end Go.Proofs.YtlmmgjngihlpeaaGreatDoor.Sx
