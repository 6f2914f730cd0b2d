import Derived.Test.YtlmmgjngihlpeaaGreatSxV
import Derived.Test.YtlmmgjngihlpeaaGreatSxQ
namespace Go.Proofs.YtlmmgjngihlpeaaGreat.Sx
open Go
set_option linter.unusedVariables false
set_option maxRecDepth 100000
theorem six{l:List Int}(h:l.length=6):∃a b c d e f,l=[a,b,c,d,e,f]:=by
 match l,h with
 |[a,b,c,d,e,f],_=>exact⟨a,b,c,d,e,f,rfl⟩
end Go.Proofs.YtlmmgjngihlpeaaGreat.Sx
namespace Go.Proofs.YtlmmgjngihlpeaaGreat.Sx
open Go
set_option linter.unusedVariables false
set_option linter.unusedSimpArgs false
set_option maxRecDepth 100000
end Go.Proofs.YtlmmgjngihlpeaaGreat.Sx
namespace Go.Proofs.YtlmmgjngihlpeaaGreat.Sx
open Go
set_option linter.unusedVariables false
set_option linter.unusedSimpArgs false
set_option maxRecDepth 100000
def cmp1(x y r:Int):Int:=if x<y then-1 else if y<x then 1 else r
def cmp6(l m:List Int):Int:=cmp1 (l.getD 5 0) (m.getD 5 0) (cmp1 (l.getD 4 0) (m.getD 4 0) (cmp1 (l.getD 3 0) (m.getD 3 0) (cmp1 (l.getD 2 0) (m.getD 2 0) (cmp1 (l.getD 1 0) (m.getD 1 0) (cmp1 (l.getD 0 0) (m.getD 0 0) 0)))))
theorem stepSpec{α:Type}(x y r:Int)(k:Int→Option α):cond (decide (x<y)) (k (-1)) (cond (decide (x>y)) (k 1) (k r))=k (cmp1 x y r):=by
 unfold cmp1
 by_cases h:x<y
 ·simp[h]
 ·by_cases h2:y<x
  ·simp[h,h2]
  ·simp[h,h2]
theorem stepImpl{α:Type}(x y r:Int)(k:Int→Option α):cond (x !=y) (cond (decide (x<y)) (k (-1)) (k 1)) (k r)=k (cmp1 x y r):=by
 unfold cmp1
 by_cases h:x<y
 ·rw[show(x !=y)=true by simpa using(show x≠y by omega)];simp[h]
 ·by_cases h2:y<x
  ·rw[show(x !=y)=true by simpa using(show x≠y by omega)];simp[h,h2]
  ·simp[h,h2,show x=y by omega]
theorem g111Eq{α:Type}(n:Nat){l m:List Int}(hl:l.length=6)(hm:m.length=6)(k:Int→Option α):g111 (n+7) l m k=k (cmp6 l m):=by
 obtain⟨a,b,c,d,e,f,rfl⟩:=six hl
 obtain⟨a',b',c',d',e',f',rfl⟩:=six hm
 have h:g111 (n+7) [a,b,c,d,e,f] [a',b',c',d',e',f'] k=cond (decide (f<f')) (k (-1)) (cond (decide (f>f')) (k 1) (cond (decide (e<e')) (k (-1)) (cond (decide (e>e')) (k 1)
  (cond (decide (d<d')) (k (-1)) (cond (decide (d>d')) (k 1) (cond (decide (c<c')) (k (-1)) (cond (decide (c>c')) (k 1) (cond (decide (b<b')) (k (-1)) (cond (decide (b>b')) (k 1)
  (cond (decide (a<a')) (k (-1)) (cond (decide (a>a')) (k 1) (k 0)))))))))))):=by kernel_rfl
 rw[h]
 simp only[stepSpec]
 rfl
theorem g46Eq{α:Type}(n:Nat){l m:List Int}(hl:l.length=6)(hm:m.length=6)(k:Int→Option α):g46 (n+7) l m k=k (cmp6 l m):=by
 obtain⟨a,b,c,d,e,f,rfl⟩:=six hl
 obtain⟨a',b',c',d',e',f',rfl⟩:=six hm
 have h:g46 (n+7) [a,b,c,d,e,f] [a',b',c',d',e',f'] k=cond (f !=f') (cond (decide (f<f')) (k (-1)) (k 1)) (cond (e !=e') (cond (decide (e<e')) (k (-1)) (k 1))
  (cond (d !=d') (cond (decide (d<d')) (k (-1)) (k 1)) (cond (c !=c') (cond (decide (c<c')) (k (-1)) (k 1)) (cond (b !=b') (cond (decide (b<b')) (k (-1)) (k 1))
  (cond (a !=a') (cond (decide (a<a')) (k (-1)) (k 1)) (k 0)))))):=by kernel_rfl
 rw[h]
 simp only[stepImpl]
 rfl
end Go.Proofs.YtlmmgjngihlpeaaGreat.Sx
namespace Go.Proofs.YtlmmgjngihlpeaaGreat.Sx
open Go
set_option linter.unusedVariables false
set_option linter.unusedSimpArgs false
set_option maxRecDepth 100000
def sumS(c a b:Int):Int:=IntKind.wrap .u64 ((IntKind.wrap .u64 ((IntKind.wrap .u64 a)+(IntKind.wrap .u64 b)))+c)
def hiS(x:Int):Int:=Int.fdiv x (2^32)
def loS(x:Int):Int:=IntKind.wrap .u32 x
def sumSd(c a b:Int):Int:=IntKind.wrap .u64 (c+(IntKind.wrap .u64 ((IntKind.wrap .u64 a)+(IntKind.wrap .u64 b))))
theorem sumSdEq:sumSd=sumS:=by funext c a b;unfold sumSd sumS;rw[Int.add_comm]
def sumL(F:Int→Int→Int→Int)(c:Int):List Int→List Int→List Int×Int
 |a::l,b::m=>(loS (F c a b)::(sumL F (hiS (F c a b)) l m).1,(sumL F (hiS (F c a b)) l m).2)
 |_,_=>([],c)
theorem g109Eq{α:Type}(n:Nat){l m:List Int}(hl:l.length=6)(hm:m.length=6)(k:List Int→Bool→Option α):g109 (n+7) l m k=k (sumL sumS 0 l m).1 ((sumL sumS 0 l m).2==0):=by
 obtain⟨a,b,c,d,e,f,rfl⟩:=six hl
 obtain⟨a',b',c',d',e',f',rfl⟩:=six hm
 kernel_rfl
theorem g45Eq{α:Type}(n:Nat){l m:List Int}(hl:l.length=6)(hm:m.length=6)(k:List Int→Bool→Option α):g45 (n+7) l m k=k (sumL sumS 0 l m).1 ((sumL sumS 0 l m).2 !=0):=by
 rw[←sumSdEq]
 obtain⟨a,b,c,d,e,f,rfl⟩:=six hl
 obtain⟨a',b',c',d',e',f',rfl⟩:=six hm
 kernel_rfl
def difX(c a b:Int):Int:=IntKind.wrap .i64 ((IntKind.wrap .i64 ((IntKind.wrap .i64 a)-(IntKind.wrap .i64 b)))-c)
def difD(x:Int):Int:=if x<0 then IntKind.wrap .u32 (IntKind.wrap .i64 (x+4294967296)) else IntKind.wrap .u32 x
def difB(x:Int):Int:=if x<0 then 1 else 0
def difL(c:Int):List Int→List Int→List Int
 |a::l,b::m=>difD (difX c a b)::difL (difB (difX c a b)) l m
 |_,_=>[]
theorem condDif{α:Type}(x:Int)(F:Int→Int→Option α):cond (decide (x<0)) (F 1 (IntKind.wrap .u32 (IntKind.wrap .i64 (x+4294967296)))) (F 0 (IntKind.wrap .u32 x))=F (difB x) (difD x):=by
 unfold difB difD
 by_cases h:x<0<;>simp[h]
theorem g108Eq{α:Type}(n:Nat){l m:List Int}(hl:l.length=6)(hm:m.length=6)(k:List Int→Option α):g108 (n+7) l m k=k (difL 0 l m):=by
 obtain⟨a,b,c,d,e,f,rfl⟩:=six hl
 obtain⟨a',b',c',d',e',f',rfl⟩:=six hm
 have s0:∀(n:Nat) (z:List Int) (k:List Int→Option α) (x0 x1 x2 x3 x4 x5 q:Int),g108l0 [a,b,c,d,e,f] [a',b',c',d',e',f'] z k (n+1) q 0 [x0,x1,x2,x3,x4,x5]=g108l0 [a,b,c,d,e,f] [a',b',c',d',e',f'] z k n (difB (difX q a a')) 1 [(difD (difX q a a')),x1,x2,x3,x4,x5]:=by
  intros n z k x0 x1 x2 x3 x4 x5 q
  refine Eq.trans ?_ (condDif (difX q a a') (fun q w=>g108l0 [a,b,c,d,e,f] [a',b',c',d',e',f'] z k n q 1 [w,x1,x2,x3,x4,x5]))
  kernel_rfl
 have s1:∀(n:Nat) (z:List Int) (k:List Int→Option α) (x0 x1 x2 x3 x4 x5 q:Int),g108l0 [a,b,c,d,e,f] [a',b',c',d',e',f'] z k (n+1) q 1 [x0,x1,x2,x3,x4,x5]=g108l0 [a,b,c,d,e,f] [a',b',c',d',e',f'] z k n (difB (difX q b b')) 2 [x0,(difD (difX q b b')),x2,x3,x4,x5]:=by
  intros n z k x0 x1 x2 x3 x4 x5 q
  refine Eq.trans ?_ (condDif (difX q b b') (fun q w=>g108l0 [a,b,c,d,e,f] [a',b',c',d',e',f'] z k n q 2 [x0,w,x2,x3,x4,x5]))
  kernel_rfl
 have s2:∀(n:Nat) (z:List Int) (k:List Int→Option α) (x0 x1 x2 x3 x4 x5 q:Int),g108l0 [a,b,c,d,e,f] [a',b',c',d',e',f'] z k (n+1) q 2 [x0,x1,x2,x3,x4,x5]=g108l0 [a,b,c,d,e,f] [a',b',c',d',e',f'] z k n (difB (difX q c c')) 3 [x0,x1,(difD (difX q c c')),x3,x4,x5]:=by
  intros n z k x0 x1 x2 x3 x4 x5 q
  refine Eq.trans ?_ (condDif (difX q c c') (fun q w=>g108l0 [a,b,c,d,e,f] [a',b',c',d',e',f'] z k n q 3 [x0,x1,w,x3,x4,x5]))
  kernel_rfl
 have s3:∀(n:Nat) (z:List Int) (k:List Int→Option α) (x0 x1 x2 x3 x4 x5 q:Int),g108l0 [a,b,c,d,e,f] [a',b',c',d',e',f'] z k (n+1) q 3 [x0,x1,x2,x3,x4,x5]=g108l0 [a,b,c,d,e,f] [a',b',c',d',e',f'] z k n (difB (difX q d d')) 4 [x0,x1,x2,(difD (difX q d d')),x4,x5]:=by
  intros n z k x0 x1 x2 x3 x4 x5 q
  refine Eq.trans ?_ (condDif (difX q d d') (fun q w=>g108l0 [a,b,c,d,e,f] [a',b',c',d',e',f'] z k n q 4 [x0,x1,x2,w,x4,x5]))
  kernel_rfl
 have s4:∀(n:Nat) (z:List Int) (k:List Int→Option α) (x0 x1 x2 x3 x4 x5 q:Int),g108l0 [a,b,c,d,e,f] [a',b',c',d',e',f'] z k (n+1) q 4 [x0,x1,x2,x3,x4,x5]=g108l0 [a,b,c,d,e,f] [a',b',c',d',e',f'] z k n (difB (difX q e e')) 5 [x0,x1,x2,x3,(difD (difX q e e')),x5]:=by
  intros n z k x0 x1 x2 x3 x4 x5 q
  refine Eq.trans ?_ (condDif (difX q e e') (fun q w=>g108l0 [a,b,c,d,e,f] [a',b',c',d',e',f'] z k n q 5 [x0,x1,x2,x3,w,x5]))
  kernel_rfl
 have s5:∀(n:Nat) (z:List Int) (k:List Int→Option α) (x0 x1 x2 x3 x4 x5 q:Int),g108l0 [a,b,c,d,e,f] [a',b',c',d',e',f'] z k (n+2) q 5 [x0,x1,x2,x3,x4,x5]=k [x0,x1,x2,x3,x4,(difD (difX q f f'))]:=by
  intros n z k x0 x1 x2 x3 x4 x5 q
  refine Eq.trans ?_ (condDif (difX q f f') (fun q w=>k [x0,x1,x2,x3,x4,w]))
  kernel_rfl
 show g108l0 [a,b,c,d,e,f] [a',b',c',d',e',f'] [0,0,0,0,0,0] (fun l=>k l) (n+6+1) 0 0 [0,0,0,0,0,0]=_
 rw[s0,s1 (n+5),s2 (n+4),s3 (n+3),s4 (n+2),s5 n]
 rfl
def difXi(c a b:Int):Int:=IntKind.wrap .u64 ((IntKind.wrap .u64 ((IntKind.wrap .u64 a)-(IntKind.wrap .u64 b)))-c)
def difLi(c:Int):List Int→List Int→List Int
 |a::l,b::m=>IntKind.wrap .u32 (difXi c a b)::difLi (Int.fdiv (difXi c a b) (2^63)) l m
 |_,_=>[]
theorem g84Eqi{α:Type}(n:Nat){l m:List Int}(hl:l.length=6)(hm:m.length=6)(k:List Int→Option α):g84 (n+7) l m k=k (difLi 0 l m):=by
 obtain⟨a,b,c,d,e,f,rfl⟩:=six hl
 obtain⟨a',b',c',d',e',f',rfl⟩:=six hm
 kernel_rfl
theorem difStep{c a b:Int}(hc:c=0∨c=1)(ha:0≤a∧a≤4294967295)(hb:0≤b∧b≤4294967295):
  IntKind.wrap .u32 (difXi c a b)=difD (difX c a b)∧Int.fdiv (difXi c a b) (2^63)=difB (difX c a b)∧(difB (difX c a b)=0∨difB (difX c a b)=1):=by
 have hx:difX c a b=a-b-c:=by
  unfold difX IntKind.wrap
  simp only[IntKind.signed,IntKind.bits]
  simp
  try omega
 have hxi:difXi c a b=(a-b-c)%18446744073709551616:=by
  unfold difXi IntKind.wrap
  simp only[IntKind.signed,IntKind.bits]
  simp
  try omega
 rw[hx,hxi]
 unfold difD difB IntKind.wrap
 simp only[IntKind.signed,IntKind.bits]
 rw[Int.fdiv_eq_ediv_of_nonneg _ (by decide)]
 by_cases h:a-b-c<0
 ·simp[h];try omega
 ·simp[h];try omega
end Go.Proofs.YtlmmgjngihlpeaaGreat.Sx
namespace Go.Proofs.YtlmmgjngihlpeaaGreat.Sx
open Go
set_option linter.unusedVariables false
set_option linter.unusedSimpArgs false
set_option maxRecDepth 100000
def U32(l:List Int):Prop:=∀x∈l,(Lit.int .u32 x).wf=true
theorem difLEq:∀(l m:List Int) (c:Int),U32 l→U32 m→(c=0∨c=1)→difLi c l m=difL c l m
 |a::l,b::m,c,hl,hm,hc=>by
  obtain⟨h1,h2,h3⟩:=difStep hc (bounds_u32 (hl a (by simp))) (bounds_u32 (hm b (by simp)))
  simp only[difLi,difL,h1,h2,difLEq l m _ (fun x hx=>hl x (by simp[hx])) (fun x hx=>hm x (by simp[hx])) h3]
 |[],_,_,_,_,_=>by simp[difLi,difL]
 |_::_,[],_,_,_,_=>by simp[difLi,difL]
end Go.Proofs.YtlmmgjngihlpeaaGreat.Sx
namespace Go.Proofs.YtlmmgjngihlpeaaGreat.Sx
open Go
set_option linter.unusedVariables false
set_option linter.unusedSimpArgs false
set_option maxRecDepth 100000
def isLen(v b:Nat):Bool:=decide (v<2^b)&&(b==0||decide (2^(b-1)≤v))
theorem isLen_iff{v b:Nat}:isLen v b=true↔v<2^b∧(b=0∨2^(b-1)≤v):=by simp[isLen]
theorem isLen_unique{v b c:Nat}(h:isLen v b=true)(h':isLen v c=true):b=c:=by
 rw[isLen_iff] at h h'
 obtain⟨h1,h2⟩:=h
 obtain⟨h3,h4⟩:=h'
 rcases Nat.lt_trichotomy b c with hlt|rfl|hlt
 ·have hp:2^b≤2^(c-1):=Nat.pow_le_pow_right (by decide) (by omega)
  omega
 ·rfl
 ·have hp:2^c≤2^(b-1):=Nat.pow_le_pow_right (by decide) (by omega)
  omega
theorem isLen_shift{v b s:Nat}(h:isLen (v/2^s) b=true)(hb:0<b):isLen v (b+s)=true:=by
 rw[isLen_iff] at h⊢
 obtain⟨h1,h2⟩:=h
 rcases h2 with h2|h2
 ·omega
 ·refine⟨?_, .inr ?_⟩
  ·rw[Nat.pow_add]
   exact(Nat.div_lt_iff_lt_mul (Nat.two_pow_pos s)).1 h1
  ·rw[show b+s-1=(b-1)+s by omega,Nat.pow_add]
   exact(Nat.le_div_iff_mul_le (Nat.two_pow_pos s)).1 h2
def tableB:Bool:=(List.range 256).all fun x=>isLen x ((byteAt strC0 x).toNat)&&decide (0≤byteAt strC0 x)
theorem tableOk:tableB=true:=by kernel_rfl
theorem table_len{x:Nat}(h:x<256):∃b:Nat,byteAt strC0 x=(b:Int)∧isLen x b=true:=by
 have h0:=tableOk
 unfold tableB at h0
 rw[List.all_eq_true] at h0
 have h1:=h0 x (List.mem_range.2 h)
 rw[Bool.and_eq_true,decide_eq_true_eq] at h1
 exact⟨(byteAt strC0 x).toNat,(Int.toNat_of_nonneg h1.2).symm,h1.1⟩
theorem strC0_size:strC0.size=256:=by kernel_rfl
theorem isLen_le{x b:Nat}(h:isLen x b=true){c:Nat}(hx:x<2^c):b≤c:=by
 rw[isLen_iff] at h
 rcases h.2 with h2|h2
 ·omega
 ·rcases Nat.lt_or_ge c b with hlt|hge
  ·have hp:2^c≤2^(b-1):=Nat.pow_le_pow_right (by decide) (by omega)
   omega
  ·exact hge
theorem isLen_pos{x b:Nat}(h:isLen x b=true)(hx:0<x):0<b:=by
 rw[isLen_iff] at h
 rcases Nat.eq_zero_or_pos b with rfl|hb
 ·simp at h;omega
 ·exact hb
theorem wrapU8{x:Nat}(h:x<256):IntKind.wrap .u8 (x:Int)=x:=by
 unfold IntKind.wrap;simp only[IntKind.signed,IntKind.bits];simp;omega
theorem wrapI64{x:Int}(h0:-9223372036854775808≤x)(h1:x≤9223372036854775807):IntKind.wrap .i64 x=x:=by
 unfold IntKind.wrap;simp only[IntKind.signed,IntKind.bits];simp;omega
theorem fdivNat(x y:Nat):Int.fdiv (x:Int) (y:Int)=((x/y:Nat):Int):=by
 rw[Int.fdiv_eq_ediv_of_nonneg _ (by omega)];simp
theorem g104Eq{α:Type}(n:Nat){p b:Nat}(hp:p<4294967296)(hb:isLen p b=true)(k:Int→Option α):g104 n (p:Int) k=k (b:Int):=by
 have fin:∀(x s:Nat) (c:Int),x<256→p/2^s=x→(s=0∨0<x)→s≤24→c=(s:Int)→
   (if 0≤(x:Int)∧(x:Int)<(strC0.size:Nat) then k (IntKind.wrap .i64 (c+(IntKind.wrap .i64 (byteAt strC0 (x:Int).toNat)))) else none)=k (b:Int):=by
  intro x s c hx hps hs hs2 hc
  subst hc
  obtain⟨d,hd,hl⟩:=table_len hx
  have hd8:=isLen_le hl (c:=8) hx
  rw[strC0_size,if_pos (by omega),Int.toNat_natCast,hd,wrapI64 (x:=(d:Int)) (by omega) (by omega),wrapI64 (x:=(s:Int)+(d:Int)) (by omega) (by omega)]
  have:b=d+s:=by
   rcases hs with rfl|hs
   ·rw[Nat.pow_zero,Nat.div_one] at hps
    rw[hps] at hb
    exact isLen_unique hb hl
   ·exact isLen_unique hb (isLen_shift (by rw[hps];exact hl) (isLen_pos hl hs))
  rw[this]
  congr 1
  omega
 unfold g104 g104b
 have e16:Int.fdiv (p:Int) (2^16)=((p/2^16:Nat):Int):=fdivNat p (2^16)
 have e8:Int.fdiv (p:Int) (2^8)=((p/2^8:Nat):Int):=fdivNat p (2^8)
 have e24:Int.fdiv ((p/2^16:Nat):Int) (2^8)=((p/2^24:Nat):Int):=by
  rw[show(2^8:Int)=((2^8:Nat):Int) from rfl,fdivNat,Nat.div_div_eq_div_mul]
 by_cases h1:p≥65536
 ·rw[show decide ((p:Int)≥65536)=true by simp;try omega]
  simp only[cond_true,e16]
  by_cases h2:p/2^16≥256
  ·rw[show decide (((p/2^16:Nat):Int)≥256)=true by simp;try omega]
   simp only[cond_true,e24]
   rw[wrapU8 (by omega)]
   exact fin _ 24 24 (by omega) rfl (by omega) (by omega) rfl
  ·rw[show decide (((p/2^16:Nat):Int)≥256)=false by simp;try omega]
   simp only[cond_false]
   rw[wrapU8 (by omega)]
   exact fin _ 16 16 (by omega) rfl (by omega) (by omega) rfl
 ·rw[show decide ((p:Int)≥65536)=false by simp;try omega]
  simp only[cond_false,e8]
  by_cases h2:p≥256
  ·rw[show decide ((p:Int)≥256)=true by simp;try omega]
   simp only[cond_true]
   rw[wrapU8 (by omega)]
   exact fin _ 8 8 (by omega) rfl (by omega) (by omega) rfl
  ·rw[show decide ((p:Int)≥256)=false by simp;try omega]
   simp only[cond_false]
   rw[wrapU8 (by omega)]
   exact fin p 0 0 (by omega) (by simp) (.inl rfl) (by omega) rfl
end Go.Proofs.YtlmmgjngihlpeaaGreat.Sx
namespace Go.Proofs.YtlmmgjngihlpeaaGreat.Sx
open Go
set_option linter.unusedVariables false
set_option linter.unusedSimpArgs false
set_option maxRecDepth 100000
theorem g122l2S{α:Type}(w:Int)(a:List Int)(k:Int→Option α)(n:Nat)(x y:Int):g122l2 w a k (n+1) x y=
  cond (decide (y>0)) (g122l2 w a k n (IntKind.wrap .i64 (x+1)) (Int.fdiv y (2^1))) (k x):=by kernel_rfl
theorem g122l2Eq{α:Type}(w:Int)(a:List Int)(k:Int→Option α):∀(b v c n:Nat),isLen v b=true→c+b≤1000→g122l2 w a k (n+b+1) (c:Int) (v:Int)=k ((c+b:Nat):Int)
 |0,v,c,n,h,hc=>by
  rw[isLen_iff] at h
  have hv:v=0:=by omega
  subst hv
  simp only[g122l2,g122l2b]
  rfl
 |b+1,v,c,n,h,hc=>by
  rw[isLen_iff] at h
  have h2:2^b≤v:=by
   rcases h.2 with h2|h2
   ·omega
   ·simpa using h2
  have hpos:0<v:=by have:=Nat.two_pow_pos b;omega
  have hh:isLen (v/2) b=true:=by
   rw[isLen_iff]
   refine⟨by have:=h.1;rw[Nat.pow_succ] at this;omega, ?_⟩
   cases b with
   |zero=>exact .inl rfl
   |succ b=>right;rw[Nat.pow_succ] at h2;simp only[Nat.add_sub_cancel];omega
  rw[show n+(b+1)+1=(n+b+1)+1 by omega]
  rw[g122l2S]
  rw[show decide ((v:Int)>0)=true by simpa using hpos]
  simp only[cond_true]
  rw[wrapI64 (x:=(c:Int)+1) (by omega) (by omega),show(2^1:Int)=((2:Nat):Int) from rfl,fdivNat,show(c:Int)+1=((c+1:Nat):Int) by omega,
   g122l2Eq w a k b (v/2) (c+1) n hh (by omega)]
  congr 1;omega
theorem len_ex(v:Nat)(h:v<4294967296):∃b,isLen v b=true∧b≤32:=by
 by_cases h0:v=0
 ·exact⟨0,by rw[h0];rfl,by omega⟩
 ·refine⟨v.log2+1, ?_, ?_⟩
  ·rw[isLen_iff]
   exact⟨Nat.lt_log2_self, .inr (by simpa using Nat.log2_self_le h0)⟩
  ·have:=(Nat.log2_lt h0 (k:=32)).2 h
   omega
end Go.Proofs.YtlmmgjngihlpeaaGreat.Sx
