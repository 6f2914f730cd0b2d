/- Plain laws: small whole numbers as wides; products. Our own work. -/
import Derived.Test.YtlmmgjngihlpeaaDoorZedA
import Derived.Test.YtlmmgjngihlpeaaDoorBase
namespace Go.Proofs.YtlmmgjngihlpeaaDoor.Sx
open Go
set_option linter.unusedVariables false
set_option linter.unusedSimpArgs false
set_option maxRecDepth 100000
variable {α:Type} {n:Nat}
theorem two_limbs{v:Nat}(h:v<18446744073709551616):limbs 6 v=[((v%4294967296:Nat):Int),((v/4294967296:Nat):Int),0,0,0,0]:=by
 have h1:v/4294967296<4294967296:=by omega
 simp only[limbs,Nat.mod_eq_of_lt h1,Nat.div_eq_of_lt h1]<;>rfl
theorem limb0{v:Nat}(h:v<18446744073709551616):IntKind.wrap .u32 (v:Int)=((v%4294967296:Nat):Int):=wrapU32 v
theorem limb1{v:Nat}(h:v<18446744073709551616):IntKind.wrap .u32 (Int.fdiv (v:Int) (2^32))=((v/4294967296:Nat):Int):=by
 rw[show(2^32:Int)=((4294967296:Nat):Int) from rfl,fdivNat,wrapU32,Nat.mod_eq_of_lt (by omega)]
theorem u64_neg{x:Int}(h0:x<0)(h1:-9223372036854775808≤x):IntKind.wrap .u64 (0-IntKind.wrap .u64 x)=(x.natAbs:Int):=by
 have e:∀y:Int,IntKind.wrap .u64 y=y%18446744073709551616:=fun y=>by simp[IntKind.wrap,IntKind.bits,IntKind.signed]
 rw[e,e]
 omega
theorem small_w{x:Int}(h1:-9223372036854775808≤x)(h2:x≤9223372036854775807):x.natAbs<18446744073709551616:=by omega
theorem small_W{x:Int}(h1:-9223372036854775808≤x)(h2:x≤9223372036854775807):x.natAbs<W192:=by
 have:18446744073709551616≤W192:=by decide
 omega
theorem g32Z(m:Nat){x:Int}(h1:-9223372036854775808≤x)(h2:x≤9223372036854775807)(k:Bool→List Int→Option α):g32 m x k=k (zs x) (zl x):=by
 have hv:=small_w h1 h2
 rw[g32_o]
 by_cases h:x<0
 ·rw[decide_eq_true h,cond_true]
  dsimp only
  rw[u64_neg h h1,limb0 hv,limb1 hv,←two_limbs hv,g68Z m true (small_W h1 h2),cond_true,show-(x.natAbs:Int)=x by omega];rfl
 ·rw[decide_eq_false h,cond_false]
  dsimp only
  have e:IntKind.wrap .u64 x=(x.natAbs:Int):=by rw[wrapU64 (by omega) (by omega)];omega
  rw[e,limb0 hv,limb1 hv,←two_limbs hv,g68Z m false (small_W h1 h2),cond_false,show(x.natAbs:Int)=x by omega];rfl
theorem zs_mul{x y:Int}:(!(zs x==zs y)&& !(decide (x.natAbs*y.natAbs=0)))=zs (x*y):=by
 unfold zs
 by_cases hx:x<0<;>by_cases hy:y<0
 ·have h:=Int.mul_pos_of_neg_of_neg hx hy
  rw[decide_eq_true hx,decide_eq_true hy,decide_eq_false (show¬x*y<0 by omega)];rfl
 ·rw[decide_eq_true hx,decide_eq_false hy]
  by_cases h0:y=0
  ·subst h0;simp
  ·have h:=Nat.mul_pos (show 0<x.natAbs by omega) (show 0<y.natAbs by omega)
   rw[decide_eq_true (Int.mul_neg_of_neg_of_pos hx (by omega)),decide_eq_false (show¬x.natAbs*y.natAbs=0 by omega)];rfl
 ·rw[decide_eq_false hx,decide_eq_true hy]
  by_cases h0:x=0
  ·subst h0;simp
  ·have h:=Nat.mul_pos (show 0<x.natAbs by omega) (show 0<y.natAbs by omega)
   rw[decide_eq_true (Int.mul_neg_of_pos_of_neg (by omega) hy),decide_eq_false (show¬x.natAbs*y.natAbs=0 by omega)];rfl
 ·have h:=Int.mul_nonneg (show 0≤x by omega) (show 0≤y by omega)
  rw[decide_eq_false hx,decide_eq_false hy,decide_eq_false (show¬x*y<0 by omega)];rfl
theorem g56Z{x y:Int}(hx:x.natAbs<W192)(hy:y.natAbs<W192)(o:Bool)(k:Bool→List Int→Bool→Option α):
  g56 (n+7) (zs x) (zl x) (zs y) (zl y) o k=cond (fitZ (x*y)) (k (zs (x*y)) (zl (x*y)) o) (k false [0,0,0,0,0,0] true):=by
 rw[g56_o]
 unfold zl
 rw[g97L n hx hy,fitZ_eq (Int.natAbs_mul x y)]
 by_cases h:x.natAbs*y.natAbs<W192
 ·rw[decide_eq_true h,cond_true,cond_true]
  have e:g68 (n+7) (!(zs x==zs y)) (limbs 6 (x.natAbs*y.natAbs))=fun(k:Bool→Option α)=>k (zs (x*y)):=by
   funext k;rw[g68L _ _ h,zs_mul]
  rw[e,Int.natAbs_mul]
  cases o<;>rfl
 ·rw[decide_eq_false h,cond_false,cond_false]
  have e:∀q,g68 (n+7) q [0,0,0,0,0,0]=fun(k:Bool→Option α)=>k false:=by
   intro q;funext k;cases q<;>kernel_rfl
  rw[e]
  cases o<;>rfl
end Go.Proofs.YtlmmgjngihlpeaaDoor.Sx
