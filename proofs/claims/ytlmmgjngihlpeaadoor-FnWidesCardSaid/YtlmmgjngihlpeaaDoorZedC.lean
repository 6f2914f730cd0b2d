/- Plain laws: quotients, what is nearest, roots and powers of whole numbers. Our own work. -/
import Derived.Test.YtlmmgjngihlpeaaDoorZedB
import Derived.Test.YtlmmgjngihlpeaaDoorPureZb
namespace Go.Proofs.YtlmmgjngihlpeaaDoor.Sx
open Go
set_option linter.unusedVariables false
set_option linter.unusedSimpArgs false
set_option maxRecDepth 100000
variable {α:Type} {n:Nat}
theorem mk_zs(c:Bool)(v:Nat):(c&& !(decide (v=0)))=zs (cond c (-(v:Int)) v):=by
 cases c
 ·rw[cond_false,zs_nat];rfl
 ·rw[cond_true,zs_negnat];rfl
theorem mk_zl(c:Bool)(v:Nat):limbs 6 v=zl (cond c (-(v:Int)) v):=by
 cases c
 ·rfl
 ·rw[cond_true,zl_neg];rfl
theorem div_pos(s:Bool){a b:Nat}(hb:0<b):(cond s (-(a:Int)) a)/(b:Int)=cond s (-(dQ s false a b:Int)) (dQ s false a b)∧(cond s (-(a:Int)) a)%(b:Int)=dR s false a b:=by
 have h:=Nat.div_add_mod a b
 have hr:=Nat.mod_lt a hb
 refine(Int.ediv_emod_unique (by omega)).2 ?_
 have h':(b:Int)*((a/b:Nat):Int)+((a%b:Nat):Int)=a:=by
  rw[←Int.natCast_mul,←Int.natCast_add,h]
 unfold dQ dR ups
 cases s
 ·simp only[beq_self_eq_true,Bool.not_true,Bool.false_and,cond_false]
  exact⟨by omega,by omega,by omega⟩
 ·simp only[show(true==false)=false from rfl,Bool.not_false,Bool.true_and,cond_true]
  by_cases h0:a%b=0
  ·rw[decide_eq_true h0,Bool.not_true,cond_false,cond_false]
   refine⟨?_,by omega,by omega⟩
   rw[Int.mul_neg];omega
  ·rw[decide_eq_false h0,Bool.not_false,cond_true,cond_true]
   refine⟨?_,by omega,by omega⟩
   rw[Int.natCast_add,Int.mul_neg,Int.mul_add]
   omega
end Go.Proofs.YtlmmgjngihlpeaaDoor.Sx
