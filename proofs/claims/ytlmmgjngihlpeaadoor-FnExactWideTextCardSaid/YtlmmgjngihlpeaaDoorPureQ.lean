import Derived.Test.YtlmmgjngihlpeaaDoorPureK
/- Plain laws: int64 values of wide integers. Our own work. -/
namespace Go.Proofs.YtlmmgjngihlpeaaDoor.Sx
open Go
set_option linter.unusedVariables false
set_option linter.unusedSimpArgs false
set_option maxRecDepth 100000
end Go.Proofs.YtlmmgjngihlpeaaDoor.Sx
/- Plain laws: shifts of sizes. Our own work. -/
namespace Go.Proofs.YtlmmgjngihlpeaaDoor.Sx
open Go
set_option linter.unusedVariables false
set_option linter.unusedSimpArgs false
set_option maxRecDepth 100000
theorem limbs_getD:∀(k a i:Nat),i<k→List.getD (limbs k a) i 0=((dv i a%4294967296:Nat):Int)
 |k+1,a,0,_=>rfl
 |k+1,a,i+1,h=>by
  show List.getD (limbs k (a/4294967296)) i 0=_
  rw[limbs_getD k _ i (by omega)];rfl
theorem pow_cast(r:Nat):((2:Int)^r)=((2^r:Nat):Int):=by simp
theorem shl32(x r:Nat):IntKind.wrap .u32 ((x:Int)*2^r)=((x*2^r%4294967296:Nat):Int):=by
 rw[pow_cast,←Int.natCast_mul,wrapU32]
theorem shr32(x r:Nat):Int.fdiv (x:Int) (2^r)=((x/2^r:Nat):Int):=by
 rw[pow_cast];exact fdivNat _ _
theorem div32{p:Nat}(hp:p<192):IntKind.wrap .i64 (Int.tdiv (p:Int) 32)=((p/32:Nat):Int):=by
 rw[show(32:Int)=((32:Nat):Int) from rfl,←Int.ofNat_tdiv,wrapI64 (by omega) (by omega)]
theorem mod32(p:Nat):Int.tmod (p:Int) 32=((p%32:Nat):Int):=by
 rw[show(32:Int)=((32:Nat):Int) from rfl,←Int.ofNat_tmod]
end Go.Proofs.YtlmmgjngihlpeaaDoor.Sx
/- Plain laws: shifts of sizes, up (reference) and down. Our own work. -/
namespace Go.Proofs.YtlmmgjngihlpeaaDoor.Sx
open Go
set_option linter.unusedVariables false
set_option linter.unusedSimpArgs false
set_option maxRecDepth 100000
def L6(f:Nat→Int):List Int:=(List.range 6).map f
theorem L6_getD(f:Nat→Int){i:Nat}(h:i<6):List.getD (L6 f) i 0=f i:=by
 match i,h with
 |0,_=>rfl
 |1,_=>rfl
 |2,_=>rfl
 |3,_=>rfl
 |4,_=>rfl
 |5,_=>rfl
theorem L6_set(f:Nat→Int){i:Nat}(h:i<6)(x:Int):List.set (L6 f) i x=L6 (fun j=>if j=i then x else f j):=by
 match i,h with
 |0,_=>rfl
 |1,_=>rfl
 |2,_=>rfl
 |3,_=>rfl
 |4,_=>rfl
 |5,_=>rfl
theorem L6_congr{f g:Nat→Int}(h:∀i,i<6→f i=g i):L6 f=L6 g:=by
 unfold L6
 exact List.map_congr_left fun i hi=>h i (List.mem_range.1 hi)
theorem limbs_L6(a:Nat):limbs 6 a=L6 (fun i=>((dv i a%4294967296:Nat):Int)):=rfl
end Go.Proofs.YtlmmgjngihlpeaaDoor.Sx
/- Plain laws: ShiftUp and ShiftNear. Our own work. -/
namespace Go.Proofs.YtlmmgjngihlpeaaDoor.Sx
open Go
set_option linter.unusedVariables false
set_option linter.unusedSimpArgs false
set_option maxRecDepth 100000
theorem pow192:(2:Nat)^192=W192:=by decide
theorem len_le192{a b:Nat}(ha:a<W192)(hb:isLen a b=true):b≤192:=isLen_le hb (by rw[pow192];exact ha)
end Go.Proofs.YtlmmgjngihlpeaaDoor.Sx
