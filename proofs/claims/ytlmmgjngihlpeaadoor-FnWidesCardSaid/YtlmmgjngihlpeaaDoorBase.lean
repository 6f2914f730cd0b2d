/- Plain laws: loops that count up, rows. Our own work. -/
import Derived.Test.YtlmmgjngihlpeaaDoorSxV
import Derived.Test.YtlmmgjngihlpeaaDoorSxQ
namespace Go.Proofs.YtlmmgjngihlpeaaDoor.Sx
open Go
set_option linter.unusedVariables false
set_option linter.unusedSimpArgs false
set_option maxRecDepth 100000
theorem wrapS{i:Nat}(h:i<2000000000):IntKind.wrap .i64 ((i:Int)+(1:Int))=((i+1:Nat):Int):=by rw[IntKind.wrap_i64];omega
theorem wrapI{x:Int}(h1:-9223372036854775808≤x)(h2:x≤9223372036854775807):IntKind.wrap .i64 x=x:=by rw[IntKind.wrap_i64];omega
theorem dT{p:Prop}[Decidable p](h:p):decide p=true:=decide_eq_true h
theorem dF{p:Prop}[Decidable p](h:¬p):decide p=false:=decide_eq_false h
theorem getD_at{T:Type}(u:List T)(d:T){i:Nat}(h:i<u.length):List.getD u i d=u[i]:=by simp[List.getD,h]
theorem take_snoc{T:Type}(l:List T){i:Nat}(h:i<l.length):l.take i++[l[i]]=l.take (i+1):=by rw[List.take_succ_eq_append_getElem h]
theorem cast_lt{i n:Nat}(h:i<n):(0:Int)≤(i:Int)∧(i:Int)<(n:Nat):=⟨by omega,by omega⟩
end Go.Proofs.YtlmmgjngihlpeaaDoor.Sx
