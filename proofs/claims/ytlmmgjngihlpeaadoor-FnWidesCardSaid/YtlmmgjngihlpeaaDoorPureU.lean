import Derived.Test.YtlmmgjngihlpeaaDoorPureQ
/- Plain laws: ShiftNear. Our own work. -/
namespace Go.Proofs.YtlmmgjngihlpeaaDoor.Sx
open Go
set_option linter.unusedVariables false
set_option linter.unusedSimpArgs false
set_option maxRecDepth 100000
end Go.Proofs.YtlmmgjngihlpeaaDoor.Sx
/- Plain laws: RootWide. Our own work. -/
namespace Go.Proofs.YtlmmgjngihlpeaaDoor.Sx
open Go
set_option linter.unusedVariables false
set_option linter.unusedSimpArgs false
set_option maxRecDepth 100000
end Go.Proofs.YtlmmgjngihlpeaaDoor.Sx
/- Plain laws: ReadWide. Our own work. -/
namespace Go.Proofs.YtlmmgjngihlpeaaDoor.Sx
open Go
set_option linter.unusedVariables false
set_option linter.unusedSimpArgs false
set_option maxRecDepth 100000
theorem bytes_loop(b:ByteArray):∀(n i:Nat) (r:List UInt8),b.size-i=n→ByteArray.toList.loop b i r=r.reverse++b.data.toList.drop i
 |0,i,r,h=>by
  unfold ByteArray.toList.loop
  rw[if_neg (by omega),List.drop_eq_nil_of_le (by simpa using(show b.data.size≤i from(by have:b.size=b.data.size:=rfl;omega))),List.append_nil]
 |n+1,i,r,h=>by
  unfold ByteArray.toList.loop
  have hs:b.size=b.data.size:=rfl
  have hi:i<b.data.toList.length:=by simp;omega
  rw[if_pos (by omega),bytes_loop b n (i+1) _ (by omega),List.drop_eq_getElem_cons hi]
  have:b.get! i=b.data.toList[i]:=by
   show b.data[i]! =_
   rw[getElem!_pos b.data i (by simpa using hi)]
   simp
  rw[this];simp
theorem bytes_toList(b:ByteArray):b.toList=b.data.toList:=by
 unfold ByteArray.toList
 rw[bytes_loop b _ 0 [] rfl];rfl
theorem bytesEq_list(a b:ByteArray):bytesEq a b=decide (a.data.toList=b.data.toList):=by
 unfold bytesEq
 rw[bytes_toList,bytes_toList]
 by_cases h:a.data.toList=b.data.toList
 ·rw[decide_eq_true h,h];simp
 ·rw[decide_eq_false h];simpa using h
theorem size_list(b:ByteArray):b.size=b.data.toList.length:=by simp
theorem bytesEq_nil(a:ByteArray):bytesEq a (⟨#[]⟩:ByteArray)=decide (a.size=0):=by
 rw[bytesEq_list]
 congr 1
 rw[size_list]
 simp only[eq_iff_iff]
 cases hl:a.data.toList with
 |nil=>simp
 |cons x r=>simp
theorem prefix_text{z:ByteArray}{x:UInt8}{r:List UInt8}(h:z.data.toList=x::r):bytesEq (ByteArray.extract z 0 1) (⟨#[45]⟩:ByteArray)=decide (x=45):=by
 rw[bytesEq_list,ByteArray.data_extract,Array.toList_extract,h]
 simp[List.extract]
end Go.Proofs.YtlmmgjngihlpeaaDoor.Sx
/- Plain laws: ReadWide, the whole. Our own work. -/
namespace Go.Proofs.YtlmmgjngihlpeaaDoor.Sx
open Go
set_option linter.unusedVariables false
set_option linter.unusedSimpArgs false
set_option maxRecDepth 100000
end Go.Proofs.YtlmmgjngihlpeaaDoor.Sx
