/- A symbolic evaluator for the machine's code, part E: operations. Our own work. -/
import Derived.Test.YtlmmgjngihlpeaaDoorSxD
namespace Go.Proofs.YtlmmgjngihlpeaaDoor.Sx
open Go
set_option linter.unusedVariables false
set_option linter.unusedSimpArgs false
variable {P : Program}
def lift : Value → TV
  | .bool b => .vl (.sv (.bool b))
  | .int k n => .vl (.sv (.int k n))
  | .string s => .vl (.sv (.str s))
  | .pointer none => .vl (.sv .nilp)
  | .slice none 0 0 => .vl (.sv .nils)
  | .nilIface => .vl (.sv .nili)
  | _ => tunk
def getO (st : St) : Operand → TV
  | .tmp t => st.T t
  | .const v => lift v
  | .func f => .vl (.sv (.clo f []))
  | .global g => .vl (.sv (.gp g 0))
theorem lift_R (ids : Ids) (v : Value) : (lift v).R ids v := by
  unfold lift
  split <;> first | rfl | trivial
theorem lift_nm (v : Value) : (lift v).nm = [] := by
  unfold lift
  split <;> rfl
theorem getO_R {w0 : World} {S : List Nat} {nb : Nat} {idb ids : Ids} {st : St} {a : Act} {w : World} (h : Rep w0 S nb idb ids st a w) (x : Operand) : (getO st x).R ids (a.eval x) := by
  cases x with
  | tmp t => exact h.tmps t
  | const v => exact lift_R ids v
  | global g => rfl
  | func f => rfl
theorem getO_nm {w0 : World} {S : List Nat} {nb : Nat} {idb ids : Ids} {st : St} {a : Act} {w : World} (h : Rep w0 S nb idb ids st a w) (x : Operand) : ∀ b ∈ (getO st x).nm, (st.H b).isSome = true := by
  cases x with
  | tmp t => exact h.clT t
  | const v => intro b hb; simp only [getO, lift_nm] at hb; cases hb
  | global g => intro b hb; cases hb
  | func f => intro b hb; simp [getO, TV.nm, Val.nm, SV.nm] at hb
theorem getO_agr {o : Oper} {f : Eff} {st st2 : St} (h : Agr (tmpsOf o) f st st2) {x : Operand} (hx : x ∈ o.op.operands) : getO st2 x = getO st x := by
  cases x with
  | tmp t =>
    refine h.T t (List.mem_filterMap.2 ⟨.tmp t, by simpa using hx, rfl⟩)
  | _ => rfl
theorem opS_val {o : Oper} {st : St} {f : Eff} (h : ∀ st2, Agr (tmpsOf o) f st st2 → ∀ w0 S nb idb ids a w, Rep w0 S nb idb ids st2 a w →
    ∃ v w', (execOp a.eval o).run P w = .ok (.value v) w' ∧ Post w0 S nb idb st2 f a v w') : OpS P o st f := by
  intro st2 hag w0 S nb idb a w ⟨ids, hr⟩ K Q hK
  obtain ⟨v, w', h1, h2⟩ := h st2 hag w0 S nb idb ids a w hr
  unfold Oper.wp
  rw [h1, Oper.upon_value]
  exact hK v w' h2
theorem opS_skip {o : Oper} {st : St} {f : Eff} (h : ∀ st2, Agr (tmpsOf o) f st st2 → ∀ w0 S nb idb ids a w, Rep w0 S nb idb ids st2 a w →
    ∃ w', (execOp a.eval o).run P w = .ok .skip w' ∧ Post w0 S nb idb st2 f a undef w') : OpS P o st f := by
  intro st2 hag w0 S nb idb a w ⟨ids, hr⟩ K Q hK
  obtain ⟨w', h1, h2⟩ := h st2 hag w0 S nb idb ids a w hr
  unfold Oper.wp
  rw [h1, Oper.upon_skip]
  exact hK undef w' h2
theorem post_pure {w0 : World} {S : List Nat} {nb : Nat} {idb ids : Ids} {st : St} {a : Act} {w : World} (h : Rep w0 S nb idb ids st a w) {x : TV} {rd : List Nat} {v : Value}
    (hv : x.R ids v) (hn : ∀ b ∈ x.nm, (st.H b).isSome = true) : Post w0 S nb idb st ⟨x, rd, []⟩ a v w := ⟨ids, h, hv, hn⟩
def ibits (op : BinOp) (k : IntKind) (x y : Int) : Int :=
  match op with
  | .and => k.wrap (BitVec.ofInt k.bits x &&& BitVec.ofInt k.bits y).toNat
  | .or => k.wrap (BitVec.ofInt k.bits x ||| BitVec.ofInt k.bits y).toNat
  | .xor => k.wrap (BitVec.ofInt k.bits x ^^^ BitVec.ofInt k.bits y).toNat
  | _ => 0
def bytesEq (a b : ByteArray) : Bool := a.toList == b.toList
section
variable {α : Type}
def evIntS (op : BinOp) (k1 : IntKind) (a b : Int) (k : SV → Option α) : Option α :=
  match op with
  | .add => k (.int k1 (k1.wrap (a + b)))
  | .sub => k (.int k1 (k1.wrap (a - b)))
  | .mul => k (.int k1 (k1.wrap (a * b)))
  | .quo => if b = 0 then none else k (.int k1 (k1.wrap (a.tdiv b)))
  | .rem => if b = 0 then none else k (.int k1 (a.tmod b))
  | .and => k (.int k1 (ibits .and k1 a b))
  | .or => k (.int k1 (ibits .or k1 a b))
  | .xor => k (.int k1 (ibits .xor k1 a b))
  | .eql => k (.bool (a == b))
  | .neq => k (.bool (a != b))
  | .lss => k (.bool (decide (a < b)))
  | .leq => k (.bool (decide (a ≤ b)))
  | .gtr => k (.bool (decide (a > b)))
  | .geq => k (.bool (decide (a ≥ b)))
  | _ => none
def evInt (op : BinOp) (k1 : IntKind) (a : Int) (k2 : IntKind) (b : Int) (k : SV → Option α) : Option α :=
  match op with
  | .shl => if b < 0 then none else k (.int k1 (k1.wrap (a * 2 ^ (min b.toNat k1.bits))))
  | .shr => if b < 0 then none else k (.int k1 (a.fdiv (2 ^ (min b.toNat k1.bits))))
  | op => cond (decide (k1 = k2)) (evIntS op k1 a b k) none
def evStr (op : BinOp) (a b : ByteArray) (k : SV → Option α) : Option α :=
  match op with
  | .add => if a.size + b.size ≤ 9223372036854775807 then k (.str (a ++ b)) else none
  | .eql => k (.bool (bytesEq a b))
  | .neq => k (.bool (!bytesEq a b))
  | _ => none
end
theorem intS_run {op : BinOp} {k1 : IntKind} {a b : Int} {α : Type} {k : SV → Option α} {r : α} (h : evIntS op k1 a b k = some r) (t : TypeId) :
    ∃ x, k x = some r ∧ x.nm = [] ∧ ∀ w : World, ∃ v, (binOp op t (.int k1 a) (.int k1 b)).run P w = .ok v w ∧ ∀ ids, x.R ids v := by
  cases op <;> simp only [evIntS, reduceCtorEq] at h
  case add => exact ⟨_, h, rfl, fun w => ⟨_, by simp [binOp, Op.intArith], fun _ => rfl⟩⟩
  case sub => exact ⟨_, h, rfl, fun w => ⟨_, by simp [binOp, Op.intArith], fun _ => rfl⟩⟩
  case mul => exact ⟨_, h, rfl, fun w => ⟨_, by simp [binOp, Op.intArith], fun _ => rfl⟩⟩
  case quo =>
    split at h
    · cases h
    · exact ⟨_, h, rfl, fun w => ⟨_, by simp [binOp, Op.intDiv, *], fun _ => rfl⟩⟩
  case rem =>
    split at h
    · cases h
    · exact ⟨_, h, rfl, fun w => ⟨_, by simp [binOp, Op.intDiv, *], fun _ => rfl⟩⟩
  case and => exact ⟨_, h, rfl, fun w => ⟨.int k1 (ibits .and k1 a b), by simp [binOp, Op.intBits, ibits], fun _ => rfl⟩⟩
  case or => exact ⟨_, h, rfl, fun w => ⟨.int k1 (ibits .or k1 a b), by simp [binOp, Op.intBits, ibits], fun _ => rfl⟩⟩
  case xor => exact ⟨_, h, rfl, fun w => ⟨.int k1 (ibits .xor k1 a b), by simp [binOp, Op.intBits, ibits], fun _ => rfl⟩⟩
  case eql => exact ⟨_, h, rfl, fun w => ⟨_, by simp [binOp, Op.intCmp], fun _ => rfl⟩⟩
  case neq => exact ⟨_, h, rfl, fun w => ⟨_, by simp [binOp, Op.intCmp], fun _ => rfl⟩⟩
  case lss => exact ⟨_, h, rfl, fun w => ⟨_, by simp [binOp, Op.intCmp], fun _ => rfl⟩⟩
  case leq => exact ⟨_, h, rfl, fun w => ⟨_, by simp [binOp, Op.intCmp], fun _ => rfl⟩⟩
  case gtr => exact ⟨_, h, rfl, fun w => ⟨_, by simp [binOp, Op.intCmp], fun _ => rfl⟩⟩
  case geq => exact ⟨_, h, rfl, fun w => ⟨_, by simp [binOp, Op.intCmp], fun _ => rfl⟩⟩
theorem int_run {op : BinOp} {k1 k2 : IntKind} {a b : Int} {α : Type} {k : SV → Option α} {r : α} (h : evInt op k1 a k2 b k = some r) (t : TypeId) :
    ∃ x, k x = some r ∧ x.nm = [] ∧ ∀ w : World, ∃ v, (binOp op t (.int k1 a) (.int k2 b)).run P w = .ok v w ∧ ∀ ids, x.R ids v := by
  have hsame : cond (decide (k1 = k2)) (evIntS op k1 a b k) none = some r →
      ∃ x, k x = some r ∧ x.nm = [] ∧ ∀ w : World, ∃ v, (binOp op t (.int k1 a) (.int k2 b)).run P w = .ok v w ∧ ∀ ids, x.R ids v := by
    intro h
    by_cases hk : k1 = k2
    · subst hk
      simp only [decide_true, cond_true] at h
      exact intS_run h t
    · simp [hk] at h
  cases op <;> try exact hsame h
  case shl =>
    simp only [evInt] at h
    split at h
    · cases h
    · exact ⟨_, h, rfl, fun w => ⟨_, by simp [binOp, Op.shift, *], fun _ => rfl⟩⟩
  case shr =>
    simp only [evInt] at h
    split at h
    · cases h
    · exact ⟨_, h, rfl, fun w => ⟨_, by simp [binOp, Op.shift, *], fun _ => rfl⟩⟩
theorem str_run {op : BinOp} {a b : ByteArray} {α : Type} {k : SV → Option α} {r : α} (h : evStr op a b k = some r) (t : TypeId) :
    ∃ x, k x = some r ∧ x.nm = [] ∧ ∀ w : World, ∃ v, (binOp op t (.string a) (.string b)).run P w = .ok v w ∧ ∀ ids, x.R ids v := by
  cases op <;> simp only [evStr] at h <;> try cases h
  case add =>
    split at h
    · rename_i hs
      refine ⟨_, h, rfl, fun w => ⟨_, ?_, fun _ => rfl⟩⟩
      simp only [binOp, Op.stringOp]
      rw [if_neg (by simp only [IntKind.max]; simp [IntKind.signed, IntKind.bits]; omega)]
      rfl
    · cases h
  case eql => exact ⟨_, h, rfl, fun w => ⟨.bool (bytesEq a b), by simp [binOp, Op.stringOp, bytesEq], fun _ => rfl⟩⟩
  case neq => exact ⟨_, h, rfl, fun w => ⟨.bool (!bytesEq a b), by simp [binOp, Op.stringOp, bytesEq], fun _ => rfl⟩⟩
end Go.Proofs.YtlmmgjngihlpeaaDoor.Sx
