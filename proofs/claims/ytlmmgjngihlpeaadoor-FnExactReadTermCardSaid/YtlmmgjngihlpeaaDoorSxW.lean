/- A symbolic evaluator for the machine's code, part W: package-level variables that are only read. Our own work. -/
import Derived.Test.YtlmmgjngihlpeaaDoorSxZb
namespace Go.Proofs.YtlmmgjngihlpeaaDoor.Sx
open Go
set_option linter.unusedVariables false
set_option linter.unusedSimpArgs false
variable {P : Program}
def findG : List (Nat × IntKind × List Int) → Nat → Option (IntKind × List Int)
  | [], _ => none
  | p :: r, g => cond (Nat.beq p.1 g) (some p.2) (findG r g)
theorem findG_mem : ∀ {l : List (Nat × IntKind × List Int)} {g : Nat} {p : IntKind × List Int}, findG l g = some p → (g, p) ∈ l
  | [], g, p, h => by cases h
  | q :: r, g, p, h => by
    simp only [findG] at h
    cases hb : Nat.beq q.1 g with
    | true =>
      rw [hb] at h
      simp only [cond_true, Option.some.injEq] at h
      obtain rfl := Nat.eq_of_beq_eq_true hb
      subst h
      simp
    | false =>
      rw [hb] at h
      exact List.mem_cons_of_mem _ (findG_mem h)
section
variable {α : Type} {k : Eff → Option α} {r : α} {st : St} {o : Oper} {tab : Tab}
def evLoadG (tab : Tab) (t : TypeId) (g i : Nat) (k : Eff → Option α) : Option α :=
  cond (has tab.sca t) (match findG globs g with
    | some p => if i < p.2.length then k (svE (.int p.1 (List.getD p.2 i 0))) else none
    | none => none) none
def evIdxG (tab : Tab) (t : TypeId) (g : Nat) (i : TV) (k : Eff → Option α) : Option α :=
  match i with
  | .vl (.sv (.int _ n)) => match alook tab.arr t with
    | some (len, s) => cond (Nat.beq s 1) (if 0 ≤ n ∧ n < len then k (svE (.gp g n.toNat)) else none) none
    | none => none
  | _ => none
def evIf (tab : Tab) (op : BinOp) (t : TypeId) (x : TV) (y : Operand) (e : Option α) (k : Eff → Option α) : Option α :=
  match y with
  | .const .nilIface => match x with
    | .vl (.sv .nili) => cond (has tab.ifc t) (match op with
      | .eql => k (svE (.bool true))
      | .neq => k (svE (.bool false))
      | _ => none) none
    | .vl (.sv .ifo) => cond (has tab.ifc t) (match op with
      | .eql => k (svE (.bool false))
      | .neq => k (svE (.bool true))
      | _ => none) none
    | _ => e
  | _ => e
def evOpW (tab : Tab) (o : Oper) (st : St) (k : Eff → Option α) : Option α :=
  match o.op with
  | .load t x => match getO st x with
    | .vl (.sv (.gp g i)) => evLoadG tab t g i k
    | _ => evOpZ tab o st k
  | .indexAddr t x i => match getO st x with
    | .vl (.sv (.gp g 0)) => evIdxG tab t g (getO st i) k
    | _ => evOpZ tab o st k
  | .binOp op t x y _ => evIf tab op t (getO st x) y (evOpZ tab o st k) k
  | _ => evOpZ tab o st k
theorem sound_loadG (ht : TabOk P tab) {t : TypeId} {x : Operand} {g i : Nat} (ho : o.op = .load t x) (hx : getO st x = .vl (.sv (.gp g i))) (h : evLoadG tab t g i k = some r) : ∃ e, k e = some r ∧ OpS P o st e := by
  unfold evLoadG at h
  obtain ⟨hs, h⟩ := condSome h
  split at h
  · rename_i p hp
    split at h
    · rename_i hi
      have hm : x ∈ o.op.operands := by simp [ho, Op.operands]
      refine ⟨_, h, opS_pure fun st2 hag w0 S nb idb ids a w hr => ?_⟩
      have e1 := getO_R hr x
      rw [getO_agr hag hm, hx] at e1
      have e1' : a.eval x = _ := e1
      obtain ⟨h1, h2, h3⟩ := hr.limg.2.1 _ (findG_mem hp)
      have hc : w.cell? ⟨g, i, none⟩ = some (.int p.1 (List.getD p.2 i 0)) := by
        rw [World.cell?_of_block (hr.keeps.block _ h2 h1)]
        exact h3 i _ (by simp [List.getD, hi])
      obtain ⟨⟨d, hu, hd⟩, _⟩ := ht.sca t hs
      refine ⟨.int p.1 (List.getD p.2 i 0), ?_, rfl, fun b hb => by cases hb⟩
      simp [execOp, ho, e1', Instr.loadAt, Instr.sureAddr, loadVar, isAgg_run hu, hd, hc]
    · cases h
  · cases h
theorem sound_idxG (ht : TabOk P tab) {t : TypeId} {x i : Operand} {g : Nat} (ho : o.op = .indexAddr t x i) (hx : getO st x = .vl (.sv (.gp g 0))) (h : evIdxG tab t g (getO st i) k = some r) : ∃ e, k e = some r ∧ OpS P o st e := by
  unfold evIdxG at h
  split at h
  · rename_i k1 n hi
    split at h
    · rename_i len s hl
      obtain ⟨hs, h⟩ := condSome h
      obtain rfl := Nat.eq_of_beq_eq_true hs
      split at h
      · rename_i hn
        have hm1 : x ∈ o.op.operands := by simp [ho, Op.operands]
        have hm2 : i ∈ o.op.operands := by simp [ho, Op.operands]
        refine ⟨_, h, opS_pure fun st2 hag w0 S nb idb ids a w hr => ?_⟩
        have e1 := getO_R hr x; have e3 := getO_R hr i
        rw [getO_agr hag hm1, hx] at e1
        rw [getO_agr hag hm2, hi] at e3
        have e1' : a.eval x = _ := e1
        have e3' : a.eval i = _ := e3
        obtain ⟨e, j, g1, g2, g3, g4, g5⟩ := ht.arr t len 1 hl
        refine ⟨_, by simp [execOp, ho, e1', e3', Instr.indexAt, asIntOf, run_underlying g1, Instr.sureAddr, hn, sizeOf, typeInfo, g2, addr_add]; rfl, ?_, fun b hb => by cases hb⟩
        show _ = _
        simp [g3]
      · cases h
    · cases h
  · cases h
theorem eq_nili {t : TypeId} {ms : Array (String × TypeId)} (hu : P.underlying t = some (.interface ms)) (w : World) : (Op.equal t .nilIface .nilIface).run P w = .ok true w := by
  have h : ∀ d : Nat, (Op.equalIn (d + 1) t .nilIface .nilIface).run P w = .ok true w := fun d => by simp [Op.equalIn, run_underlying hu]
  exact h 9999
theorem eq_ifo {t : TypeId} {ms : Array (String × TypeId)} (hu : P.underlying t = some (.interface ms)) (w : World) (tx : TypeId) (vx : Value) : (Op.equal t (.iface tx vx) .nilIface).run P w = .ok false w := by
  have h : ∀ d : Nat, (Op.equalIn (d + 1) t (.iface tx vx) .nilIface).run P w = .ok false w := fun d => by simp [Op.equalIn, run_underlying hu]
  exact h 9999
theorem sound_if (ht : TabOk P tab) {op : BinOp} {t t' : TypeId} {x y : Operand} (ho : o.op = .binOp op t x y t') {e : Option α} (he : e = some r → ∃ f, k f = some r ∧ OpS P o st f)
    (h : evIf tab op t (getO st x) y e k = some r) : ∃ f, k f = some r ∧ OpS P o st f := by
  have hx : x ∈ o.op.operands := by simp [ho, Op.operands]
  unfold evIf at h
  split at h
  · split at h
    · rename_i h1
      obtain ⟨hs, h⟩ := condSome h
      obtain ⟨ms, hu⟩ := ht.ifc t hs
      have hmain : ∀ v : Bool, (∀ w : World, (binOp op t .nilIface .nilIface).run P w = .ok (.bool v) w) → OpS P o st (svE (.bool v)) := fun v hv =>
        opS_pure fun st2 hag w0 S nb idb ids a w hr => by
          have e1 := getO_R hr x
          rw [getO_agr hag hx, h1] at e1
          have e1' : a.eval x = .nilIface := e1
          refine ⟨.bool v, ?_, rfl, fun b hb => by cases hb⟩
          have hg : (eqGuard op t x (.const .nilIface) .nilIface .nilIface).run P w = .ok () w := by
            unfold eqGuard; split <;> simp
          have e2 : a.eval (.const .nilIface) = .nilIface := rfl
          simp [execOp, ho, e1', e2, hg, hv w]
      cases op <;> simp only [reduceCtorEq] at h
      case eql => exact ⟨_, h, hmain true fun w => by simp only [binOp]; simp [eq_nili hu w]⟩
      case neq => exact ⟨_, h, hmain false fun w => by simp only [binOp]; simp [eq_nili hu w]⟩
    · rename_i h1
      obtain ⟨hs, h⟩ := condSome h
      obtain ⟨ms, hu⟩ := ht.ifc t hs
      have hmain : ∀ v : Bool, (∀ (w : World) tx vx, (binOp op t (.iface tx vx) .nilIface).run P w = .ok (.bool v) w) → OpS P o st (svE (.bool v)) := fun v hv =>
        opS_pure fun st2 hag w0 S nb idb ids a w hr => by
          have e1 := getO_R hr x
          rw [getO_agr hag hx, h1] at e1
          obtain ⟨tx, vx, e1'⟩ : ∃ tx vx, a.eval x = .iface tx vx := e1
          refine ⟨.bool v, ?_, rfl, fun b hb => by cases hb⟩
          have hg : (eqGuard op t x (.const .nilIface) (.iface tx vx) .nilIface).run P w = .ok () w := by
            unfold eqGuard; split <;> simp
          have e2 : a.eval (.const .nilIface) = .nilIface := rfl
          simp [execOp, ho, e1', e2, hg, hv w]
      cases op <;> simp only [reduceCtorEq] at h
      case eql => exact ⟨_, h, hmain false fun w tx vx => by simp only [binOp]; simp [eq_ifo hu w tx vx]⟩
      case neq => exact ⟨_, h, hmain true fun w tx vx => by simp only [binOp]; simp [eq_ifo hu w tx vx]⟩
    · exact he h
  · exact he h
theorem evOpW_sound (ht : TabOk P tab) (h : evOpW tab o st k = some r) : ∃ e, k e = some r ∧ OpS P o st e := by
  unfold evOpW at h
  split at h
  · rename_i t x ho
    split at h
    · rename_i g i hx; exact sound_loadG ht ho hx h
    · exact evOpZ_sound ht h
  · rename_i t x i ho
    split at h
    · rename_i g hx; exact sound_idxG ht ho hx h
    · exact evOpZ_sound ht h
  · rename_i op t x y u ho; exact sound_if ht ho (evOpZ_sound ht) h
  · exact evOpZ_sound ht h
end
end Go.Proofs.YtlmmgjngihlpeaaDoor.Sx
