/- A symbolic evaluator for the machine's code, part J: literals; every operation. Our own work. -/
import Derived.Test.YtlmmgjngihlpeaaDoorSxI
namespace Go.Proofs.YtlmmgjngihlpeaaDoor.Sx
open Go
set_option linter.unusedVariables false
set_option linter.unusedSimpArgs false
variable {P : Program} {α : Type} {k : Eff → Option α} {r : α} {tab : Tab} {st : St} {o : Oper}
theorem fold_set (off : Nat) : ∀ (vs : List Value) (j : Nat) (cells : Array Value), off + j + vs.length ≤ cells.size →
    ((vs.zipIdx j).foldl (fun cs p => cs.setIfInBounds (off + p.2) p.1) cells).toList = cells.toList.take (off + j) ++ vs ++ cells.toList.drop (off + j + vs.length)
  | [], j, cells, h => by simp
  | v :: vs, j, cells, h => by
    simp only [List.zipIdx_cons, List.foldl_cons, List.length_cons] at h ⊢
    rw [fold_set off vs (j + 1) _ (by simp; omega)]
    have hl : (off + j) < cells.toList.length := by simp; omega
    simp only [Array.toList_setIfInBounds]
    rw [List.set_eq_take_append_cons_drop, if_pos hl]
    have e1 : off + (j + 1) = off + j + 1 := by omega
    have hlen : (cells.toList.take (off + j)).length = off + j := by simp; omega
    rw [e1, List.take_append, hlen, List.take_of_length_le (by omega), show off + j + 1 - (off + j) = 1 from by omega, List.take_succ_cons, List.take_zero, List.drop_append, hlen,
      List.drop_eq_nil_of_le (by omega), show off + j + 1 + vs.length - (off + j) = vs.length + 1 from by omega, List.drop_succ_cons, List.drop_drop]
    simp only [List.append_assoc, List.nil_append, List.singleton_append, List.cons_append]
    congr 4; omega
theorem fill_one {place : Nat → Option (Nat × Nat)} {cells : Array Value} {i off size : Nat} {v : Value} {rest : List (Nat × Value)} (hp : place i = some (off, size)) (hs : v.cells.size = size) (hb : off + size ≤ cells.size) :
    ∃ cells' : Array Value, Instr.fill place cells ((i, v) :: rest) = Instr.fill place cells' rest ∧ cells'.toList = cells.toList.take off ++ v.cells.toList ++ cells.toList.drop (off + size) := by
  refine ⟨v.cells.zipIdx.foldl (fun cs p => cs.setIfInBounds (off + p.2) p.1) cells, ?_, ?_⟩
  · rw [Instr.fill, hp]
    simp only []
    rw [if_neg (by simp [hs]; omega)]
  · have := fold_set off v.cells.toList 0 cells (by simp [hs]; omega)
    simp only [Nat.add_zero, Array.length_toList, hs] at this
    rw [← this, ← Array.foldl_toList, Array.toList_zipIdx]
theorem fillS_run {w0 : World} {S : List Nat} {nb : Nat} {idb ids : Ids} {st2 : St} {a : Act} {w : World} (hr : Rep w0 S nb idb ids st2 a w) {l : List (Nat × Nat)} :
    ∀ (parts : List (Nat × Operand)) (Z B : List Seg) (cells : Array Value), (∀ p ∈ parts, getO st2 p.2 = getO st p.2) → oksL Z → CR ids (cellsL Z) cells.toList → (∀ b ∈ nmL Z, (st2.H b).isSome = true) →
      fillS l st parts Z = some B → ∃ cells', Instr.fill (l[·]?) cells (parts.map fun p => (p.1, a.eval p.2)) = some cells' ∧ oksL B ∧ CR ids (cellsL B) cells'.toList ∧ ∀ b ∈ nmL B, (st2.H b).isSome = true
  | [], Z, B, cells, _, hz, hc, hn, h => by
    simp only [fillS, Option.some.injEq] at h; subst h
    exact ⟨cells, rfl, hz, hc, hn⟩
  | (i, x) :: rest, Z, B, cells, hg, hz, hc, hn, h => by
    simp only [fillS] at h
    split at h
    · rename_i off sz hi
      split at h
      · rename_i vs hv
        cases hs : Nat.beq (sizeL vs) sz with
        | false => rw [hs] at h; cases h
        | true =>
          rw [hs] at h
          obtain rfl := Nat.eq_of_beq_eq_true hs
          simp only [cond_true, Option.bind_eq_some_iff] at h
          obtain ⟨Z', hz', h⟩ := h
          have e1 := getO_R hr x; have e2 := getO_nm hr x
          rw [hg (i, x) (by simp)] at e1 e2
          obtain ⟨g1, g2, g3⟩ := segsOf_R e1 hv
          obtain ⟨p1, p2, p3, p4⟩ := segPutAt_spec hz g1 hz'
          have hsv : (cellsL vs).length = sizeL vs := cellsL_length g1
          have hcl := hc.length
          have hvl := g2.length
          simp only [Array.length_toList] at hcl hvl
          obtain ⟨cells1, c1, c2⟩ := fill_one (place := (l[·]?)) (cells := cells) (i := i) (off := off) (size := sizeL vs) (v := a.eval x) (rest := rest.map fun p => (p.1, a.eval p.2))
            (by rw [← nth_eq]; exact hi) (by omega) (by omega)
          obtain ⟨cells', d1, d2, d3, d4⟩ := fillS_run hr rest Z' B cells1 (fun p hp => hg p (by simp [hp])) p3 (by
            rw [p2, c2, hsv]
            exact ((hc.take off).append g2).append (hc.drop _)) (fun b hb => by
              rcases p4 b hb with hb | hb
              · exact hn b hb
              · exact e2 b (g3 b hb)) h
          exact ⟨cells', by rw [List.map_cons, c1]; exact d1, d2, d3, d4⟩
      · cases h
    · cases h
theorem fillA_run {w0 : World} {S : List Nat} {nb : Nat} {idb ids : Ids} {st2 : St} {a : Act} {w : World} (hr : Rep w0 S nb idb ids st2 a w) {E : EK} (hE : E.s = 1) :
    ∀ (parts : List (Nat × Operand)) (z z' : List E.T) (cells : Array Value), (∀ p ∈ parts, getO st2 p.2 = getO st p.2) → CR ids (z.flatMap E.enc) cells.toList →
      fillA E st parts z = some z' → ∃ cells', Instr.fill (fun i => some (i * 1, 1)) cells (parts.map fun p => (p.1, a.eval p.2)) = some cells' ∧ z'.length = z.length ∧ CR ids (z'.flatMap E.enc) cells'.toList
  | [], z, z', cells, _, hc, h => by
    simp only [fillA, Option.some.injEq] at h; subst h
    exact ⟨cells, rfl, rfl, hc⟩
  | (i, x) :: rest, z, z', cells, hg, hc, h => by
    simp only [fillA] at h
    split at h
    · rename_i y hy
      cases hi : Nat.blt i z.length with
      | false => rw [hi] at h; cases h
      | true =>
        rw [hi] at h
        have hi' : i < z.length := by simpa using hi
        simp only [cond_true, Option.bind_eq_some_iff] at h
        obtain ⟨u, hu, h⟩ := h
        have hu' := EK.dec_enc E _ u hu
        have e1 := getO_R hr x
        rw [hg (i, x) (by simp), hy] at e1
        have hk : y.known = true := cellsS_known.enc_known E u y (by rw [hu']; simp)
        have hyR : y.R ids (a.eval x) := e1
        have hcells := one_cells (hyR.one hk)
        have hcl := hc.length
        rw [flatMap_enc_length, hE] at hcl
        simp only [Array.length_toList] at hcl
        obtain ⟨cells1, c1, c2⟩ := fill_one (place := fun i => some (i * 1, 1)) (cells := cells) (i := i) (off := i * 1) (size := 1) (v := a.eval x) (rest := rest.map fun p => (p.1, a.eval p.2))
          rfl (by rw [hcells]; rfl) (by omega)
        have hlen1 : ((z.take i).flatMap E.enc).length = i := by rw [flatMap_enc_length, hE, List.length_take, Nat.min_eq_left (by omega), Nat.mul_one]
        have hsplit := elem_split E z i hi'
        have hget : (E.enc (z.getD i E.d)).length = 1 := by rw [EK.enc_length, hE]
        obtain ⟨cells', d1, d2, d3⟩ := fillA_run hr hE rest (lset z i u) z' cells1 (fun p hp => hg p (by simp [hp])) (by
          rw [lset_eq, elem_set E z i u hi', hu', c2, hcells]
          have t1 := hc.take (i * 1)
          have t2 := hc.drop (i * 1 + 1)
          have q1 : (z.flatMap E.enc).take (i * 1) = (z.take i).flatMap E.enc := by
            rw [hsplit, Nat.mul_one]; exact List.take_left' hlen1
          have q2 : (z.flatMap E.enc).drop (i * 1 + 1) = (z.drop (i + 1)).flatMap E.enc := by
            rw [hsplit, ← List.append_assoc]
            exact List.drop_left' (by rw [List.length_append, hlen1, hget]; omega)
          rw [q1] at t1; rw [q2] at t2
          have t3 : CR ids [y] [a.eval x] := ⟨hyR, trivial⟩
          have := (t1.append t3).append t2
          simpa [List.append_assoc] using this) h
        refine ⟨cells', by rw [List.map_cons, c1]; exact d1, by rw [d2, lset_eq]; simp, d3⟩
    · cases h
theorem places_of {fs : List Field} {l : List (Nat × Nat)} (h1 : fs.map (fun (f : Field) => (f.offset, P.cellsOf f.type)) = l)
    (h2 : ∀ (i : Nat) (q : Nat × Nat), l[i]? = some q → ∃ (f : Field) (j : TypeInfo), fs[i]? = some f ∧ f.offset = q.1 ∧ P.info? f.type = some j ∧ j.size = q.2 ∧ q.2 ≠ 0) :
    fs.mapM (fun f => (P.info? f.type).map fun i => (f.offset, i.size)) = some l := by
  subst h1
  induction fs with
  | nil => rfl
  | cons f fs ih =>
    obtain ⟨f', j, g1, g2, g3, g4, g5⟩ := h2 0 _ rfl
    simp only [List.getElem?_cons_zero, Option.some.injEq] at g1
    subst g1
    have ih' := ih (fun i q hq => by
      obtain ⟨f'', j', q1, q2⟩ := h2 (i + 1) q (by simpa using hq)
      exact ⟨f'', j', by simpa using q1, q2⟩)
    simp only [List.mapM_cons, List.map_cons, g3, Option.map_some, ih', Option.bind_eq_bind, Option.bind_some, Option.pure_def, Program.cellsOf, Option.getD_some]
theorem sound_build (ht : TabOk P tab) {t : TypeId} {parts : Array (Nat × Operand)} (ho : o.op = .build t parts) (h : evOp tab o st k = some r) : ∃ e, k e = some r ∧ OpS P o st e := by
  simp only [evOp, ho, evBuild] at h
  have hx : ∀ p ∈ parts.toList, p.2 ∈ o.op.operands := by
    intro p hp
    simp only [ho, Op.operands]
    simp only [List.mem_toArray, List.mem_map]
    exact ⟨p, hp, rfl⟩
  split at h
  · rename_i Z hZ
    obtain ⟨i, zv, z1, z2, z3, z4⟩ := ht.zero t Z hZ
    split at h
    · rename_i l hl
      split at h
      · rename_i B hB
        refine ⟨_, h, opS_pure fun st2 hag w0 S nb idb ids a w hr => ?_⟩
        obtain ⟨cells', c1, c2, c3, c4⟩ := fillS_run (st := st) hr parts.toList Z B zv.cells (fun p hp => getO_agr hag (hx p hp)) z4 (zeqL_R z3) (fun b hb => (zeq_nmL (ht.zeron t Z hZ) z3 b hb).elim) hB
        obtain ⟨fs, u1, u2⟩ := ht.fldn t l hl
        obtain ⟨fs', u3, u4⟩ := ht.fld t l hl
        rw [u1] at u3; obtain rfl : fs = fs' := by injection (Option.some.inj u3)
        have hp := places_of (P := P) u2 (fun i q hq => by
          obtain ⟨f, j, q1, q2⟩ := u4 i q hq
          exact ⟨f, j, by simpa using q1, q2⟩)
        refine ⟨.agg cells', ?_, ⟨cells', rfl, c2, c3⟩, c4⟩
        have hb : P.built t ((parts.map fun (i, x) => (i, a.eval x)).toList) = some cells' := by
          unfold Program.built
          simp only [z1, u1, z2, hp]
          rw [← c1]
          simp
        have := run_build w t _ cells' hb
        simp [execOp, ho, this]
      · cases h
    · split at h
      · rename_i n s hn
        split at h
        · rename_i E m z
          cases hc : (Nat.beq s 1 && (Nat.beq E.s 1 && Nat.beq m n)) with
          | false => rw [hc] at h; cases h
          | true =>
            rw [hc] at h
            simp only [Bool.and_eq_true] at hc
            obtain rfl := Nat.eq_of_beq_eq_true hc.1
            have hE := Nat.eq_of_beq_eq_true hc.2.1
            obtain rfl := Nat.eq_of_beq_eq_true hc.2.2
            simp only [cond_true] at h
            split at h
            · rename_i z' hz'
              refine ⟨_, h, opS_pure fun st2 hag w0 S nb idb ids a w hr => ?_⟩
              have hcz : CR ids (z.flatMap E.enc) zv.cells.toList := by
                have := zeqL_R (ids := ids) z3
                simpa [cellsL, Seg.cells] using this
              obtain ⟨cells', c1, c2, c3⟩ := fillA_run (st := st) hr hE parts.toList z z' zv.cells (fun p hp => getO_agr hag (hx p hp)) hcz hz'
              have hzl : z.length = m := z4 (.seq E m z) (by simp)
              obtain ⟨e, j, u1, u2, u3, u4, u5⟩ := ht.arr t m 1 hn
              refine ⟨.agg cells', ?_, ⟨cells', rfl, ?_, by simpa [cellsL, Seg.cells] using c3⟩, fun b hb => by simp [TV.nm, Val.nm, nmL, Seg.nm] at hb⟩
              · have hb : P.built t ((parts.map fun (i, x) => (i, a.eval x)).toList) = some cells' := by
                  unfold Program.built
                  simp only [z1, u1, z2, u2, u3]
                  rw [← c1]
                  simp
                have := run_build w t _ cells' hb
                simp [execOp, ho, this]
              · intro s hs
                simp only [List.mem_singleton] at hs
                subst hs
                show z'.length = m
                omega
            · cases h
        · cases h
      · cases h
  · cases h
theorem evOp_sound (ht : TabOk P tab) (h : evOp tab o st k = some r) : ∃ e, k e = some r ∧ OpS P o st e := by
  cases ho : o.op with
  | move x => exact ⟨_, by simpa only [evOp, ho] using h, sound_get (by simp [ho, Op.operands]) fun ρ => by simp [execOp, ho]⟩
  | assign x => exact ⟨_, by simpa only [evOp, ho] using h, sound_get (by simp [ho, Op.operands]) fun ρ => by simp [execOp, ho]⟩
  | pick c x y => exact sound_pick ho h
  | binOp op t x y t' => exact sound_bin ht ho h
  | unOp op t x => exact sound_un ho h
  | convert s d x => exact sound_conv ht ho h
  | alloc e => exact sound_alloc ht ho h
  | box e x => exact sound_box ho h
  | load t x => exact sound_load ht ho h
  | store t x y => exact sound_store ht ho h
  | build t parts => exact sound_build ht ho h
  | nilCheck x => exact sound_nil ho h
  | fieldAddr s x f => exact sound_field ht ho h
  | indexAddr t x i => exact sound_indexAddr ht ho h
  | index t x i => exact sound_index ht ho h
  | extract x i => exact sound_extract ho h
  | _ => simp only [evOp, ho, reduceCtorEq] at h
end Go.Proofs.YtlmmgjngihlpeaaDoor.Sx
