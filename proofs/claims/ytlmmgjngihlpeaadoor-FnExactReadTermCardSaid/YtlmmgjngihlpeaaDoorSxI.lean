/- A symbolic evaluator for the machine's code, part I: stores and literals. Our own work. -/
import Derived.Test.YtlmmgjngihlpeaaDoorSxH
namespace Go.Proofs.YtlmmgjngihlpeaaDoor.Sx
open Go
set_option linter.unusedVariables false
set_option linter.unusedSimpArgs false
variable {P : Program} {α : Type} {k : Eff → Option α} {r : α} {tab : Tab} {st : St} {o : Oper}
theorem cellsS_known {vs : List Seg} (h : knownL (evStore.cellsS vs) = true) : ∀ x ∈ cellsL vs, x.known = true := by
  induction vs with
  | nil => intro x hx; simp [cellsL] at hx
  | cons s rest ih =>
    intro x hx
    simp only [cellsL, List.flatMap_cons, List.mem_append] at hx
    cases s with
    | one y =>
      simp only [evStore.cellsS, knownL, List.all_cons, Bool.and_eq_true] at h
      rcases hx with hx | hx
      · simp only [Seg.cells, List.mem_singleton] at hx; subst hx; exact h.1
      · exact ih h.2 x hx
    | seq E n l =>
      simp only [evStore.cellsS] at h
      rcases hx with hx | hx
      · simp only [Seg.cells, List.mem_flatMap] at hx
        obtain ⟨z, _, hz⟩ := hx
        exact enc_known E z x hz
      · exact ih h x hx
    | gro E l =>
      simp only [evStore.cellsS] at h
      rcases hx with hx | hx
      · simp only [Seg.cells, List.mem_flatMap] at hx
        obtain ⟨z, _, hz⟩ := hx
        exact enc_known E z x hz
      · exact ih h x hx
    | mp =>
      simp only [evStore.cellsS] at h
      rcases hx with hx | hx
      · simp [Seg.cells] at hx
      · exact ih h x hx
    | rws =>
      simp only [evStore.cellsS] at h
      rcases hx with hx | hx
      · simp [Seg.cells] at hx
      · exact ih h x hx
where
  enc_known (E : EK) (z : E.T) : ∀ x ∈ E.enc z, x.known = true := by
    cases E with
    | rc ks => exact encR_known ks z
    | mx ps => exact encM_known ps z
    | _ => intro x hx; simp only [EK.enc, List.mem_singleton] at hx; subst hx; rfl
  encR_known : ∀ (ks : List IntKind) (z : List Int), ∀ x ∈ encR ks z, x.known = true
    | [], _, x, hx => by simp [encR] at hx
    | k :: ks, z, x, hx => by
      simp only [encR, List.mem_cons] at hx
      rcases hx with rfl | hx
      · rfl
      · exact encR_known ks _ x hx
  encM_known : ∀ (ps : List PK) (z : PT ps), ∀ x ∈ encM ps z, x.known = true
    | [], _, x, hx => by simp [encM] at hx
    | .i k :: ps, z, x, hx => by
      simp only [encM, List.mem_cons] at hx
      rcases hx with rfl | hx
      · rfl
      · exact encM_known ps _ x hx
    | .b :: ps, z, x, hx => by
      simp only [encM, List.mem_cons] at hx
      rcases hx with rfl | hx
      · rfl
      · exact encM_known ps _ x hx
    | .a k n :: ps, z, x, hx => by
      simp only [encM, List.mem_append] at hx
      rcases hx with hx | hx
      · exact encA_known' k n _ x hx
      · exact encM_known ps _ x hx
  encA_known' : ∀ (k : IntKind) (n : Nat) (z : List Int), ∀ x ∈ encA k n z, x.known = true
    | k, 0, _, x, hx => by simp [encA] at hx
    | k, n + 1, z, x, hx => by
      simp only [encA, List.mem_cons] at hx
      rcases hx with rfl | hx
      · rfl
      · exact encA_known' k n _ x hx
theorem cellsS_eq {vs : List Seg} (h : (evStore.cellsS vs).length = sizeL vs) (hok : oksL vs) : evStore.cellsS vs = cellsL vs := by
  have hle : ∀ vs : List Seg, (evStore.cellsS vs).length ≤ sizeL vs := by
    intro vs
    induction vs with
    | nil => simp [evStore.cellsS, sizeL]
    | cons s rest ih => cases s <;> simp [evStore.cellsS, sizeL, Seg.size] <;> omega
  induction vs with
  | nil => simp [evStore.cellsS, cellsL]
  | cons s rest ih =>
    cases s with
    | one y =>
      simp only [evStore.cellsS, sizeL, Seg.size, List.length_cons] at h
      simp only [evStore.cellsS, cellsL, List.flatMap_cons, Seg.cells, List.singleton_append]
      rw [ih (by omega) (fun x hx => hok x (by simp [hx]))]; rfl
    | seq E n l =>
      simp only [evStore.cellsS, sizeL, Seg.size] at h
      have h1 := hle rest
      have h2 : n * E.s = 0 := by omega
      have h3 : l.flatMap E.enc = [] := List.eq_nil_of_length_eq_zero (by rw [flatMap_enc_length, hok (.seq E n l) (by simp), h2])
      simp only [evStore.cellsS, cellsL, List.flatMap_cons, Seg.cells, h3, List.nil_append]
      exact ih (by omega) (fun x hx => hok x (by simp [hx]))
    | gro E l =>
      simp only [evStore.cellsS, sizeL, Seg.size] at h
      have h1 := hle rest
      have h2 : l.length * E.s = 0 := by omega
      have h3 : l.flatMap E.enc = [] := List.eq_nil_of_length_eq_zero (by rw [flatMap_enc_length, h2])
      simp only [evStore.cellsS, cellsL, List.flatMap_cons, Seg.cells, h3, List.nil_append]
      exact ih (by omega) (fun x hx => hok x (by simp [hx]))
    | mp =>
      simp only [evStore.cellsS, sizeL, Seg.size] at h
      simp only [evStore.cellsS, cellsL, List.flatMap_cons, Seg.cells, List.nil_append]
      exact ih (by omega) (fun x hx => hok x (by simp [hx]))
    | rws =>
      simp only [evStore.cellsS, sizeL, Seg.size] at h
      simp only [evStore.cellsS, cellsL, List.flatMap_cons, Seg.cells, List.nil_append]
      exact ih (by omega) (fun x hx => hok x (by simp [hx]))
theorem elem_split (E : EK) (l : List E.T) (i : Nat) (h : i < l.length) : l.flatMap E.enc = (l.take i).flatMap E.enc ++ (E.enc (l.getD i E.d) ++ (l.drop (i + 1)).flatMap E.enc) := by
  conv => lhs; rw [← List.take_append_drop i l]
  rw [List.flatMap_append, List.drop_eq_getElem_cons h, List.flatMap_cons]
  simp [List.getD, List.getElem?_eq_getElem h]
theorem elem_set (E : EK) (l : List E.T) (i : Nat) (z : E.T) (h : i < l.length) : (l.set i z).flatMap E.enc = (l.take i).flatMap E.enc ++ (E.enc z ++ (l.drop (i + 1)).flatMap E.enc) := by
  rw [List.set_eq_take_append_cons_drop, if_pos h, List.flatMap_append, List.flatMap_cons]
theorem splice {β : Type} {B X m Y vs : List β} {p : Nat} (hB : B = X ++ (m ++ Y)) (hp : X.length = p) (hm : m.length = vs.length) : B.take p ++ vs ++ B.drop (p + vs.length) = X ++ (vs ++ Y) := by
  subst hp
  rw [hB, List.take_left, ← hm, List.append_assoc]
  congr 2
  rw [← List.append_assoc, ← List.length_append, List.drop_left]
theorem sizeIs_spec (ht : TabOk P tab) {t : TypeId} {n : Nat} (h : sizeIs tab t n = true) : 0 < n ∧ ∃ i, P.info? t = some i ∧ i.size = n := by
  unfold sizeIs at h
  cases ha : alook tab.agg t with
  | some m =>
    simp only [ha, Bool.and_eq_true] at h
    obtain ⟨_, i, h1, h2⟩ := ht.agg t m ha
    exact ⟨by simpa using h.2, i, h1, by rw [h2]; exact Nat.eq_of_beq_eq_true h.1⟩
  | none =>
    simp only [ha, Bool.and_eq_true] at h
    obtain ⟨_, i, h1, h2⟩ := ht.sca t h.1
    have := Nat.eq_of_beq_eq_true h.2
    exact ⟨by omega, i, h1, by rw [h2]; exact this.symm⟩
theorem sound_store_at (ht : TabOk P tab) {t : TypeId} {x y : Operand} (ho : o.op = .store t x y) {vs : List Seg} (hv : segsOf (getO st y) = some vs) (hsz : sizeIs tab t (sizeL vs) = true)
    (hkn : knownL (evStore.cellsS vs) = true) {b o' : Nat} {B B' : List Seg} (hx1 : ∀ ids v, (getO st x).R ids v → v = .pointer (some ⟨(ids b).1, (ids b).2.1 + o', none⟩)) (hB : st.H b = some (true, B))
    (hsp : oksL B → oksL vs → o' + (cellsL vs).length ≤ (cellsL B).length ∧ cellsL B' = (cellsL B).take o' ++ cellsL vs ++ (cellsL B).drop (o' + (cellsL vs).length) ∧ oksL B' ∧ (∀ b ∈ nmL B', b ∈ nmL B ∨ b ∈ nmL vs))
    (hng : groOk B B' = true) :
    OpS P o st ⟨tunk, [b], [(b, true, B')]⟩ := by
  have hx : x ∈ o.op.operands := by simp [ho, Op.operands]
  have hy : y ∈ o.op.operands := by simp [ho, Op.operands]
  refine opS_skip fun st2 hag w0 S nb idb ids a w hr => ?_
  have hB2 : st2.H b = some (true, B) := by rw [hag.rd b (by simp)]; exact hB
  have e1 := getO_R hr x; have e2 := getO_R hr y
  rw [getO_agr hag hx] at e1; rw [getO_agr hag hy] at e2
  obtain ⟨g1, g2, g3⟩ := segsOf_R e2 hv
  obtain ⟨p1, p2, p3, p4⟩ := hsp (hr.blk b _ hB2).1 g1
  have hn2 := getO_nm hr y
  rw [getO_agr hag hy] at hn2
  obtain ⟨w', q1, q2⟩ := hr.store (P := P) hB2 p3 p1 p2 g2 (cellsS_known hkn) (fun c hc => by
    rcases p4 c hc with hc | hc
    · exact hr.clH b _ hB2 c hc
    · exact hn2 c (g3 c hc)) (lv_of_ne fun he => by
      have h1 := (sizeIs_spec ht hsz).1
      rw [he] at p1
      rw [cellsL_length g1] at p1
      simp only [List.length_nil] at p1
      omega) (groOk_spec hng) (groOk_mp hng).1 (groOk_mp hng).2
  obtain ⟨_, i, i1, i2⟩ := sizeIs_spec ht hsz
  have hcs : (a.eval y).cells.size = i.size := by
    have := g2.length
    rw [cellsL_length g1] at this
    simp only [Array.length_toList] at this
    omega
  refine ⟨w', ?_, ids, q2, trivial, fun b hb => by cases hb⟩
  simp [execOp, ho, hx1 ids _ e1, Instr.storeAt, Instr.sureAddr, storeVar, sizeOf, typeInfo, i1, hcs, q1]
theorem sound_store (ht : TabOk P tab) {t : TypeId} {x y : Operand} (ho : o.op = .store t x y) (h : evOp tab o st k = some r) : ∃ e, k e = some r ∧ OpS P o st e := by
  simp only [evOp, ho, evStore] at h
  split at h
  · rename_i vs hv
    cases hc : (sizeIs tab t (sizeL vs) && knownL (evStore.cellsS vs)) with
    | false => rw [hc] at h; cases h
    | true =>
      rw [hc] at h
      simp only [Bool.and_eq_true] at hc
      simp only [cond_true] at h
      split at h
      · rename_i b1 o1 h1
        split at h
        · rename_i B hB
          split at h
          · rename_i B' hB'
            cases hng : groOk B B' with
            | false => rw [hng] at h; cases h
            | true =>
              rw [hng] at h
              exact ⟨_, h, sound_store_at ht ho hv hc.1 hc.2 (fun ids v hh => by rw [h1] at hh; exact hh) hB (fun q1 q2 => segPutAt_spec q1 q2 hB') hng⟩
          · cases h
        · cases h
      · rename_i b1 o1 s1 i1 f1 h1
        split at h
        · rename_i B hB
          split at h
          · rename_i E n l R hR
            cases hs1 : (Nat.beq E.s s1 && (Nat.beq (evStore.cellsS vs).length (sizeL vs) && Nat.ble (f1 + sizeL vs) s1)) with
            | false => rw [hs1] at h; cases h
            | true =>
              rw [hs1] at h
              simp only [Bool.and_eq_true] at hs1
              obtain rfl := Nat.eq_of_beq_eq_true hs1.1
              have hlen := Nat.eq_of_beq_eq_true hs1.2.1
              simp only [cond_true] at h
              split at h
              · rename_i hi
                split at h
                · rename_i z hz
                  split at h
                  · rename_i B' hB'
                    obtain ⟨hng, h⟩ : groOk B B' = true ∧ k ⟨tunk, [b1], [(b1, true, B')]⟩ = some r := by
                      cases hng : groOk B B' with
                      | false => rw [hng] at h; cases h
                      | true => rw [hng] at h; exact ⟨rfl, h⟩
                    refine ⟨_, h, sound_store_at ht ho hv hc.1 hc.2 (fun ids v hh => by rw [h1] at hh; rw [show v = _ from hh]) hB (fun q1 q2 => ?_) hng⟩
                    have hz' := EK.dec_enc E _ z hz
                    rw [cellsS_eq hlen q2] at hz'
                    obtain ⟨a1, a2, a3, a4⟩ := segAt_spec q1 hR
                    have hn : l.length = n := a3 (.seq E n l) (by simp)
                    have hok1 : oksL [Seg.seq E n (l.set i1 z)] := by
                      intro s hs
                      simp only [List.mem_singleton] at hs
                      subst hs
                      simpa [Seg.ok] using hn
                    obtain ⟨c1, c2, c3, c4⟩ := segSetAt_spec q1 hok1 hR rfl hB'
                    have hcs : cellsL [Seg.seq E n (l.set i1 z)] = (l.set i1 z).flatMap E.enc := by simp [cellsL, Seg.cells]
                    have hll : ((l.set i1 z).flatMap E.enc).length = n * E.s := by rw [flatMap_enc_length]; simp [hn]
                    rw [hcs, hll] at c1
                    rw [hcs] at c2
                    have hsv : (cellsL vs).length = sizeL vs := cellsL_length q2
                    have hf : f1 + (cellsL vs).length ≤ E.s := by rw [hsv]; exact Nat.le_of_ble_eq_true hs1.2.2
                    have hi' : i1 < l.length := by omega
                    have his : (i1 + 1) * E.s ≤ n * E.s := Nat.mul_le_mul_right _ hi
                    rw [Nat.succ_mul] at his
                    have hen : (E.enc (l.getD i1 E.d)).length = E.s := EK.enc_length _ _
                    have hA : cellsL B = (cellsL B).take o1 ++ (l.flatMap E.enc ++ cellsL R) := by
                      have : cellsL (Seg.seq E n l :: R) = l.flatMap E.enc ++ cellsL R := by simp [cellsL, Seg.cells]
                      rw [← this, a2, List.take_append_drop]
                    have hAl : ((cellsL B).take o1).length = o1 := by simp; omega
                    have hF1 : ((l.take i1).flatMap E.enc).length = i1 * E.s := by rw [flatMap_enc_length]; simp; rw [Nat.min_eq_left (by omega)]
                    have hR2 : (cellsL B).drop (o1 + (List.flatMap E.enc (l.set i1 z)).length) = cellsL R := by
                      rw [hll]
                      conv => lhs; rw [hA]
                      rw [← List.append_assoc]
                      exact List.drop_left' (by rw [List.length_append, hAl, flatMap_enc_length, hn])
                    generalize hX : (cellsL B).take o1 = X at *
                    have hm : ((E.enc (l.getD i1 E.d)).drop f1).take (cellsL vs).length = ((E.enc (l.getD i1 E.d)).drop f1).take (cellsL vs).length := rfl
                    have hsplit : E.enc (l.getD i1 E.d) = (E.enc (l.getD i1 E.d)).take f1 ++ (((E.enc (l.getD i1 E.d)).drop f1).take (cellsL vs).length ++ (E.enc (l.getD i1 E.d)).drop (f1 + (cellsL vs).length)) := by
                      rw [← List.drop_drop, List.take_append_drop, List.take_append_drop]
                    have hB1 : cellsL B = (X ++ ((l.take i1).flatMap E.enc ++ (E.enc (l.getD i1 E.d)).take f1)) ++ (((E.enc (l.getD i1 E.d)).drop f1).take (cellsL vs).length ++
                        ((E.enc (l.getD i1 E.d)).drop (f1 + (cellsL vs).length) ++ ((l.drop (i1 + 1)).flatMap E.enc ++ cellsL R))) := by
                      rw [hA, elem_split E l i1 hi']
                      conv => lhs; rw [hsplit]
                      simp only [List.append_assoc]
                    refine ⟨by omega, ?_, c3, fun c hcc => ?_⟩
                    · rw [splice hB1 (by simp only [List.length_append, List.length_take, hAl, hF1, hen]; omega) (by simp only [List.length_take, List.length_drop, hen]; omega)]
                      rw [c2, elem_set E l i1 z hi', hz']
                      rw [elem_set E l i1 z hi', hz'] at hR2
                      rw [hR2]
                      simp only [evStore.putAt, List.append_assoc]
                    · rcases c4 c hcc with hcc | hcc
                      · exact .inl hcc
                      · simp [nmL, Seg.nm] at hcc
                  · cases h
                · cases h
              · cases h
          · cases h
        · cases h
      · cases h
  · cases h
end Go.Proofs.YtlmmgjngihlpeaaDoor.Sx
