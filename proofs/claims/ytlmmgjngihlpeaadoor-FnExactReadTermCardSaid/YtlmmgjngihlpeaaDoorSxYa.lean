/- A symbolic evaluator for the machine's code, part Ya: that part Y tells the truth. Our own work. -/
import Derived.Test.YtlmmgjngihlpeaaDoorSxY
import Derived.Laws.Cover3
namespace Go.Proofs.YtlmmgjngihlpeaaDoor.Sx
open Go
set_option linter.unusedVariables false
set_option linter.unusedSimpArgs false
variable {P : Program} {α : Type} {k : Eff → Option α} {r : α} {tab : Tab} {st : St} {o : Oper}
theorem rep_list {w0 : World} {S : List Nat} {nb : Nat} {idb ids : Ids} {st : St} {a : Act} {w : World} (h : Rep w0 S nb idb ids st a w) {b : Nat} {B : Blk} {o n : Nat}
    (hb : st.H b = some B) (hlen : o + n ≤ (cellsL B.2).length) :
    ∃ cs : List Value, cs.length = n ∧ (∀ w2 : World, w2.heap = w.heap → (loadCells ⟨(ids b).1, (ids b).2.1 + o, none⟩ n).run P w2 = .ok cs.toArray w2) ∧ CR ids (((cellsL B.2).drop o).take n) cs := by
  obtain ⟨hB1, _, hB2, hB3⟩ := h.blk b _ hb
  have hex : ∀ j, ∃ v, j < n → w.cell? ⟨(ids b).1, (ids b).2.1 + o + j, none⟩ = some v ∧ ((cellsL B.2)[o + j]?.getD .unk).R ids v := by
    intro j
    by_cases hj : j < n
    · obtain ⟨v, h1, h2, _⟩ := hB3 (o + j) _ (List.getElem?_eq_getElem (show o + j < (cellsL B.2).length by omega))
      refine ⟨v, fun _ => ⟨by rw [← h1]; congr 2; omega, ?_⟩⟩
      rw [List.getElem?_eq_getElem (show o + j < (cellsL B.2).length by omega)]
      exact h2
    · exact ⟨undef, fun hh => absurd hh hj⟩
  let F : Nat → Value := fun j => (hex j).choose
  have hF : ∀ j, j < n → w.cell? ⟨(ids b).1, (ids b).2.1 + o + j, none⟩ = some (F j) ∧ ((cellsL B.2)[o + j]?.getD .unk).R ids (F j) := fun j hj => (hex j).choose_spec hj
  refine ⟨(List.range n).map F, by simp, fun w2 hw => ?_, CR.of_get (by simp; omega) fun i x v hx hv => ?_⟩
  · have hl := run_loadCells_list (P := P) w2 ⟨(ids b).1, (ids b).2.1 + o, none⟩ ((List.range n).map F) (fun j v hv => by
      have hj : j < n := by
        have := (List.getElem?_eq_some_iff.1 hv).1
        simpa using this
      simp [hj] at hv
      rw [addr_add, ← hv, World.cell?_of_block (w := w) (by rw [hw])]
      exact (hF j hj).1)
    simpa using hl
  · have hi : i < n := by
      have := (List.getElem?_eq_some_iff.1 hx).1
      simp at this; omega
    simp [hi] at hv
    subst hv
    have := (hF i hi).2
    have hxx : (cellsL B.2)[o + i]? = some x := by
      rw [List.getElem?_take, if_pos hi, List.getElem?_drop] at hx; exact hx
    rwa [hxx] at this
def SrcOk (P : Program) (st : St) (Y : TV) (E : EK) (l : List E.T) (rd : List Nat) : Prop :=
  ∀ (st2 : St) w0 S nb idb ids a w vy, (∀ b ∈ rd, st2.H b = st.H b) → Rep w0 S nb idb ids st2 a w → Y.R ids vy →
    (∀ w, (Builtin.lenOf vy).run P w = .ok l.length w) ∧ ∃ news : List Value, (∀ w2 : World, w2.heap = w.heap → (Builtin.firstCells E.s l.length vy).run P w2 = .ok news.toArray w2) ∧ CR ids (l.flatMap E.enc) news
theorem u8_list (ids : Ids) : ∀ (l : List UInt8), CR ids ((l.map fun b => (b.toNat : Int)).flatMap (EK.enc (.int .u8))) (l.map fun b => Value.int .u8 b.toNat)
  | [] => trivial
  | b :: r => ⟨rfl, u8_list ids r⟩
theorem src_spec (ht : TabOk P tab) {t2 : TypeId} {s : Nat} {Y : TV} {k : Row → Option α} (h : evSrc tab t2 st s Y k = some r) :
    ∃ row, k row = some r ∧ row.E.s = s ∧ (∃ d, P.underlying t2 = some d ∧ ∀ k, d ≠ .int k) ∧ SrcOk P st Y row.E row.l row.rd := by
  unfold evSrc at h
  split at h
  · rename_i b o' s' lo len cap
    split at h
    · rename_i p hp
      split at h
      · rename_i C hC
        split at h
        · rename_i E n l R hR
          have hh := condSome h
          clear h
          obtain ⟨hc, h⟩ := hh
          simp only [Bool.and_eq_true] at hc
          obtain rfl := Nat.eq_of_beq_eq_true hc.1
          obtain rfl := Nat.eq_of_beq_eq_true hc.2
          split at h
          · rename_i hle
            obtain ⟨e, s2⟩ := p
            obtain ⟨i, g1, _⟩ := ht.sli t2 e s2 hp
            refine ⟨_, h, rfl, ⟨_, g1, by simp⟩, fun st2 w0 S nb idb ids a w vy hrd hr hv => ?_⟩
            have hv' : vy = _ := hv
            have hC2 : st2.H b = some C := by rw [hrd b (by simp)]; exact hC
            obtain ⟨p1, p2⟩ := cells_part (hr.blk b C hC2).1 hR hle
            have hn := (row_split (hr.blk b C hC2).1 hR).2.2
            have hml : ((l.drop lo).take len).length = len := by simp; omega
            obtain ⟨cs, c1, c2, c3⟩ := rep_list (P := P) hr hC2 p2
            rw [p1] at c3
            refine ⟨fun w => by rw [hv', hml]; simp [Builtin.lenOf], cs, fun w2 hw => ?_, c3⟩
            have := c2 w2 hw
            rw [hv']
            simp only [hml, Builtin.firstCells]
            rw [← this]
          · cases h
        · cases h
      · cases h
    · cases h
  · rename_i b s'
    split at h
    · rename_i p hp
      split at h
      · rename_i fl E l hC
        have hh := condSome h
        clear h
        obtain ⟨hc, h⟩ := hh
        simp only [Bool.and_eq_true] at hc
        obtain rfl := Nat.eq_of_beq_eq_true hc.1
        obtain rfl := Nat.eq_of_beq_eq_true hc.2
        obtain ⟨e, s2⟩ := p
        obtain ⟨i, g1, _⟩ := ht.sli t2 e s2 hp
        refine ⟨_, h, rfl, ⟨_, g1, by simp⟩, fun st2 w0 S nb idb ids a w vy hrd hr hv => ?_⟩
        have hC2 : st2.H b = some (fl, [.gro E l]) := by rw [hrd b (by simp)]; exact hC
        have hlen := (hr.blk b _ hC2).2.1.1
        obtain ⟨cs, c1, c2, c3⟩ := rep_list (P := P) hr hC2 (o := 0) (n := l.length * E.s) (by dsimp only; rw [cells_gro, flatMap_enc_length]; omega)
        dsimp only at c3
        rw [List.drop_zero, cells_gro, List.take_of_length_le (by rw [flatMap_enc_length]; omega)] at c3
        rcases hv with ⟨h0, a0, hv⟩ | ⟨h0, hv⟩
        · have hl0 : l.length = 0 := by rw [← hlen]; exact h0
          refine ⟨fun w => by rw [hv]; dsimp only; rw [hl0]; simp [Builtin.lenOf], cs, fun w2 hw => ?_, c3⟩
          have hcs : cs = [] := List.eq_nil_of_length_eq_zero (by rw [c1, hl0, Nat.zero_mul])
          subst hcs
          dsimp only
          rw [hv, hl0]
          cases a0 with
          | none => exact run_firstCells_none w2 E.s 0 0 0
          | some a0 => exact run_firstCells_some w2 E.s 0 a0 0 0 [] (by simp) (fun j v hj => by simp at hj)
        · refine ⟨fun w => by rw [hv]; dsimp only; rw [← hlen]; simp [Builtin.lenOf], cs, fun w2 hw => ?_, c3⟩
          have := c2 w2 hw
          rw [hv]
          simp only [Builtin.firstCells]
          rw [← this]; rfl
      · cases h
    · cases h
  · rename_i b o' s' lo len cap
    split at h
    · rename_i p hp
      split at h
      · rename_i C hC
        split at h
        · rename_i E n l R hR
          have hh := condSome h
          clear h
          obtain ⟨hc, h⟩ := hh
          simp only [Bool.and_eq_true] at hc
          obtain rfl := Nat.eq_of_beq_eq_true hc.1
          obtain rfl := Nat.eq_of_beq_eq_true hc.2
          split at h
          · rename_i hle
            obtain ⟨e, s2⟩ := p
            obtain ⟨i, g1, _⟩ := ht.sli t2 e s2 hp
            refine ⟨_, h, rfl, ⟨_, g1, by simp⟩, fun st2 w0 S nb idb ids a w vy hrd hr hv => ?_⟩
            have hC2 : st2.H b = some C := by rw [hrd b (by simp)]; exact hC
            obtain ⟨p1, p2⟩ := cells_part (hr.blk b C hC2).1 hR hle
            have hn := (row_split (hr.blk b C hC2).1 hR).2.2
            have hml : ((l.drop lo).take len).length = len := by simp; omega
            obtain ⟨cs, c1, c2, c3⟩ := rep_list (P := P) hr hC2 p2
            rw [p1] at c3
            rcases hv with hv' | ⟨h0, _, a0, c0, hv'⟩
            · refine ⟨fun w => by rw [hv', hml]; simp [Builtin.lenOf], cs, fun w2 hw => ?_, c3⟩
              have := c2 w2 hw
              rw [hv']
              simp only [hml, Builtin.firstCells]
              rw [← this]
            · refine ⟨fun w => by rw [hv', hml, h0]; simp [Builtin.lenOf], cs, fun w2 hw => ?_, c3⟩
              have hcs : cs = [] := List.eq_nil_of_length_eq_zero (by rw [c1, h0, Nat.zero_mul])
              subst hcs
              dsimp only
              rw [hv', hml, h0]
              cases a0 with
              | none => exact run_firstCells_none w2 E.s 0 0 c0
              | some a0 => exact run_firstCells_some w2 E.s 0 a0 0 c0 [] (by simp) (fun j v hj => by simp at hj)
          · cases h
        · cases h
      · cases h
    · cases h
  · rename_i x
    have hh := condSome h
    clear h
    obtain ⟨hc, h⟩ := hh
    simp only [Bool.and_eq_true] at hc
    obtain rfl := Nat.eq_of_beq_eq_true hc.2
    refine ⟨_, h, rfl, ⟨_, ht.str t2 hc.1, by simp⟩, fun st2 w0 S nb idb ids a w vy hrd hr hv => ?_⟩
    have hv' : vy = .string x := hv
    have hsz : (bytesL x).length = x.size := by unfold bytesL; rw [List.length_map, Array.length_toList]; rfl
    refine ⟨fun w => by rw [hv']; show _ = Result.ok (bytesL x).length w; rw [hsz]; rfl, x.data.toList.map fun (b : UInt8) => Value.int .u8 (b.toNat : Int), fun w2 hw => ?_, u8_list ids x.data.toList⟩
    rw [hv']
    show (Builtin.firstCells 1 (bytesL x).length (.string x)).run P w2 = _
    rw [hsz]
    have hx : x.extract 0 x.size = x := by simp
    show Result.ok ((x.extract 0 x.size).data.map fun (b : UInt8) => Value.int .u8 (b.toNat : Int)) w2 = _
    rw [hx]
    congr 1
    apply Array.ext'
    simp
  · cases h
theorem srcN_spec (ht : TabOk P tab) {t2 : TypeId} {E : EK} {Y : TV} {k : List E.T → List Nat → Option α} (h : evSrcN tab t2 st E Y k = some r) :
    ∃ l rd, k l rd = some r ∧ (∃ d, P.underlying t2 = some d ∧ ∀ k, d ≠ .int k) ∧ SrcOk P st Y E l rd := by
  unfold evSrcN at h
  split at h
  · split at h
    · rename_i p hp
      obtain ⟨e, s2⟩ := p
      obtain ⟨i, g1, _⟩ := ht.sli t2 e s2 hp
      refine ⟨_, _, h, ⟨_, g1, by simp⟩, fun st2 w0 S nb idb ids a w vy hrd hr hv => ?_⟩
      have hv' : vy = .slice none 0 0 := hv
      exact ⟨fun w => by rw [hv']; simp [Builtin.lenOf], [], fun w2 _ => by rw [hv']; exact run_firstCells_none w2 E.s 0 0 0, trivial⟩
    · cases h
  · obtain ⟨row, h1, h2, h3, h4⟩ := src_spec ht h
    split at h1
    · rename_i l hl
      obtain ⟨e1, e2, e3⟩ := seqAs_spec hl
      obtain ⟨E', l', rd⟩ := row
      simp only at e1 e2 e3 h1 h4
      subst e1
      refine ⟨l, rd, h1, h3, fun st2 w0 S nb idb ids a w vy hrd hr hv => ?_⟩
      obtain ⟨q1, news, q2, q3⟩ := h4 st2 w0 S nb idb ids a w vy hrd hr hv
      exact ⟨by rw [e3]; exact q1, news, by rw [e3]; exact q2, by rw [e2]; exact q3⟩
    · cases h1
theorem call_args {c : Call} (ho : o.op = .call c) {x y : Operand} (hxs : c.args.toList = [x, y]) : x ∈ o.op.operands ∧ y ∈ o.op.operands ∧ ∀ ρ : Operand → Value, c.args.map ρ = #[ρ x, ρ y] := by
  refine ⟨?_, ?_, fun ρ => ?_⟩
  · simp only [ho, Op.operands, Call.operands, Array.mem_append]
    exact .inr (by rw [← Array.mem_toList_iff, hxs]; simp)
  · simp only [ho, Op.operands, Call.operands, Array.mem_append]
    exact .inr (by rw [← Array.mem_toList_iff, hxs]; simp)
  · have : c.args = #[x, y] := by cases hc : c.args with | mk l => simp [hc] at hxs; simp [hxs]
    simp [this]
theorem sound_appCore (ht : TabOk P tab) {c : Call} (ho : o.op = .call c) (hcal : c.callee = .builtin .append) {t t2 : TypeId} (hts : c.argTypes.toList = [t, t2]) {x y : Operand} (hxs : c.args.toList = [x, y])
    {e s : Nat} (hl : alook tab.sli t = some (e, s)) {d : Nat} (hn : st.H (nameOf d 0) = none) {E : EK} (hE : E.s = s) {l l2 : List E.T} {cs rd : List Nat}
    (ht2 : ∃ d, P.underlying t2 = some d ∧ ∀ k, d ≠ .int k) (hsrc : SrcOk P st (getO st y) E l2 rd) (hle : l.length + l2.length ≤ 67108864)
    (hbase : ∀ (st2 : St) w0 S nb idb ids a w, (∀ b ∈ cs, st2.H b = st.H b) → Rep w0 S nb idb ids st2 a w → (getO st x).R ids (a.eval x) → BaseOk ids st2 w E l (a.eval x) cs) :
    OpS P o st ⟨.vl (.sv (.gsl (nameOf d 0) s)), cs ++ rd, (nameOf d 0, true, [.gro E (l ++ l2)]) :: cs.map fun b => (b, true, [])⟩ := by
  obtain ⟨hx, hy, ha⟩ := call_args ho hxs
  subst hE
  refine opS_val fun st2 hag w0 S nb idb ids a w hr => ?_
  obtain ⟨i, z, g1, g2, g3, g4, g5, g6, g7⟩ := ht.sliz t e E.s hl
  have e1 := getO_R hr x; have e2 := getO_R hr y
  rw [getO_agr hag hx] at e1
  rw [getO_agr hag hy] at e2
  have hnn : st2.H (nameOf d 0) = none := by rw [hag.out _ (by simp)]; exact hn
  obtain ⟨q1, news, q2, q3⟩ := hsrc st2 w0 S nb idb ids a w _ (fun b hb => hag.rd b (List.mem_append_right _ hb)) hr e2
  have hb := hbase st2 w0 S nb idb ids a w (fun b hb => hag.rd b (List.mem_append_left _ hb)) hr e1
  obtain ⟨v, w', ids', r1, r2, r3⟩ := append_rep (P := P) (t := t) (t2 := t2) (ty := o.type) hr g1 ht2 g2 g5 g3 g6 g7 g4 hle hnn (by have := hr.lim; simp only [nameOf]; omega) hb q1 q2 q3
  have hat : c.argTypes = #[t, t2] := by cases hc : c.argTypes with | mk l => simp [hc] at hts; simp [hts]
  refine ⟨v, w', run_bi ho hcal (s := Builtin.append_ c.argTypes o.type #[a.eval x, a.eval y]) (fun consts => by rw [ha]; rfl) (by rw [hat]; exact r1), ids', r2, r3, fun b hb => ?_⟩
  simp only [TV.nm, Val.nm, SV.nm, List.mem_singleton] at hb
  subst hb
  simp [St.appH, updH_eq, outAt, Nat.beq_refl]
theorem sound_app0 (ht : TabOk P tab) {c : Call} (ho : o.op = .call c) (hcal : c.callee = .builtin .append) {t t2 : TypeId} (hts : c.argTypes.toList = [t, t2]) {x y : Operand} (hxs : c.args.toList = [x, y])
    {e s : Nat} (hl : alook tab.sli t = some (e, s)) {d : Nat} (hn : st.H (nameOf d 0) = none) (hx0 : ∀ ids v, (getO st x).R ids v → ∃ a, v = .slice a 0 0)
    (h : evApp0 tab d t2 s st (getO st y) k = some r) : ∃ f, k f = some r ∧ OpS P o st f := by
  unfold evApp0 at h
  obtain ⟨row, h1, h2, h3, h4⟩ := src_spec ht h
  split at h1
  · rename_i hle
    exact ⟨_, h1, sound_appCore (l := []) (cs := []) ht ho hcal hts hxs hl hn h2 h3 h4 (by simpa using hle)
      fun st2 w0 S nb idb ids a w _ hr hv => .fresh [] (fun b hb => nomatch hb) (by simp) rfl (hx0 ids _ hv)⟩
  · cases h1
theorem sound_app1 (ht : TabOk P tab) {c : Call} (ho : o.op = .call c) (hcal : c.callee = .builtin .append) {t t2 : TypeId} (hts : c.argTypes.toList = [t, t2]) {x y : Operand} (hxs : c.args.toList = [x, y])
    {e s : Nat} (hl : alook tab.sli t = some (e, s)) {d : Nat} (hn : st.H (nameOf d 0) = none) {b : Nat} {E : EK} {l : List E.T}
    (hbase : E.s = s → ∀ (st2 : St) w0 S nb idb ids a w, (∀ c ∈ [b], st2.H c = st.H c) → Rep w0 S nb idb ids st2 a w → (getO st x).R ids (a.eval x) → BaseOk ids st2 w E l (a.eval x) [b])
    (h : evApp1 tab d t2 s b E l st (getO st y) k = some r) : ∃ f, k f = some r ∧ OpS P o st f := by
  unfold evApp1 at h
  have hh := condSome h
  clear h
  obtain ⟨hE, h⟩ := hh
  have hE := Nat.eq_of_beq_eq_true hE
  obtain ⟨l2, rd, h1, h3, h4⟩ := srcN_spec ht h
  split at h1
  · rename_i hle
    exact ⟨_, h1, sound_appCore (cs := [b]) ht ho hcal hts hxs hl hn hE h3 h4 hle (hbase hE)⟩
  · cases h1
theorem sound_append (ht : TabOk P tab) {c : Call} (ho : o.op = .call c) (hcal : c.callee = .builtin .append) {t t2 : TypeId} (hts : c.argTypes.toList = [t, t2]) {x y : Operand} (hxs : c.args.toList = [x, y])
    (h : evAppend tab o t t2 st (getO st x) (getO st y) k = some r) : ∃ f, k f = some r ∧ OpS P o st f := by
  unfold evAppend at h
  split at h
  · rename_i d hd
    split at h
    · rename_i e s hl
      split at h
      · rename_i hn
        split at h
        · rename_i b s' hx
          split at h
          · rename_i E l hb
            have hh := condSome h
            clear h
            obtain ⟨hs, h⟩ := hh
            obtain rfl := Nat.eq_of_beq_eq_true hs
            refine sound_app1 ht ho hcal hts hxs hl hn (fun hE st2 w0 S nb idb ids a w hag hr hv => ?_) h
            have hb2 : st2.H b = some (true, [.gro E l]) := by rw [hag b (by simp)]; exact hb
            rw [hx] at hv
            have hg := (hr.blk b _ hb2).2.1
            have hlen : (ids b).2.2.1 = l.length := hg.1
            rcases hv with ⟨h0, hv⟩ | ⟨h0, hv⟩
            · refine .fresh [b] (fun c hc => ?_) (by simp) (List.eq_nil_of_length_eq_zero (by rw [← hlen]; exact h0)) hv
              simp only [List.mem_singleton] at hc; subst hc; rw [hb2]; rfl
            · have hne : l ≠ [] := by rintro rfl; rw [hlen] at h0; simp at h0
              refine .live b [.gro E l] (ids b).2.2.2 hb2 (cells_gro E l) hne (List.length_pos_iff.2 hne) (hg.2 rfl hne) (by rw [hv, hlen])
          · cases h
        · rename_i b o' s' lo len cap hx
          cases hc0 : Nat.beq cap 0 with
          | true =>
            rw [hc0] at h
            simp only [cond_true] at h
            have hh := condSome h
            clear h
            obtain ⟨hl0, h⟩ := hh
            obtain rfl := Nat.eq_of_beq_eq_true hc0
            obtain rfl := Nat.eq_of_beq_eq_true hl0
            exact sound_app0 ht ho hcal hts hxs hl hn (fun ids v hv => by rw [hx] at hv; exact ⟨_, hv⟩) h
          | false =>
            rw [hc0] at h
            simp only [cond_false] at h
            split at h
            · rename_i E n l hb
              have hh := condSome h
              clear h
              obtain ⟨hs, h⟩ := hh
              simp only [Bool.and_eq_true] at hs
              obtain rfl := Nat.eq_of_beq_eq_true hs.1
              obtain rfl := Nat.eq_of_beq_eq_true hs.2.1
              obtain rfl := Nat.eq_of_beq_eq_true hs.2.2.1
              obtain rfl := Nat.eq_of_beq_eq_true hs.2.2.2.1
              obtain rfl := Nat.eq_of_beq_eq_true hs.2.2.2.2
              refine sound_app1 ht ho hcal hts hxs hl hn (fun hE st2 w0 S nb idb ids a w hag hr hv => ?_) h
              have hb2 : st2.H b = some (true, [.seq E cap l]) := by rw [hag b (by simp)]; exact hb
              rw [hx] at hv
              have hv' : a.eval x = _ := hv
              have hll : l.length = cap := (hr.blk b _ hb2).1 (.seq E cap l) (by simp)
              have hpos : 0 < l.length := by
                rw [hll]
                rcases Nat.eq_zero_or_pos cap with h | h
                · subst h; cases hc0
                · exact h
              refine .live b [.seq E cap l] cap hb2 (by simp [cellsL, Seg.cells]) trivial hpos (fun j h1 h2 => by rw [hll] at h1; omega) (by rw [hv', hll]; simp)
            · cases h
        · rename_i hx
          exact sound_app0 ht ho hcal hts hxs hl hn (fun ids v hv => by rw [hx] at hv; exact ⟨none, hv⟩) h
        · cases h
      · cases h
    · cases h
  · cases h
theorem sound_lenY (ht : TabOk P tab) {c : Call} (ho : o.op = .call c) (hcal : c.callee = .builtin .len) {t : TypeId} {ts : List TypeId} (hts : c.argTypes.toList = t :: ts) {x : Operand} (hxs : c.args.toList = [x])
    (h : evLenY tab t st (getO st x) k = some r) : ∃ e, k e = some r ∧ OpS P o st e := by
  have hx : x ∈ o.op.operands := by
    simp only [ho, Op.operands, Call.operands, Array.mem_append]
    exact .inr (by rw [← Array.mem_toList_iff, hxs]; simp)
  have ha : ∀ ρ : Operand → Value, c.args.map ρ = #[ρ x] := fun ρ => by
    have : c.args = #[x] := by cases hc : c.args with | mk l => simp [hc] at hxs; simp [hxs]
    simp [this]
  have htt : c.argTypes[0]? = some t := by
    cases hc : c.argTypes with | mk l => simp [hc] at hts; simp [hts]
  have hrun : ∀ (ρ : Operand → Value) (n : Int) (w : World), (Builtin.len_ c.argTypes o.type #[ρ x]).run P w = .ok (.int .i64 n) w → (execOp ρ o).run P w = .ok (.value (.int .i64 n)) w := by
    intro ρ n w h
    exact run_bi ho hcal (s := Builtin.len_ c.argTypes o.type #[ρ x]) (fun consts => by rw [ha]; rfl) h
  unfold evLenY at h
  split at h
  · rename_i b s h1
    split at h
    · rename_i p hl
      obtain ⟨e, s'⟩ := p
      split at h
      · rename_i fl E l hb
        refine ⟨_, h, opS_pure fun st2 hag w0 S nb idb ids a w hr => ?_⟩
        have e1 := getO_R hr x
        rw [getO_agr hag hx, h1] at e1
        obtain ⟨j, g1, g2, g3, _⟩ := ht.sli t e s' hl
        have hb2 : st2.H b = some (fl, [.gro E l]) := by rw [hag.rd b (by simp)]; exact hb
        have hlen : (ids b).2.2.1 = l.length := (hr.blk b _ hb2).2.1.1
        have e1' : ∃ za zc, a.eval x = .slice za l.length zc := by
          rcases e1 with ⟨h0, za, e1⟩ | ⟨h0, e1⟩
          · rw [← hlen, h0]; exact ⟨za, 0, e1⟩
          · rw [← hlen]; exact ⟨_, _, e1⟩
        obtain ⟨za, zc, e1'⟩ := e1'
        refine ⟨_, hrun _ _ w ?_, rfl, fun b hb => by cases hb⟩
        simp [Builtin.len_, htt, run_underlying g1, e1', goInt]
      · cases h
    · cases h
  · rename_i b o1 s lo n cap h1
    split at h
    · rename_i p hl
      obtain ⟨e, s'⟩ := p
      refine ⟨_, h, opS_pure fun st2 hag w0 S nb idb ids a w hr => ?_⟩
      have e1 := getO_R hr x
      rw [getO_agr hag hx, h1] at e1
      obtain ⟨j, g1, g2, g3, _⟩ := ht.sli t e s' hl
      have e1' : ∃ za zc, a.eval x = .slice za n zc := by
        rcases e1 with e1 | ⟨rfl, _, za, zc, e1⟩
        · exact ⟨_, _, e1⟩
        · exact ⟨_, _, e1⟩
      obtain ⟨za, zc, e1'⟩ := e1'
      refine ⟨_, hrun _ _ w ?_, rfl, fun b hb => by cases hb⟩
      simp [Builtin.len_, htt, run_underlying g1, e1', goInt]
    · cases h
  · exact sound_len ht ho hcal hts hxs h
theorem sound_indexAddrY (ht : TabOk P tab) {t : TypeId} {x i : Operand} (ho : o.op = .indexAddr t x i) {e : Option α} (he : e = some r → ∃ f, k f = some r ∧ OpS P o st f)
    (h : evIndexAddrY tab t st (getO st x) (getO st i) e k = some r) : ∃ f, k f = some r ∧ OpS P o st f := by
  have hx : x ∈ o.op.operands := by simp [ho, Op.operands]
  have hi : i ∈ o.op.operands := by simp [ho, Op.operands]
  unfold evIndexAddrY at h
  split at h
  · rename_i b s h1
    split at h
    · rename_i k1 n h2
      split at h
      · rename_i e' s' hl
        split at h
        · rename_i fl E l hb
          have hh := condSome h
          clear h
          obtain ⟨hs, h⟩ := hh
          obtain rfl := Nat.eq_of_beq_eq_true hs
          split at h
          · rename_i hn
            refine ⟨_, h, opS_pure fun st2 hag w0 S nb idb ids a w hr => ?_⟩
            have e1 := getO_R hr x; have e2 := getO_nm hr x; have e3 := getO_R hr i
            rw [getO_agr hag hx, h1] at e1 e2
            rw [getO_agr hag hi, h2] at e3
            have hb2 : st2.H b = some (fl, [.gro E l]) := by rw [hag.rd b (by simp)]; exact hb
            have hlen : (ids b).2.2.1 = l.length := (hr.blk b _ hb2).2.1.1
            have e1' : a.eval x = _ := (e1.resolve_left (by rintro ⟨h0, _⟩; omega)).2
            have e3' : a.eval i = _ := e3
            obtain ⟨j, g1, g2, g3, _⟩ := ht.sli t e' s hl
            rw [hlen] at e1'
            refine ⟨_, by simp [execOp, ho, e1', e3', Instr.indexAt, asIntOf, run_underlying g1, hn, sizeOf, typeInfo, g2, addr_add]; rfl, ?_, e2⟩
            show _ = _
            simp [g3, Nat.add_assoc, Nat.add_mul]
          · cases h
        · cases h
      · cases h
    · cases h
  · rename_i b1 o1 s1 lo len cap h1
    split at h
    · rename_i k1 n h2
      split at h
      · rename_i e' s' hl
        have hh := condSome h
        clear h
        obtain ⟨hs, h⟩ := hh
        obtain rfl := Nat.eq_of_beq_eq_true hs
        split at h
        · rename_i hn
          refine ⟨_, h, opS_pure fun st2 hag w0 S nb idb ids a w hr => ?_⟩
          have e1 := getO_R hr x; have e2 := getO_nm hr x; have e3 := getO_R hr i
          rw [getO_agr hag hx, h1] at e1 e2
          rw [getO_agr hag hi, h2] at e3
          have e1' : a.eval x = _ := e1.resolve_right (by rintro ⟨h0, _⟩; omega)
          have e3' : a.eval i = _ := e3
          obtain ⟨j, g1, g2, g3, _⟩ := ht.sli t e' s1 hl
          refine ⟨_, by simp [execOp, ho, e1', e3', Instr.indexAt, asIntOf, run_underlying g1, hn, sizeOf, typeInfo, g2, addr_add]; rfl, ?_, e2⟩
          show _ = _
          simp [g3, Nat.add_assoc, Nat.add_mul]
        · cases h
      · cases h
    · cases h
  · exact he h
end Go.Proofs.YtlmmgjngihlpeaaDoor.Sx
