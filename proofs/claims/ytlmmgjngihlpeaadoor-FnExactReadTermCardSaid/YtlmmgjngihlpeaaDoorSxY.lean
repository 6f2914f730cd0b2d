/- A symbolic evaluator for the machine's code, part Y: rows that grow, function values, bytes. Our own work. -/
import Derived.Test.YtlmmgjngihlpeaaDoorSxX
import Derived.Laws.BytesString
namespace Go.Proofs.YtlmmgjngihlpeaaDoor.Sx
open Go
set_option linter.unusedVariables false
set_option linter.unusedSimpArgs false
variable {P : Program}
section
variable {w : World} {t t2 ty e : TypeId} {i : TypeInfo} {z : Value}
theorem append_room (ht : P.underlying t = some (.slice e)) (ht2 : ∃ d, P.underlying t2 = some d ∧ ∀ k, d ≠ .int k) (hi : P.info? e = some i) {vy : Value} {m : Nat} {news : List Value}
    (hlen : (Builtin.lenOf vy).run P w = .ok m w) (hfirst : (Builtin.firstCells i.size m vy).run P w = .ok news.toArray w) {a : Addr} {n cap : Nat} (hr : n + m ≤ cap) {w' : World}
    (hst : (storeCells (a.add (n * i.size)) news 0).run P w = .ok () w') : (Builtin.append_ #[t, t2] ty #[.slice (some a) n cap, vy]).run P w = .ok (.slice (some a) (n + m) cap) w' := by
  obtain ⟨d, hd, hk⟩ := ht2
  have hz : (match d with | .int k => true | _ => false) = false := by
    cases d <;> first | rfl | exact absurd rfl (hk _)
  simp [Builtin.append_, run_underlying ht, run_underlying hd, sizeOf, typeInfo, hi, hz, hlen, hr, hfirst, hst]
theorem append_none0 (ht : P.underlying t = some (.slice e)) (ht2 : ∃ d, P.underlying t2 = some d ∧ ∀ k, d ≠ .int k) (hi : P.info? e = some i) {vy : Value}
    (hlen : (Builtin.lenOf vy).run P w = .ok 0 w) (hfirst : (Builtin.firstCells i.size 0 vy).run P w = .ok #[] w) {a : Option Addr} {n cap : Nat} (hr : n ≤ cap) :
    (Builtin.append_ #[t, t2] ty #[.slice a n cap, vy]).run P w = .ok (.slice a n cap) w := by
  obtain ⟨d, hd, hk⟩ := ht2
  have hz : (match d with | .int k => true | _ => false) = false := by
    cases d <;> first | rfl | exact absurd rfl (hk _)
  cases a <;> simp [Builtin.append_, run_underlying ht, run_underlying hd, sizeOf, typeInfo, hi, hz, hlen, hr, hfirst, storeCells]
theorem append_grow (ht : P.underlying t = some (.slice e)) (ht2 : ∃ d, P.underlying t2 = some d ∧ ∀ k, d ≠ .int k) (hi : P.info? e = some i) (hz : i.zero = some z) {vy : Value} {m : Nat} {news olds : List Value}
    (hlen : (Builtin.lenOf vy).run P w = .ok m w) (hfirst : (Builtin.firstCells i.size m vy).run P w.drew = .ok news.toArray w.drew) {a : Option Addr} {n cap : Nat} (hr : cap < n + m)
    (hold : (Builtin.firstCells i.size n (.slice a n cap)).run P w.drew = .ok olds.toArray w.drew) (hm : n + m ≤ 67108864) (hb : i.bytes ≤ 1048576) :
    ∃ c, n + m ≤ c ∧ (Builtin.append_ #[t, t2] ty #[.slice a n cap, vy]).run P w = .ok (.slice (some ⟨w.heap.size, 0, none⟩) (n + m) c)
      (w.drew.alloc (.cells (olds.toArray ++ news.toArray ++ Builtin.zeroCells z.cells (c - (n + m))) e)) := by
  obtain ⟨d, hd, hk⟩ := ht2
  have hz0 : (match d with | .int k => true | _ => false) = false := by
    cases d <;> first | rfl | exact absurd rfl (hk _)
  have h1 : ¬ (n + m ≤ cap) := by omega
  have h2 : ¬ (9223372036854775807 < ((n : Int) + (m : Int))) := by omega
  have h3 : ¬ (281474976710656 < Builtin.nextslicecap (n + m) cap * i.bytes) := by
    have := growslice_fits (need := n + m) (old := cap) (bytes := i.bytes) hr (by
      have := Nat.mul_le_mul hm hb
      omega)
    omega
  refine ⟨grownCap w (n + m) cap e, grownCap_ge w _ _ _, ?_⟩
  simp [Builtin.append_, run_underlying ht, run_underlying hd, sizeOf, typeInfo, zeroValue, hi, hz, hz0, hlen, h1, h2, h3, Question.forced, hfirst, hold, newRow, grownCap]
  congr 2
  apply Array.ext'
  simp [List.append_assoc]
end
theorem upd1 (H : Nat → Option Blk) (b : Nat) (B : Blk) (c : Nat) : updH H [(b, B)] c = if c = b then some B else H c := by
  rw [updH_eq]
  simp only [outAt]
  by_cases hc : c = b
  · subst hc; simp [Nat.beq_refl]
  · have : Nat.beq c b = false := by
      cases hq : Nat.beq c b with
      | false => rfl
      | true => exact absurd (Nat.eq_of_beq_eq_true hq) hc
    simp [this, hc]
theorem upd2 (H : Nat → Option Blk) (b d : Nat) (B D : Blk) (c : Nat) : updH H [(b, B), (d, D)] c = if c = b then some B else if c = d then some D else H c := by
  rw [updH_eq]
  simp only [outAt]
  by_cases hc : c = b
  · subst hc; simp [Nat.beq_refl]
  · have h1 : Nat.beq c b = false := by
      cases hq : Nat.beq c b with
      | false => rfl
      | true => exact absurd (Nat.eq_of_beq_eq_true hq) hc
    by_cases hd : c = d
    · subst hd; simp [h1, hc, Nat.beq_refl]
    · have h2 : Nat.beq c d = false := by
        cases hq : Nat.beq c d with
        | false => rfl
        | true => exact absurd (Nat.eq_of_beq_eq_true hq) hd
      simp [h1, h2, hc, hd]
section
variable {w0 : World} {S : List Nat} {nb : Nat} {idb ids : Ids} {st : St} {a : Act} {w : World}
theorem Rep.drop (h : Rep w0 S nb idb ids st a w) {b : Nat} (hb : (st.H b).isSome = true) : Rep w0 S nb idb ids { st with H := updH st.H [(b, true, [])] } a w := by
  have hs : ∀ c, (st.H c).isSome = true → (updH st.H [(b, true, [])] c).isSome = true := fun c hc => by
    rw [upd1]; by_cases hcb : c = b
    · rw [if_pos hcb]; rfl
    · rw [if_neg hcb]; exact hc
  refine ⟨h.keeps, h.size, h.defers, h.tmps, h.bor, fun c C hc => ?_, fun c d C D hc hd hne lc ld => ?_, fun c C hc lc => ?_, fun t c hc => hs c (h.clT t c hc), fun c C hc d hd => ?_, h.limg,
    h.hid.upd (Nat.le_refl _) (fun c C hc => by
      dsimp only at hc; rw [upd1] at hc
      by_cases hcb : c = b
      · rw [if_pos hcb] at hc
        obtain rfl := Option.some.inj hc
        exact .inr ⟨rfl, fun hl => hl.elim⟩
      · rw [if_neg hcb] at hc; exact .inl ⟨hc, rfl, fun _ _ => rfl⟩) fun _ _ _ _ _ => rfl⟩
  · dsimp only at hc; rw [upd1] at hc
    by_cases hcb : c = b
    · rw [if_pos hcb] at hc
      obtain rfl := Option.some.inj hc
      exact ⟨(fun s hs => nomatch hs), trivial, fun hl => hl.elim, fun j x hx => by simp [cellsL] at hx⟩
    · rw [if_neg hcb] at hc; exact h.blk c C hc
  · dsimp only at hc hd; rw [upd1] at hc hd
    by_cases hcb : c = b
    · rw [if_pos hcb] at hc; obtain ⟨_, rfl⟩ := (Prod.mk.injEq _ _ _ _).mp (Option.some.inj hc); exact lc.elim
    · by_cases hdb : d = b
      · rw [if_pos hdb] at hd; obtain rfl := Option.some.inj hd; exact ld.elim
      · rw [if_neg hcb] at hc; rw [if_neg hdb] at hd; exact h.sep c d C D hc hd hne lc ld
  · dsimp only at hc; rw [upd1] at hc
    by_cases hcb : c = b
    · rw [if_pos hcb] at hc; obtain ⟨_, rfl⟩ := (Prod.mk.injEq _ _ _ _).mp (Option.some.inj hc); exact lc.elim
    · rw [if_neg hcb] at hc; exact h.own c C hc lc
  · refine hs d ?_
    dsimp only at hc; rw [upd1] at hc
    by_cases hcb : c = b
    · rw [if_pos hcb] at hc; obtain rfl := Option.some.inj hc; simp [nmL] at hd
    · rw [if_neg hcb] at hc; exact h.clH c C hc d hd
theorem Rep.allocObj (h : Rep w0 S nb idb ids st a w) (o : Obj) : Rep w0 S nb idb ids st a (w.alloc o) := by
  refine ⟨h.keeps.alloc o, h.size, h.defers, h.tmps, h.bor, fun c C hc => ?_, h.sep, h.own, h.clT, h.clH, h.limg,
    h.hid.upd (by simp) (fun c C hc => .inl ⟨hc, rfl, fun _ _ => rfl⟩) fun e E he g hg => by
      have := (h.hid.rel e E he).lt _ hg
      show (w.heap.push _)[_]? = _
      rw [Array.getElem?_push, if_neg (by omega)]⟩
  refine (h.blk c C hc).congr rfl (fun _ _ => rfl) (by simp) fun hl => ?_
  show (w.heap.push _)[_]? = _
  have := (h.blk c C hc).2.2.1 hl
  rw [Array.getElem?_push, if_neg (by omega)]
theorem Rep.empty (h : Rep w0 S nb idb ids st a w) {b : Nat} {E : EK} (hb : st.H b = none) (hnb : nb ≤ b) :
    Rep w0 S nb idb (freshIds ids b (0, 0, 0, 0)) { st with H := updH st.H [(b, true, [.gro E []])] } a w := by
  have hdom : ∀ c, (st.H c).isSome = true → c ≠ b := fun c hc e => by subst e; rw [hb] at hc; cases hc
  have hs : ∀ c, (st.H c).isSome = true → (updH st.H [(b, true, [.gro E []])] c).isSome = true := fun c hc => by rw [upd1, if_neg (hdom c hc)]; exact hc
  refine ⟨h.keeps, h.size, h.defers, fun t => (h.tmps t).congr fun c hc => freshIds_ne (hdom c (h.clT t c hc)), fun i hi => ?_, fun c C hc => ?_, fun c d C D hc hd hne lc ld => ?_, fun c C hc lc => ?_,
    fun t c hc => hs c (h.clT t c hc), fun c C hc d hd => ?_, h.limg,
    h.hid.upd (Nat.le_refl _) (fun c C hc => by
      dsimp only at hc; rw [upd1] at hc
      by_cases hcb : c = b
      · rw [if_pos hcb] at hc
        obtain rfl := Option.some.inj hc
        exact .inr ⟨rfl, fun hl => absurd rfl hl⟩
      · rw [if_neg hcb] at hc; exact .inl ⟨hc, freshIds_ne hcb, fun d hd => freshIds_ne (hdom d (h.clH c C hc d hd))⟩) fun _ _ _ _ _ => rfl⟩
  · rw [freshIds_ne (by omega)]; exact h.bor i hi
  · dsimp only at hc; rw [upd1] at hc
    by_cases hcb : c = b
    · subst hcb
      rw [if_pos rfl] at hc
      obtain rfl := Option.some.inj hc
      refine ⟨fun s hs => ?_, ⟨by rw [freshIds_eq]; rfl, fun _ hl => absurd rfl hl⟩, fun hl => absurd rfl hl, fun j x hx => by simp [cellsL, Seg.cells] at hx⟩
      simp only [List.mem_singleton] at hs; subst hs; trivial
    · rw [if_neg hcb] at hc
      exact (h.blk c C hc).congr (freshIds_ne hcb) (fun d hd => freshIds_ne (hdom d (h.clH c C hc d hd))) (Nat.le_refl _) fun _ => rfl
  · dsimp only at hc hd; rw [upd1] at hc hd
    by_cases hcb : c = b
    · rw [if_pos hcb] at hc; obtain ⟨_, rfl⟩ := (Prod.mk.injEq _ _ _ _).mp (Option.some.inj hc); exact absurd rfl lc
    · by_cases hdb : d = b
      · rw [if_pos hdb] at hd; obtain rfl := Option.some.inj hd; exact absurd rfl ld
      · rw [if_neg hcb] at hc; rw [if_neg hdb] at hd
        rw [freshIds_ne hcb, freshIds_ne hdb]; exact h.sep c d C D hc hd hne lc ld
  · dsimp only at hc; rw [upd1] at hc
    by_cases hcb : c = b
    · rw [if_pos hcb] at hc; obtain ⟨_, rfl⟩ := (Prod.mk.injEq _ _ _ _).mp (Option.some.inj hc); exact absurd rfl lc
    · rw [if_neg hcb] at hc; rw [freshIds_ne hcb]; exact h.own c C hc lc
  · refine hs d ?_
    dsimp only at hc; rw [upd1] at hc
    by_cases hcb : c = b
    · rw [if_pos hcb] at hc; obtain rfl := Option.some.inj hc; simp [nmL, Seg.nm] at hd
    · rw [if_neg hcb] at hc; exact h.clH c C hc d hd
theorem Rep.extend (h : Rep w0 S nb idb ids st a w) {b d : Nat} {B : List Seg} {E : EK} {l xs : List E.T} {cap : Nat} (hb : st.H b = some (true, B)) (hB : cellsL B = l.flatMap E.enc) (hBl : Lv B)
    (hd : st.H d = none) (hnb : nb ≤ d) (hcap : (l ++ xs).length ≤ cap)
    (hsp : ∀ j, l.length * E.s ≤ j → j < cap * E.s → (∃ u, w.cell? ⟨(ids b).1, (ids b).2.1 + j, none⟩ = some u) ∧ w.frozen? ⟨(ids b).1, (ids b).2.1 + j, none⟩ = false)
    {vs : List Value} (hvs : CR ids (xs.flatMap E.enc) vs) :
    ∃ w', (storeCells ⟨(ids b).1, (ids b).2.1 + l.length * E.s, none⟩ vs 0).run P w = .ok () w' ∧
      Rep w0 S nb idb (freshIds ids d ((ids b).1, (ids b).2.1, (l ++ xs).length, cap)) { st with H := updH st.H [(d, true, [.gro E (l ++ xs)]), (b, true, [])] } a w' := by
  have hvl : vs.length = xs.length * E.s := by rw [← hvs.length, flatMap_enc_length]
  have hcap' : (l.length + xs.length) * E.s ≤ cap * E.s := Nat.mul_le_mul_right _ (by simpa using hcap)
  rw [Nat.add_mul] at hcap'
  have hBlen : (cellsL B).length = l.length * E.s := by rw [hB, flatMap_enc_length]
  obtain ⟨bk1, bkg, bk2, bk3⟩ := h.blk b _ hb
  dsimp only at bk1 bkg bk2 bk3
  obtain ⟨w', h1, h2, h3, h4, h5, h6, h7, h8, h9⟩ := run_storeCells (P := P) (ids b).1 ((ids b).2.1 + l.length * E.s) vs 0 w
    (fun j hj => by
      obtain ⟨⟨u, hu⟩, _⟩ := hsp (l.length * E.s + j) (by omega) (by omega)
      exact ⟨u, by rw [← hu]; congr 2; omega⟩)
    (fun j hj => by
      obtain ⟨_, hf⟩ := hsp (l.length * E.s + j) (by omega) (by omega)
      rw [← hf]; congr 2; omega)
    (fun v hv => by
      obtain ⟨j, hj, rfl⟩ := List.mem_iff_getElem.1 hv
      have hj' : j < (xs.flatMap E.enc).length := by rw [flatMap_enc_length]; omega
      obtain ⟨v', hv', hr⟩ := hvs.get (List.getElem?_eq_getElem hj')
      rw [List.getElem?_eq_getElem hj] at hv'
      rw [Option.some.inj hv']
      obtain ⟨u, _, hu⟩ := List.mem_flatMap.1 (List.getElem_mem hj')
      exact hr.one (cellsS_known.enc_known E u _ hu))
  refine ⟨w', h1, ?_⟩
  have hdom : ∀ c, (st.H c).isSome = true → c ≠ d := fun c hc e => by subst e; rw [hd] at hc; cases hc
  have hbd : b ≠ d := hdom b (by rw [hb]; rfl)
  have hs : ∀ c, (st.H c).isSome = true → (updH st.H [(d, true, [.gro E (l ++ xs)]), (b, true, [])] c).isSome = true := fun c hc => by
    rw [upd2, if_neg (hdom c hc)]
    by_cases hcb : c = b
    · rw [if_pos hcb]; rfl
    · rw [if_neg hcb]; exact hc
  refine ⟨h.keeps.stored ((h.own b B hb hBl).imp_right And.right) h5 h6 h7 h8 h9, h.size, h.defers, fun t => (h.tmps t).congr fun c hc => freshIds_ne (hdom c (h.clT t c hc)), fun i hi => ?_, fun c C hc => ?_,
    fun c e C D hc he hne lc le => ?_, fun c C hc lc => ?_, fun t c hc => hs c (h.clT t c hc), fun c C hc e he => ?_, h.limg,
    h.hid.upd (by rw [h5]; exact Nat.le_refl _) (fun c C hc => by
      dsimp only at hc; rw [upd2] at hc
      by_cases hcd : c = d
      · rw [if_pos hcd] at hc
        obtain rfl := Option.some.inj hc
        refine .inr ⟨rfl, fun _ e E _ he => ?_⟩
        rw [hcd, freshIds_eq]
        exact h.hid.sepL e b E _ he hb hBl
      · rw [if_neg hcd] at hc
        by_cases hcb : c = b
        · rw [if_pos hcb] at hc
          obtain rfl := Option.some.inj hc
          exact .inr ⟨rfl, fun hl => hl.elim⟩
        · rw [if_neg hcb] at hc; exact .inl ⟨hc, freshIds_ne hcd, fun d hd => freshIds_ne (hdom d (h.clH c C hc d hd))⟩) fun e E he g hg => h6 g fun hgb => h.hid.sepL e b E _ he hb hBl (by rw [← hgb]; exact hg)⟩
  · rw [freshIds_ne (by omega)]; exact h.bor i hi
  · dsimp only at hc; rw [upd2] at hc
    by_cases hcd : c = d
    · subst hcd
      rw [if_pos rfl] at hc
      obtain rfl := Option.some.inj hc
      refine ⟨fun s hs => ?_, ⟨by rw [freshIds_eq], fun _ _ j j1 j2 => ?_⟩, fun _ => by rw [freshIds_eq, h5]; exact bk2 hBl, fun j x hx => ?_⟩
      · simp only [List.mem_singleton] at hs; subst hs; trivial
      · rw [freshIds_eq] at j2 ⊢
        dsimp only at j2 ⊢
        rw [List.length_append, Nat.add_mul] at j1
        obtain ⟨⟨u, hu⟩, hf⟩ := hsp j (by omega) j2
        exact ⟨⟨u, by rw [h3 _ (by omega)]; exact hu⟩, by rw [h4]; exact hf⟩
      · rw [freshIds_eq]
        dsimp only at hx ⊢
        rw [cells_gro, List.flatMap_append] at hx
        by_cases hj : j < l.length * E.s
        · rw [List.getElem?_append_left (by rw [flatMap_enc_length]; exact hj), ← hB] at hx
          obtain ⟨v, v1, v2, v3⟩ := bk3 j x hx
          refine ⟨v, by rw [h3 _ (by omega)]; exact v1, v2.congr fun e he => ?_, fun _ => by rw [h4]; exact v3 rfl⟩
          obtain ⟨u, _, hu⟩ := List.mem_flatMap.1 (by rw [hB] at hx; exact List.mem_of_getElem? hx)
          rw [enc_nm E u x hu] at he; cases he
        · rw [List.getElem?_append_right (by rw [flatMap_enc_length]; omega), flatMap_enc_length] at hx
          obtain ⟨v, v1, v2⟩ := hvs.get hx
          have hjl : j - l.length * E.s < vs.length := by
            have := (List.getElem?_eq_some_iff.1 v1).1; exact this
          refine ⟨v, ?_, v2.congr fun e he => ?_, fun _ => ?_⟩
          · rw [← h2 _ v v1]; congr 2; omega
          · obtain ⟨u, _, hu⟩ := List.mem_flatMap.1 (List.mem_of_getElem? hx)
            rw [enc_nm E u x hu] at he; cases he
          · rw [h4]; exact (hsp j (by omega) (by omega)).2
    · rw [if_neg hcd] at hc
      by_cases hcb : c = b
      · rw [if_pos hcb] at hc
        obtain rfl := Option.some.inj hc
        exact ⟨(fun s hs => nomatch hs), trivial, fun hl => hl.elim, fun j x hx => by simp [cellsL] at hx⟩
      · rw [if_neg hcb] at hc
        refine (h.blk c C hc).congr (freshIds_ne hcd) (fun e he => freshIds_ne (hdom e (h.clH c C hc e he))) (by rw [h5]; exact Nat.le_refl _) (fun hC => h6 _ ?_)
        exact fun e => h.sep b c B C hb hc (fun e => hcb e.symm) hBl hC e.symm
  · dsimp only at hc he; rw [upd2] at hc he
    have hcase : ∀ (c : Nat) (C : Blk), (if c = d then some ((true, [Seg.gro E (l ++ xs)]) : Blk) else if c = b then some (true, []) else st.H c) = some C → Lv C.2 →
        (c = d ∧ C.1 = true) ∨ (c ≠ d ∧ c ≠ b ∧ st.H c = some C) := by
      intro c C hc lc
      by_cases hcd : c = d
      · rw [if_pos hcd] at hc; obtain rfl := Option.some.inj hc; exact .inl ⟨hcd, rfl⟩
      · rw [if_neg hcd] at hc
        by_cases hcb : c = b
        · rw [if_pos hcb] at hc; obtain rfl := Option.some.inj hc; exact lc.elim
        · rw [if_neg hcb] at hc; exact .inr ⟨hcd, hcb, hc⟩
    rcases hcase c _ hc lc with ⟨rfl, _⟩ | ⟨c1, c2, c3⟩ <;> rcases hcase e _ he le with ⟨rfl, _⟩ | ⟨e1, e2, e3⟩
    · exact absurd rfl hne
    · rw [freshIds_eq, freshIds_ne e1]
      exact h.sep b e B D hb e3 (fun h => e2 h.symm) hBl le
    · rw [freshIds_eq, freshIds_ne c1]
      exact fun h0 => h.sep c b C _ c3 hb c2 lc hBl h0
    · rw [freshIds_ne c1, freshIds_ne e1]
      exact h.sep c e C D c3 e3 hne lc le
  · dsimp only at hc; rw [upd2] at hc
    by_cases hcd : c = d
    · subst hcd
      rw [freshIds_eq]
      exact (h.own b B hb hBl).imp_right fun h => ⟨hnb, h.2⟩
    · rw [if_neg hcd] at hc
      by_cases hcb : c = b
      · rw [if_pos hcb] at hc; obtain ⟨_, rfl⟩ := (Prod.mk.injEq _ _ _ _).mp (Option.some.inj hc); exact lc.elim
      · rw [if_neg hcb] at hc; rw [freshIds_ne hcd]; exact h.own c C hc lc
  · refine hs e ?_
    dsimp only at hc; rw [upd2] at hc
    by_cases hcd : c = d
    · rw [if_pos hcd] at hc; obtain rfl := Option.some.inj hc; simp [nmL, Seg.nm] at he
    · rw [if_neg hcd] at hc
      by_cases hcb : c = b
      · rw [if_pos hcb] at hc; obtain rfl := Option.some.inj hc; simp [nmL] at he
      · rw [if_neg hcb] at hc; exact h.clH c C hc e he
variable {d : Nat} {B : Blk} in
theorem Rep.cons (h : Rep w0 S nb idb ids { st with H := updH st.H [(d, B)] } a w) {cs : List Nat} (hcs : ∀ b ∈ cs, (st.H b).isSome = true ∧ b ≠ d) (hl : cs.length ≤ 1) :
    Rep w0 S nb idb ids { st with H := updH st.H ((d, B) :: cs.map fun b => (b, true, [])) } a w := by
  match cs, hl with
  | [], _ => exact h
  | [b], _ =>
    obtain ⟨h1, h2⟩ := hcs b (by simp)
    have h3 := h.drop (b := b) (by show (updH st.H [(d, B)] b).isSome = true; rw [upd1, if_neg h2]; exact h1)
    have : updH (updH st.H [(d, B)]) [(b, true, [])] = updH st.H ((d, B) :: [b].map fun b => ((b, true, []) : Nat × Blk)) := by
      funext c
      rw [upd1, upd1]
      show _ = updH st.H [(d, B), (b, true, [])] c
      rw [upd2]
      by_cases hcd : c = d
      · subst hcd; rw [if_neg (fun e => h2 e.symm), if_pos rfl, if_pos rfl]
      · rw [if_neg hcd, if_neg hcd]
    dsimp only at h3
    rwa [this] at h3
inductive BaseOk (ids : Ids) (st : St) (w : World) (E : EK) (l : List E.T) (v : Value) : List Nat → Prop
  | fresh (cs : List Nat) (hcs : ∀ b ∈ cs, (st.H b).isSome = true) (hl : cs.length ≤ 1) (h0 : l = []) (hv : ∃ a, v = .slice a 0 0) : BaseOk ids st w E l v cs
  | live (b : Nat) (B : List Seg) (cap : Nat) (hb : st.H b = some (true, B)) (hB : cellsL B = l.flatMap E.enc) (hBl : Lv B) (h0 : 0 < l.length)
      (hsp : ∀ j, l.length * E.s ≤ j → j < cap * E.s → (∃ u, w.cell? ⟨(ids b).1, (ids b).2.1 + j, none⟩ = some u) ∧ w.frozen? ⟨(ids b).1, (ids b).2.1 + j, none⟩ = false)
      (hv : v = .slice (some ⟨(ids b).1, (ids b).2.1, none⟩) l.length cap) : BaseOk ids st w E l v [b]
theorem append_rep (h : Rep w0 S nb idb ids st a w) {t t2 ty e : TypeId} {i : TypeInfo} {z : Value} {E : EK} {l xs : List E.T} {vb vy : Value} {cs : List Nat} {d : Nat}
    (ht : P.underlying t = some (.slice e)) (ht2 : ∃ d, P.underlying t2 = some d ∧ ∀ k, d ≠ .int k) (hi : P.info? e = some i) (hz : i.zero = some z) (hs : i.size = E.s) (hzs : z.cells.size = E.s) (hs0 : 0 < E.s)
    (hbytes : i.bytes ≤ 1048576) (hm : l.length + xs.length ≤ 67108864) (hd : st.H d = none) (hnb : nb ≤ d) (hb : BaseOk ids st w E l vb cs)
    {news : List Value} (hlen : ∀ w, (Builtin.lenOf vy).run P w = .ok xs.length w) (hf : ∀ w2 : World, w2.heap = w.heap → (Builtin.firstCells E.s xs.length vy).run P w2 = .ok news.toArray w2) (hn : CR ids (xs.flatMap E.enc) news) :
    ∃ v w' ids', (Builtin.append_ #[t, t2] ty #[vb, vy]).run P w = .ok v w' ∧ Rep w0 S nb idb ids' { st with H := updH st.H ((d, true, [.gro E (l ++ xs)]) :: cs.map fun b => (b, true, [])) } a w' ∧
      SV.R ids' (.gsl d E.s) v := by
  have hf1 := hf w rfl
  have hf2 := hf w.drew rfl
  have hnl : news.length = xs.length * E.s := by rw [← hn.length, flatMap_enc_length]
  have hdom : ∀ c, (st.H c).isSome = true → c ≠ d := fun c hc e => by subst e; rw [hd] at hc; cases hc
  have hcs : ∀ b ∈ cs, (st.H b).isSome = true ∧ b ≠ d := by
    cases hb with
    | fresh _ hcs => exact fun b hb => ⟨hcs b hb, hdom b (hcs b hb)⟩
    | live b B cap hb =>
      intro c hc
      simp only [List.mem_singleton] at hc
      subst hc
      have : (st.H c).isSome = true := by rw [hb]; rfl
      exact ⟨this, hdom c this⟩
  have hcl : cs.length ≤ 1 := by cases hb <;> first | assumption | simp
  -- a new row
  have hgrow : ∀ (a0 : Option Addr) (cap : Nat) (olds : List Value), vb = .slice a0 l.length cap → cap < l.length + xs.length → CR ids (l.flatMap E.enc) olds →
      (Builtin.firstCells E.s l.length (.slice a0 l.length cap)).run P w.drew = .ok olds.toArray w.drew →
      ∃ v w' ids', (Builtin.append_ #[t, t2] ty #[vb, vy]).run P w = .ok v w' ∧ Rep w0 S nb idb ids' { st with H := updH st.H ((d, true, [.gro E (l ++ xs)]) :: cs.map fun b => (b, true, [])) } a w' ∧
        SV.R ids' (.gsl d E.s) v := by
    intro a0 cap olds hv hc ho hold
    subst hv
    obtain ⟨c, hc1, hrun⟩ := append_grow (ty := ty) ht ht2 hi hz (hlen w) (by rw [hs]; exact hf2) hc (by rw [hs]; exact hold) hm hbytes
    refine ⟨_, _, freshIds ids d (w.drew.heap.size, 0, (l.length + xs.length, c)), hrun, ?_, ?_⟩
    · refine Rep.cons (Rep.alloc (st := st) h.drew hd hnb (B := [.gro E (l ++ xs)]) (xs := List.replicate ((c - (l.length + xs.length)) * E.s) .unk) (fun s hs => ?_) ?_ (fun b hb => by simp [nmL, Seg.nm] at hb) (fun E' l' hE => ?_) (by simp) rfl) hcs hcl
      · simp only [List.mem_singleton] at hs; subst hs; trivial
      · rw [cells_gro, List.flatMap_append]
        simp only [Array.toList_append]
        refine CR.append (CR.append ho hn) (CR.of_get (by simp [Builtin.zeroCells, hzs]) fun j x v hx _ => ?_)
        have hx' := List.mem_of_getElem? hx
        rw [List.eq_of_mem_replicate hx']; trivial
      · simp only [List.cons.injEq, Seg.gro.injEq, and_true] at hE
        obtain ⟨rfl, hE⟩ := hE
        obtain rfl := eq_of_heq hE
        refine ⟨by simp, ?_⟩
        have hol : olds.length = l.length * E.s := by rw [← ho.length, flatMap_enc_length]
        simp only [Array.size_append, List.size_toArray, hol, hnl, Builtin.zeroCells, Array.size_map, Array.size_range, hzs]
        rw [← Nat.add_mul, ← Nat.add_mul]
        exact Nat.le_of_eq (by congr 1; omega)
    · right
      rw [freshIds_eq]
      refine ⟨?_, rfl⟩
      dsimp only; omega
  cases hb with
  | fresh _ _ _ h0 hv =>
    subst h0
    obtain ⟨a0, hv⟩ := hv
    by_cases hx : xs = []
    · subst hx
      have hnn : news = [] := List.eq_nil_of_length_eq_zero (by simpa using hnl)
      subst hnn
      subst hv
      refine ⟨_, w, _, append_none0 ht ht2 hi (hlen w) (by rw [hs]; exact hf1) (Nat.le_refl _), Rep.cons (h.empty hd hnb) hcs hcl, .inl ⟨by rw [freshIds_eq], a0, rfl⟩⟩
    · refine hgrow a0 0 [] hv (by have := List.length_pos_iff.2 hx; simp only [List.length_nil]; omega) trivial ?_
      cases a0 with
      | none => exact run_firstCells_none w.drew E.s 0 0 0
      | some a0 => exact run_firstCells_some w.drew E.s 0 a0 0 0 [] (by simp) (fun j v hj => by simp at hj)
  | live b B cap hb hB hBl h0 hsp hv =>
    by_cases hr : l.length + xs.length ≤ cap
    · obtain ⟨w', r1, r2⟩ := h.extend (P := P) (xs := xs) hb hB hBl hd hnb (by simpa using hr) hsp hn
      subst hv
      refine ⟨_, w', _, append_room ht ht2 hi (hlen w) (by rw [hs]; exact hf1) hr (by rw [hs, addr_add]; exact r1), r2, .inr ?_⟩
      rw [freshIds_eq]
      refine ⟨by simp; omega, by simp⟩
    · obtain ⟨olds, o1, o2⟩ := run_loadCells_rep (P := P) h.drew (b := b) (o := 0) (n := l.length * E.s) hb (by dsimp only; rw [hB, flatMap_enc_length]; omega)
      rw [List.drop_zero] at o2
      dsimp only at o2
      rw [hB, List.take_of_length_le (by rw [flatMap_enc_length]; omega)] at o2
      refine hgrow _ cap olds.toList hv (by omega) o2 ?_
      simp only [Builtin.firstCells, Array.toArray_toList]
      exact o1
end
def bytesL (s : ByteArray) : List Int := s.data.toList.map fun b => (b.toNat : Int)
def bytesS (l : List Int) : ByteArray := l.foldl (fun r n => r.push (UInt8.ofNat n.toNat)) ByteArray.empty
structure Row where
  E : EK
  l : List E.T
  rd : List Nat
def capsOf (st : St) : List Operand → Option (List (Nat × Nat))
  | [] => some []
  | x :: r => match getO st x with
    | .vl (.sv (.ptr b o)) => (capsOf st r).map ((b, o) :: ·)
    | _ => none
def decP : (ps : List PK) → List Seg → Option (PT ps)
  | [], [] => some ()
  | .i k :: r, .one (.int k' n) :: s => cond (decide (k = k')) ((decP r s).map fun x => (n, x)) none
  | .b :: r, .one (.bool b) :: s => (decP r s).map fun x => (b, x)
  | .a k n :: r, .seq (.int k') m l :: s => cond (decide (k = k') && Nat.beq n m) ((decP r s).map fun x => (l, x)) none
  | _, _ => none
def decS (E : EK) (vs : List Seg) : Option E.T :=
  match E with
  | .mx ps => decP ps vs
  | E => cond (Nat.beq (evStore.cellsS vs).length (sizeL vs)) (E.dec (evStore.cellsS vs)) none
theorem encA_eq (k : IntKind) : ∀ (n : Nat) (l : List Int), l.length = n → encA k n l = l.flatMap (EK.int k).enc
  | 0, [], _ => rfl
  | n + 1, x :: l, h => by
    have := encA_eq k n l (by simpa using h)
    simp only [encA, List.headD_cons, List.tail_cons, List.flatMap_cons, EK.enc, List.singleton_append] at this ⊢
    rw [this]
  | 0, _ :: _, h => by simp at h
  | n + 1, [], h => by simp at h
theorem decP_enc : ∀ {vs : List Seg} {ps : List PK} {x : PT ps}, decP ps vs = some x → oksL vs → encM ps x = cellsL vs := by
  intro vs
  induction vs with
  | nil =>
    intro ps x h _
    cases ps with
    | nil => rfl
    | cons p r => cases p <;> simp [decP] at h
  | cons s r ih =>
    intro ps x h hok
    have hok' : oksL r := fun y hy => hok y (by simp [hy])
    cases ps with
    | nil => simp [decP] at h
    | cons p q =>
      have hc : cellsL (s :: r) = s.cells ++ cellsL r := by simp [cellsL]
      rw [hc]
      cases p with
      | i k =>
        cases s with
        | one y =>
          cases y with
          | int k' n =>
            simp only [decP] at h
            obtain ⟨h1, h2⟩ := condSome h
            obtain rfl := of_decide_eq_true h1
            simp only [Option.map_eq_some_iff] at h2
            obtain ⟨y, hy, rfl⟩ := h2
            simp only [encM, Seg.cells, List.singleton_append]
            rw [ih hy hok']
          | _ => simp [decP] at h
        | _ => simp [decP] at h
      | b =>
        cases s with
        | one y =>
          cases y with
          | bool b =>
            simp only [decP, Option.map_eq_some_iff] at h
            obtain ⟨y, hy, rfl⟩ := h
            simp only [encM, Seg.cells, List.singleton_append]
            rw [ih hy hok']
          | _ => simp [decP] at h
        | _ => simp [decP] at h
      | a k n =>
        cases s with
        | seq E m l =>
          cases E with
          | int k' =>
            simp only [decP] at h
            obtain ⟨h1, h2⟩ := condSome h
            simp only [Bool.and_eq_true] at h1
            obtain rfl := of_decide_eq_true h1.1
            obtain rfl := Nat.eq_of_beq_eq_true h1.2
            simp only [Option.map_eq_some_iff] at h2
            obtain ⟨y, hy, rfl⟩ := h2
            have hl : l.length = n := hok (Seg.seq (EK.int k) n l) (by simp)
            simp only [encM, Seg.cells]
            rw [ih hy hok', encA_eq k n l hl]
          | _ => simp [decP] at h
        | _ => simp [decP] at h
def fillR (E : EK) (st : St) : List (Nat × Operand) → List E.T → Option (List E.T)
  | [], l => some l
  | (i, x) :: r, l => match segsOf (getO st x) with
    | some vs => cond (Nat.blt i l.length) ((decS E vs).bind fun z => fillR E st r (lset l i z)) none
    | none => none
section ev
variable {α : Type}
def evSrc (tab : Tab) (t2 : TypeId) (st : St) (s : Nat) (y : TV) (k : Row → Option α) : Option α :=
  match y with
  | .vl (.sv (.slc b o s' lo len _)) => match alook tab.sli t2 with
    | some _ => match st.H b with
      | some C => match segAt C.2 o with
        | some (.seq E n l :: _) => cond (Nat.beq E.s s && Nat.beq s' s) (if lo + len ≤ n then k ⟨E, (l.drop lo).take len, [b]⟩ else none) none
        | _ => none
      | none => none
    | none => none
  | .vl (.sv (.gsl b s')) => match alook tab.sli t2 with
    | some _ => match st.H b with
      | some (_, [.gro E l]) => cond (Nat.beq E.s s && Nat.beq s' s) (k ⟨E, l, [b]⟩) none
      | _ => none
    | none => none
  | .vl (.sv (.sla b o s' lo len _)) => match alook tab.sli t2 with
    | some _ => match st.H b with
      | some C => match segAt C.2 o with
        | some (.seq E n l :: _) => cond (Nat.beq E.s s && Nat.beq s' s) (if lo + len ≤ n then k ⟨E, (l.drop lo).take len, [b]⟩ else none) none
        | _ => none
      | none => none
    | none => none
  | .vl (.sv (.str x)) => cond (has tab.str t2 && Nat.beq s 1) (k ⟨.int .u8, bytesL x, []⟩) none
  | _ => none
def evSrcN (tab : Tab) (t2 : TypeId) (st : St) (E : EK) (y : TV) (k : List E.T → List Nat → Option α) : Option α :=
  match y with
  | .vl (.sv .nils) => match alook tab.sli t2 with
    | some _ => k [] []
    | none => none
  | _ => evSrc tab t2 st E.s y fun r => match seqAs E r.E r.l with
    | some l => k l r.rd
    | none => none
def evApp0 (tab : Tab) (d : Nat) (t2 : TypeId) (s : Nat) (st : St) (y : TV) (k : Eff → Option α) : Option α :=
  evSrc tab t2 st s y fun r => if r.l.length ≤ 67108864 then k ⟨.vl (.sv (.gsl (nameOf d 0) s)), r.rd, [(nameOf d 0, true, [.gro r.E r.l])]⟩ else none
def evApp1 (tab : Tab) (d : Nat) (t2 : TypeId) (s b : Nat) (E : EK) (l : List E.T) (st : St) (y : TV) (k : Eff → Option α) : Option α :=
  cond (Nat.beq E.s s) (evSrcN tab t2 st E y fun l2 rd => if l.length + l2.length ≤ 67108864 then
    k ⟨.vl (.sv (.gsl (nameOf d 0) s)), b :: rd, [(nameOf d 0, true, [.gro E (l ++ l2)]), (b, true, [])]⟩ else none) none
def evAppend (tab : Tab) (o : Oper) (t t2 : TypeId) (st : St) (x y : TV) (k : Eff → Option α) : Option α :=
  match o.dst with
  | some d => match alook tab.sli t with
    | some (_, s) => match st.H (nameOf d 0) with
      | none => (match x with
        | .vl (.sv (.gsl b s')) => (match st.H b with
          | some (true, [.gro E l]) => cond (Nat.beq s' s) (evApp1 tab d t2 s b E l st y k) none
          | _ => none)
        | .vl (.sv (.slc b o' s' lo len cap)) => cond (Nat.beq cap 0) (cond (Nat.beq len 0) (evApp0 tab d t2 s st y k) none)
          (match st.H b with
          | some (true, [.seq E n l]) => cond (Nat.beq s' s && (Nat.beq o' 0 && (Nat.beq lo 0 && (Nat.beq cap len && Nat.beq len n)))) (evApp1 tab d t2 s b E l st y k) none
          | _ => none)
        | .vl (.sv .nils) => evApp0 tab d t2 s st y k
        | _ => none)
      | some _ => none
    | none => none
  | none => none
def evLenY (tab : Tab) (t : TypeId) (st : St) (x : TV) (k : Eff → Option α) : Option α :=
  match x with
  | .vl (.sv (.gsl b _)) => match alook tab.sli t with
    | some _ => match st.H b with
      | some (_, [.gro E l]) => k ⟨.vl (.sv (.int .i64 l.length)), [b], []⟩
      | _ => none
    | none => none
  | .vl (.sv (.sla _ _ _ _ n _)) => match alook tab.sli t with
    | some _ => k (svE (.int .i64 n))
    | none => none
  | _ => evLen tab t x k
def evIndexAddrY (tab : Tab) (t : TypeId) (st : St) (x i : TV) (e : Option α) (k : Eff → Option α) : Option α :=
  match x with
  | .vl (.sv (.gsl b s)) => match i with
    | .vl (.sv (.int _ n)) => match alook tab.sli t with
      | some (_, s') => match st.H b with
        | some (_, [.gro E l]) => cond (Nat.beq s s') (if 0 ≤ n ∧ n < (l.length : Nat) then k ⟨.vl (.sv (.el b 0 s n.toNat 0)), [b], []⟩ else none) none
        | _ => none
      | none => none
    | _ => none
  | .vl (.sv (.sla b o s lo len _)) => match i with
    | .vl (.sv (.int _ n)) => match alook tab.sli t with
      | some (_, s') => cond (Nat.beq s s') (if 0 ≤ n ∧ n < (len : Nat) then k (svE (.el b o s (lo + n.toNat) 0)) else none) none
      | none => none
    | _ => none
  | _ => e
def evSlice3 (tab : Tab) (t : TypeId) (st : St) (x : TV) (lo hi : Option Operand) (mx : Operand) (k : Eff → Option α) : Option α :=
  match x with
  | .vl (.sv (.slc b o s j len cap)) => match alook tab.sli t with
    | some (_, s') => cond (Nat.beq s s' && hi.isSome) (evBound st (some mx) 0 fun m => evBound st hi 0 fun h => evBound st lo 0 fun l => if 0 ≤ l ∧ l ≤ h ∧ h ≤ m ∧ m ≤ cap then
        k (svE (.slc b o s (j + cond (Nat.beq m.toNat l.toNat) 0 l.toNat) (h.toNat - l.toNat) (m.toNat - l.toNat))) else none) none
    | none => none
  | _ => none
def evBuildSliceY (tab : Tab) (o : Oper) (t : TypeId) (len : Nat) (parts : Array (Nat × Operand)) (st : St) (k : Eff → Option α) : Option α :=
  match o.dst with
  | some d => match alook tab.sli t with
    | some (e, s) => match alook tab.zero e with
      | some B => match ekOf B with
        | some E => cond (Nat.beq s E.s && Nat.ble (len * s) 65536)
          (cond (Nat.beq len 0)
            (match st.H (nameOf d 0) with
             | none => cond (parts.toList.isEmpty) (k ⟨.vl (.sv (.gsl (nameOf d 0) s)), [], [(nameOf d 0, true, [.gro E []])]⟩) none
             | some _ => none)
            (match fillR E st parts.toList (List.replicate len E.d) with
             | some l => newSlc st d E len l k
             | none => none)) none
        | none => none
      | none => none
    | none => none
  | none => none
def evConvY (tab : Tab) (s d : TypeId) (st : St) (x : TV) (e : Option α) (k : Eff → Option α) : Option α :=
  match x with
  | .vl (.sv (.slc b o s' lo len _)) => match alook tab.sli s with
    | some (t, s2) => match alook tab.knd t with
      | some .u8 => match st.H b with
        | some C => match segAt C.2 o with
          | some (.seq (.int .u8) n l :: _) => cond (has tab.str d && (Nat.beq s' 1 && Nat.beq s2 1)) (if lo + len ≤ n then k ⟨.vl (.sv (.str (bytesS ((l.drop lo).take len)))), [b], []⟩ else none) none
          | _ => none
        | none => none
      | _ => none
    | none => none
  | .vl (.sv (.gsl b s')) => match alook tab.sli s with
    | some (t, s2) => match alook tab.knd t with
      | some .u8 => match st.H b with
        | some (_, [.gro (.int .u8) l]) => cond (has tab.str d && (Nat.beq s' 1 && Nat.beq s2 1)) (k ⟨.vl (.sv (.str (bytesS l))), [b], []⟩) none
        | _ => none
      | _ => none
    | none => none
  | _ => e
def evEqY (tab : Tab) (op : BinOp) (t : TypeId) (st : St) (x y : TV) (e : Option α) (k : Eff → Option α) : Option α :=
  match x, y with
  | .vl (.sv (.slc _ _ _ _ _ _)), .vl (.sv .nils) => match alook tab.sli t with
    | some _ => (match op with
      | .eql => k (svE (.bool false))
      | .neq => k (svE (.bool true))
      | _ => none)
    | none => none
  | .vl (.sv .nils), .vl (.sv .nils) => match alook tab.sli t with
    | some _ => (match op with
      | .eql => k (svE (.bool true))
      | .neq => k (svE (.bool false))
      | _ => none)
    | none => none
  | _, _ => e
def evOpY (tab : Tab) (o : Oper) (st : St) (k : Eff → Option α) : Option α :=
  match o.op with
  | .call c => match c.callee with
    | .builtin .len => match c.argTypes.toList, c.args.toList with
      | t :: _, [x] => evLenY tab t st (getO st x) k
      | _, _ => none
    | .builtin .append => match c.argTypes.toList, c.args.toList with
      | [t, t2], [x, y] => evAppend tab o t t2 st (getO st x) (getO st y) k
      | _, _ => none
    | _ => evOpX tab o st k
  | .indexAddr t x i => evIndexAddrY tab t st (getO st x) (getO st i) (evOpX tab o st k) k
  | .slice t x lo hi (some mx) => evSlice3 tab t st (getO st x) lo hi mx k
  | .buildSlice t len parts => evBuildSliceY tab o t len parts st k
  | .makeFunc (.func f) first captured => (match first.toList with
    | [] => (match capsOf st captured.toList with
      | some ps => k (svE (.clo f ps))
      | none => none)
    | [x] => cond (captured.toList.isEmpty) (match getO st x with
      | .vl (.sv (.ptr b q)) => k (svE (.clb f b q))
      | _ => none) none
    | _ => none)
  | .makeMap t none => k (svE .opq)
  | .convert s d x => evConvY tab s d st (getO st x) (evOpX tab o st k) k
  | .binOp op t x y _ => evEqY tab op t st (getO st x) (getO st y) (evOpX tab o st k) k
  | _ => evOpX tab o st k
end ev
end Go.Proofs.YtlmmgjngihlpeaaDoor.Sx
