/- A symbolic evaluator for the machine's code, part Z: maps, fields of values, parts of records. Our own work. -/
import Derived.Test.YtlmmgjngihlpeaaDoorSxYb
import Derived.WideKeyRuns
namespace Go.Proofs.YtlmmgjngihlpeaaDoor.Sx
open Go
set_option linter.unusedVariables false
set_option linter.unusedSimpArgs false
variable {P : Program}
def padI : Nat → List Int → List Int
  | 0, _ => []
  | n + 1, l => l.headD 0 :: padI n l.tail
theorem padI_length : ∀ (n : Nat) (l : List Int), (padI n l).length = n
  | 0, _ => rfl
  | n + 1, l => by simp [padI, padI_length n]
theorem padI_enc (k : IntKind) : ∀ (n : Nat) (l : List Int), (padI n l).flatMap (EK.int k).enc = encA k n l
  | 0, _ => rfl
  | n + 1, l => by simp only [padI, List.flatMap_cons, padI_enc k n, encA, EK.enc, List.singleton_append]
def segsP : (ps : List PK) → PT ps → List Seg
  | [], _ => []
  | .i k :: r, x => .one (.int k x.1) :: segsP r x.2
  | .b :: r, x => .one (.bool x.1) :: segsP r x.2
  | .a k n :: r, x => .seq (.int k) n (padI n x.1) :: segsP r x.2
theorem segsP_spec : ∀ (ps : List PK) (x : PT ps), cellsL (segsP ps x) = encM ps x ∧ oksL (segsP ps x) ∧ nmL (segsP ps x) = []
  | [], _ => ⟨rfl, (fun s hs => nomatch hs), rfl⟩
  | .i k :: r, x => by
    obtain ⟨h1, h2, h3⟩ := segsP_spec r x.2
    refine ⟨by simp only [segsP, encM]; rw [← h1]; simp [cellsL, Seg.cells], fun s hs => ?_, by simp only [segsP]; simpa [nmL, Seg.nm, SV.nm] using h3⟩
    rcases List.mem_cons.1 hs with rfl | hs
    · trivial
    · exact h2 s hs
  | .b :: r, x => by
    obtain ⟨h1, h2, h3⟩ := segsP_spec r x.2
    refine ⟨by simp only [segsP, encM]; rw [← h1]; simp [cellsL, Seg.cells], fun s hs => ?_, by simp only [segsP]; simpa [nmL, Seg.nm, SV.nm] using h3⟩
    rcases List.mem_cons.1 hs with rfl | hs
    · trivial
    · exact h2 s hs
  | .a k n :: r, x => by
    obtain ⟨h1, h2, h3⟩ := segsP_spec r x.2
    refine ⟨by simp only [segsP, encM]; rw [← h1, ← padI_enc k n]; simp [cellsL, Seg.cells], fun s hs => ?_, by simp only [segsP]; simpa [nmL, Seg.nm] using h3⟩
    rcases List.mem_cons.1 hs with rfl | hs
    · exact padI_length _ _
    · exact h2 s hs
def segsE (E : EK) (x : E.T) : List Seg :=
  match E with
  | .mx ps => segsP ps x
  | E => (E.enc x).map Seg.one
theorem ones_spec (l : List SV) (hn : ∀ y ∈ l, y.nm = []) : cellsL (l.map Seg.one) = l ∧ oksL (l.map Seg.one) ∧ nmL (l.map Seg.one) = [] := by
  refine ⟨?_, fun s hs => ?_, ?_⟩
  · induction l with
    | nil => rfl
    | cons a r ih =>
      have := ih fun y hy => hn y (by simp [hy])
      simp only [cellsL, List.map_cons, List.flatMap_cons, Seg.cells, List.singleton_append] at this ⊢
      rw [this]
  · obtain ⟨x, _, rfl⟩ := List.mem_map.1 hs; trivial
  · induction l with
    | nil => rfl
    | cons a r ih =>
      have := ih fun y hy => hn y (by simp [hy])
      simp only [nmL, List.map_cons, List.flatMap_cons, Seg.nm] at this ⊢
      rw [this, hn a (by simp)]; rfl
theorem segsE_spec (E : EK) (x : E.T) : cellsL (segsE E x) = E.enc x ∧ oksL (segsE E x) ∧ nmL (segsE E x) = [] := by
  cases E with
  | mx ps => exact segsP_spec ps x
  | _ => exact ones_spec _ (enc_nm _ x)
def eqK : List IntKind → List Int → List Int → Bool
  | [], _, _ => true
  | _ :: ks, a, b => (a.headD 0 == b.headD 0) && eqK ks a.tail b.tail
theorem eqK_cells {ids ids' : Ids} : ∀ {ks : List IntKind} {a b : List Int} {vs us : List Value}, CR ids (encR ks a) vs → CR ids' (encR ks b) us → eqCs vs us = eqK ks a b
  | [], a, b, [], [], _, _ => rfl
  | k :: ks, a, b, v :: vs, u :: us, h1, h2 => by
    have e1 : v = .int k (a.headD 0) := h1.1
    have e2 : u = .int k (b.headD 0) := h2.1
    subst e1; subst e2
    simp only [eqCs, eqK, eqC, eqK_cells h1.2 h2.2]
  | [], _, _, _ :: _, _, h, _ => h.elim
  | [], _, _, [], _ :: _, _, h => h.elim
  | _ :: _, _, _, [], _, h, _ => h.elim
  | _ :: _, _, _, _ :: _, [], _, h => h.elim
theorem encR_eq : ∀ {ks : List IntKind} {a b : List Int}, eqK ks a b = true → encR ks a = encR ks b
  | [], _, _, _ => rfl
  | k :: ks, a, b, h => by
    simp only [eqK, Bool.and_eq_true, beq_iff_eq] at h
    simp only [encR, h.1, encR_eq h.2]
theorem CR_KR {ids : Ids} : ∀ {ks : List IntKind} {a : List Int} {vs : List Value}, CR ids (encR ks a) vs → KR (ks.map CK.int) vs
  | [], a, [], _ => trivial
  | k :: ks, a, v :: vs, h => ⟨⟨_, h.1⟩, CR_KR h.2⟩
  | [], _, _ :: _, h => h.elim
  | _ :: _, _, [], h => h.elim
theorem CR_fix {ids ids' : Ids} {E : EK} {x : E.T} {vs : List Value} (h : CR ids (E.enc x) vs) : CR ids' (E.enc x) vs := h.congr fun y hy b hb => by rw [enc_nm E x y hy] at hb; cases hb
theorem CR_same {ids ids' : Ids} : ∀ {ks : List IntKind} {a : List Int} {vs us : List Value}, CR ids (encR ks a) vs → CR ids' (encR ks a) us → vs = us
  | [], a, [], [], _, _ => rfl
  | k :: ks, a, v :: vs, u :: us, h1, h2 => by
    have e1 : v = .int k (a.headD 0) := h1.1
    have e2 : u = .int k (a.headD 0) := h2.1
    rw [e1, e2, CR_same h1.2 h2.2]
  | [], _, [], _ :: _, _, h => h.elim
  | [], _, _ :: _, _, h, _ => h.elim
  | _ :: _, _, [], _, h, _ => h.elim
  | _ :: _, _, _ :: _, [], _, h => h.elim
theorem run_checkKey_flat {kt : TypeId} {fs : Array Field} {cs : Array Value} {em : Bool} {n : Nat} (hu : P.underlying kt = some (.struct fs)) {m : Nat} (hf : keyFlds P m fs.toList = true) (hm : m = cs.size)
    (hcs : ∀ v ∈ cs.toList, ∃ k x, v = .int k x) (w : World) : (Instr.checkKey em (n + 2) kt (.agg cs)).run P w = .ok () w := by
  rw [Instr.checkKey]
  simp only [Sem.run_bind, run_underlying hu, Result.andThen_ok]
  rw [← Array.forIn_toList]
  simp only [keyFlds, List.all_eq_true, Bool.and_eq_true] at hf
  generalize fs.toList = L at hf
  induction L with
  | nil => simp
  | cons f L ih =>
    obtain ⟨h1, h2⟩ := hf f (by simp)
    have hlt : f.offset < cs.size := by rw [← hm]; simpa using h2
    obtain ⟨k, x, hv⟩ := hcs _ (Array.getElem_mem_toList hlt)
    obtain ⟨k', hk'⟩ : ∃ k', P.underlying f.type = some (.int k') := by
      split at h1
      · rename_i k' hk'; exact ⟨k', hk'⟩
      · cases h1
    have p1 : (part f.type cs f.offset).run P w = .ok (.int k x) w := run_part_plain w (by simp [Program.plainKey, hk']) (by rw [Array.getElem?_eq_getElem hlt, hv])
    have p2 : (Instr.checkKey em (n + 1) f.type (.int k x)).run P w = .ok () w := by simp [Instr.checkKey, run_underlying hk']
    simp only [List.forIn_cons, Sem.run_bind]
    by_cases hn : f.name ≠ "_"
    · simp only [hn, ne_eq, not_false_eq_true, if_true, Sem.run_bind, p1, p2, Result.andThen_ok, Sem.run_pure]
      exact ih fun y hy => hf y (by simp [hy])
    · simp only [hn, if_false, Sem.run_pure, Result.andThen_ok]
      exact ih fun y hy => hf y (by simp [hy])
theorem sameBits_ints : ∀ {vs : List Value}, (∀ v ∈ vs, ∃ k x, v = .int k x) → ∀ n, ((vs.zip vs).all fun p => Instr.sameBits n p.1 p.2) = true
  | [], _, _ => rfl
  | v :: vs, h, n => by
    have ih := sameBits_ints (vs := vs) (fun u hu => h u (List.mem_cons_of_mem _ hu)) n
    obtain ⟨k, x, rfl⟩ := h v (by simp)
    simp only [List.zip_cons_cons, List.all_cons, ih, Bool.and_true]
    cases n <;> simp [Instr.sameBits]
theorem ints_of {ids : Ids} : ∀ {ks : List IntKind} {a : List Int} {vs : List Value}, CR ids (encR ks a) vs → ∀ v ∈ vs, ∃ k x, v = .int k x
  | [], a, [], _, v, hv => by cases hv
  | k :: ks, a, u :: us, h, v, hv => by
    rcases List.mem_cons.1 hv with rfl | hv
    · exact ⟨k, _, h.1⟩
    · exact ints_of h.2 v hv
  | [], _, _ :: _, h, _, _ => h.elim
  | _ :: _, _, [], h, _, _ => h.elim
def mfind {β : Type} (ks : List IntKind) : List (List Int × β) → List Int → Option β
  | [], _ => none
  | p :: l, key => cond (eqK ks key p.1) (some p.2) (mfind ks l key)
def mhas {β : Type} (ks : List IntKind) (l : List (List Int × β)) (key : List Int) : Bool := (mfind ks l key).isSome
def mval (ks : List IntKind) (V : EK) (l : List (List Int × V.T)) (key : List Int) : V.T := (mfind ks l key).getD V.d
def mput {β : Type} (ks : List IntKind) : List (List Int × β) → List Int → β → List (List Int × β)
  | [], key, v => [(key, v)]
  | p :: l, key, v => cond (eqK ks key p.1) ((key, v) :: l) (p :: mput ks l key v)
section
variable {kt : TypeId} {ks : List IntKind} {V : EK} {key : List Int} {cs : Array Value} {ids : Ids}
theorem run_findAsking (hf : flatB P 8 kt (ks.map CK.int) = true) (ha : isAggT P kt = true) (hk : CR ids (encR ks key) cs.toList) (w : World) : ∀ (l : List (List Int × V.T)) (es : List MapEntry) (i : Nat), entsR (.rc ks) V l es →
    (mfind ks l key = none ∧ (Instr.findAsking kt (.agg cs) es i).run P w = .ok none w ∧ ∀ v, ∃ l2, mput ks l key v = l ++ [(key, v)] ∧ l2 = l) ∨
    ∃ j l1 p l2 e1 e e2, (Instr.findAsking kt (.agg cs) es i).run P w = .ok (some (i + j, e.val)) w ∧ l = l1 ++ p :: l2 ∧ es = e1 ++ e :: e2 ∧ e1.length = j ∧ entsR (.rc ks) V l1 e1 ∧ aggR (.rc ks) p.1 e.key ∧ aggR V p.2 e.val ∧ entsR (.rc ks) V l2 e2 ∧
      eqK ks key p.1 = true ∧ mfind ks l key = some p.2 ∧ ∀ v, mput ks l key v = l1 ++ (key, v) :: l2
  | [], [], i, _ => .inl ⟨rfl, by simp [Instr.findAsking], fun v => ⟨[], rfl, rfl⟩⟩
  | p :: l, e :: es, i, ⟨h1, h2, h3⟩ => by
    obtain ⟨ds, hd, hdc⟩ := h1
    have heq : (Op.equal kt (.agg cs) e.key).run P w = .ok (eqK ks key p.1) w := by
      have hq := eqAt (P := P) 9992 8 kt (ks.map CK.int) hf w _ _ (CR_KR hk) (CR_KR hdc)
      have hv : ∀ zs : Array Value, valOf P kt zs.toList = .agg zs := fun zs => by simp [valOf, ha]
      rw [hv, hv, eqK_cells hk hdc] at hq
      rw [hd]; exact hq
    cases hb : eqK ks key p.1 with
    | true =>
      rw [hb] at heq
      right
      exact ⟨0, [], p, l, [], e, es, by simp [Instr.findAsking, heq], rfl, rfl, rfl, trivial, ⟨ds, hd, hdc⟩, h2, h3, hb, by simp [mfind, hb], fun v => by simp [mput, hb]⟩
    | false =>
      rw [hb] at heq
      rcases run_findAsking hf ha hk w l es (i + 1) h3 with ⟨g1, g2, g3⟩ | ⟨j, l1, q, l2, e1, e', e2, g1, rfl, rfl, rfl, g2, g3, g4, g5, g6, g7, g8⟩
      · refine .inl ⟨by simp [mfind, hb, g1], by simp [Instr.findAsking, heq, g2], fun v => ⟨_, ?_, rfl⟩⟩
        obtain ⟨_, g4, _⟩ := g3 v
        simp [mput, hb, g4]
      · right
        exact ⟨e1.length + 1, p :: l1, q, l2, e :: e1, e', e2, by simp [Instr.findAsking, heq, g1]; omega, rfl, rfl, rfl, ⟨⟨ds, hd, hdc⟩, h2, g2⟩, g3, g4, g5, g6, by simp [mfind, hb, g7], fun v => by simp [mput, hb, g8]⟩
  | [], _ :: _, _, h => h.elim
  | _ :: _, [], _, h => h.elim
theorem entsR_append {K : EK} : ∀ {l m : List (K.T × V.T)} {es fs : List MapEntry}, entsR K V l es → entsR K V m fs → entsR K V (l ++ m) (es ++ fs)
  | [], m, [], fs, _, h => h
  | p :: l, m, e :: es, fs, h, h' => ⟨h.1, h.2.1, entsR_append h.2.2 h'⟩
  | [], _, _ :: _, _, h, _ => h.elim
  | _ :: _, _, [], _, h, _ => h.elim
end
theorem Rep.allocMap {w0 : World} {S : List Nat} {nb : Nat} {idb ids : Ids} {st : St} {a : Act} {w : World} (h : Rep w0 S nb idb ids st a w) {b : Nat} {K V : EK} (hb : st.H b = none) (hnb : nb ≤ b) :
    Rep w0 S nb idb (freshIds ids b (w.heap.size, 0, 0, 0)) { st with H := updH st.H [(b, true, [.mp K V []])] } a (w.alloc (.map #[] 0)) := by
  have hdom : ∀ c, (st.H c).isSome = true → c ≠ b := fun c hc e => by subst e; rw [hb] at hc; cases hc
  have hs : ∀ c, (st.H c).isSome = true → (updH st.H [(b, true, [.mp K V []])] c).isSome = true := fun c hc => by rw [upd1, if_neg (hdom c hc)]; exact hc
  have hold : ∀ c C, st.H c = some C → Lv C.2 → (ids c).1 < w.heap.size := fun c C hc => (h.blk c C hc).2.2.1
  refine ⟨h.keeps.alloc _, h.size, h.defers, fun t => (h.tmps t).congr fun c hc => freshIds_ne (hdom c (h.clT t c hc)), fun i hi => ?_, fun c C hc => ?_, fun c d C D hc hd hne lc ld => ?_, fun c C hc lc => ?_,
    fun t c hc => hs c (h.clT t c hc), fun c C hc d hd => ?_, h.limg,
    h.hid.upd (by simp) (fun c C hc => by
      dsimp only at hc; rw [upd1] at hc
      by_cases hcb : c = b
      · rw [if_pos hcb] at hc
        obtain rfl := Option.some.inj hc
        refine .inr ⟨rfl, fun _ e E _ he hg => ?_⟩
        have := (h.hid.rel e E he).lt _ hg
        rw [hcb, freshIds_eq] at this
        exact Nat.lt_irrefl _ this
      · rw [if_neg hcb] at hc; exact .inl ⟨hc, freshIds_ne hcb, fun d hd => freshIds_ne (hdom d (h.clH c C hc d hd))⟩) fun e E he g hg => by
      have := (h.hid.rel e E he).lt _ hg
      show (w.heap.push _)[_]? = _
      rw [Array.getElem?_push, if_neg (by omega)]⟩
  · rw [freshIds_ne (by omega)]; exact h.bor i hi
  · dsimp only at hc; rw [upd1] at hc
    by_cases hcb : c = b
    · rw [if_pos hcb] at hc
      obtain rfl := Option.some.inj hc
      rw [hcb]
      refine ⟨fun s hs => ?_, ⟨#[], 0, ?_, trivial⟩, fun _ => by rw [freshIds_eq]; simp, fun j x hx => by simp [cellsL, Seg.cells] at hx⟩
      · simp only [List.mem_singleton] at hs; subst hs; trivial
      · rw [freshIds_eq]
        show (w.heap.push _)[w.heap.size]? = _
        simp
    · rw [if_neg hcb] at hc
      refine (h.blk c C hc).congr (freshIds_ne hcb) (fun d hd => freshIds_ne (hdom d (h.clH c C hc d hd))) (by simp) fun hl => ?_
      have := hold c C hc hl
      show (w.heap.push _)[_]? = _
      rw [Array.getElem?_push, if_neg (by omega)]
  · dsimp only at hc hd; rw [upd1] at hc hd
    by_cases hcb : c = b <;> by_cases hdb : d = b
    · exact absurd (hcb.trans hdb.symm) hne
    · rw [if_neg hdb] at hd
      have := hold d D hd ld
      rw [hcb, freshIds_eq, freshIds_ne hdb]; dsimp only; omega
    · rw [if_neg hcb] at hc
      have := hold c _ hc lc
      rw [hdb, freshIds_eq, freshIds_ne hcb]; dsimp only; omega
    · rw [if_neg hcb] at hc; rw [if_neg hdb] at hd
      rw [freshIds_ne hcb, freshIds_ne hdb]; exact h.sep c d C D hc hd hne lc ld
  · dsimp only at hc; rw [upd1] at hc
    by_cases hcb : c = b
    · rw [hcb, freshIds_eq]; exact .inr ⟨hnb, h.keeps.size⟩
    · rw [if_neg hcb] at hc; rw [freshIds_ne hcb]; exact h.own c C hc lc
  · refine hs d ?_
    dsimp only at hc; rw [upd1] at hc
    by_cases hcb : c = b
    · rw [if_pos hcb] at hc; obtain rfl := Option.some.inj hc; simp [nmL, Seg.nm] at hd
    · rw [if_neg hcb] at hc; exact h.clH c C hc d hd
theorem Rep.putMap {w0 : World} {S : List Nat} {nb : Nat} {idb ids : Ids} {st : St} {a : Act} {w : World} (h : Rep w0 S nb idb ids st a w) {b : Nat} {K V : EK} {l l' : List (K.T × V.T)} {es : Array MapEntry} {clk : Nat} {es0 : Array MapEntry} {clk0 : Nat}
    (hb : st.H b = some (true, [.mp K V l])) (h0 : w.heap[(ids b).1]? = some (.map es0 clk0)) (he : entsR K V l' es.toList) :
    Rep w0 S nb idb ids { st with H := updH st.H [(b, true, [.mp K V l'])] } a { w with heap := w.heap.setIfInBounds (ids b).1 (.map es clk) } := by
  have hs : ∀ c, (updH st.H [(b, true, [.mp K V l'])] c).isSome = (st.H c).isSome := fun c => by
    rw [upd1]; by_cases hcb : c = b
    · rw [if_pos hcb, hcb, hb]; rfl
    · rw [if_neg hcb]
  have hlv : Lv [Seg.mp K V l] := trivial
  have hsz : (w.heap.setIfInBounds (ids b).1 (.map es clk)).size = w.heap.size := by simp
  have hot : ∀ k, k ≠ (ids b).1 → (w.heap.setIfInBounds (ids b).1 (Obj.map es clk))[k]? = w.heap[k]? := fun k hk => by
    rw [Array.getElem?_setIfInBounds_ne (fun e => hk e.symm)]
  have hlt : (ids b).1 < w.heap.size := (Array.getElem?_eq_some_iff.1 h0).1
  have hcase : ∀ c C, updH st.H [(b, true, [.mp K V l'])] c = some C → (c = b ∧ C = (true, [.mp K V l'])) ∨ (c ≠ b ∧ st.H c = some C) := fun c C hc => by
    rw [upd1] at hc
    by_cases hcb : c = b
    · rw [if_pos hcb] at hc; exact .inl ⟨hcb, (Option.some.inj hc).symm⟩
    · rw [if_neg hcb] at hc; exact .inr ⟨hcb, hc⟩
  refine ⟨h.keeps.stored (w := w) ((h.own b _ hb hlv).imp_right And.right) hsz (fun k hk => hot k hk) rfl rfl rfl, h.size, h.defers, h.tmps, h.bor, fun c C hc => ?_, fun c d C D hc hd hne lc ld => ?_, fun c C hc lc => ?_, fun t c hc => ?_, fun c C hc d hd => ?_, h.limg,
    h.hid.upd (Nat.le_of_eq hsz.symm) (fun c C hc => by
      rcases hcase c C hc with ⟨rfl, rfl⟩ | ⟨h1, h2⟩
      · exact .inr ⟨rfl, fun _ e E hec he => h.hid.sepL e c E _ he hb hlv⟩
      · exact .inl ⟨h2, rfl, fun _ _ => rfl⟩) fun e E he g hg => hot g fun hgb => h.hid.sepL e b E _ he hb hlv (by rw [← hgb]; exact hg)⟩
  · rcases hcase c C hc with ⟨rfl, rfl⟩ | ⟨h1, h2⟩
    · refine ⟨fun s hs => ?_, ⟨es, clk, by simp [hlt], he⟩, fun _ => by rw [hsz]; exact hlt, fun j x hx => by simp [cellsL, Seg.cells] at hx⟩
      simp only [List.mem_singleton] at hs; subst hs; trivial
    · refine (h.blk c C h2).congr rfl (fun _ _ => rfl) (Nat.le_of_eq hsz.symm) fun hl => hot _ fun e => ?_
      exact h.sep b c _ C hb h2 (fun e => h1 e.symm) hlv hl e.symm
  · have hq : ∀ c C, updH st.H [(b, true, [.mp K V l'])] c = some C → Lv C.2 → ∃ C', st.H c = some (C.1, C') ∧ Lv C' := fun c C hc lc => by
      rcases hcase c C hc with ⟨rfl, rfl⟩ | ⟨h1, h2⟩
      · exact ⟨_, hb, hlv⟩
      · exact ⟨C.2, h2, lc⟩
    obtain ⟨C', q1, q2⟩ := hq c _ hc lc
    obtain ⟨D', q3, q4⟩ := hq d _ hd ld
    exact h.sep c d C' _ q1 q3 hne q2 q4
  · rcases hcase c _ hc with ⟨rfl, _⟩ | ⟨h1, h2⟩
    · exact h.own c _ hb hlv
    · exact h.own c C h2 lc
  · show (updH st.H [(b, true, [.mp K V l'])] c).isSome = true
    rw [hs]; exact h.clT t c hc
  · show (updH st.H [(b, true, [.mp K V l'])] d).isSome = true
    rw [hs]
    rcases hcase c C hc with ⟨_, rfl⟩ | ⟨h1, h2⟩
    · simp [nmL, Seg.nm] at hd
    · exact h.clH c C h2 d hd
section ev
variable {α : Type} {k : Eff → Option α} {r : α} {tab : Tab} {st : St} {o : Oper}
def keyOf (ks : List IntKind) (x : TV) : Option (List Int) :=
  match x with
  | .vl (.agg vs) => cond (Nat.beq (evStore.cellsS vs).length (sizeL vs)) (decR ks (evStore.cellsS vs)) none
  | _ => none
def evMakeMapZ (tab : Tab) (o : Oper) (t : TypeId) (st : St) (e : Option α) (k : Eff → Option α) : Option α :=
  match alook tab.mps t with
  | some (_, _, ks, V) => match o.dst with
    | some d => match st.H (nameOf d 0) with
      | none => k ⟨.vl (.sv (.mpp (nameOf d 0))), [], [(nameOf d 0, true, [.mp (.rc ks) V []])]⟩
      | some _ => none
    | none => none
  | none => e
def mapAs (ks : List IntKind) (V : EK) : List Seg → Option (List (List Int × V.T))
  | [.mp (.rc ks') V' l] => if h : ks' = ks ∧ V' = V then some (h.2 ▸ l) else none
  | _ => none
def evLookupZ (tab : Tab) (t : TypeId) (st : St) (m i : TV) (commaOk : Bool) (k : Eff → Option α) : Option α :=
  match alook tab.mps t with
  | some (_, _, ks, V) => match m with
    | .vl (.sv (.mpp b)) => match st.H b with
      | some B => match mapAs ks V B.2 with
        | some l => match keyOf ks i with
          | some key => k ⟨cond commaOk (.tup [.agg (segsE V (mval ks V l key)), .sv (.bool (mhas ks l key))]) (.vl (.agg (segsE V (mval ks V l key)))), [b], []⟩
          | none => none
        | none => none
      | none => none
    | _ => none
  | none => none
def evMapUpdZ (tab : Tab) (t : TypeId) (st : St) (m i x : TV) (k : Eff → Option α) : Option α :=
  match alook tab.mps t with
  | some (_, _, ks, V) => match m with
    | .vl (.sv (.mpp b)) => match st.H b with
      | some (true, B) => match mapAs ks V B with
        | some l => match keyOf ks i with
          | some key => match x with
            | .vl (.agg vs) => match decS V vs with
              | some v => k ⟨tunk, [b], [(b, true, [.mp (.rc ks) V (mput ks l key v)])]⟩
              | none => none
            | _ => none
          | none => none
        | none => none
      | _ => none
    | _ => none
  | none => none
theorem mapAs_spec {ks : List IntKind} {V : EK} {B : List Seg} {l : List (List Int × V.T)} (h : mapAs ks V B = some l) : B = [.mp (.rc ks) V l] := by
  unfold mapAs at h
  split at h
  · rename_i ks' V' l'
    split at h
    · rename_i hh
      obtain ⟨rfl, rfl⟩ := hh
      simp only [Option.some.injEq] at h
      subst h; rfl
    · cases h
  · cases h
theorem keyOf_spec {ids : Ids} {ks : List IntKind} {x : TV} {v : Value} {key : List Int} (hx : x.R ids v) (h : keyOf ks x = some key) : ∃ cs, v = .agg cs ∧ CR ids (encR ks key) cs.toList := by
  unfold keyOf at h
  split at h
  · rename_i vs
    obtain ⟨h1, h2⟩ := condSome h
    obtain ⟨cs, rfl, g1, g2⟩ := hx
    rw [cellsS_eq (Nat.eq_of_beq_eq_true h1) g1] at h2
    exact ⟨cs, rfl, by rw [decR_enc _ _ _ h2]; exact g2⟩
  · cases h
theorem sound_makeMapZ {t : TypeId} (ho : o.op = .makeMap t none) {e : Option α} (he : e = some r → ∃ f, k f = some r ∧ OpS P o st f) (h : evMakeMapZ tab o t st e k = some r) : ∃ f, k f = some r ∧ OpS P o st f := by
  unfold evMakeMapZ at h
  split at h
  · split at h
    · rename_i d hd
      split at h
      · rename_i hn
        refine ⟨_, h, opS_val fun st2 hag w0 S nb idb ids a w hr => ?_⟩
        have hnn : st2.H (nameOf d 0) = none := by rw [hag.out _ (by simp)]; exact hn
        refine ⟨.map (some w.heap.size), w.alloc (.map #[] 0), by simp [execOp, ho, Instr.makeMap, newObj]; rfl, _, hr.allocMap hnn (by have := hr.lim; simp only [nameOf]; omega), ?_, fun b hb => ?_⟩
        · show _ = _
          rw [freshIds_eq]
        · simp only [TV.nm, Val.nm, SV.nm, List.mem_singleton] at hb
          subst hb
          simp [St.appH, updH_eq, outAt, Nat.beq_refl]
      · cases h
    · cases h
  · exact he h
theorem modify_mid {β : Type} (f : β → β) (e : β) (e2 : List β) : ∀ e1 : List β, (e1 ++ e :: e2).modify e1.length f = e1 ++ f e :: e2
  | [] => by simp
  | x :: e1 => by simp [modify_mid f e e2 e1]
theorem run_findKeyZ (ht : TabOk P tab) {t kt vt : TypeId} {ks : List IntKind} {V : EK} (hm : alook tab.mps t = some (kt, vt, ks, V)) {ids : Ids} {key : List Int} {cs : Array Value} (hc : CR ids (encR ks key) cs.toList) (w : World) :
    (∀ em n, (Instr.checkKey em (n + 2) kt (.agg cs)).run P w = .ok () w) ∧ ∀ es, (Instr.findKey kt (.agg cs) es).run P w = (Instr.findAsking kt (.agg cs) es).run P w := by
  obtain ⟨hu, hf, ha, ⟨fs, hfs, hkf⟩, _⟩ := ht.mps t kt vt ks V hm
  refine ⟨fun em n => run_checkKey_flat hfs hkf ?_ (ints_of hc) w, fun es => run_findKey_eq w (by simp [hfs]) _ es⟩
  have := CR.length hc
  rw [encR_length] at this
  simpa using this
theorem mapAt {w0 : World} {S : List Nat} {nb : Nat} {idb ids : Ids} {st : St} {a : Act} {w : World} (h : Rep w0 S nb idb ids st a w) {b : Nat} {fl : Bool} {ks : List IntKind} {V : EK} {l : List (List Int × V.T)} (hb : st.H b = some (fl, [.mp (.rc ks) V l])) :
    ∃ es clk, w.heap[(ids b).1]? = some (.map es clk) ∧ entsR (.rc ks) V l es.toList := by
  obtain ⟨_, ⟨es, clk, h1, h2⟩, _⟩ := h.blk b _ hb
  exact ⟨es, clk, h1, h2⟩
theorem aggR_val {ids : Ids} {V : EK} {x : V.T} {v : Value} (h : aggR V x v) : (TV.vl (.agg (segsE V x))).R ids v := by
  obtain ⟨cs, rfl, hc⟩ := h
  obtain ⟨h1, h2, h3⟩ := segsE_spec V x
  exact ⟨cs, rfl, h2, by rw [h1]; exact CR_fix hc⟩
theorem sound_lookupZ (ht : TabOk P tab) {t : TypeId} {m i : Operand} {ck : Bool} (ho : o.op = .lookup t m i ck) (h : evLookupZ tab t st (getO st m) (getO st i) ck k = some r) : ∃ f, k f = some r ∧ OpS P o st f := by
  have hmo : m ∈ o.op.operands := by simp [ho, Op.operands]
  have hio : i ∈ o.op.operands := by simp [ho, Op.operands]
  unfold evLookupZ at h
  split at h
  · rename_i kt vt ks V hm
    split at h
    · rename_i b hmb
      split at h
      · rename_i B hB
        split at h
        · rename_i l hl
          split at h
          · rename_i key hkey
            refine ⟨_, h, opS_pure fun st2 hag w0 S nb idb ids a w hr => ?_⟩
            have hB2 : st2.H b = some (B.1, [.mp (.rc ks) V l]) := by rw [hag.rd b (by simp), hB, ← mapAs_spec hl]
            obtain ⟨es, clk, q1, q2⟩ := mapAt hr hB2
            have e1 := getO_R hr m; have e2 := getO_R hr i
            rw [getO_agr hag hmo, hmb] at e1; rw [getO_agr hag hio] at e2
            have e1' : a.eval m = .map (some (ids b).1) := e1
            obtain ⟨cs, e2', hc⟩ := keyOf_spec e2 hkey
            obtain ⟨g1, g2⟩ := run_findKeyZ ht hm hc w
            obtain ⟨hu, hf, ha, _, iv, zc, z1, z2, z3⟩ := ht.mps t kt vt ks V hm
            have hzero : aggR V V.d (.agg zc) := ⟨zc, rfl, zeqL_R z3⟩
            have hget : (getObj (ids b).1).run P w = .ok (.map es clk) w := by simp [getObj, Sem.run, q1]
            have hlook : ∃ v, (Instr.lookup t (.map (some (ids b).1)) (.agg cs) ck).run P w = .ok (cond ck (.tuple #[v, .bool (mhas ks l key)]) v) w ∧ aggR V (mval ks V l key) v := by
              rcases run_findAsking (P := P) hf ha hc w l es.toList 0 q2 with ⟨r1, r2, _⟩ | ⟨j, l1, p, l2, e1, e, e2, r1, _, _, _, _, _, r2, _, _, r3, _⟩
              · refine ⟨.agg zc, ?_, by simp only [mval, r1, Option.getD_none]; exact hzero⟩
                have g2' := g2 es.toList
                rw [r2] at g2'
                have : (Instr.checkKey es.isEmpty 10000 kt (.agg cs)).run P w = .ok () w := g1 _ 9998
                cases ck <;> simp [Instr.lookup, run_underlying hu, hget, this, g2', zeroValue, typeInfo, z1, z2, mhas, r1]
              · refine ⟨e.val, ?_, by simp only [mval, r3, Option.getD_some]; exact r2⟩
                have g2' := g2 es.toList
                rw [r1] at g2'
                have : (Instr.checkKey es.isEmpty 10000 kt (.agg cs)).run P w = .ok () w := g1 _ 9998
                cases ck <;> simp [Instr.lookup, run_underlying hu, hget, this, g2', mhas, r3]
            obtain ⟨v, v1, v2⟩ := hlook
            refine ⟨_, by simp only [execOp, ho, e1', e2']; simp [v1]; rfl, ?_, fun c hc => ?_⟩
            · cases ck with
              | true => exact ⟨_, rfl, aggR_val v2, rfl, trivial⟩
              | false => exact aggR_val v2
            · exfalso
              cases ck <;> simp [TV.nm, Val.nm, (segsE_spec V _).2.2, SV.nm] at hc
          · cases h
        · cases h
      · cases h
    · cases h
  · cases h
theorem sound_mapUpdZ (ht : TabOk P tab) {t : TypeId} {m i x : Operand} (ho : o.op = .mapUpdate t m i x) (h : evMapUpdZ tab t st (getO st m) (getO st i) (getO st x) k = some r) : ∃ f, k f = some r ∧ OpS P o st f := by
  have hmo : m ∈ o.op.operands := by simp [ho, Op.operands]
  have hio : i ∈ o.op.operands := by simp [ho, Op.operands]
  have hxo : x ∈ o.op.operands := by simp [ho, Op.operands]
  unfold evMapUpdZ at h
  split at h
  · rename_i kt vt ks V hm
    split at h
    · rename_i b hmb
      split at h
      · rename_i B hB
        split at h
        · rename_i l hl
          split at h
          · rename_i key hkey
            split at h
            · rename_i vs hvs
              split at h
              · rename_i v hv
                refine ⟨_, h, opS_skip fun st2 hag w0 S nb idb ids a w hr => ?_⟩
                have hB2 : st2.H b = some (true, [.mp (.rc ks) V l]) := by rw [hag.rd b (by simp), hB, ← mapAs_spec hl]
                obtain ⟨es, clk, q1, q2⟩ := mapAt hr hB2
                have e1 := getO_R hr m; have e2 := getO_R hr i; have e3 := getO_R hr x
                rw [getO_agr hag hmo, hmb] at e1; rw [getO_agr hag hio] at e2; rw [getO_agr hag hxo, hvs] at e3
                have e1' : a.eval m = .map (some (ids b).1) := e1
                obtain ⟨cs, e2', hc⟩ := keyOf_spec e2 hkey
                obtain ⟨xs, e3', x1, x2⟩ := e3
                have hxv : aggR V v (a.eval x) := by
                  refine ⟨xs, e3', ?_⟩
                  rw [← decS_enc hv x1] at x2
                  exact CR_fix x2
                have hkv : aggR (.rc ks) key (.agg cs) := ⟨cs, rfl, CR_fix (E := .rc ks) hc⟩
                obtain ⟨g1, g2⟩ := run_findKeyZ ht hm hc w
                obtain ⟨hu, hf, ha, _⟩ := ht.mps t kt vt ks V hm
                have hget : (getObj (ids b).1).run P w = .ok (.map es clk) w := by simp [getObj, Sem.run, q1]
                have hset : ∀ ob, (setObj (ids b).1 ob).run P w = .ok () { w with heap := w.heap.setIfInBounds (ids b).1 ob } := fun ob => by simp [setObj, Sem.run, q1]
                have hput : ∃ es' clk', (Instr.mapUpdate t (.map (some (ids b).1)) (.agg cs) (a.eval x)).run P w = .ok () { w with heap := w.heap.setIfInBounds (ids b).1 (.map es' clk') } ∧ entsR (.rc ks) V (mput ks l key v) es'.toList := by
                  have hck : (Instr.checkKey false 10000 kt (.agg cs)).run P w = .ok () w := g1 _ 9998
                  rcases run_findAsking (P := P) hf ha hc w l es.toList 0 q2 with ⟨r1, r2, r3⟩ | ⟨j, l1, p, l2, e1, e, e2, r1, r4, r5, r6, r7, r8, r9, r10, r11, r12, r13⟩
                  · obtain ⟨_, r4, _⟩ := r3 v
                    have g2' := g2 es.toList
                    rw [r2] at g2'
                    refine ⟨es.push { key := .agg cs, val := a.eval x, born := clk }, clk + 1, ?_, ?_⟩
                    · simp [Instr.mapUpdate, run_underlying hu, hget, hck, g2', hset]
                    · rw [r4]
                      simp only [Array.toList_push]
                      exact entsR_append q2 ⟨hkv, hxv, trivial⟩
                  · have g2' := g2 es.toList
                    rw [r1] at g2'
                    obtain ⟨ds, d1, d2⟩ := r8
                    have hsame : cs = ds := Array.ext' (CR_same (ks := ks) hc (by rw [encR_eq r11]; exact d2))
                    have hjs : es[j]? = some e := by
                      rw [← Array.getElem?_toList, r5, List.getElem?_append_right (by omega), r6, Nat.sub_self]; rfl
                    have hbits : Instr.sameBits 10000 (.agg ds) (.agg cs) = true := by
                      subst hsame
                      simp only [Instr.sameBits, beq_self_eq_true, Bool.true_and]
                      exact sameBits_ints (ints_of hc) 9999
                    refine ⟨es.modify j fun e => { e with key := .agg cs, val := a.eval x }, clk, ?_, ?_⟩
                    · simp [Instr.mapUpdate, run_underlying hu, hget, hck, g2', hjs, Instr.keyThatStays, d1, hbits, hset]
                    · rw [r13 v]
                      have hmod : (es.modify j fun e => { e with key := .agg cs, val := a.eval x }).toList = e1 ++ { e with key := .agg cs, val := a.eval x } :: e2 := by
                        rw [Array.toList_modify, r5, ← r6, modify_mid]
                      rw [hmod]
                      exact entsR_append r7 ⟨hkv, hxv, r10⟩
                obtain ⟨es', clk', p1, p2⟩ := hput
                refine ⟨_, by simp only [execOp, ho, e1', e2']; simp [p1]; rfl, ids, hr.putMap hB2 q1 p2, trivial, fun b hb => by cases hb⟩
              · cases h
            · cases h
          · cases h
        · cases h
      · cases h
    · cases h
  · cases h
end ev
end Go.Proofs.YtlmmgjngihlpeaaDoor.Sx
