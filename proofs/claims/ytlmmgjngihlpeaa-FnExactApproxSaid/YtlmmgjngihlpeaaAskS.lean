/- Plain laws: the reference asks as the model does. Our own work. -/
import Derived.Test.YtlmmgjngihlpeaaAskR
namespace Go.Proofs.Ytlmmgjngihlpeaa.Sx
open Go
set_option linter.unusedVariables false
set_option linter.unusedSimpArgs false
set_option maxRecDepth 100000
def encE (e : Nat × Nat × Int) : Ty3 := ((e.2.1 : Int), zs e.2.2, zl e.2.2, ())
def rowsOf (N : Nat) (M : List (Nat × Nat × Int)) : Ty1 := (List.range N).map fun i => (M.filter fun e => e.1 == i).map encE
def logOf (L : List (Nat × Nat)) : Ty0 := L.map fun p => [(p.1 : Int), (p.2 : Int)]
def Sp {α β : Type} (E : β → MS → Option α) (D : Int → Ty1 → Ty0 → Option α) (x : Option α) (r : Except Int (β × MS)) : Prop := match r with
 | .ok (z, s) => x = E z s
 | .error c => ∃ R L, x = D c R L
theorem nzc {β : Type} {c : Int} (h : c ≠ 0) (a b : β) : cond (c != 0) a b = a := by
 have : (c != 0) = true := by simpa using h
 rw [this]; rfl
theorem zc {β : Type} (a b : β) : cond ((0 : Int) != 0) a b = b := rfl
section
variable {α β γ : Type}
theorem Sp.bind {P : β → MS → Prop} {f : MR β} {g : β → MR γ} {s : MS} {E0 : β → MS → Option α} {D0 : Int → Ty1 → Ty0 → Option α} {E : γ → MS → Option α} {D : Int → Ty1 → Ty0 → Option α} {x : Option α}
  (ho : OkR P (f s)) (h : Sp E0 D0 x (f s)) (hE : ∀ z s', P z s' → Sp E D (E0 z s') (g z s')) (hD : ∀ c R L, c ≠ 0 → D0 c R L = D c R L) : Sp E D x (mbind f g s) := by
 unfold mbind
 cases hf : f s with
 | ok r => obtain ⟨z, s'⟩ := r; rw [hf] at ho h; rw [show x = E0 z s' from h]; exact hE z s' ho
 | error c =>
  rw [hf] at ho h
  obtain ⟨R, L, h⟩ := h
  exact ⟨R, L, h.trans (hD c R L (by rcases ho with rfl | rfl <;> decide))⟩
theorem Sp.pure {E : β → MS → Option α} {D : Int → Ty1 → Ty0 → Option α} {x : Option α} {z : β} {s : MS} (h : x = E z s) : Sp E D x (mpure z s) := h
theorem Sp.err {E : β → MS → Option α} {D : Int → Ty1 → Ty0 → Option α} {x : Option α} {c : Int} {s : MS} (R : Ty1) (L : Ty0) (h : x = D c R L) : Sp E D x (merr c s) := ⟨R, L, h⟩
theorem Sp.fit {E : γ → MS → Option α} {D : Int → Ty1 → Ty0 → Option α} {x a b : Option α} {z : Int} {g : Int → MR γ} {s : MS} (R : Ty1) (L : Ty0) (h : x = cond (fitZ z) a b) (ha : z.natAbs < W192 → Sp E D a (g z s)) (hb : b = D 3 R L) : Sp E D x (mbind (fitM z) g s) := by
 unfold mbind fitM
 cases hf : fitZ z with
 | true => rw [hf, cond_true] at h; rw [h]; exact ha (fitZ_iff.1 hf)
 | false => rw [hf, cond_false] at h; rw [h]; exact ⟨R, L, hb⟩
end
theorem b190W : 4 * B190 = W192 := w192_lit.symm
theorem b190_pos : 0 < B190 := by decide
structure NdR (x : List Int) (i : Nat) : Prop extends NdOk x i where
 kr : 1 ≤ kd x ∧ kd x ≤ 12
 ea : usA (kd x) → x.tail.headD 0 = (xa x : Int)
 eb : usB (kd x) → x.tail.tail.headD 0 = (xb x : Int)
section
variable {N : Nat} {v : Nat → Rat} {u : Ty0}
abbrev nd (u : Ty0) (i : Nat) : List Int := List.getD u i []
structure Nds (N : Nat) (v : Nat → Rat) (u : Ty0) : Prop where
 n40 : N ≤ 40
 ok : ∀ i, i < N → NdR (nd u i) i
 val : ∀ i, i < N → v i = valR v (nd u i)
theorem Nds.good (h : Nds N v u) {f i b n : Nat} (hf : i < f) (hi : i < N) (hb : i < b) {s : MS} (hs : InvS N v b s) :
  OkR (fun z s' => Near1 (v i) n z ∧ z.natAbs ≤ B190 ∧ n ≤ 160 ∧ InvS N v b s') (askM (nd u) f i n s) :=
 (askM_ok (fun i hi => (h.ok i hi).toNdOk) h.val f i hf hi b n s hb hs).mono fun z s' ⟨h1, h2, h3, h4, _, _⟩ => ⟨h1, h2, h3, h4⟩
def SpecOK (N : Nat) (v : Nat → Rat) (u : Ty0) (f b : Nat) (A : {α : Type} → S_g85 α) : Prop :=
 ∀ {α : Type} (j n : Nat) (s : MS), j < b → n ≤ 1000 → InvS N v b s → ∀ k : Bool → List Int → Int → Nat → Nat → Nat → Nat → Nat → Nat → Nat → Ty0 → Ty1 → Ty0 → Option α,
  Sp (fun z s' => k (zs z) (zl z) 0 0 N N 0 N N N u (rowsOf N s'.1) (logOf s'.2)) (fun c R L => k false [0, 0, 0, 0, 0, 0] c 0 N N 0 N N N u R L)
   (A (j : Int) (n : Int) 0 N N 0 N N N u (rowsOf N s.1) (logOf s.2) k) (askM (nd u) f j n s)
section
variable {α : Type} {f b : Nat} {A : {α : Type} → S_g85 α} {m : Nat}
theorem grow_tail {a : Nat} (L : Nat) (hL : isLen (a + 1) L = true) : isLen a (if a + 1 = 2 ^ (L - 1) then L - 1 else L) = true ∧ 1 ≤ L := by
 rw [isLen_iff] at hL
 obtain ⟨h1, h2⟩ := hL
 have hL1 : 1 ≤ L := by
  rcases Nat.eq_zero_or_pos L with h | h
  ·subst h; simp at h1
  ·exact h
 have h3 : 2 ^ (L - 1) ≤ a + 1 := by rcases h2 with h | h <;> omega
 refine ⟨?_, hL1⟩
 rw [isLen_iff]
 split
 ·rename_i he
  refine ⟨by omega, ?_⟩
  rcases Nat.eq_zero_or_pos (L - 1) with h | h
  ·exact .inl h
  ·right
   have : 2 ^ (L - 1) = 2 * 2 ^ (L - 1 - 1) := by rw [← Nat.pow_succ']; congr 1; omega
   have := Nat.pow_pos (n := L - 1 - 1) (show 0 < 2 by decide)
   omega
 ·rename_i he
  refine ⟨by omega, .inr (by omega)⟩
theorem growS (hn : Nds N v u) (hm : 300 ≤ m) (hA : SpecOK N v u f b A) {i : Nat} (hf : i < f) (hi : i < N) (hb : i < b) {s : MS} (hs : InvS N v b s) (k : Int → Int → Nat → Nat → Nat → Nat → Nat → Nat → Ty1 → Ty0 → Option α) :
  Sp (fun (g : Nat) s' => k (g : Int) 0 0 N N 0 N N (rowsOf N s'.1) (logOf s'.2)) (fun c R L => k 0 c 0 N N 0 N N R L)
   (g83 A m (i : Int) 0 N N 0 N N N u (rowsOf N s.1) (logOf s.2) k) (growM (askM (nd u) f) i s) := by
 rw [g83_o]
 unfold growM
 refine Sp.bind (hn.good hf hi hb hs) (hA i 0 s hb (by omega) hs _) (fun z s' ⟨_, hz, _, _⟩ => ?_) (fun c R L hc => nzc hc _ _)
 have hW := b190W
 have hB := b190_pos
 refine Sp.pure ?_
 rw [zc, ofS (by omega) (by omega), show false = zs (z.natAbs : Int) from (zs_nat _).symm, show zl z = zl (z.natAbs : Int) from rfl, addS hm (by omega) (by decide), fitZ_iff.2 (by omega), cond_true, zc]
 obtain ⟨h1, h2⟩ := grow_tail (a := z.natAbs) (lenZ ((z.natAbs : Int) + 1)) (by
  have := isLen_lenZ ((z.natAbs : Int) + 1)
  rwa [show ((z.natAbs : Int) + 1).natAbs = z.natAbs + 1 by omega] at this)
 have h3 := isLen_unique h1 (isLen_lenZ z)
 have h192 := len_le192 (a := ((z.natAbs : Int) + 1).natAbs) (by omega) (isLen_lenZ _)
 generalize hL : lenZ ((z.natAbs : Int) + 1) = L at *
 rw [bitsS hm (by omega), hL, ofS (by omega) (by omega), show IntKind.wrap .i64 ((L : Int) - 1) = ((L - 1 : Nat) : Int) by rw [wrapI (by omega) (by omega)]; omega]
 obtain ⟨M, rfl⟩ : ∃ M, m = M + 40 := ⟨m - 40, by omega⟩
 have hp : 2 ^ (L - 1) < W192 := by rw [← pow192]; exact Nat.pow_lt_pow_right (by decide) (by omega)
 rw [g117Z (L - 1) (by omega) (by decide), powI, fitZ_iff.2 (nb hp), cond_true, show ((0 : Int) == 0) = true from rfl, cond_true, cmpS hm (nb hp) (by omega)]
 by_cases he : z.natAbs + 1 = 2 ^ (L - 1)
 ·rw [if_pos he] at h3
  rw [← h3, show cmpI ((2 ^ (L - 1) : Nat) : Int) ((z.natAbs : Int) + 1) = 0 by unfold cmpI; rw [if_neg (by omega), if_neg (by omega)]]; rfl
 ·rw [if_neg he] at h3
  have : (cmpI ((2 ^ (L - 1) : Nat) : Int) ((z.natAbs : Int) + 1) == 0) = false := by
   unfold cmpI
   by_cases h4 : ((2 ^ (L - 1) : Nat) : Int) < (z.natAbs : Int) + 1
   ·rw [if_pos h4]; rfl
   ·rw [if_neg h4, if_pos (by omega)]; rfl
  rw [← h3, this]; rfl
theorem awayS (hn : Nds N v u) (hm : 300 ≤ m) (hA : SpecOK N v u f b A) {i : Nat} (hf : i < f) (hi : i < N) (hb : i < b)
  (k1 : Int → Int → Nat → Nat → Nat → Nat → Nat → Nat → Ty1 → Ty0 → Option α) : ∀ (d w F : Nat) {s : MS}, w + d = 41 → d < F → InvS N v b s →
  Sp (fun (g : Nat) s' => k1 (g : Int) 0 0 N N 0 N N (rowsOf N s'.1) (logOf s'.2)) (fun c R L => k1 0 c 0 N N 0 N N R L)
   (g77l0 A (g110 m) (g66 m) (i : Int) N u k1 (fun a1 a2 a3 a4 a5 a6 R L => k1 0 7 a1 a2 a3 a4 a5 a6 R L) F (w : Int) 0 N N 0 N N (rowsOf N s.1) (logOf s.2)) (awayM (askM (nd u) f) i d w s)
 | 0, w, F, s, hw, hF, hs => by
  obtain ⟨F, rfl⟩ : ∃ n, F = n + 1 := ⟨F - 1, by omega⟩
  rw [g77l0_s, dF (by omega), cond_false]
  exact ⟨_, _, rfl⟩
 | d + 1, w, F, s, hw, hF, hs => by
  obtain ⟨F, rfl⟩ : ∃ n, F = n + 1 := ⟨F - 1, by omega⟩
  have hW := b190W
  have hB := b190_pos
  rw [g77l0_s, dT (by omega), cond_true, show IntKind.wrap .i64 ((w : Int) + 2) = ((w + 2 : Nat) : Int) by rw [wrapI (by omega) (by omega)]; rfl]
  unfold awayM
  refine Sp.bind (hn.good hf hi hb hs) (hA i (w + 2) s hb (by omega) hs _) (fun z s' ⟨_, hz, _, hs'⟩ => ?_) (fun c R L hc => nzc hc _ _)
  rw [zc, ofS (by omega) (by omega), show false = zs (z.natAbs : Int) from (zs_nat _).symm, show zl z = zl (z.natAbs : Int) from rfl, cmpS hm (by omega) (by decide)]
  by_cases h5 : 5 ≤ z.natAbs
  ·have : decide (cmpI (z.natAbs : Int) 5 ≥ 0) = true := by
    unfold cmpI; rw [if_neg (by omega)]; split <;> rfl
   rw [this, cond_true, if_pos h5]
   exact Sp.pure rfl
  ·have : decide (cmpI (z.natAbs : Int) 5 ≥ 0) = false := by
    unfold cmpI; rw [if_pos (by omega)]; rfl
   rw [this, cond_false, if_neg h5, show IntKind.wrap .i64 ((w : Int) + 1) = ((w + 1 : Nat) : Int) by rw [wrapI (by omega) (by omega)]; rfl]
   exact awayS hn hm hA hf hi hb k1 d (w + 1) F (by omega) (by omega) hs'
end
end
theorem wr1 {a : Nat} (h : a ≤ 1000000) : IntKind.wrap .i64 ((a : Int) + 1) = ((a + 1 : Nat) : Int) := by rw [wrapI (by omega) (by omega)]; rfl
theorem wr2 {a : Nat} (h : a ≤ 1000000) : IntKind.wrap .i64 ((a : Int) + 2) = ((a + 2 : Nat) : Int) := by rw [wrapI (by omega) (by omega)]; rfl
theorem wr3 {a : Nat} (h : a ≤ 1000000) : IntKind.wrap .i64 ((a : Int) + 3) = ((a + 3 : Nat) : Int) := by rw [wrapI (by omega) (by omega)]; rfl
theorem wr4 {a : Nat} (h : a ≤ 1000000) : IntKind.wrap .i64 ((a : Int) + 4) = ((a + 4 : Nat) : Int) := by rw [wrapI (by omega) (by omega)]; rfl
theorem wr6 {a : Nat} (h : a ≤ 1000000) : IntKind.wrap .i64 ((a : Int) + 6) = ((a + 6 : Nat) : Int) := by rw [wrapI (by omega) (by omega)]; rfl
theorem wrN {a b : Nat} (h : a + b ≤ 1000000) : IntKind.wrap .i64 ((a : Int) + (b : Int)) = ((a + b : Nat) : Int) := by rw [wrapI (by omega) (by omega)]; omega
theorem wrD {a : Nat} (h : a ≤ 1000000) : IntKind.wrap .i64 ((2 : Int) * (a : Int)) = ((2 * a : Nat) : Int) := by rw [wrapI (by omega) (by omega)]; omega
theorem wrS {a : Nat} (h : a ≤ 1000000) : IntKind.wrap .i64 (a : Int) = (a : Int) := wrapI (by omega) (by omega)
section
variable {N : Nat} {v : Nat → Rat} {u : Ty0}
theorem Nds.goodA (h : Nds N v u) {f i : Nat} (hf : i ≤ f) (hi : i ≤ N) : GoodA N v (askM (nd u) f) i := fun j hj n s hs =>
 (askM_ok (fun i hi => (h.ok i hi).toNdOk) h.val f j (by omega) (by omega) i n s hj hs).mono fun z s' ⟨h1, h2, h3, h4, h5, _⟩ => ⟨h1, h2, h3, h4, h5.mono (by omega)⟩
theorem lenZ_le {z : Int} (h : z.natAbs ≤ B190) : lenZ z ≤ 192 := len_le192 (by have := b190W; have := b190_pos; omega) (isLen_lenZ z)
theorem Nds.grow (h : Nds N v u) {f i j : Nat} (hf : i ≤ f) (hi : i ≤ N) (hj : j < i) {s : MS} (hs : InvS N v i s) : OkR (fun g s' => g ≤ 192 ∧ InvS N v i s') (growM (askM (nd u) f) j s) :=
 (growM_ok (h.goodA hf hi) hj hs).mono fun g s' ⟨⟨a0, _, h2, h3⟩, h4, _⟩ => ⟨by rw [h2]; exact lenZ_le h3, h4⟩
theorem Nds.away (h : Nds N v u) {f i j : Nat} (hf : i ≤ f) (hi : i ≤ N) (hj : j < i) : ∀ (d w : Nat) {s : MS}, w + d = 41 → InvS N v i s → OkR (fun k s' => 1 ≤ absQ (v j) * 2 ^ k ∧ k ≤ 40 ∧ InvS N v i s') (awayM (askM (nd u) f) j d w s)
 | 0, w, s, _, hs => .inr rfl
 | d + 1, w, s, hw, hs => by
  unfold awayM
  refine (h.goodA hf hi j hj (w + 2) s hs).bind fun a s' ⟨h1, h2, _, h3, h4⟩ => ?_
  by_cases h5 : 5 ≤ a.natAbs
  ·rw [if_pos h5]; exact ⟨quot_far h1 h5, by omega, h3⟩
  ·rw [if_neg h5]; exact Nds.away h hf hi hj d (w + 1) (by omega) h3
variable {α : Type} {f i : Nat} {A : {α : Type} → S_g85 α} {m : Nat}
abbrev Er (N : Nat) (k : Bool → List Int → Int → Nat → Nat → Nat → Nat → Nat → Nat → Ty1 → Ty0 → Option α) : Int → MS → Option α := fun z s' => k (zs z) (zl z) 0 0 N N 0 N N (rowsOf N s'.1) (logOf s'.2)
abbrev Dr (N : Nat) (k : Bool → List Int → Int → Nat → Nat → Nat → Nat → Nat → Nat → Ty1 → Ty0 → Option α) : Int → Ty1 → Ty0 → Option α := fun c R L => k false [0, 0, 0, 0, 0, 0] c 0 N N 0 N N R L
theorem b190h {z : Int} (h : z.natAbs ≤ B190) : z.natAbs < W192 := by have := b190W; have := b190_pos; omega
theorem prodS (hn : Nds N v u) (hm : 300 ≤ m) (hA : SpecOK N v u f i A) (hf : i ≤ f) (hi : i < N) {n : Nat} (hn1 : n ≤ 160) (hk : kd (nd u i) = 4) {s : MS} (hs : InvS N v i s) (k : Bool → List Int → Int → Nat → Nat → Nat → Nat → Nat → Nat → Ty1 → Ty0 → Option α) :
  Sp (Er N k) (Dr N k) (g136 A m i (n : Int) 0 N N 0 N N N u (rowsOf N s.1) (logOf s.2) k) (ruleM (askM (nd u) f) (nd u i) n s) := by
 have hx := hn.ok i hi
 have h40 := hn.n40
 have ha := hx.a ⟨by omega, by omega⟩
 have hb := hx.b (.inl (by omega))
 have ea : (List.getD u i []).tail.headD 0 = (xa (nd u i) : Int) := hx.ea ⟨by omega, by omega⟩
 have eb : (List.getD u i []).tail.tail.headD 0 = (xb (nd u i) : Int) := hx.eb (.inl (by omega))
 simp only [ruleM, hk, Int.reduceEq, ↓reduceIte]
 rw [g136_o, if_pos hi, ea, eb]
 generalize xa (nd u i) = ja at *
 generalize xb (nd u i) = jb at *
 rw [wrS (by omega)]
 refine Sp.bind (hn.grow hf (by omega) ha hs) (growS hn hm hA (by omega) (by omega) ha hs _) (fun ga s1 ⟨g1, hs1⟩ => ?_) (fun c R L hc => nzc hc _ _)
 rw [zc, if_pos hi, wrS (by omega)]
 refine Sp.bind (hn.grow hf (by omega) hb hs1) (growS hn hm hA (by omega) (by omega) hb hs1 _) (fun gb s2 ⟨g2, hs2⟩ => ?_) (fun c R L hc => nzc hc _ _)
 rw [zc, if_pos hi, wrN (by omega), wr3 (by omega)]
 refine Sp.bind (hn.good (by omega) (by omega) ha hs2) (hA ja (n + gb + 3) s2 ha (by omega) hs2 _) (fun p s3 ⟨_, p2, _, hs3⟩ => ?_) (fun c R L hc => nzc hc _ _)
 rw [zc, if_pos hi, wrN (by omega), wr3 (by omega)]
 refine Sp.bind (hn.good (by omega) (by omega) hb hs3) (hA jb (n + ga + 3) s3 hb (by omega) hs3 _) (fun q s4 ⟨_, q2, _, hs4⟩ => ?_) (fun c R L hc => nzc hc _ _)
 rw [zc, mulW hm (b190h p2) (b190h q2)]
 refine Sp.fit _ _ rfl (fun hpq => ?_) (nzc (by decide) _ _)
 rw [zc, wrN (by omega), wr6 (by omega), nearB hm (by omega) hpq]
 unfold nearM
 by_cases h : n + ga + gb + 6 ≤ 191
 ·rw [if_pos h, if_pos h]; exact Sp.pure rfl
 ·rw [if_neg h, if_neg h]; exact Sp.err _ _ rfl
theorem quotS (hn : Nds N v u) (hm : 300 ≤ m) (hA : SpecOK N v u f i A) (hf : i ≤ f) (hi : i < N) {n : Nat} (hn1 : n ≤ 160) (hk : kd (nd u i) = 5) {s : MS} (hs : InvS N v i s) (k : Bool → List Int → Int → Nat → Nat → Nat → Nat → Nat → Nat → Ty1 → Ty0 → Option α) :
  Sp (Er N k) (Dr N k) (g137 A m i (n : Int) 0 N N 0 N N N u (rowsOf N s.1) (logOf s.2) k) (ruleM (askM (nd u) f) (nd u i) n s) := by
 have hx := hn.ok i hi
 have h40 := hn.n40
 have ha := hx.a ⟨by omega, by omega⟩
 have hb := hx.b (.inl (by omega))
 have ea : (List.getD u i []).tail.headD 0 = (xa (nd u i) : Int) := hx.ea ⟨by omega, by omega⟩
 have eb : (List.getD u i []).tail.tail.headD 0 = (xb (nd u i) : Int) := hx.eb (.inl (by omega))
 simp only [ruleM, hk, Int.reduceEq, ↓reduceIte]
 rw [g137_o, if_pos hi, ea, eb]
 generalize xa (nd u i) = ja at *
 generalize xb (nd u i) = jb at *
 rw [wrS (by omega), g77_o]
 refine Sp.bind (hn.away hf (by omega) hb 41 0 (by omega) hs) (awayS hn hm hA (by omega) (by omega) hb _ 41 0 m (by omega) (by omega) hs) (fun kk s1 ⟨w1, w2, hs1⟩ => ?_) (fun c R L hc => nzc hc _ _)
 rw [zc, if_pos hi, wrS (by omega)]
 refine Sp.bind (hn.grow hf (by omega) ha hs1) (growS hn hm hA (by omega) (by omega) ha hs1 _) (fun ga s2 ⟨g2, hs2⟩ => ?_) (fun c R L hc => nzc hc _ _)
 rw [zc, if_pos hi, wrN (by omega), wr3 (by omega)]
 refine Sp.bind (hn.good (by omega) (by omega) ha hs2) (hA ja (n + kk + 3) s2 ha (by omega) hs2 _) (fun p s3 ⟨_, p2, _, hs3⟩ => ?_) (fun c R L hc => nzc hc _ _)
 rw [zc, if_pos hi, wrN (by omega), wrD (by omega), wrN (by omega), wr4 (by omega)]
 refine Sp.bind (hn.good (by omega) (by omega) hb hs3) (hA jb (n + ga + 2 * kk + 4) s3 hb (by omega) hs3 _) (fun q s4 ⟨q1, q2, _, hs4⟩ => ?_) (fun c R L hc => nzc hc _ _)
 have hq := quot_big w1 q1
 rw [zc, wrN (by omega), wr1 (by omega), upS hm (b190h p2)]
 unfold upM
 by_cases h : n + ga + kk + 1 ≤ 191
 ·rw [if_pos h, if_pos h]
  refine Sp.fit _ _ rfl (fun hpq => ?_) (nzc (by decide) _ _)
  rw [zc, g71Z m (by omega) hpq (b190h q2) (by omega)]
  exact Sp.pure rfl
 ·rw [if_neg h, if_neg h]
  exact ⟨_, _, nzc (by decide) _ _⟩
end
end Go.Proofs.Ytlmmgjngihlpeaa.Sx
