/- A symbolic evaluator for the machine's code, part O: patterns of states, loops, rows of functions. Our own work. -/
import Derived.Test.YtlmmgjngihlpeaaDoorSxN
namespace Go.Proofs.YtlmmgjngihlpeaaDoor.Sx
open Go
set_option linter.unusedVariables false
set_option linter.unusedSimpArgs false
variable {P : Program}
inductive Lf where
  | i (n : Int)
  | b (x : Bool)
  | s (x : ByteArray)
  | m (x : Nat)
  | l (E : EK) (x : List E.T)
  | mp (K V : EK) (x : List (K.T × V.T))
  | ll (E : EK) (x : List (List E.T))
def Lf.int : Lf → Int
  | .i n => n
  | _ => 0
def Lf.bool : Lf → Bool
  | .b x => x
  | _ => false
def Lf.str : Lf → ByteArray
  | .s x => x
  | _ => ⟨#[]⟩
def Lf.nat : Lf → Nat
  | .m x => x
  | _ => 0
def Lf.lst (E : EK) : Lf → List E.T
  | .l E' x => if h : E' = E then h ▸ x else []
  | _ => []
def Lf.map (K V : EK) : Lf → List (K.T × V.T)
  | .mp K' V' x => if h : K' = K ∧ V' = V then h.1 ▸ h.2 ▸ x else []
  | _ => []
theorem Lf.map_mp (K V : EK) (x : List (K.T × V.T)) : (Lf.mp K V x).map K V = x := by simp [Lf.map]
def Lf.rows (E : EK) : Lf → List (List E.T)
  | .ll E' x => if h : E' = E then h ▸ x else []
  | _ => []
theorem Lf.rows_ll (E : EK) (x : List (List E.T)) : (Lf.ll E x).rows E = x := by simp [Lf.rows]
theorem Lf.lst_l (E : EK) (x : List E.T) : (Lf.l E x).lst E = x := by simp [Lf.lst]
def hdL : List Lf → Lf
  | x :: _ => x
  | [] => .m 0
def tlL : List Lf → List Lf
  | _ :: r => r
  | [] => []
def lf : List Lf → Nat → Lf
  | ls, 0 => hdL ls
  | ls, n + 1 => lf (tlL ls) n
inductive SP where
  | unk
  | bool
  | int (k : IntKind)
  | str
  | ptr (b o : Nat)
  | el (b o s f : Nat)
  | nilp
  | slc (b o s : Nat)
  | nils
  | clo (f : Nat) (ps : List (Nat × Nat))
  | gsl (b s : Nat)
  | sla (b o s : Nat)
  | opq
  | mpp (b : Nat)
  | clb (f b o : Nat)
  | nili
  | ifo
inductive GP where
  | one (x : SP)
  | seq (E : EK) (n : Nat)
  | seqv (E : EK)
  | gro (E : EK)
  | mp (K V : EK)
  | rws (E : EK)
  | rwh (E : EK) (c : Nat)
inductive VP where
  | sv (x : SP)
  | agg (l : List GP)
inductive TP where
  | vl (x : VP)
  | tup (l : List VP)
abbrev BP := Bool × List GP
def beqPs : List (Nat × Nat) → List (Nat × Nat) → Bool
  | [], [] => true
  | p :: r, q :: s => Nat.beq p.1 q.1 && (Nat.beq p.2 q.2 && beqPs r s)
  | _, _ => false
theorem beqPs_eq : ∀ {l m : List (Nat × Nat)}, beqPs l m = true → l = m
  | [], [], _ => rfl
  | p :: r, q :: s, h => by
    simp only [beqPs, Bool.and_eq_true] at h
    rw [beqPs_eq h.2.2, show p = q from Prod.ext (Nat.eq_of_beq_eq_true h.1) (Nat.eq_of_beq_eq_true h.2.1)]
  | [], _ :: _, h => by cases h
  | _ :: _, [], h => by cases h
def SP.fill : SP → List Lf → SV × List Lf
  | .unk, ls => (.unk, ls)
  | .bool, ls => (.bool (hdL ls).bool, tlL ls)
  | .int k, ls => (.int k (hdL ls).int, tlL ls)
  | .str, ls => (.str (hdL ls).str, tlL ls)
  | .ptr b o, ls => (.ptr b o, ls)
  | .el b o s f, ls => (.el b o s (hdL ls).nat f, tlL ls)
  | .nilp, ls => (.nilp, ls)
  | .slc b o s, ls => (.slc b o s (hdL ls).nat (hdL (tlL ls)).nat (hdL (tlL (tlL ls))).nat, tlL (tlL (tlL ls)))
  | .nils, ls => (.nils, ls)
  | .clo f ps, ls => (.clo f ps, ls)
  | .gsl b s, ls => (.gsl b s, ls)
  | .sla b o s, ls => (.sla b o s (hdL ls).nat (hdL (tlL ls)).nat (hdL (tlL (tlL ls))).nat, tlL (tlL (tlL ls)))
  | .opq, ls => (.opq, ls)
  | .mpp b, ls => (.mpp b, ls)
  | .clb f b o, ls => (.clb f b o, ls)
  | .nili, ls => (.nili, ls)
  | .ifo, ls => (.ifo, ls)
def GP.fill : GP → List Lf → Seg × List Lf
  | .one x, ls => (.one (x.fill ls).1, (x.fill ls).2)
  | .seq E n, ls => (.seq E n ((hdL ls).lst E), tlL ls)
  | .seqv E, ls => (.seq E (hdL ls).nat ((hdL (tlL ls)).lst E), tlL (tlL ls))
  | .gro E, ls => (.gro E ((hdL ls).lst E), tlL ls)
  | .mp K V, ls => (.mp K V ((hdL ls).map K V), tlL ls)
  | .rws E, ls => (.rws E ((hdL ls).rows E) none, tlL ls)
  | .rwh E c, ls => (.rws E ((hdL ls).rows E) (some ((hdL (tlL ls)).nat, c)), tlL (tlL ls))
def fillG : List GP → List Lf → List Seg × List Lf
  | [], ls => ([], ls)
  | p :: r, ls => ((p.fill ls).1 :: (fillG r (p.fill ls).2).1, (fillG r (p.fill ls).2).2)
def VP.fill : VP → List Lf → Val × List Lf
  | .sv x, ls => (.sv (x.fill ls).1, (x.fill ls).2)
  | .agg l, ls => (.agg (fillG l ls).1, (fillG l ls).2)
def fillV : List VP → List Lf → List Val × List Lf
  | [], ls => ([], ls)
  | p :: r, ls => ((p.fill ls).1 :: (fillV r (p.fill ls).2).1, (fillV r (p.fill ls).2).2)
def TP.fill : TP → List Lf → TV × List Lf
  | .vl x, ls => (.vl (x.fill ls).1, (x.fill ls).2)
  | .tup l, ls => (.tup (fillV l ls).1, (fillV l ls).2)
def fillT : List TP → List Lf → List TV × List Lf
  | [], ls => ([], ls)
  | p :: r, ls => ((p.fill ls).1 :: (fillT r (p.fill ls).2).1, (fillT r (p.fill ls).2).2)
def fillB : List BP → List Lf → List Blk × List Lf
  | [], ls => ([], ls)
  | p :: r, ls => ((p.1, (fillG p.2 ls).1) :: (fillB r (fillG p.2 ls).2).1, (fillB r (fillG p.2 ls).2).2)
def SP.mat : SP → SV → Option (List Lf)
  | .unk, .unk => some []
  | .bool, .bool b => some [.b b]
  | .int k, .int k' n => cond (decide (k = k')) (some [.i n]) none
  | .str, .str s => some [.s s]
  | .ptr b o, .ptr b' o' => cond (Nat.beq b b' && Nat.beq o o') (some []) none
  | .el b o s f, .el b' o' s' i f' => cond (Nat.beq b b' && (Nat.beq o o' && (Nat.beq s s' && Nat.beq f f'))) (some [.m i]) none
  | .nilp, .nilp => some []
  | .slc b o s, .slc b' o' s' lo len cap => cond (Nat.beq b b' && (Nat.beq o o' && Nat.beq s s')) (some [.m lo, .m len, .m cap]) none
  | .nils, .nils => some []
  | .clo f ps, .clo f' ps' => cond (Nat.beq f f' && beqPs ps ps') (some []) none
  | .gsl b s, .gsl b' s' => cond (Nat.beq b b' && Nat.beq s s') (some []) none
  | .sla b o s, .sla b' o' s' lo len cap => cond (Nat.beq b b' && (Nat.beq o o' && Nat.beq s s')) (some [.m lo, .m len, .m cap]) none
  | .opq, .opq => some []
  | .mpp b, .mpp b' => cond (Nat.beq b b') (some []) none
  | .clb f b o, .clb f' b' o' => cond (Nat.beq f f' && (Nat.beq b b' && Nat.beq o o')) (some []) none
  | .nili, .nili => some []
  | .ifo, .ifo => some []
  | _, _ => none
def GP.mat : GP → Seg → Option (List Lf)
  | .one x, .one y => x.mat y
  | .seq E n, .seq E' n' l => cond (decide (E = E') && Nat.beq n n') (some [.l E' l]) none
  | .seqv E, .seq E' n' l => cond (decide (E = E')) (some [.m n', .l E' l]) none
  | .gro E, .gro E' l => cond (decide (E = E')) (some [.l E' l]) none
  | .mp K V, .mp K' V' l => cond (decide (K = K') && decide (V = V')) (some [.mp K' V' l]) none
  | .rws E, .rws E' l none => cond (decide (E = E')) (some [.ll E' l]) none
  | .rwh E c, .rws E' l (some (i, c')) => cond (decide (E = E') && Nat.beq c c') (some [.ll E' l, .m i]) none
  | _, _ => none
def matG : List GP → List Seg → Option (List Lf)
  | [], [] => some []
  | p :: r, x :: xs => match p.mat x with
    | some l => match matG r xs with
      | some m => some (l ++ m)
      | none => none
    | none => none
  | _, _ => none
def VP.mat : VP → Val → Option (List Lf)
  | .sv x, .sv y => x.mat y
  | .agg l, .agg m => matG l m
  | _, _ => none
def matV : List VP → List Val → Option (List Lf)
  | [], [] => some []
  | p :: r, x :: xs => match p.mat x with
    | some l => match matV r xs with
      | some m => some (l ++ m)
      | none => none
    | none => none
  | _, _ => none
def TP.mat : TP → TV → Option (List Lf)
  | .vl x, .vl y => x.mat y
  | .tup l, .tup m => matV l m
  | _, _ => none
def matT : List TP → List TV → Option (List Lf)
  | [], [] => some []
  | p :: r, x :: xs => match p.mat x with
    | some l => match matT r xs with
      | some m => some (l ++ m)
      | none => none
    | none => none
  | _, _ => none
def beqB : Bool → Bool → Bool
  | true, true => true
  | false, false => true
  | _, _ => false
theorem beqB_eq : ∀ {a b : Bool}, beqB a b = true → a = b := by decide
def matB : List BP → List Blk → Option (List Lf)
  | [], [] => some []
  | p :: r, x :: xs => cond (beqB p.1 x.1) (match matG p.2 x.2 with
    | some l => match matB r xs with
      | some m => some (l ++ m)
      | none => none
    | none => none) none
  | _, _ => none
theorem cond_some {β : Type _} {b : Bool} {x : Option β} {r : β} (h : cond b x none = some r) : b = true ∧ x = some r := by
  cases b with
  | true => exact ⟨rfl, h⟩
  | false => cases h
theorem SP.mat_fill {p : SP} {x : SV} {l : List Lf} (h : p.mat x = some l) (r : List Lf) : p.fill (l ++ r) = (x, r) := by
  unfold SP.mat at h
  split at h
  · cases h; rfl
  · cases h; rfl
  · obtain ⟨h1, h2⟩ := cond_some h; cases h2; rw [of_decide_eq_true h1]; rfl
  · cases h; rfl
  · obtain ⟨h1, h2⟩ := cond_some h; cases h2; simp only [Bool.and_eq_true] at h1
    rw [Nat.eq_of_beq_eq_true h1.1, Nat.eq_of_beq_eq_true h1.2]; rfl
  · obtain ⟨h1, h2⟩ := cond_some h; cases h2; simp only [Bool.and_eq_true] at h1
    rw [Nat.eq_of_beq_eq_true h1.1, Nat.eq_of_beq_eq_true h1.2.1, Nat.eq_of_beq_eq_true h1.2.2.1, Nat.eq_of_beq_eq_true h1.2.2.2]; rfl
  · cases h; rfl
  · obtain ⟨h1, h2⟩ := cond_some h; cases h2; simp only [Bool.and_eq_true] at h1
    rw [Nat.eq_of_beq_eq_true h1.1, Nat.eq_of_beq_eq_true h1.2.1, Nat.eq_of_beq_eq_true h1.2.2]; rfl
  · cases h; rfl
  · obtain ⟨h1, h2⟩ := cond_some h; cases h2; simp only [Bool.and_eq_true] at h1
    rw [Nat.eq_of_beq_eq_true h1.1, beqPs_eq h1.2]; rfl
  · obtain ⟨h1, h2⟩ := cond_some h; cases h2; simp only [Bool.and_eq_true] at h1
    rw [Nat.eq_of_beq_eq_true h1.1, Nat.eq_of_beq_eq_true h1.2]; rfl
  · obtain ⟨h1, h2⟩ := cond_some h; cases h2; simp only [Bool.and_eq_true] at h1
    rw [Nat.eq_of_beq_eq_true h1.1, Nat.eq_of_beq_eq_true h1.2.1, Nat.eq_of_beq_eq_true h1.2.2]; rfl
  · cases h; rfl
  · obtain ⟨h1, h2⟩ := cond_some h; cases h2; rw [Nat.eq_of_beq_eq_true h1]; rfl
  · obtain ⟨h1, h2⟩ := cond_some h; cases h2; simp only [Bool.and_eq_true] at h1
    rw [Nat.eq_of_beq_eq_true h1.1, Nat.eq_of_beq_eq_true h1.2.1, Nat.eq_of_beq_eq_true h1.2.2]; rfl
  · cases h; rfl
  · cases h; rfl
  · cases h
theorem GP.mat_fill {p : GP} {x : Seg} {l : List Lf} (h : p.mat x = some l) (r : List Lf) : p.fill (l ++ r) = (x, r) := by
  unfold GP.mat at h
  split at h
  · simp only [GP.fill, SP.mat_fill h r]
  · obtain ⟨h1, h2⟩ := cond_some h; cases h2; simp only [Bool.and_eq_true] at h1
    obtain rfl := of_decide_eq_true h1.1
    rw [Nat.eq_of_beq_eq_true h1.2]
    simp [GP.fill, hdL, tlL, Lf.lst_l]
  · obtain ⟨h1, h2⟩ := cond_some h; cases h2
    obtain rfl := of_decide_eq_true h1
    simp [GP.fill, hdL, tlL, Lf.lst_l, Lf.nat]
  · obtain ⟨h1, h2⟩ := cond_some h; cases h2
    obtain rfl := of_decide_eq_true h1
    simp [GP.fill, hdL, tlL, Lf.lst_l]
  · obtain ⟨h1, h2⟩ := cond_some h; cases h2; simp only [Bool.and_eq_true] at h1
    obtain rfl := of_decide_eq_true h1.1
    obtain rfl := of_decide_eq_true h1.2
    simp [GP.fill, hdL, tlL, Lf.map_mp]
  · obtain ⟨h1, h2⟩ := cond_some h; cases h2
    obtain rfl := of_decide_eq_true h1
    simp [GP.fill, hdL, tlL, Lf.rows_ll]
  · obtain ⟨h1, h2⟩ := cond_some h; cases h2; simp only [Bool.and_eq_true] at h1
    obtain rfl := of_decide_eq_true h1.1
    rw [Nat.eq_of_beq_eq_true h1.2]
    simp [GP.fill, hdL, tlL, Lf.rows_ll, Lf.nat]
  · cases h
theorem matG_fill : ∀ {p : List GP} {x : List Seg} {l : List Lf}, matG p x = some l → ∀ r, fillG p (l ++ r) = (x, r)
  | [], [], l, h, r => by cases h; rfl
  | p :: ps, x :: xs, l, h, r => by
    simp only [matG] at h
    split at h
    · rename_i l1 h1
      split at h
      · rename_i l2 h2
        cases h
        rw [List.append_assoc]
        simp only [fillG, GP.mat_fill h1, matG_fill h2]
      · cases h
    · cases h
  | [], _ :: _, l, h, r => by cases h
  | _ :: _, [], l, h, r => by cases h
theorem VP.mat_fill {p : VP} {x : Val} {l : List Lf} (h : p.mat x = some l) (r : List Lf) : p.fill (l ++ r) = (x, r) := by
  unfold VP.mat at h
  split at h
  · simp only [VP.fill, SP.mat_fill h r]
  · simp only [VP.fill, matG_fill h r]
  · cases h
theorem matV_fill : ∀ {p : List VP} {x : List Val} {l : List Lf}, matV p x = some l → ∀ r, fillV p (l ++ r) = (x, r)
  | [], [], l, h, r => by cases h; rfl
  | p :: ps, x :: xs, l, h, r => by
    simp only [matV] at h
    split at h
    · rename_i l1 h1
      split at h
      · rename_i l2 h2
        cases h
        rw [List.append_assoc]
        simp only [fillV, VP.mat_fill h1, matV_fill h2]
      · cases h
    · cases h
  | [], _ :: _, l, h, r => by cases h
  | _ :: _, [], l, h, r => by cases h
theorem TP.mat_fill {p : TP} {x : TV} {l : List Lf} (h : p.mat x = some l) (r : List Lf) : p.fill (l ++ r) = (x, r) := by
  unfold TP.mat at h
  split at h
  · simp only [TP.fill, VP.mat_fill h r]
  · simp only [TP.fill, matV_fill h r]
  · cases h
theorem matT_fill : ∀ {p : List TP} {x : List TV} {l : List Lf}, matT p x = some l → ∀ r, fillT p (l ++ r) = (x, r)
  | [], [], l, h, r => by cases h; rfl
  | p :: ps, x :: xs, l, h, r => by
    simp only [matT] at h
    split at h
    · rename_i l1 h1
      split at h
      · rename_i l2 h2
        cases h
        rw [List.append_assoc]
        simp only [fillT, TP.mat_fill h1, matT_fill h2]
      · cases h
    · cases h
  | [], _ :: _, l, h, r => by cases h
  | _ :: _, [], l, h, r => by cases h
theorem matB_fill : ∀ {p : List BP} {x : List Blk} {l : List Lf}, matB p x = some l → ∀ r, fillB p (l ++ r) = (x, r)
  | [], [], l, h, r => by cases h; rfl
  | p :: ps, x :: xs, l, h, r => by
    simp only [matB] at h
    obtain ⟨hw, h⟩ := cond_some h
    split at h
    · rename_i l1 h1
      split at h
      · rename_i l2 h2
        cases h
        rw [List.append_assoc]
        obtain ⟨p1, p2⟩ := p
        obtain ⟨x1, x2⟩ := x
        obtain rfl : p1 = x1 := beqB_eq hw
        simp only [fillB, matG_fill h1, matB_fill h2]
      · cases h
    · cases h
  | [], _ :: _, l, h, r => by cases h
  | _ :: _, [], l, h, r => by cases h
def lookT : List Nat → List TV → Nat → TV
  | s :: sl, x :: xs, t => cond (Nat.beq t s) x (lookT sl xs t)
  | _, _, _ => tunk
def lookB : List Nat → List Blk → Nat → Option Blk
  | s :: sl, x :: xs, t => cond (Nat.beq t s) (some x) (lookB sl xs t)
  | _, _, _ => none
def mkSt (n : Nat) (sl : List Nat) (ts : List TV) (bl : List Nat) (bs : List Blk) : St := { T := lookT sl ts, H := lookB bl bs, n := n }
def readB (H : Nat → Option Blk) : List Nat → Option (List Blk)
  | [] => some []
  | b :: r => match H b with
    | some B => match readB H r with
      | some m => some (B :: m)
      | none => none
    | none => none
def readT (T : Nat → TV) : List Nat → List TV
  | [] => []
  | t :: r => T t :: readT T r
def allIn (bl : List Nat) : List Nat → Bool
  | [] => true
  | b :: r => has bl b && allIn bl r
def closedT (bl : List Nat) : List TV → Bool
  | [] => true
  | x :: r => allIn bl x.nm && closedT bl r
def closedBs (bl : List Nat) : List Blk → Bool
  | [] => true
  | x :: r => allIn bl (nmL x.2) && closedBs bl r
theorem allIn_spec {bl : List Nat} : ∀ {l : List Nat}, allIn bl l = true → ∀ b ∈ l, b ∈ bl
  | c :: r, h, b, hb => by
    simp only [allIn, Bool.and_eq_true] at h
    rcases List.mem_cons.1 hb with rfl | hb
    · exact has_mem h.1
    · exact allIn_spec h.2 b hb
theorem closedT_spec {bl : List Nat} : ∀ {xs : List TV}, closedT bl xs = true → ∀ x ∈ xs, ∀ b ∈ x.nm, b ∈ bl
  | x :: r, h, y, hy, b, hb => by
    simp only [closedT, Bool.and_eq_true] at h
    rcases List.mem_cons.1 hy with rfl | hy
    · exact allIn_spec h.1 b hb
    · exact closedT_spec h.2 y hy b hb
theorem closedBs_spec {bl : List Nat} : ∀ {xs : List Blk}, closedBs bl xs = true → ∀ x ∈ xs, ∀ b ∈ nmL x.2, b ∈ bl
  | x :: r, h, y, hy, b, hb => by
    simp only [closedBs, Bool.and_eq_true] at h
    rcases List.mem_cons.1 hy with rfl | hy
    · exact allIn_spec h.1 b hb
    · exact closedBs_spec h.2 y hy b hb
def St.to (st' st : St) : Prop := ∀ w0 S nb idb a w, RepSt w0 S nb idb st a w → RepSt w0 S nb idb st' a w
theorem code_to_in {c : Code} {st st1 st2 : St} {e : Ex} (hl : st1.to st) (h : CodeS P c st1 e st2) : CodeS P c st e st2 :=
  fun w0 S nb idb a w hr => h w0 S nb idb a w (hl _ _ _ _ _ _ hr)
theorem code_to_out {c : Code} {st st1 st2 : St} {e : Ex} (hl : st2.to st1) (h : CodeS P c st e st1) : CodeS P c st e st2 := by
  intro w0 S nb idb a w hr
  refine wp_mono (h w0 S nb idb a w hr) ?_
  rintro e' a' w' ⟨rfl, h'⟩
  exact ⟨rfl, hl _ _ _ _ _ _ h'⟩
def hn (names : List Nat) (b : Nat) : Nat := cond (Nat.blt b 1000) b (1000000 + idx names b)
def renBs (ρ : Nat → Nat) : List Blk → List Blk
  | [] => []
  | B :: r => (B.1, renL ρ B.2) :: renBs ρ r
def canon (low sl : List Nat) (st : St) : Option (List TV × List Nat × List Blk) :=
  let names := gather st.H 200 (low ++ (readT st.T sl).flatMap TV.nm) []
  match readB st.H names with
  | some bs => cond (nodupB names && (closedT names (readT st.T sl) && closedBs names bs)) (some ((readT st.T sl).map (TV.ren (hn names)), names.map (hn names), renBs (hn names) bs)) none
  | none => none
theorem hn_lo {names : List Nat} {b : Nat} (h : b < 1000) : hn names b = b := by
  unfold hn; rw [show Nat.blt b 1000 = true by simpa using h]; rfl
theorem hn_hi {names : List Nat} {b : Nat} (h : ¬ b < 1000) : hn names b = 1000000 + idx names b := by
  unfold hn; rw [blt_false h]; rfl
def hnIds (ids : Ids) (names : List Nat) : Ids := fun c => if c < 1000 then ids c else ids (names.getD (c - 1000000) 0)
theorem hnIds_at {ids : Ids} {names : List Nat} {b : Nat} (h : b ∈ names) : hnIds ids names (hn names b) = ids b := by
  by_cases hb : b < 1000
  · rw [hn_lo hb]; simp [hnIds, hb]
  · rw [hn_hi hb]
    unfold hnIds
    rw [if_neg (by omega), show 1000000 + idx names b - 1000000 = idx names b by omega, (idx_lt h).2]
theorem lookT_map {T : Nat → TV} {f : TV → TV} : ∀ (sl : List Nat) (t : Nat), lookT sl ((readT T sl).map f) t = tunk ∨ (t ∈ sl ∧ lookT sl ((readT T sl).map f) t = f (T t))
  | [], t => .inl rfl
  | s :: sl, t => by
    simp only [readT, List.map_cons, lookT]
    cases h : Nat.beq t s with
    | true => right; rw [Nat.eq_of_beq_eq_true h]; exact ⟨by simp, rfl⟩
    | false =>
      rcases lookT_map (T := T) (f := f) sl t with h | ⟨h1, h2⟩
      · exact .inl h
      · exact .inr ⟨by simp [h1], h2⟩
theorem lookB_ren {H : Nat → Option Blk} {ρ : Nat → Nat} : ∀ {names : List Nat} {bs : List Blk} {b : Nat} {B : Blk}, readB H names = some bs → lookB (names.map ρ) (renBs ρ bs) b = some B →
    ∃ c B0, c ∈ names ∧ b = ρ c ∧ H c = some B0 ∧ B = (B0.1, renL ρ B0.2)
  | [], bs, b, B, h, hl => by simp only [readB, Option.some.injEq] at h; subst h; cases hl
  | s :: sl, bs, b, B, h, hl => by
    simp only [readB] at h
    split at h
    · rename_i B0 hB0
      split at h
      · rename_i m hm
        cases h
        simp only [List.map_cons, renBs, lookB] at hl
        cases hb : Nat.beq b (ρ s) with
        | true => rw [hb] at hl; cases hl; exact ⟨s, B0, by simp, Nat.eq_of_beq_eq_true hb, hB0, rfl⟩
        | false =>
          rw [hb] at hl
          obtain ⟨c, B1, h1, h2⟩ := lookB_ren hm hl
          exact ⟨c, B1, by simp [h1], h2⟩
      · cases h
    · cases h
theorem lookB_ren_some {H : Nat → Option Blk} {ρ : Nat → Nat} : ∀ {names : List Nat} {bs : List Blk} {c : Nat}, readB H names = some bs → c ∈ names → (lookB (names.map ρ) (renBs ρ bs) (ρ c)).isSome = true
  | s :: sl, bs, c, h, hc => by
    simp only [readB] at h
    split at h
    · rename_i B hB
      split at h
      · rename_i m hm
        cases h
        simp only [List.map_cons, renBs, lookB]
        cases hb : Nat.beq (ρ c) (ρ s) with
        | true => rfl
        | false =>
          rcases List.mem_cons.1 hc with rfl | hc
          · rw [Nat.beq_refl] at hb; cases hb
          · exact lookB_ren_some hm hc
      · cases h
    · cases h
theorem readT_mem {T : Nat → TV} : ∀ {sl : List Nat} {t : Nat}, t ∈ sl → T t ∈ readT T sl
  | s :: sl, t, h => by
    rcases List.mem_cons.1 h with rfl | h
    · simp [readT]
    · simp only [readT, List.mem_cons]; exact .inr (readT_mem h)
theorem readB_mem {H : Nat → Option Blk} : ∀ {bl : List Nat} {bs : List Blk} {c : Nat} {B : Blk}, readB H bl = some bs → c ∈ bl → H c = some B → B ∈ bs
  | s :: sl, bs, c, B, h, hc, hB => by
    simp only [readB] at h
    split at h
    · rename_i B0 hB0
      split at h
      · rename_i m hm
        cases h
        rcases List.mem_cons.1 hc with rfl | hc
        · rw [hB] at hB0; cases hB0; simp
        · exact List.mem_cons_of_mem _ (readB_mem hm hc hB)
      · cases h
    · cases h
theorem canon_spec {low sl : List Nat} {st : St} {n : Nat} {ts : List TV} {bl : List Nat} {bs : List Blk} (hn_ : n = st.n) (h : canon low sl st = some (ts, bl, bs)) : (mkSt n sl ts bl bs).to st := by
  unfold canon at h
  simp only at h
  generalize gather st.H 200 (low ++ (readT st.T sl).flatMap TV.nm) [] = names at h
  split at h
  · rename_i bs0 hbs
    obtain ⟨h1, h2⟩ := cond_some h
    simp only [Option.some.injEq, Prod.mk.injEq] at h2
    obtain ⟨rfl, rfl, rfl⟩ := h2
    simp only [Bool.and_eq_true] at h1
    obtain ⟨hnd, hcT, hcB⟩ := h1
    have hT := closedT_spec hcT
    have hB := closedBs_spec hcB
    rintro w0 S nb idb a w ⟨ids, hr⟩
    have hblk : ∀ b B, lookB (names.map (hn names)) (renBs (hn names) bs0) b = some B → ∃ c B0, c ∈ names ∧ b = hn names c ∧ st.H c = some B0 ∧ B = (B0.1, renL (hn names) B0.2) := fun b B hb => lookB_ren hbs hb
    have hcl : ∀ c ∈ names, ∀ B0, st.H c = some B0 → ∀ d ∈ nmL B0.2, d ∈ names := fun c hc B0 hB0 d hd => hB B0 (readB_mem hbs hc hB0) d hd
    refine ⟨hnIds ids names, hr.keeps, hr.size.trans hn_.symm, hr.defers, fun t => ?_, fun i hi => ?_, fun b B hb => ?_, fun b c B C hb hc hne lb lc => ?_, fun b B hb lb => ?_, fun t b hb => ?_, fun c B hc b hb => ?_, hr.limg,
      ⟨fun b B hb hno => ?_, fun b B hb => ?_, fun b B hb g hg => ?_, fun b c B C hb hc lc hg => ?_, fun b c B C hb hc hne g hg hg2 => ?_⟩⟩
    rotate_right 5
    · obtain ⟨c, B0, hc, rfl, hB0, rfl⟩ := hblk b B hb
      dsimp only at hno ⊢
      rw [noRws_ren] at hno
      exact hr.hid.fl c B0 hB0 hno
    · obtain ⟨c, B0, hc, rfl, hB0, rfl⟩ := hblk b B hb
      exact (hr.hid.rel c B0 hB0).ren (hnIds_at hc) fun d hd => hnIds_at (hcl c hc B0 hB0 d hd)
    · obtain ⟨c, B0, hc, rfl, hB0, rfl⟩ := hblk b B hb
      dsimp only at hg
      rw [foot_ren, hnIds_at hc] at hg
      exact hr.hid.own c B0 hB0 g hg
    · obtain ⟨b0, B0, hb0, rfl, hB0, rfl⟩ := hblk b _ hb
      obtain ⟨c0, C0, hc0, rfl, hC0, rfl⟩ := hblk c _ hc
      dsimp only at hg lc
      rw [foot_ren, hnIds_at hb0, hnIds_at hc0] at hg
      exact hr.hid.sepL b0 c0 B0 C0 hB0 hC0 (renL_Lv.1 lc) hg
    · obtain ⟨b0, B0, hb0, rfl, hB0, rfl⟩ := hblk b _ hb
      obtain ⟨c0, C0, hc0, rfl, hC0, rfl⟩ := hblk c _ hc
      dsimp only at hg hg2
      rw [foot_ren, hnIds_at hb0] at hg
      rw [foot_ren, hnIds_at hc0] at hg2
      exact hr.hid.sepH b0 c0 B0 C0 hB0 hC0 (fun e => hne (by rw [e])) g hg hg2
    · show (lookT sl _ t).R _ _
      rcases lookT_map (T := st.T) (f := TV.ren (hn names)) sl t with h | ⟨hm, h⟩
      · rw [h]; trivial
      · rw [h]
        exact TV.ren_R.2 ((hr.tmps t).congr fun b hb => hnIds_at (hT _ (readT_mem hm) b hb))
    · have := hr.lim
      rw [show hnIds ids names i = ids i by simp [hnIds, show i < 1000 by omega]]
      exact hr.bor i hi
    · obtain ⟨c, B0, hc, rfl, hB0, rfl⟩ := hblk b B hb
      obtain ⟨q1, qg, q2, q3⟩ := hr.blk c B0 hB0
      refine ⟨renL_ok.2 q1, by rw [hnIds_at hc]; exact qg.ren, by rw [hnIds_at hc]; exact fun hl => q2 (renL_Lv.1 hl), fun j x hx => ?_⟩
      simp only [renL_cells, List.getElem?_map, Option.map_eq_some_iff] at hx
      obtain ⟨y, hy, rfl⟩ := hx
      obtain ⟨u, u1, u2, u3⟩ := q3 j y hy
      rw [hnIds_at hc]
      exact ⟨u, u1, SV.ren_R.2 (u2.congr fun d hd => hnIds_at (hcl c hc B0 hB0 d (cellsL_nm _ y (List.mem_of_getElem? hy) d hd))), u3⟩
    · obtain ⟨b0, B0, hb0, rfl, hB0, eB⟩ := hblk b _ hb
      obtain ⟨c0, C0, hc0, rfl, hC0, rfl⟩ := hblk c _ hc
      simp only [Prod.mk.injEq] at eB
      obtain ⟨e1, rfl⟩ := eB
      rw [hnIds_at hb0, hnIds_at hc0]
      obtain ⟨wr, B0⟩ := B0
      simp only at e1
      subst e1
      exact hr.sep b0 c0 B0 C0 hB0 hC0 (fun e => hne (by rw [e])) (renL_Lv.1 lb) (renL_Lv.1 lc)
    · obtain ⟨b0, B0, hb0, rfl, hB0, eB⟩ := hblk b _ hb
      simp only [Prod.mk.injEq] at eB
      obtain ⟨e1, rfl⟩ := eB
      rw [hnIds_at hb0]
      obtain ⟨wr, B0⟩ := B0
      simp only at e1
      subst e1
      rcases hr.own b0 B0 hB0 (renL_Lv.1 lb) with h | ⟨h1, h2⟩
      · exact .inl h
      · refine .inr ⟨?_, h2⟩
        by_cases hlt : b0 < 1000
        · rw [hn_lo hlt]; exact h1
        · rw [hn_hi hlt]; have := hr.lim; omega
    · show (lookB _ _ b).isSome = true
      have hb' : b ∈ (lookT sl ((readT st.T sl).map (TV.ren (hn names))) t).nm := hb
      rcases lookT_map (T := st.T) (f := TV.ren (hn names)) sl t with h | ⟨hm, h⟩
      · rw [h] at hb'; cases hb'
      · rw [h, TV.ren_nm, List.mem_map] at hb'
        obtain ⟨d, hd, rfl⟩ := hb'
        exact lookB_ren_some hbs (hT _ (readT_mem hm) d hd)
    · show (lookB _ _ b).isSome = true
      obtain ⟨c0, C0, hc0, rfl, hC0, rfl⟩ := hblk c _ hc
      simp only [renL_nm, List.mem_map] at hb
      obtain ⟨d, hd, rfl⟩ := hb
      exact lookB_ren_some hbs (hcl c0 hc0 C0 hC0 d hd)
  · cases h
def beqNs : List Nat → List Nat → Bool
  | [], [] => true
  | a :: r, b :: s => Nat.beq a b && beqNs r s
  | _, _ => false
theorem beqNs_eq : ∀ {l m : List Nat}, beqNs l m = true → l = m
  | [], [], _ => rfl
  | a :: r, b :: s, h => by
    simp only [beqNs, Bool.and_eq_true] at h
    rw [Nat.eq_of_beq_eq_true h.1, beqNs_eq h.2]
  | [], _ :: _, h => by cases h
  | _ :: _, [], h => by cases h
structure LoopD where
  n : Nat
  low : List Nat
  sl : List Nat
  bl : List Nat
  tp : List TP
  bp : List BP
  xs : List (Nat × List Nat)
def Ex.code : Ex → Nat
  | .normal => 0
  | .ret => 1
  | .exit j => j + 2
section
variable {α : Type}
def shutK : List Nat → St → (St → Option α) → Option α
  | [], st, k => k st
  | b :: r, st, k => match st.H b with
    | some (true, [.rws E ll (some p)]) => match st.H p.2 with
      | some (true, [.gro E' l']) => match seqAs E E' l' with
        | some l => if p.1 < ll.length then shutK r { st with H := updH st.H [(b, true, [.rws E (ll.set p.1 l) none]), (p.2, true, [])] } k else none
        | none => none
      | _ => shutK r st k
    | _ => shutK r st k
theorem shutK_spec : ∀ {l : List Nat} {st : St} {k : St → Option α} {r : α}, shutK l st k = some r → ∃ st', k st' = some r ∧ st'.to st
  | [], st, k, r, h => ⟨st, h, fun _ _ _ _ _ _ h => h⟩
  | b :: l, st, k, r, h => by
    simp only [shutK] at h
    split at h
    · rename_i E ll p hb
      split at h
      · rename_i E' l' hc
        split at h
        · rename_i m hm
          split at h
          · rename_i hi
            obtain ⟨st', h1, h2⟩ := shutK_spec h
            refine ⟨st', h1, fun w0 S nb idb a w hr => h2 _ _ _ _ _ _ ?_⟩
            obtain ⟨ids, hr⟩ := hr
            obtain ⟨i, c⟩ := p
            have hEE := (seqAs_spec hm).1
            subst hEE
            have hml : m = l' := by
              cases E with
              | int k => simpa [seqAs] using hm.symm
              | bool => simpa [seqAs] using hm.symm
              | str => simpa [seqAs] using hm.symm
              | rc ks => simpa [seqAs] using hm.symm
              | mx ps => simpa [seqAs] using hm.symm
            subst hml
            exact ⟨ids, hr.shut hb hi hc⟩
          · cases h
        · cases h
      · exact shutK_spec h
    · exact shutK_spec h
def exitK (D : LoopD) (id : Nat) (k : Ex → St → Option α) (e : Ex) (st : St) : Option α :=
  match alook D.xs e.code with
  | some sl => shutK (gather st.H 200 (D.low ++ (readT st.T sl).flatMap TV.nm) []) st fun st => match canon D.low sl st with
    | some (ts, bl, bs) => cond (Nat.beq D.n st.n) (k (e.inBlock id) (mkSt D.n sl ts bl bs)) none
    | none => none
  | none => none
def loopH (D : LoopD) (F : List Lf → (Ex → St → Option α) → Option α) (st : St) (k : Ex → St → Option α) : Option α :=
  match canon D.low D.sl st with
  | some (ts, bl, bs) => cond (beqNs bl D.bl && Nat.beq D.n st.n) (match matT D.tp ts with
    | some l1 => match matB D.bp bs with
      | some l2 => F (l1 ++ l2) k
      | none => none
    | none => none) none
  | none => none
def loopE (D : LoopD) (F : List Lf → (Ex → St → Option α) → Option α) (e : St → (Ex → St → Option α) → Option α) (st : St) (k : Ex → St → Option α) : Option α :=
  match canon D.low D.sl st with
  | some (ts, bl, bs) => cond (beqNs bl D.bl && Nat.beq D.n st.n) (match matT D.tp ts with
    | some l1 => match matB D.bp bs with
      | some l2 => F (l1 ++ l2) k
      | none => e st k
    | none => e st k) (e st k)
  | none => e st k
theorem loop_else {D : LoopD} {F : List Lf → (Ex → St → Option α) → Option α} {e : St → (Ex → St → Option α) → Option α} {st : St} {k : Ex → St → Option α} {r : α} (h : loopE D F e st k = some r) :
    loopH D F st k = some r ∨ e st k = some r := by
  unfold loopE at h
  unfold loopH
  split at h
  · rename_i ts bl bs hbs
    try simp only [hbs]
    cases hc : (beqNs bl D.bl && Nat.beq D.n st.n) with
    | false => rw [hc] at h; exact .inr h
    | true =>
      rw [hc] at h
      simp only [cond_true] at h ⊢
      split at h
      · rename_i l1 hl1
        try simp only [hl1]
        split at h
        · rename_i l2 hl2
          try simp only [hl2]
          exact .inl h
        · exact .inr h
      · exact .inr h
  · exact .inr h
def atHead (D : LoopD) (ls : List Lf) : St := mkSt D.n D.sl (fillT D.tp ls).1 D.bl (fillB D.bp (fillT D.tp ls).2).1
def loopK (D : LoopD) (id : Nat) (L : St → (Ex → St → Option α) → Option α) (k : Ex → St → Option α) (e : Ex) (st : St) : Option α :=
  match e with
  | .normal => L st k
  | e => exitK D id k e st
theorem exitK_spec {D : LoopD} {id : Nat} {k : Ex → St → Option α} {e : Ex} {st : St} {r : α} (h : exitK D id k e st = some r) : ∃ st', k (e.inBlock id) st' = some r ∧ st'.to st := by
  unfold exitK at h
  split at h
  · rename_i sl _
    obtain ⟨st1, h, hto⟩ := shutK_spec h
    split at h
    · rename_i ts bl bs hbs
      obtain ⟨h1, h2⟩ := cond_some h
      exact ⟨_, h2, fun w0 S nb idb a w hr => canon_spec (Nat.eq_of_beq_eq_true h1) hbs _ _ _ _ _ _ (hto _ _ _ _ _ _ hr)⟩
    · cases h
  · cases h
theorem loopH_spec {D : LoopD} {F : List Lf → (Ex → St → Option α) → Option α} {st : St} {k : Ex → St → Option α} {r : α} (h : loopH D F st k = some r) :
    ∃ ls, F ls k = some r ∧ (atHead D ls).to st := by
  unfold loopH at h
  split at h
  · rename_i ts bl bs hbs
    obtain ⟨h1, h2⟩ := cond_some h
    simp only [Bool.and_eq_true] at h1
    split at h2
    · rename_i l1 hl1
      split at h2
      · rename_i l2 hl2
        refine ⟨_, h2, ?_⟩
        have e1 := matT_fill hl1 l2
        have e2 := matB_fill hl2 []
        rw [List.append_nil] at e2
        unfold atHead
        rw [e1]
        simp only
        rw [e2, ← beqNs_eq h1.1]
        exact canon_spec (Nat.eq_of_beq_eq_true h1.2) hbs
      · cases h2
    · cases h2
  · cases h
theorem loop_ok {tab : Tab} {h : Hd} (ht : TabOk P tab) (hc : h.CallsOk P) (hm : P.follows .mixedOrders = true) {b : Code} (hl : LoopsOk P h b) {D : LoopD} {id : Nat}
    {F : Nat → List Lf → (Ex → St → Option α) → Option α} (h0 : ∀ ls k, F 0 ls k = none)
    (hstep : ∀ n ls k, F (n + 1) ls k = ev tab h b (atHead D ls) (loopK D id (loopH D (F n)) k)) {n : Nat} {st : St} {k : Ex → St → Option α} {r : α}
    (hev : loopH D (F n) st k = some r) : ∃ e st', k e st' = some r ∧ CodeS P (.block id (.loop b)) st e st' := by
  suffices ∃ e st1 st', k (e.inBlock id) st' = some r ∧ Rounds P b n st e st1 ∧ st'.to st1 by
    obtain ⟨e, st1, st', h1, h2, h3⟩ := this
    exact ⟨_, _, h1, code_to_out h3 (code_block (code_loop h2))⟩
  induction n generalizing st with
  | zero =>
    obtain ⟨ls, h1, _⟩ := loopH_spec hev
    rw [h0] at h1; cases h1
  | succ n ih =>
    obtain ⟨ls, h1, hle⟩ := loopH_spec hev
    rw [hstep] at h1
    obtain ⟨e, st1, h2, h3⟩ := ev_sound ht hc hm b _ _ r hl h1
    have h3' := code_to_in hle h3
    cases e with
    | normal =>
      obtain ⟨e, st2, st', g1, g2, g3⟩ := ih h2
      exact ⟨e, st2, st', g1, .inl ⟨st1, h3', g2⟩, g3⟩
    | ret =>
      obtain ⟨st', g1, g2⟩ := exitK_spec h2
      exact ⟨_, st1, st', g1, .inr ⟨by simp, h3'⟩, g2⟩
    | exit j =>
      obtain ⟨st', g1, g2⟩ := exitK_spec h2
      exact ⟨_, st1, st', g1, .inr ⟨by simp, h3'⟩, g2⟩
end
def loopsOf : Code → List (Nat × Code)
  | .seq a b => loopsOf a ++ loopsOf b
  | .cond _ a b => loopsOf a ++ loopsOf b
  | .block id (.loop b) => [(id, b)]
  | .block _ c => loopsOf c
  | _ => []
theorem loopsOk_of {h : Hd} : ∀ (c : Code), (∀ p ∈ loopsOf c, ∀ (α : Type) (st : St) (k : Ex → St → Option α) (r : α), h.loop p.1 st k = some r → ∃ e st', k e st' = some r ∧ CodeS P (.block p.1 (.loop p.2)) st e st') → LoopsOk P h c
  | .seq a b, H => ⟨loopsOk_of a fun p hp => H p (List.mem_append_left _ hp), loopsOk_of b fun p hp => H p (List.mem_append_right _ hp)⟩
  | .cond _ a b, H => ⟨loopsOk_of a fun p hp => H p (List.mem_append_left _ hp), loopsOk_of b fun p hp => H p (List.mem_append_right _ hp)⟩
  | .block id c, H => by
    by_cases hloop : ∃ b, c = .loop b
    · obtain ⟨b, rfl⟩ := hloop
      exact fun α st k r h => H (id, b) (by simp [loopsOf]) α st k r h
    · have hl : loopsOf (.block id c) = loopsOf c := by
        cases c <;> first | rfl | exact absurd ⟨_, rfl⟩ hloop
      have := loopsOk_of c (fun p hp => H p (by rw [hl]; exact hp))
      cases c <;> first | exact this | exact absurd ⟨_, rfl⟩ hloop
  | .skip, _ => trivial
  | .ret, _ => trivial
  | .exit _, _ => trivial
  | .region .., _ => trivial
  | .loop _, _ => trivial
  | .rangeFunc .., _ => trivial
  | .scope _, _ => trivial
  | .label _, _ => trivial
  | .goto _, _ => trivial
  | .refuse _, _ => trivial
def loopAt : Code → Nat → Option Code
  | .seq a b, i => match loopAt a i with
    | some c => some c
    | none => loopAt b i
  | .cond _ a b, i => match loopAt a i with
    | some c => some c
    | none => loopAt b i
  | .block id (.loop b), i => cond (Nat.beq id i) (some b) (loopAt b i)
  | .block _ c, i => loopAt c i
  | _, _ => none
def bodyOf (fn : Func) : Code := match fn.body with
  | some c => c
  | none => .skip
def bodyAt (fn : Func) (i : Nat) : Code := match loopAt (bodyOf fn) i with
  | some c => c
  | none => .skip
theorem bodyOf_some {fn : Func} {c : Code} (h : fn.body = some c) : c = bodyOf fn := by simp [bodyOf, h]
def COk (P : Program) (call : {α : Type} → Nat → List TV → List Blk → (TV → List (List Seg) → List (List Seg) → Option α) → Option α) : Prop :=
  ∀ (α : Type) (f : Nat) (args : List TV) (Bs : List Blk) (k : TV → List (List Seg) → List (List Seg) → Option α) (r : α), call f args Bs k = some r →
    ∃ v Bs' Ns, k v Bs' Ns = some r ∧ FnS P f args Bs v Bs' Ns
abbrev KRe (α : Type) : Type := TV → List (List Seg) → List (List Seg) → Option α
abbrev KEx (α : Type) : Type := Ex → St → Option α
def LoopS (P : Program) (id : Nat) (b : Code) {α : Type} (st : St) (k : KEx α) (r : α) : Prop := ∃ e st', k e st' = some r ∧ CodeS P (.block id (.loop b)) st e st'
section
variable {α : Type}
def rowK (tp : List TP) (bp : List BP) (F : List Lf → (TV → List (List Seg) → List (List Seg) → Option α) → Option α) (args : List TV) (Bs : List Blk)
    (k : TV → List (List Seg) → List (List Seg) → Option α) : Option α :=
  match matT tp args with
  | some l1 => match matB bp Bs with
    | some l2 => F (l1 ++ l2) k
    | none => none
  | none => none
theorem rowK_spec {tp : List TP} {bp : List BP} {F : List Lf → (TV → List (List Seg) → List (List Seg) → Option α) → Option α} {args : List TV} {Bs : List Blk}
    {k : TV → List (List Seg) → List (List Seg) → Option α} {r : α} (h : rowK tp bp F args Bs k = some r) :
    ∃ ls, F ls k = some r ∧ args = (fillT tp ls).1 ∧ Bs = (fillB bp (fillT tp ls).2).1 := by
  unfold rowK at h
  split at h
  · rename_i l1 h1
    split at h
    · rename_i l2 h2
      have e1 := matT_fill h1 l2
      have e2 := matB_fill h2 []
      rw [List.append_nil] at e2
      refine ⟨_, h, ?_, ?_⟩
      · rw [e1]
      · rw [e1]; simp only; rw [e2]
    · cases h
  · cases h
def RowOk (P : Program) (f : Nat) (K : {α : Type} → List TV → List Blk → (TV → List (List Seg) → List (List Seg) → Option α) → Option α) : Prop :=
  ∀ (α : Type) (args : List TV) (Bs : List Blk) (k : TV → List (List Seg) → List (List Seg) → Option α) (r : α), K args Bs k = some r →
    ∃ v Bs' Ns, k v Bs' Ns = some r ∧ FnS P f args Bs v Bs' Ns
end
theorem cok_nil : COk P (fun _ _ _ _ => none) := by intro α f args Bs k r h; cases h
theorem cok_cons {g : Nat} {K : {α : Type} → List TV → List Blk → (TV → List (List Seg) → List (List Seg) → Option α) → Option α}
    {c : {α : Type} → Nat → List TV → List Blk → (TV → List (List Seg) → List (List Seg) → Option α) → Option α} (hK : RowOk P g K) (hc : COk P c) :
    COk P (fun f args Bs k => cond (Nat.beq f g) (K args Bs k) (c f args Bs k)) := by
  intro α f args Bs k r h
  simp only at h
  cases hb : Nat.beq f g with
  | true => rw [hb] at h; rw [Nat.eq_of_beq_eq_true hb]; exact hK α args Bs k r h
  | false => rw [hb] at h; exact hc α f args Bs k r h
def rowE {α : Type} (tp : List TP) (bp : List BP) (F : List Lf → (TV → List (List Seg) → List (List Seg) → Option α) → Option α)
    (e : List TV → List Blk → (TV → List (List Seg) → List (List Seg) → Option α) → Option α) (args : List TV) (Bs : List Blk)
    (k : TV → List (List Seg) → List (List Seg) → Option α) : Option α :=
  match matT tp args with
  | some l1 => match matB bp Bs with
    | some l2 => F (l1 ++ l2) k
    | none => e args Bs k
  | none => e args Bs k
theorem row_else {f : Nat} {tp : List TP} {bp : List BP} {F : {α : Type} → List Lf → (TV → List (List Seg) → List (List Seg) → Option α) → Option α}
    {e : {α : Type} → List TV → List Blk → (TV → List (List Seg) → List (List Seg) → Option α) → Option α} (h1 : RowOk P f (fun {α} => rowK tp bp (F (α := α)))) (h2 : RowOk P f e) :
    RowOk P f (fun {α} => rowE tp bp (F (α := α)) (e (α := α))) := by
  intro α args Bs k r h
  replace h : rowE tp bp F e args Bs k = some r := h
  simp only [rowE] at h
  split at h
  · rename_i l1 hl1
    split at h
    · rename_i l2 hl2
      refine h1 α args Bs k r ?_
      show rowK tp bp F args Bs k = some r
      simp only [rowK, hl1, hl2]; exact h
    · exact h2 α args Bs k r h
  · exact h2 α args Bs k r h
def FnOk (P : Program) (f : Nat) (tp : List TP) (bp : List BP) (F : {α : Type} → List Lf → (TV → List (List Seg) → List (List Seg) → Option α) → Option α) : Prop :=
  ∀ (α : Type) (ls : List Lf) (k : TV → List (List Seg) → List (List Seg) → Option α) (r : α), F ls k = some r →
    ∃ v Bs' Ns, k v Bs' Ns = some r ∧ FnS P f (fillT tp ls).1 (fillB bp (fillT tp ls).2).1 v Bs' Ns
theorem fn_ok {tab : Tab} {h : Hd} (ht : TabOk P tab) (hc : h.CallsOk P) (hm : P.follows .mixedOrders = true) {f : FuncId} {fn : Func} (hf : P.funcs[f]? = some fn)
    (hname : (fn.name == "runtime.NumGoroutine") = false) (hl : ∀ c, fn.body = some c → LoopsOk P h c) {tp : List TP} {bp : List BP}
    {F : {α : Type} → List Lf → (TV → List (List Seg) → List (List Seg) → Option α) → Option α}
    (hmain : ∀ (α : Type) ls (k : TV → List (List Seg) → List (List Seg) → Option α), F ls k = evFun tab h fn (fillT tp ls).1 (fillB bp (fillT tp ls).2).1 k) :
    FnOk P f tp bp F := by
  intro α ls k r h1
  replace h1 : F ls k = some r := h1
  rw [hmain] at h1
  exact evFun_sound ht hc hm hf hname hl h1
theorem row_of {f : FuncId} {tp : List TP} {bp : List BP} {F : {α : Type} → List Lf → (TV → List (List Seg) → List (List Seg) → Option α) → Option α} (h : FnOk P f tp bp F) :
    RowOk P f (fun {α} => rowK tp bp (F (α := α))) := by
  intro α args Bs k r hev
  obtain ⟨ls, h1, rfl, rfl⟩ := rowK_spec hev
  exact h α ls k r h1
end Go.Proofs.YtlmmgjngihlpeaaDoor.Sx
