/- A symbolic evaluator for the machine's code, part K: calls. Our own work. -/
import Derived.Test.YtlmmgjngihlpeaaDoorSxW
namespace Go.Proofs.YtlmmgjngihlpeaaDoor.Sx
open Go
set_option linter.unusedVariables false
set_option linter.unusedSimpArgs false
variable {P : Program}
def SV.ren (ρ : Nat → Nat) : SV → SV
  | .ptr b o => .ptr (ρ b) o
  | .el b o s i f => .el (ρ b) o s i f
  | .slc b o s lo len cap => .slc (ρ b) o s lo len cap
  | .clo f ps => .clo f (ps.map fun p => (ρ p.1, p.2))
  | .clb f b o => .clb f (ρ b) o
  | .gsl b s => .gsl (ρ b) s
  | .sla b o s lo len cap => .sla (ρ b) o s lo len cap
  | .mpp b => .mpp (ρ b)
  | x => x
def holeRen (ρ : Nat → Nat) : Option (Nat × Nat) → Option (Nat × Nat)
  | some p => some (p.1, ρ p.2)
  | none => none
def Seg.ren (ρ : Nat → Nat) : Seg → Seg
  | .one x => .one (x.ren ρ)
  | .rws E ll h => .rws E ll (holeRen ρ h)
  | s => s
def renL (ρ : Nat → Nat) (B : List Seg) : List Seg := B.map (Seg.ren ρ)
def Val.ren (ρ : Nat → Nat) : Val → Val
  | .sv x => .sv (x.ren ρ)
  | .agg l => .agg (renL ρ l)
def TV.ren (ρ : Nat → Nat) : TV → TV
  | .vl x => .vl (x.ren ρ)
  | .tup l => .tup (l.map (Val.ren ρ))
theorem SV.ren_R {ids : Ids} {ρ : Nat → Nat} {x : SV} {v : Value} : (x.ren ρ).R ids v ↔ x.R (fun b => ids (ρ b)) v := by
  cases x <;> simp [SV.ren, SV.R, List.map_map, Function.comp_def]
theorem SV.ren_nm {ρ : Nat → Nat} {x : SV} : (x.ren ρ).nm = x.nm.map ρ := by
  cases x <;> simp [SV.ren, SV.nm, List.map_map, Function.comp_def]
theorem SV.ren_id {ρ : Nat → Nat} {x : SV} (h : x.nm = []) : x.ren ρ = x := by
  cases x <;> simp_all [SV.ren, SV.nm]
theorem Seg.ren_cells {ρ : Nat → Nat} (s : Seg) : (s.ren ρ).cells = s.cells.map (SV.ren ρ) := by
  cases s with
  | one x => rfl
  | seq E n l =>
    simp only [Seg.ren, Seg.cells]
    rw [List.map_flatMap]
    congr 1
    funext z
    conv => lhs; rw [← List.map_id (E.enc z)]
    exact List.map_congr_left fun y hy => (SV.ren_id (enc_nm E z y hy)).symm
  | gro E l =>
    simp only [Seg.ren, Seg.cells]
    rw [List.map_flatMap]
    congr 1
    funext z
    conv => lhs; rw [← List.map_id (E.enc z)]
    exact List.map_congr_left fun y hy => (SV.ren_id (enc_nm E z y hy)).symm
  | mp => rfl
  | rws => rfl
theorem Seg.ren_ok {ρ : Nat → Nat} {s : Seg} : (s.ren ρ).ok ↔ s.ok := by cases s <;> rfl
theorem Seg.ren_nm {ρ : Nat → Nat} {s : Seg} : (s.ren ρ).nm = s.nm.map ρ := by
  cases s with
  | one x => exact SV.ren_nm
  | seq E n l => rfl
  | gro E l => rfl
  | mp => rfl
  | rws E ll h => cases h <;> rfl
theorem renL_cells {ρ : Nat → Nat} (B : List Seg) : cellsL (renL ρ B) = (cellsL B).map (SV.ren ρ) := by
  simp only [cellsL, renL, List.flatMap_map, List.map_flatMap]
  congr 1; funext s; exact s.ren_cells
theorem renL_ok {ρ : Nat → Nat} {B : List Seg} : oksL (renL ρ B) ↔ oksL B := by
  simp only [oksL, renL, List.mem_map]
  constructor
  · intro h s hs; exact Seg.ren_ok.1 (h _ ⟨s, hs, rfl⟩)
  · rintro h _ ⟨s, hs, rfl⟩; exact Seg.ren_ok.2 (h s hs)
theorem renL_nm {ρ : Nat → Nat} (B : List Seg) : nmL (renL ρ B) = (nmL B).map ρ := by
  simp only [nmL, renL, List.flatMap_map, List.map_flatMap]
  congr 1; funext s; exact Seg.ren_nm
theorem CR.ren {ids : Ids} {ρ : Nat → Nat} : ∀ {xs : List SV} {vs : List Value}, CR ids (xs.map (SV.ren ρ)) vs ↔ CR (fun b => ids (ρ b)) xs vs
  | [], [] => Iff.rfl
  | x :: xs, v :: vs => by simp only [List.map_cons, CR]; rw [SV.ren_R, CR.ren]
  | [], _ :: _ => Iff.rfl
  | _ :: _, [] => Iff.rfl
theorem Val.ren_R {ids : Ids} {ρ : Nat → Nat} {x : Val} {v : Value} : (x.ren ρ).R ids v ↔ x.R (fun b => ids (ρ b)) v := by
  cases x with
  | sv x => exact SV.ren_R
  | agg l => simp only [Val.ren, Val.R, renL_ok, renL_cells, CR.ren]
theorem Val.ren_nm {ρ : Nat → Nat} {x : Val} : (x.ren ρ).nm = x.nm.map ρ := by
  cases x with
  | sv x => exact SV.ren_nm
  | agg l => exact renL_nm l
theorem VsR.ren {ids : Ids} {ρ : Nat → Nat} : ∀ {xs : List Val} {vs : List Value}, VsR ids (xs.map (Val.ren ρ)) vs ↔ VsR (fun b => ids (ρ b)) xs vs
  | [], [] => Iff.rfl
  | x :: xs, v :: vs => by simp only [List.map_cons, VsR]; rw [Val.ren_R, VsR.ren]
  | [], _ :: _ => Iff.rfl
  | _ :: _, [] => Iff.rfl
theorem TV.ren_R {ids : Ids} {ρ : Nat → Nat} {x : TV} {v : Value} : (x.ren ρ).R ids v ↔ x.R (fun b => ids (ρ b)) v := by
  cases x with
  | vl x => exact Val.ren_R
  | tup l => simp only [TV.ren, TV.R, VsR.ren]
theorem TV.ren_nm {ρ : Nat → Nat} {x : TV} : (x.ren ρ).nm = x.nm.map ρ := by
  cases x with
  | vl x => exact Val.ren_nm
  | tup l =>
    simp only [TV.ren, TV.nm, List.flatMap_map, List.map_flatMap]
    congr 1; funext y; exact Val.ren_nm
theorem foot_ren {w : World} {p : Nat × Nat × Nat × Nat} {ρ : Nat → Nat} (B : List Seg) : foot w p (renL ρ B) = foot w p B := by
  have hh : ∀ (h : Option (Nat × Nat)) (n : Nat), footR w p (holeRen ρ h) n = footR w p h n := by
    intro h n
    induction n with
    | zero => rfl
    | succ n ih => simp only [footR, ih]; congr 1; cases h <;> rfl
  cases B with
  | nil => rfl
  | cons s r =>
    cases r with
    | nil => cases s <;> first | rfl | (simp only [renL, List.map_cons, List.map_nil, Seg.ren, foot]; rw [hh])
    | cons s' r' => cases s <;> rfl
theorem noRws_ren {ρ : Nat → Nat} (B : List Seg) : noRws (renL ρ B) = noRws B := by
  cases B with
  | nil => rfl
  | cons s r =>
    cases r with
    | nil => cases s <;> rfl
    | cons s' r' => cases s <;> rfl
theorem RwsR.ren {ids ids' : Ids} {w : World} {b c : Nat} {ρ : Nat → Nat} {B : List Seg} (h : RwsR ids w b B) (hb : ids' c = ids b) (hn : ∀ d ∈ nmL B, ids' (ρ d) = ids d) : RwsR ids' w c (renL ρ B) := by
  cases B with
  | nil => trivial
  | cons s r =>
    cases r with
    | cons s' r' => cases s <;> trivial
    | nil =>
      cases s with
      | rws E ll hh =>
        obtain ⟨h1, h2, h3⟩ := h
        refine ⟨by rw [hb]; exact h1, ?_, fun j l hl => ?_⟩
        · have := foot_ren (w := w) (p := ids' c) (ρ := ρ) [.rws E ll hh]
          simp only [renL, List.map_cons, List.map_nil, Seg.ren] at this
          rw [this, hb]; exact h2
        · obtain ⟨v, v1, v2, v3⟩ := h3 j l hl
          refine ⟨v, by rw [hb]; exact v1, by rw [hb]; exact v2, ?_⟩
          cases hh with
          | none => exact v3
          | some p =>
            simp only [holeRen] at v3 ⊢
            cases hq : Nat.beq p.1 j with
            | true =>
              rw [hq] at v3
              have hp := hn p.2 (by simp [nmL, Seg.nm])
              simp only [cond_true, SV.R] at v3 ⊢
              rw [hp]; exact v3
            | false => rw [hq] at v3; exact v3
      | _ => trivial
def hwOf (w : World) (ids : Ids) : List Blk → Nat → List Nat
  | [], _ => []
  | B :: r, i => foot w (ids i) B.2 ++ hwOf w ids r (i + 1)
def inB (w : World) (ids : Ids) (b : Nat) (B : List Seg) (g : Nat) : Prop := (Lv B ∧ g = (ids b).1) ∨ g ∈ foot w (ids b) B
structure HRep (ids : Ids) (Bs : List Blk) (w : World) : Prop where
  blk : ∀ (i : Nat) (B : Blk), Bs[i]? = some B → BlkR ids w i B
  sep : ∀ (i j : Nat) (B : List Seg) (C : Blk), Bs[i]? = some (true, B) → Bs[j]? = some C → i ≠ j → Lv B → Lv C.2 → (ids i).1 ≠ (ids j).1
  cl : ∀ (i : Nat) (B : Blk), Bs[i]? = some B → ∀ b ∈ nmL B.2, b < Bs.length
  hid : Hid w (hwOf w ids Bs 0) ids (fun i => Bs[i]?) w
def TsR (ids : Ids) : List TV → List Value → Prop
  | [], [] => True
  | x :: xs, v :: vs => x.R ids v ∧ TsR ids xs vs
  | _, _ => False
def afterB : List Blk → List (List Seg) → List Blk
  | B :: r, C :: s => (B.1, cond B.1 C B.2) :: afterB r s
  | _, _ => []
def lvB : List Seg → Bool
  | [] => false
  | [.gro _ l] => !l.isEmpty
  | [.rws _ _ _] => false
  | _ => true
theorem lvB_iff {B : List Seg} : lvB B = true ↔ Lv B := by
  unfold lvB Lv
  split
  · simp
  · rename_i E l; cases l <;> simp
  · simp
  · rename_i h1 h2 h3
    split
    · exact (h1 rfl).elim
    · exact (h2 _ _ rfl).elim
    · exact (h3 _ _ _ rfl).elim
    · simp
theorem renL_Lv {ρ : Nat → Nat} {B : List Seg} : Lv (renL ρ B) ↔ Lv B := by
  cases B with
  | nil => exact Iff.rfl
  | cons s r =>
    cases r with
    | nil => cases s <;> exact Iff.rfl
    | cons s' r' => cases s <;> exact Iff.rfl
theorem GroR.ren {ρ : Nat → Nat} {g : Nat × Nat × Nat × Nat} {w : World} {wr : Bool} {B : List Seg} (h : GroR g w wr B) : GroR g w wr (renL ρ B) := by
  cases B with
  | nil => trivial
  | cons s r =>
    cases r with
    | nil => cases s <;> exact h
    | cons s' r' => cases s <;> trivial
def wrOf (ids : Ids) : List Blk → Nat → List Nat
  | [], _ => []
  | B :: r, i => cond (B.1 && lvB B.2) ((ids i).1 :: wrOf ids r (i + 1)) (wrOf ids r (i + 1))
def wrAll (w : World) (ids : Ids) (Bs : List Blk) : List Nat := wrOf ids Bs 0 ++ hwOf w ids Bs 0
structure RetOk (Bs : List Blk) (v : TV) (Bs' Ns : List (List Seg)) (ids : Ids) (w : World) (ids' : Ids) (cv : Value) (w' : World) : Prop where
  same : ∀ i, i < Bs.length → ids' i = ids i
  val : v.R ids' cv
  heap : HRep ids' (afterB Bs Bs' ++ Ns.map fun N => (true, N)) w'
  keeps : Keeps w w' (wrAll w ids Bs)
  shr : ∀ (i : Nat) (B C : List Seg), Bs[i]? = some (true, B) → Bs'[i]? = some C → Lv C → Lv B
  new : ∀ j N, Ns[j]? = some N → Lv N → w.heap.size ≤ (ids' (Bs.length + j)).1 ∨ (ids' (Bs.length + j)).1 ∈ wrAll w ids Bs
  hnew : ∀ i B, (afterB Bs Bs' ++ Ns.map fun N => (true, N))[i]? = some B → ∀ g ∈ foot w' (ids' i) B.2, w.heap.size ≤ g ∨ g ∈ wrAll w ids Bs
  nm : ∀ b ∈ v.nm, b < Bs.length + Ns.length
def FnS (P : Program) (f : FuncId) (args : List TV) (Bs : List Blk) (v : TV) (Bs' Ns : List (List Seg)) : Prop :=
  Bs'.length = Bs.length ∧ (∃ fn, P.funcs[f]? = some fn ∧ fn.body.isSome = true ∧ (fn.name == "runtime.NumGoroutine") = false) ∧
  ∀ (ids : Ids) (w : World) (cargs : List Value), HRep ids Bs w → TsR ids args cargs → (∀ x ∈ args, ∀ b ∈ x.nm, b < Bs.length) → Bs.length ≤ 1000 → GlobOk w (wrAll w ids Bs) →
    Calls P f cargs.toArray w fun e w' => ∃ ids' cv, e = .returned cv ∧ RetOk Bs v Bs' Ns ids w ids' cv w'
structure Hd where
  call : {α : Type} → Nat → List TV → List Blk → (TV → List (List Seg) → List (List Seg) → Option α) → Option α
  loop : {α : Type} → Nat → St → (Ex → St → Option α) → Option α
  ro : Nat → List Nat
def Hd.CallsOk (P : Program) (h : Hd) : Prop :=
  ∀ (α : Type) (f : Nat) (args : List TV) (Bs : List Blk) (k : TV → List (List Seg) → List (List Seg) → Option α) (r : α), h.call f args Bs k = some r →
    ∃ v Bs' Ns, k v Bs' Ns = some r ∧ FnS P f args Bs v Bs' Ns
def gather (H : Nat → Option Blk) : Nat → List Nat → List Nat → List Nat
  | 0, _, acc => acc
  | _ + 1, [], acc => acc
  | n + 1, b :: r, acc => cond (has acc b) (gather H n r acc) (gather H n (r ++ (match H b with | some B => nmL B.2 | none => [])) (acc ++ [b]))
def idx : List Nat → Nat → Nat
  | [], _ => 0
  | c :: r, b => cond (Nat.beq b c) 0 (idx r b + 1)
def nodupB : List Nat → Bool
  | [] => true
  | b :: r => !(has r b) && nodupB r
def closedB (H : Nat → Option Blk) (names : List Nat) : Bool :=
  names.all fun b => match H b with | some B => (nmL B.2).all (has names) | none => false
def blkOf (H : Nat → Option Blk) (ρ : Nat → Nat) (b : Nat) : Blk :=
  match H b with
  | some B => (B.1, renL ρ B.2)
  | none => (false, [])
def outB (H : Nat → Option Blk) (ρ' : Nat → Nat) : List Nat → List (List Seg) → List (Nat × Blk)
  | b :: r, C :: s => match H b with
    | some (true, _) => (b, true, renL ρ' C) :: outB H ρ' r s
    | _ => outB H ρ' r s
  | _, _ => []
def outN (d : Nat) (ρ' : Nat → Nat) : List (List Seg) → Nat → List (Nat × Blk)
  | [], _ => []
  | N :: r, j => (nameOf d (j + 1), true, renL ρ' N) :: outN d ρ' r (j + 1)
def freshB (H : Nat → Option Blk) (d : Nat) : List (List Seg) → Nat → Bool
  | [], _ => true
  | _ :: r, j => (match H (nameOf d (j + 1)) with | none => true | some _ => false) && freshB H d r (j + 1)
def backTo (names : List Nat) (d : Nat) (i : Nat) : Nat := cond (Nat.blt i names.length) (names.getD i 0) (nameOf d (i - names.length + 1))
def demote (L : List Nat) (H : Nat → Option Blk) (b : Nat) : Option Blk :=
  match H b with
  | some B => some (B.1 && !(has L b), B.2)
  | none => none
def pickIdx (names : List Nat) : List Nat → List Nat
  | [] => []
  | i :: r => match nth names i with
    | some b => b :: pickIdx names r
    | none => pickIdx names r
theorem pickIdx_mem {names : List Nat} : ∀ {l : List Nat}, ∀ b ∈ pickIdx names l, b ∈ names
  | [], b, h => by cases h
  | i :: r, b, h => by
    simp only [pickIdx] at h
    split at h
    · rename_i c hc
      rcases List.mem_cons.1 h with rfl | h
      · rw [nth_eq] at hc; exact List.mem_of_getElem? hc
      · exact pickIdx_mem b h
    · exact pickIdx_mem b h
def roOk (H : Nat → Option Blk) (L : List Nat) : Bool := L.all fun b => match H b with | some B => noRws B.2 | none => true
section
variable {α : Type}
def evCall (h : Hd) (f : FuncId) (args : List TV) (dst : Option Tmp) (st : St) (k : Eff → Option α) : Option α :=
  match dst with
  | none => none
  | some d =>
    let names := gather st.H 80 (args.flatMap TV.nm) []
    cond (nodupB names && (closedB st.H names && ((args.flatMap TV.nm).all (has names) && (roOk st.H (pickIdx names (h.ro f)) && Nat.ble names.length 1000))))
      (h.call f (args.map (TV.ren (idx names))) (names.map (blkOf (demote (pickIdx names (h.ro f)) st.H) (idx names))) fun v Bs' Ns =>
        cond (freshB st.H d Ns 0) (k ⟨v.ren (backTo names d), names, outB (demote (pickIdx names (h.ro f)) st.H) (backTo names d) names Bs' ++ outN d (backTo names d) Ns 0⟩) none)
      none
end
end Go.Proofs.YtlmmgjngihlpeaaDoor.Sx
