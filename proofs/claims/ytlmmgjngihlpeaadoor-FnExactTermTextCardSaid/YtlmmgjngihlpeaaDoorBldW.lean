/- TermText's walk: a builder in a loop over nodes, by the contracts of what it calls. -/
import Derived.Test.YtlmmgjngihlpeaaDoorBldA
import Derived.Deep.RegionHeld3
namespace Go.Proofs.YtlmmgjngihlpeaaDoor.Sx
open Go Go.RowKit
set_option linter.unusedVariables false
set_option maxHeartbeats 4000000
set_option maxRecDepth 100000
theorem keepX {B0 : Nat} {W0 w' w2 : World} {b : Nat} {v0 v1 v2 v3 v4 : Value} (k : Below w'.heap.size w' w2)
    (h : Below B0 W0 w' ∧ B0 ≤ w'.heap.size ∧ b < w'.heap.size ∧ w'.cell? ⟨b, 0, none⟩ = some v0 ∧ w'.cell? ⟨b, 1, none⟩ = some v1 ∧ w'.cell? ⟨b, 2, none⟩ = some v2 ∧ w'.cell? ⟨b, 3, none⟩ = some v3 ∧ w'.cell? ⟨b, 4, none⟩ = some v4) :
    Below B0 W0 w2 ∧ B0 ≤ w2.heap.size ∧ b < w2.heap.size ∧ w2.cell? ⟨b, 0, none⟩ = some v0 ∧ w2.cell? ⟨b, 1, none⟩ = some v1 ∧ w2.cell? ⟨b, 2, none⟩ = some v2 ∧ w2.cell? ⟨b, 3, none⟩ = some v3 ∧ w2.cell? ⟨b, 4, none⟩ = some v4 := by
  obtain ⟨h0, h1, h2, h⟩ := h
  have hs := k.size
  have hc : ∀ o, w2.cell? ⟨b, o, none⟩ = w'.cell? ⟨b, o, none⟩ := fun o => World.cell?_of_block (k.block b h2)
  rw [hc, hc, hc, hc, hc]
  exact ⟨h0.trans (k.mono h1), by omega, by omega, h⟩
theorem keepY {B0 : Nat} {W0 w' w2 : World} {b e d : Nat} {v0 v1 v2 v3 v4 : Value} (k : Below B0 w' w2) (ko : Lib.OthersKept e (some d) w' w2) (hbd : b ≠ d) (hT : ∃ cs T fz, w'.heap[b]? = some (.cells cs T fz) ∧ T ≠ e)
    (h : Below B0 W0 w' ∧ B0 ≤ w'.heap.size ∧ b < w'.heap.size ∧ w'.cell? ⟨b, 0, none⟩ = some v0 ∧ w'.cell? ⟨b, 1, none⟩ = some v1 ∧ w'.cell? ⟨b, 2, none⟩ = some v2 ∧ w'.cell? ⟨b, 3, none⟩ = some v3 ∧ w'.cell? ⟨b, 4, none⟩ = some v4) :
    Below B0 W0 w2 ∧ B0 ≤ w2.heap.size ∧ b < w2.heap.size ∧ w2.cell? ⟨b, 0, none⟩ = some v0 ∧ w2.cell? ⟨b, 1, none⟩ = some v1 ∧ w2.cell? ⟨b, 2, none⟩ = some v2 ∧ w2.cell? ⟨b, 3, none⟩ = some v3 ∧ w2.cell? ⟨b, 4, none⟩ = some v4 := by
  obtain ⟨h0, h1, h2, h⟩ := h
  have hs := k.size
  obtain ⟨cs, T, fz, hb, hne⟩ := hT
  have hb2 := ko b _ hb (by simpa using hbd) (fun c f e => by injection e with _ e _; exact hne e)
  have hc : ∀ o, w2.cell? ⟨b, o, none⟩ = w'.cell? ⟨b, o, none⟩ := fun o => World.cell?_of_block (hb2.trans hb.symm)
  rw [hc, hc, hc, hc, hc]
  exact ⟨h0.trans k, by omega, by omega, h⟩
theorem startX {B0 : Nat} {W0 w : World} {T : TypeId} {v0 v1 v2 v3 v4 : Value} (h : Below B0 W0 w) (hB : B0 ≤ w.heap.size) :
    Below B0 W0 (w.alloc (.cells #[v0, v1, v2, v3, v4] T)).drew ∧ B0 ≤ (w.alloc (.cells #[v0, v1, v2, v3, v4] T)).drew.heap.size ∧ w.heap.size < (w.alloc (.cells #[v0, v1, v2, v3, v4] T)).drew.heap.size ∧
    (w.alloc (.cells #[v0, v1, v2, v3, v4] T)).drew.cell? ⟨w.heap.size, 0, none⟩ = some v0 ∧
    (w.alloc (.cells #[v0, v1, v2, v3, v4] T)).drew.cell? ⟨w.heap.size, 1, none⟩ = some v1 ∧ (w.alloc (.cells #[v0, v1, v2, v3, v4] T)).drew.cell? ⟨w.heap.size, 2, none⟩ = some v2 ∧ (w.alloc (.cells #[v0, v1, v2, v3, v4] T)).drew.cell? ⟨w.heap.size, 3, none⟩ = some v3 ∧
    (w.alloc (.cells #[v0, v1, v2, v3, v4] T)).drew.cell? ⟨w.heap.size, 4, none⟩ = some v4 := by
  have hc : ∀ o, (w.alloc (.cells #[v0, v1, v2, v3, v4] T)).drew.cell? ⟨w.heap.size, o, none⟩ = #[v0, v1, v2, v3, v4][o]? := fun o => Lib.cell_of_heap (heap_alloc_new w _) o
  rw [hc, hc, hc, hc, hc]
  exact ⟨(h.alloc hB _).drew, by simp; omega, by simp, rfl, rfl, rfl, rfl, rfl⟩
theorem tt_walk (u : List (List Int)) (blk off cap : Nat) (w : World) (hblk : blk < w.heap.size) (hu : u ≠ []) (hul : u.length ≤ 40)
    (ln : List Int → ByteArray) (it : Int → ByteArray) (nt : Int → Int → Int → ByteArray → ByteArray → ByteArray)
    (hln : ∀ x ∈ u, ln x = nt (x.getD 0 0) (x.getD 3 0) (x.getD 4 0) (it (x.getD 1 0)) (it (x.getD 2 0)) ++ ⟨#[10]⟩ ∧ (ln x).size ≤ 1000000)
    (hcells : ∀ i (h : i < u.length), w.cell? ⟨blk, off + i * 5, none⟩ = some (.int .i8 (u[i].getD 0 0)) ∧ w.cell? ⟨blk, off + i * 5 + 1, none⟩ = some (.int .i16 (u[i].getD 1 0)) ∧
      w.cell? ⟨blk, off + i * 5 + 2, none⟩ = some (.int .i16 (u[i].getD 2 0)) ∧ w.cell? ⟨blk, off + i * 5 + 3, none⟩ = some (.int .i64 (u[i].getD 3 0)) ∧ w.cell? ⟨blk, off + i * 5 + 4, none⟩ = some (.int .i64 (u[i].getD 4 0)))
    (hw : ∀ x ∈ u, IntKind.wrap .i64 (x.getD 1 0) = x.getD 1 0 ∧ IntKind.wrap .i64 (x.getD 2 0) = x.getD 2 0)
    (hV : ∀ w', Below w.heap.size w w' → Calls Tryd.prog 40 #[.slice (some ⟨blk, off, none⟩) u.length cap] w' fun e w2 => e = .returned (.bool true) ∧ Below w'.heap.size w' w2)
    (hI : ∀ x ∈ u, ∀ w', Below w.heap.size w w' → (Calls Tryd.prog 43 #[.int .i64 (x.getD 1 0)] w' fun e w2 => e = .returned (.string (it (x.getD 1 0))) ∧ Below w'.heap.size w' w2) ∧
      (Calls Tryd.prog 43 #[.int .i64 (x.getD 2 0)] w' fun e w2 => e = .returned (.string (it (x.getD 2 0))) ∧ Below w'.heap.size w' w2))
    (hN : ∀ x ∈ u, ∀ w', Below w.heap.size w w' → Calls Tryd.prog 42 #[.int .i8 (x.getD 0 0), .int .i64 (x.getD 3 0), .int .i64 (x.getD 4 0), .string (it (x.getD 1 0)), .string (it (x.getD 2 0))] w' fun e w2 =>
      e = .returned (.string (nt (x.getD 0 0) (x.getD 3 0) (x.getD 4 0) (it (x.getD 1 0)) (it (x.getD 2 0)))) ∧ Below w'.heap.size w' w2) :
    Calls Tryd.prog 10 #[.slice (some ⟨blk, off, none⟩) u.length cap] w fun e w' => e = .returned (.string (u.foldl (fun s x => s ++ ln x) ⟨#[]⟩)) ∧ Below w.heap.size w w' := by
  have hsize : ∀ k, ((u.take k).foldl (fun s x => s ++ ln x) (⟨#[]⟩ : ByteArray)).size ≤ k * 1000000 := by
    intro k
    induction k with
    | zero => exact Nat.zero_le _
    | succ k ih =>
      by_cases hlt : k < u.length
      · rw [List.take_succ_eq_append_getElem hlt, List.foldl_append]
        have := (hln _ (List.getElem_mem hlt)).2
        simp only [List.foldl_cons, List.foldl_nil, ByteArray.size_append]
        omega
      · rw [List.take_of_length_le (show u.length ≤ k + 1 from Nat.le_succ_of_le (Nat.le_of_not_lt hlt))]
        rw [List.take_of_length_le (Nat.le_of_not_lt hlt)] at ih
        exact Nat.le_trans ih (Nat.mul_le_mul_right _ (Nat.le_succ k))
  go_enter Tryd.func10, Tryd.ntmps10
  go_wp2_with (go_at_call 40; refine (hV _ (Below.refl _ _)).mono ?_)
  rintro e w1 ⟨rfl, hb1⟩
  go_wp2
  have hsz1 := hb1.size
  go_loopw [12] (fun i wr => ∃ k : Nat, k ≤ u.length ∧ i = .int .i64 k ∧ Lib.IsBuilderF 66 5 w1.heap.size w1.heap.size (Lib.strCells ((u.take k).foldl (fun s x => s ++ ln x) ⟨#[]⟩)) wr ∧ Below w1.heap.size w1 wr)
    (fun i _ => u.length - (intOf i).toNat)
  case atStart =>
    refine ⟨0, Nat.zero_le _, rfl, ?_, (Below.refl _ w1).alloc (Nat.le_refl _) _⟩
    exact Lib.IsBuilderF.of (Lib.fresh_isBuilder 66 5 w1)
  case round =>
    obtain ⟨k, hk, hi, hB, hbw⟩ := hrel
    subst hi
    have hbw0 : Below w.heap.size w wr := hb1.trans (hbw.mono hsz1)
    have hcell : ∀ o, wr.cell? ⟨blk, o, none⟩ = w.cell? ⟨blk, o, none⟩ := fun o => World.cell?_of_block (hbw0.block blk hblk)
    by_cases hlt : k < u.length
    · obtain ⟨c0, c1, c2, c3, c4⟩ := hcells k hlt
      have hxm : u[k] ∈ u := List.getElem_mem hlt
      obtain ⟨hw1, hw2⟩ := hw _ hxm
      have hlx := hln _ hxm
      have hIx := hI _ hxm
      have hNx := hN _ hxm
      have hszk := hsize k
      have hstep : (u.take (k + 1)).foldl (fun s x => s ++ ln x) (⟨#[]⟩ : ByteArray) = (u.take k).foldl (fun s x => s ++ ln x) (⟨#[]⟩ : ByteArray) ++ ln u[k] := by
        rw [List.take_succ_eq_append_getElem hlt, List.foldl_append]; rfl
      rw [← hcell] at c0 c1 c2 c3 c4
      generalize u[k].getD 0 0 = kd at *
      generalize u[k].getD 1 0 = xa at *
      generalize u[k].getD 2 0 = xb at *
      generalize u[k].getD 3 0 = xp at *
      generalize u[k].getD 4 0 = xq at *
      have hlsz := hlx.2
      have hlH : Hid (ln u[k] = nt kd xp xq (it xa) (it xb) ++ ⟨#[10]⟩) := hlx.1
      have hntz : (nt kd xp xq (it xa) (it xb)).size + 1 = (ln u[k]).size := by rw [hlx.1, ByteArray.size_append]; rfl
      have hB2 : Hid (Lib.IsBuilderF 66 5 w1.heap.size w1.heap.size (Lib.strCells ((u.take k).foldl (fun s x => s ++ ln x) ⟨#[]⟩)) wr) := hB
      have hstH : Hid ((u.take (k + 1)).foldl (fun s x => s ++ ln x) (⟨#[]⟩ : ByteArray) = (u.take k).foldl (fun s x => s ++ ln x) (⟨#[]⟩ : ByteArray) ++ ln u[k]) := hstep
      have hbsz := hbw.size
      have hrlt : w1.heap.size < wr.heap.size := by
        rcases hB with h | h <;> exact h.lt
      have hcat : ∀ W : World, (Op.stringOp .add (nt kd xp xq (it xa) (it xb)) ⟨#[10]⟩).run Tryd.prog W = .ok (.string (ln u[k])) W := fun W => by
        rw [run_string_add_sum W _ _ (by show _ + 1 ≤ _; omega), hlx.1]
      have hX : ∀ w', Below w1.heap.size w1 w' → Below w.heap.size w w' := fun w' h => hb1.trans (h.mono hsz1)
      clear hI hN hw hcells hV hln hcell hlx hsize hB hstep
      go_wp2
      go_region_held3 (fun w' => Below w1.heap.size w1 w' ∧ w1.heap.size ≤ w'.heap.size ∧ wr.heap.size < w'.heap.size ∧
          w'.cell? ⟨wr.heap.size, 0, none⟩ = some (.int .i8 kd) ∧ w'.cell? ⟨wr.heap.size, 1, none⟩ = some (.int .i16 xa) ∧ w'.cell? ⟨wr.heap.size, 2, none⟩ = some (.int .i16 xb) ∧ w'.cell? ⟨wr.heap.size, 3, none⟩ = some (.int .i64 xp) ∧ w'.cell? ⟨wr.heap.size, 4, none⟩ = some (.int .i64 xq))
        (first | exact startX hbw hbsz | exact keepX (by assumption) (by assumption) | exact keepY (by assumption) (by assumption) (by omega) ⟨_, _, _, by assumption, by decide⟩ (by assumption))
        (first
          | (go_at_call_of 43 (Value.int .i64 xa); refine ((hIx _ ?_).1).mono ?_; (exact hX _ (And.left (by assumption))); rintro e wA ⟨rfl, hbA⟩)
          | (go_at_call_of 43 (Value.int .i64 xb); refine ((hIx _ ?_).2).mono ?_; (exact hX _ (And.left (by assumption))); rintro e wB ⟨rfl, hbB⟩)
          | (go_at_call 42; refine (hNx _ ?_).mono ?_; (exact hX _ (And.left (by assumption))); rintro e wC ⟨rfl, hbC⟩)
          | (go_at_call 41; refine (bld_write w1.heap.size w1.heap.size _ _ _ (bldKeep (bldKeep (bldKeep (bldDrew (bldAlloc hB2.out _)) hbA) hbB) hbC) ?_ ?_).mono ?_; (rw [Lib.strCells_length]; omega); (omega); rintro e wD ⟨rfl, hbD, hbD2, hbD3⟩; have hT := blkKeep (blkKeep (blkKeep (blkNew wr _) hbA) hbB) hbC))
      go_wp2
      go_roundw
      case rel =>
        refine ⟨k + 1, by omega, rfl, ?_, And.left (by assumption)⟩
        rw [hstH.out, strCells_app]
        exact hbD
      case measure =>
        simp [intOf]
        omega
    · obtain rfl : k = u.length := by omega
      have hBs : Lib.IsBuilderF 66 5 w1.heap.size w1.heap.size (Lib.byteCells ((u.take u.length).foldl (fun s x => s ++ ln x) (⟨#[]⟩ : ByteArray)).data.toList) wr := hB
      clear hI hN hw hcells hV hln hcell
      go_wp2_with (go_at_call 44; refine (Any.Builder_String_any_k Tryd.lays169 Tryd.Builder_Extra_169 w1.heap.size w1.heap.size _ _ hBs hbw.size).mono ?_)
      rintro e W1 ⟨rfl, _, b1, _⟩
      go_wp2
      go_ret
      exact ⟨rfl, hbw0.trans (b1.mono hsz1)⟩
theorem tt_bad (v : Value) (w : World) (hV : Calls Tryd.prog 40 #[v] w fun e w2 => e = .returned (.bool false) ∧ Below w.heap.size w w2) :
    Calls Tryd.prog 10 #[v] w fun e w' => e = .returned (.string ⟨#[]⟩) ∧ Below w.heap.size w w' := by
  go_enter Tryd.func10, Tryd.ntmps10
  go_wp2_with (go_at_call 40; refine hV.mono ?_)
  rintro e w1 ⟨rfl, hb1⟩
  go_wp2
  go_ret
  exact ⟨rfl, hb1⟩
end Go.Proofs.YtlmmgjngihlpeaaDoor.Sx
