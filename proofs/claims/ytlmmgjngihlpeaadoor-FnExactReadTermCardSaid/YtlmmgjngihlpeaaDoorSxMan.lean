/- Count, Split (at one byte) and ParseInt (at base 10, 64 bits), as functions of the evaluator's, by the library's contracts. Our own work. -/
import Derived.Test.YtlmmgjngihlpeaaDoorSxV0
import Derived.Test.YtlmmgjngihlpeaaDoorSxP
import Derived.Test.YtlmmgjngihlpeaaDoorShelf
import Derived.WalkKit
import Derived.BigCall
namespace Go.Proofs.YtlmmgjngihlpeaaDoor.Sx
open Go Go.Shelf Go.RowKit
set_option linter.unusedVariables false
set_option maxHeartbeats 2000000
set_option maxRecDepth 100000
def g107 {α : Type} (m : Nat) : S_g107 α := fun s sep k => match sep.data.toList with
  | [c] => k ((Lib.countByte s.data.toList c : Nat) : Int)
  | _ => none
theorem one_of {sep : ByteArray} {c : UInt8} (h : sep.data.toList = [c]) : sep = ⟨#[c]⟩ := by
  apply ByteArray.ext
  exact Array.toList_inj.1 h
theorem g107Ok (m : Nat) : RowOk Go.Proofs.Tryd.prog 107 (fun {α} => g107R (g107 m (α := α))) := by
  refine row_of (F := fun {α} => g107K (g107 m (α := α))) fun α ls k r h => ?_
  replace h : g107 m (lf ls 0).str (lf ls 1).str (fun y0 => k (.vl (.sv (.int .i64 y0))) [] []) = some r := h
  unfold g107 at h
  split at h
  · rename_i c hc
    refine ⟨_, _, _, h, fnS_pure (fn := Go.Proofs.Tryd.f107) (by kernel_rfl) (by kernel_rfl) (by kernel_rfl) rfl fun ids w cargs hH hA hg => ?_⟩
    obtain ⟨v1, v2, rfl⟩ : ∃ v1 v2, cargs = [v1, v2] := by
      match cargs, hA with
      | [v1, v2], _ => exact ⟨v1, v2, rfl⟩
    obtain rfl : v1 = .string (lf ls 0).str := hA.1
    obtain rfl : v2 = .string (lf ls 1).str := hA.2.1
    rw [one_of hc]
    refine (Any.strings_Count_one ({ Tryd.lays146 with } : Lays.n138 Tryd.prog Tryd.lays146_ren) (lf ls 0).str c w).mono ?_
    rintro e w' ⟨rfl, rfl⟩
    exact ⟨_, rfl, rfl, keeps_of (Below.refl _ _)⟩
  · cases h
def splitP (s : ByteArray) (c : UInt8) : List ByteArray := Lib.splitB ⟨#[c]⟩ 0 (Lib.countB s ⟨#[c]⟩) s
theorem splitP_len (s : ByteArray) (c : UInt8) : (splitP s c).length = Lib.countB s ⟨#[c]⟩ + 1 := Lib.splitB_all ⟨#[c]⟩ (Nat.le_refl 1) 0 _ s rfl
theorem split_one (s : ByteArray) (c : UInt8) (w : World) (hs : s.size < 4294967281) :
    Calls Tryd.prog 73 #[.string s, .string ⟨#[c]⟩] w fun e w' =>
      e = .returned (.slice (some ⟨w.heap.size, 0, none⟩) (splitP s c).length (splitP s c).length) ∧ w' = w.alloc (.cells ((splitP s c).map Value.string).toArray (Tryd.lays146_ren.t 9)) := by
  have h1 : 1 ≤ (⟨#[c]⟩ : ByteArray).size := Nat.le_refl 1
  have hle := Lib.countB_le ⟨#[c]⟩ h1 s.size s (Nat.le_refl _)
  have hlen := Lib.splitB_all ⟨#[c]⟩ h1 0 _ s rfl
  have hidx : ∀ x : ByteArray, Lib.indexB x ⟨#[c]⟩ = Lib.indexByte x.data.toList c := fun x => Lib.index_one _ _
  have hcnt : Lib.countB s ⟨#[c]⟩ = Lib.countByte s.data.toList c := Lib.count_one c _
  have C := Any.strings_genSplit_core ({ Tryd.lays146 with } : Lays.n221 Tryd.prog Tryd.lays146_ren) (by kernel_rfl) s ⟨#[c]⟩ 0 (-1) (Lib.countB s ⟨#[c]⟩ + 1) w hs h1 (Nat.zero_le _)
    (fun x cs hx => by
      rw [hidx]
      exact Any.strings_Index_one ({ Tryd.lays146 with } : Lays.n143 Tryd.prog Tryd.lays146_ren) x c _)
    (by
      rw [hcnt]
      exact Any.strings_Count_one ({ Tryd.lays146 with } : Lays.n138 Tryd.prog Tryd.lays146_ren) s c w)
    (by decide) (by decide) (by rw [if_pos (by decide)]; omega)
  rw [Nat.add_sub_cancel, hlen] at C
  have e2 : Lib.cellsOf (Lib.splitB ⟨#[c]⟩ 0 (Lib.countB s ⟨#[c]⟩) s) (Lib.countB s ⟨#[c]⟩ + 1) = ((Lib.splitB ⟨#[c]⟩ 0 (Lib.countB s ⟨#[c]⟩) s).map Value.string).toArray := by rw [← hlen]; exact Lib.cellsOf_full _
  rw [e2] at C
  rw [splitP_len]
  clear hcnt hidx e2 hlen hle
  go_enter Tryd.func73, Tryd.ntmps73
  go_wp2_with (go_at_call 110; refine C.mono ?_; rintro e w' ⟨rfl, hw⟩; rw [hw])
  go_ret
  exact ⟨rfl, rfl⟩
def g73 {α : Type} (m : Nat) : S_g73 α := fun s sep k => match sep.data.toList with
  | [c] => if s.size < 4294967281 then k (splitP s c).length (splitP s c).length (splitP s c).length (splitP s c) else none
  | _ => none
theorem g73Ok (m : Nat) : RowOk Go.Proofs.Tryd.prog 73 (fun {α} => g73R (g73 m (α := α))) := by
  refine row_of (F := fun {α} => g73K (g73 m (α := α))) fun α ls k r h => ?_
  replace h : g73 m (lf ls 0).str (lf ls 1).str (fun y1 y2 y3 y4 => k (.vl (.sv (.slc 0 0 1 0 y1 y2))) [] [[(.seq .str y3 y4)]]) = some r := h
  unfold g73 at h
  split at h
  · rename_i c hc
    split at h
    · rename_i hsz
      refine ⟨_, _, _, h, fnS_new (fn := Go.Proofs.Tryd.f73) (by kernel_rfl) (by kernel_rfl) (by kernel_rfl) (by intro b hb; simpa [TV.nm, Val.nm, SV.nm] using hb) rfl rfl fun ids w cargs hA hg => ?_⟩
      obtain ⟨v1, v2, rfl⟩ : ∃ v1 v2, cargs = [v1, v2] := by
        match cargs, hA with
        | [v1, v2], _ => exact ⟨v1, v2, rfl⟩
      obtain rfl : v1 = .string (lf ls 0).str := hA.1
      obtain rfl : v2 = .string (lf ls 1).str := hA.2.1
      rw [one_of hc]
      refine (split_one (lf ls 0).str c w hsz).mono ?_
      rintro e w' ⟨rfl, rfl⟩
      have hob := heap_alloc_new w (.cells ((splitP (lf ls 0).str c).map Value.string).toArray (Tryd.lays146_ren.t 9))
      refine ⟨_, w.heap.size, rfl, Nat.le_refl _, fun ids' h0 => ⟨?_, ?_⟩, keeps_of ((Below.refl _ w).alloc (Nat.le_refl _) _)⟩
      · show _ = Value.slice (some ⟨(ids' 0).1, (ids' 0).2.1 + (0 + 0 * 1), none⟩) _ _
        rw [h0]
      · refine ⟨?_, trivial, fun _ => ?_, fun j x hx => ?_⟩
        · intro s hs
          simp only [List.mem_singleton] at hs
          subst hs
          rfl
        · rw [h0]; simp
        · have hcl : cellsL [Seg.seq .str (splitP (lf ls 0).str c).length (splitP (lf ls 0).str c)] = (splitP (lf ls 0).str c).map SV.str := by
            simp only [cellsL, Seg.cells, List.flatMap_cons, List.flatMap_nil, List.append_nil]
            have : ∀ l : List ByteArray, l.flatMap EK.str.enc = l.map SV.str := by
              intro l
              induction l with
              | nil => rfl
              | cons a l ih => rw [List.flatMap_cons, ih]; rfl
            exact this _
          rw [hcl, List.getElem?_map] at hx
          simp only [Option.map_eq_some_iff] at hx
          obtain ⟨y, hy, rfl⟩ := hx
          rw [h0]
          refine ⟨.string y, ?_, rfl, fun _ => ?_⟩
          · rw [Nat.zero_add]
            rw [Lib.cell_of_heap hob]
            simp [hy]
          · rw [Nat.zero_add]
            exact Lib.frozen_of_heap hob _
    · cases h
  · cases h
def g124 {α : Type} (m : Nat) : S_g124 α := fun s base bits k e =>
  if base = 10 ∧ bits = 64 ∧ s.size ≤ 281474976710656 then (match Lib.parseIntB 64 s.data.toList with
    | .ok v => k v
    | .range => e (Lib.intSat 64 s.data.toList)
    | _ => e 0) else none
theorem glob_cell {w : World} {g : Nat} (hg : GlobOk w []) (h : g ∈ globI) : ∃ ev, w.cell? ⟨g, 0, none⟩ = some ev ∧ (ev = .nilIface ∨ ∃ te pe, ev = .iface te pe) := by
  obtain ⟨_, _, t, v, h1⟩ := hg.2 g h
  exact ⟨_, h1, .inr ⟨t, v, rfl⟩⟩
theorem g124Ok (m : Nat) : RowOk Go.Proofs.Tryd.prog 124 (fun {α} => g124R (g124 m (α := α))) := by
  refine row_of (F := fun {α} => g124K (g124 m (α := α))) fun α ls k r h => ?_
  replace h : g124 m (lf ls 0).str (lf ls 1).int (lf ls 2).int (fun y0 => k (.tup [(.sv (.int .i64 y0)), (.sv .nili)]) [] []) (fun y0 => k (.tup [(.sv (.int .i64 y0)), (.sv .ifo)]) [] []) = some r := h
  unfold g124 at h
  split at h
  · rename_i hc
    have hargs : ∀ (v : TV) (hv : v.nm = []), (∀ (ids : Ids) (w : World), GlobOk w [] → Calls Tryd.prog 124 #[.string (lf ls 0).str, .int .i64 10, .int .i64 64] w fun e w' => ∃ cv, e = .returned cv ∧ v.R ids cv ∧ Keeps w w' []) →
        FnS Go.Proofs.Tryd.prog 124 (fillT g124tp ls).1 (fillB g124bp (fillT g124tp ls).2).1 v [] [] := by
      intro v hv H
      refine fnS_pure (Bs := []) (fn := Go.Proofs.Tryd.f124) (by kernel_rfl) (by kernel_rfl) (by kernel_rfl) hv fun ids w cargs hH hA hg => ?_
      obtain ⟨v1, v2, v3, rfl⟩ : ∃ v1 v2 v3, cargs = [v1, v2, v3] := by
        match cargs, hA with
        | [v1, v2, v3], _ => exact ⟨v1, v2, v3, rfl⟩
      obtain rfl : v1 = .string (lf ls 0).str := hA.1
      obtain rfl : v2 = .int .i64 (lf ls 1).int := hA.2.1
      obtain rfl : v3 = .int .i64 (lf ls 2).int := hA.2.2.1
      rw [hc.1, hc.2.1]
      exact H ids w hg.sub
    split at h
    · rename_i v hp
      refine ⟨_, _, _, h, hargs _ rfl fun ids w hg => (Any.strconv_ParseInt_10_at64_ok Tryd.laysC174 (lf ls 0).str (by omega) v hp w).mono ?_⟩
      rintro e w' ⟨rfl, hw⟩
      refine ⟨_, rfl, ⟨_, rfl, rfl, rfl, trivial⟩, ?_⟩
      rcases hw with rfl | ⟨t, rfl⟩
      · exact keeps_of (Below.refl _ _)
      · exact keeps_of ⟨rfl, rfl, rfl, by rw [Lib.bytesWorld_size]; omega, fun k hk => Lib.bytesWorld_at_old w _ _ k hk⟩
    · rename_i hp
      refine ⟨_, _, _, h, hargs _ rfl fun ids w hg => ?_⟩
      obtain ⟨ev, he, hev⟩ := glob_cell (g := Tryd.laysC174_ren.g 16) hg (by decide)
      refine (Any.strconv_ParseInt_10_at64_range Tryd.laysC174 (lf ls 0).str hc.2.2 hp ev w he hev).mono ?_
      rintro e w' ⟨N, rfl, _, _, hb⟩
      exact ⟨_, rfl, ⟨_, rfl, rfl, ⟨_, _, rfl⟩, trivial⟩, keeps_of hb⟩
    · rename_i n1 n2
      rcases hp : Lib.parseIntB 64 (lf ls 0).str.data.toList with v | _ | _
      · exact absurd hp (n1 v)
      rotate_left
      · exact absurd hp n2
      refine ⟨_, _, _, h, hargs _ rfl fun ids w hg => ?_⟩
      obtain ⟨ev, he, hev⟩ := glob_cell (g := Tryd.laysC174_ren.g 15) hg (by decide)
      refine (Any.strconv_ParseInt_10_at64_syntax Tryd.laysC174 (lf ls 0).str hc.2.2 hp ev w he hev).mono ?_
      rintro e w' ⟨N, rfl, _, _, hb⟩
      exact ⟨_, rfl, ⟨_, rfl, rfl, ⟨_, _, rfl⟩, trivial⟩, keeps_of hb⟩
  · cases h
end Go.Proofs.YtlmmgjngihlpeaaDoor.Sx
