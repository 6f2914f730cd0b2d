/- A symbolic evaluator for the machine's code, part P: functions that are known by a contract of their own. Our own work. -/
import Derived.Test.YtlmmgjngihlpeaaDoorSxO
import Derived.Below
namespace Go.Proofs.YtlmmgjngihlpeaaDoor.Sx
open Go
set_option linter.unusedVariables false
set_option linter.unusedSimpArgs false
variable {P : Program}
theorem afterB_self : ∀ Bs : List Blk, afterB Bs (Bs.map (·.2)) = Bs
  | [] => rfl
  | B :: r => by
    simp only [List.map_cons, afterB, afterB_self r]
    cases hb : B.1 <;> simp [← hb]
theorem HRep.kept {ids : Ids} {Bs : List Blk} {w w' : World} (h : HRep ids Bs w) (hk : Keeps w w' []) : HRep ids Bs w' := by
  have hfoot : ∀ (b : Nat) (B : Blk), Bs[b]? = some B → ∀ g ∈ foot w (ids b) B.2, w'.heap[g]? = w.heap[g]? := fun b B hb g hg =>
    hk.block g ((h.hid.rel b B hb).lt g hg) (by simp)
  have hf : ∀ (b : Nat) (B : Blk), Bs[b]? = some B → foot w' (ids b) B.2 = foot w (ids b) B.2 := fun b B hb => foot_congr fun hm => hfoot b B hb _ hm
  refine ⟨fun i B hB => (h.blk i B hB).congr rfl (fun _ _ => rfl) hk.size fun hl => hk.block _ ((h.blk i B hB).2.2.1 hl) (by simp), h.sep, h.cl,
    h.hid.fl, fun b B hb => (h.hid.rel b B hb).congr rfl (fun _ _ => rfl) hk.size (hfoot b B hb), fun b B hb g hg => .inl (hwOf_of (i := 0) hb (by rw [Nat.zero_add]; exact hg)),
    fun b c B C hb hc lc hg => ?_, fun b c B C hb hc hne g hg hg2 => ?_⟩
  · rw [hf b B hb] at hg
    exact h.hid.sepL b c B C hb hc lc hg
  · rw [hf b B hb] at hg
    rw [hf c C hc] at hg2
    exact h.hid.sepH b c B C hb hc hne g hg hg2
theorem Keeps.mono {w w' : World} {S : List Nat} (h : Keeps w w' []) : Keeps w w' S := ⟨h.os, h.tape, h.output, h.size, fun k hk _ => h.block k hk (by simp)⟩
theorem fnS_pure {f : FuncId} {fn : Func} (hf : P.funcs[f]? = some fn) (hb : fn.body.isSome = true) (hn : (fn.name == "runtime.NumGoroutine") = false) {args : List TV} {Bs : List Blk} {v : TV} (hv : v.nm = [])
    (H : ∀ (ids : Ids) (w : World) (cargs : List Value), HRep ids Bs w → TsR ids args cargs → GlobOk w (wrAll w ids Bs) → Calls P f cargs.toArray w fun e w' => ∃ cv, e = .returned cv ∧ v.R ids cv ∧ Keeps w w' []) :
    FnS P f args Bs v (Bs.map (·.2)) [] := by
  refine ⟨by simp, ⟨fn, hf, hb, hn⟩, fun ids w cargs hH hA _ _ hg => (H ids w cargs hH hA hg).mono ?_⟩
  rintro e w' ⟨cv, rfl, hvr, hk⟩
  have hH' := hH.kept hk
  have hall : afterB Bs (Bs.map (·.2)) ++ ([] : List (List Seg)).map (fun N => ((true, N) : Blk)) = Bs := by rw [afterB_self]; simp
  refine ⟨ids, cv, rfl, ⟨fun _ _ => rfl, hvr, by rw [hall]; exact hH', hk.mono, fun i B C h1 h2 hl => ?_, fun j N hj => by simp at hj, fun i B hB g hg' => ?_, fun b hb' => by rw [hv] at hb'; cases hb'⟩⟩
  · rw [List.getElem?_map, h1] at h2
    simp only [Option.map_some, Option.some.injEq] at h2
    rw [← h2] at hl; exact hl
  · rw [hall] at hB
    right
    rw [foot_congr fun hm => hk.block _ ((hH.hid.rel i B hB).lt _ hm) (by simp)] at hg'
    exact List.mem_append_right _ (hwOf_of (i := 0) hB (by rw [Nat.zero_add]; exact hg'))
theorem fnS_new {f : FuncId} {fn : Func} (hf : P.funcs[f]? = some fn) (hb : fn.body.isSome = true) (hn : (fn.name == "runtime.NumGoroutine") = false) {args : List TV} {v : TV} {N : List Seg} (hv : ∀ b ∈ v.nm, b = 0) (hno : noGro N = true) (hnm : nmL N = [])
    (H : ∀ (ids : Ids) (w : World) (cargs : List Value), TsR ids args cargs → GlobOk w [] → Calls P f cargs.toArray w fun e w' => ∃ cv g, e = .returned cv ∧ w.heap.size ≤ g ∧ (∀ ids' : Ids, ids' 0 = (g, 0, 0, 0) → v.R ids' cv ∧ BlkR ids' w' 0 (true, N)) ∧ Keeps w w' []) :
    FnS P f args [] v [] [N] := by
  refine ⟨rfl, ⟨fn, hf, hb, hn⟩, fun ids w cargs hH hA _ _ hg => (H ids w cargs hA hg).mono ?_⟩
  rintro e w' ⟨cv, g, rfl, hgs, hall, hk⟩
  obtain ⟨h1, h2⟩ := hall (fun b => if b = 0 then (g, 0, 0, 0) else ids b) rfl
  have hget : ∀ (i : Nat) (B : Blk), (afterB [] [] ++ [N].map (fun N => ((true, N) : Blk)))[i]? = some B → i = 0 ∧ B = (true, N) := by
    intro i B hB
    cases i with
    | zero => simp [afterB] at hB; exact ⟨rfl, hB.symm⟩
    | succ i => simp [afterB] at hB
  refine ⟨fun b => if b = 0 then (g, 0, 0, 0) else ids b, cv, rfl, ⟨fun i hi => by simp at hi, h1, ⟨fun i B hB => ?_, fun i j B C hi hj hne => ?_, fun i B hB b hb' => ?_, ⟨fun i B hB h0 => ?_, fun i B hB => ?_, fun i B hB g' hg' => ?_, fun i j B C hB hC lc hg' => ?_, fun i j B C hB hC hne => ?_⟩⟩, hk.mono, fun i B C hi => by simp at hi, fun j M hj hl => ?_, fun i B hB g' hg' => ?_, fun b hb' => ?_⟩⟩
  · obtain ⟨rfl, rfl⟩ := hget i B hB; exact h2
  · obtain ⟨rfl, _⟩ := hget i _ hi
    obtain ⟨rfl, _⟩ := hget j _ hj
    exact absurd rfl hne
  · obtain ⟨rfl, rfl⟩ := hget i B hB
    rw [hnm] at hb'; cases hb'
  · obtain ⟨rfl, rfl⟩ := hget i B hB; rfl
  · obtain ⟨rfl, rfl⟩ := hget i B hB
    exact .of_no (noRws_of hno)
  · obtain ⟨rfl, rfl⟩ := hget i B hB
    rw [foot_no (noRws_of hno)] at hg'; cases hg'
  · obtain ⟨rfl, rfl⟩ := hget i B hB
    rw [foot_no (noRws_of hno)] at hg'; cases hg'
  · obtain ⟨rfl, _⟩ := hget i _ hB
    obtain ⟨rfl, _⟩ := hget j _ hC
    exact absurd rfl hne
  · left
    cases j with
    | zero => simpa using hgs
    | succ j => simp at hj
  · obtain ⟨rfl, rfl⟩ := hget i B hB
    rw [foot_no (noRws_of hno)] at hg'; cases hg'
  · rw [hv b hb']; simp
theorem keeps_of {w w' : World} (h : RowKit.Below w.heap.size w w') : Keeps w w' [] := ⟨h.os, h.tape, h.output, h.size, fun k hk _ => h.block k hk⟩
theorem GlobOk.kept {w w' : World} (h : GlobOk w []) (k : Keeps w w' []) : GlobOk w' [] :=
  ⟨fun p hp => let ⟨_, b, c⟩ := h.1 p hp; ⟨by simp, Nat.lt_of_lt_of_le b k.size, fun j x hx => (World.cell?_of_block (k.block _ b (by simp))).trans (c j x hx)⟩,
   fun g hg => let ⟨_, b, t, v, c⟩ := h.2 g hg; ⟨by simp, Nat.lt_of_lt_of_le b k.size, t, v, (World.cell?_of_block (k.block _ b (by simp))).trans c⟩⟩
theorem GlobOk.sub {w : World} {S : List Nat} (h : GlobOk w S) : GlobOk w [] :=
  ⟨fun p hp => let ⟨_, b, c⟩ := h.1 p hp; ⟨by simp, b, c⟩, fun g hg => let ⟨_, b, c⟩ := h.2 g hg; ⟨by simp, b, c⟩⟩
end Go.Proofs.YtlmmgjngihlpeaaDoor.Sx
