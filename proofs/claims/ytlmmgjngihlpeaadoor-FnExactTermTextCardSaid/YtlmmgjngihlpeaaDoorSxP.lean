/- A symbolic evaluator for the machine's code, part P: functions that are known by a contract of their own. Our own work. -/
import Derived.Test.YtlmmgjngihlpeaaDoorSxO
import Derived.Below
namespace Go.Proofs.YtlmmgjngihlpeaaDoor.Sx
open Go
set_option linter.unusedVariables false
set_option linter.unusedSimpArgs false
variable {P : Program}
theorem afterB_self : ∀ Bs : List Blk, afterB Bs (Bs.map (·.2)) = Bs
  | [] => rfl
  | B :: r => by
    simp only [List.map_cons, afterB, afterB_self r]
    cases hb : B.1 <;> simp [← hb]
theorem HRep.kept {ids : Ids} {Bs : List Blk} {w w' : World} (h : HRep ids Bs w) (hk : Keeps w w' []) : HRep ids Bs w' := by
  have hfoot : ∀ (b : Nat) (B : Blk), Bs[b]? = some B → ∀ g ∈ foot w (ids b) B.2, w'.heap[g]? = w.heap[g]? := fun b B hb g hg =>
    hk.block g ((h.hid.rel b B hb).lt g hg) (by simp)
  have hf : ∀ (b : Nat) (B : Blk), Bs[b]? = some B → foot w' (ids b) B.2 = foot w (ids b) B.2 := fun b B hb => foot_congr fun hm => hfoot b B hb _ hm
  refine ⟨fun i B hB => (h.blk i B hB).congr rfl (fun _ _ => rfl) hk.size fun hl => hk.block _ ((h.blk i B hB).2.2.1 hl) (by simp), h.sep, h.cl,
    h.hid.fl, fun b B hb => (h.hid.rel b B hb).congr rfl (fun _ _ => rfl) hk.size (hfoot b B hb), fun b B hb g hg => .inl (hwOf_of (i := 0) hb (by rw [Nat.zero_add]; exact hg)),
    fun b c B C hb hc lc hg => ?_, fun b c B C hb hc hne g hg hg2 => ?_⟩
  · rw [hf b B hb] at hg
    exact h.hid.sepL b c B C hb hc lc hg
  · rw [hf b B hb] at hg
    rw [hf c C hc] at hg2
    exact h.hid.sepH b c B C hb hc hne g hg hg2
theorem Keeps.mono {w w' : World} {S : List Nat} (h : Keeps w w' []) : Keeps w w' S := ⟨h.os, h.tape, h.output, h.size, fun k hk _ => h.block k hk (by simp)⟩
theorem fnS_pure {f : FuncId} {fn : Func} (hf : P.funcs[f]? = some fn) (hb : fn.body.isSome = true) (hn : (fn.name == "runtime.NumGoroutine") = false) {args : List TV} {Bs : List Blk} {v : TV} (hv : v.nm = [])
    (H : ∀ (ids : Ids) (w : World) (cargs : List Value), HRep ids Bs w → TsR ids args cargs → GlobOk w (wrAll w ids Bs) → Calls P f cargs.toArray w fun e w' => ∃ cv, e = .returned cv ∧ v.R ids cv ∧ Keeps w w' []) :
    FnS P f args Bs v (Bs.map (·.2)) [] := by
  refine ⟨by simp, ⟨fn, hf, hb, hn⟩, fun ids w cargs hH hA _ _ hg => (H ids w cargs hH hA hg).mono ?_⟩
  rintro e w' ⟨cv, rfl, hvr, hk⟩
  have hH' := hH.kept hk
  have hall : afterB Bs (Bs.map (·.2)) ++ ([] : List (List Seg)).map (fun N => ((true, N) : Blk)) = Bs := by rw [afterB_self]; simp
  refine ⟨ids, cv, rfl, ⟨fun _ _ => rfl, hvr, by rw [hall]; exact hH', hk.mono, fun i B C h1 h2 hl => ?_, fun j N hj => by simp at hj, fun i B hB g hg' => ?_, fun b hb' => by rw [hv] at hb'; cases hb'⟩⟩
  · rw [List.getElem?_map, h1] at h2
    simp only [Option.map_some, Option.some.injEq] at h2
    rw [← h2] at hl; exact hl
  · rw [hall] at hB
    right
    rw [foot_congr fun hm => hk.block _ ((hH.hid.rel i B hB).lt _ hm) (by simp)] at hg'
    exact List.mem_append_right _ (hwOf_of (i := 0) hB (by rw [Nat.zero_add]; exact hg'))
theorem keeps_of {w w' : World} (h : RowKit.Below w.heap.size w w') : Keeps w w' [] := ⟨h.os, h.tape, h.output, h.size, fun k hk _ => h.block k hk⟩
theorem below_of {w w' : World} (h : Keeps w w' []) : RowKit.Below w.heap.size w w' := ⟨h.os, h.tape, h.output, h.size, fun k hk => h.block k hk (by simp)⟩
theorem GlobOk.kept {w w' : World} (h : GlobOk w []) (k : Keeps w w' []) : GlobOk w' [] :=
  ⟨fun p hp => let ⟨_, b, c⟩ := h.1 p hp; ⟨by simp, Nat.lt_of_lt_of_le b k.size, fun j x hx => (World.cell?_of_block (k.block _ b (by simp))).trans (c j x hx)⟩,
   fun g hg => let ⟨_, b, t, v, c⟩ := h.2 g hg; ⟨by simp, Nat.lt_of_lt_of_le b k.size, t, v, (World.cell?_of_block (k.block _ b (by simp))).trans c⟩⟩
theorem GlobOk.sub {w : World} {S : List Nat} (h : GlobOk w S) : GlobOk w [] :=
  ⟨fun p hp => let ⟨_, b, c⟩ := h.1 p hp; ⟨by simp, b, c⟩, fun g hg => let ⟨_, b, c⟩ := h.2 g hg; ⟨by simp, b, c⟩⟩
theorem wrAll_nil {w : World} {ids : Ids} {Bs : List Blk} (hfl : ∀ B ∈ Bs, B.1 = false ∧ noRws B.2 = true) : wrAll w ids Bs = [] := by
  have h1 : ∀ (Bs : List Blk) (i : Nat), (∀ B ∈ Bs, B.1 = false ∧ noRws B.2 = true) → wrOf ids Bs i = [] ∧ hwOf w ids Bs i = [] := by
    intro Bs
    induction Bs with
    | nil => intro i _; exact ⟨rfl, rfl⟩
    | cons B r ih =>
      intro i h
      obtain ⟨a, b⟩ := ih (i + 1) (fun B hB => h B (by simp [hB]))
      obtain ⟨c, d⟩ := h B (by simp)
      simp only [wrOf, hwOf, c, Bool.false_and, cond_false, a, b, foot_no d, List.append_nil, and_self]
  obtain ⟨a, b⟩ := h1 Bs 0 hfl
  simp [wrAll, a, b]
theorem fnS_calls {f : FuncId} {args : List TV} {Bs : List Blk} {v : TV} {Bs' Ns : List (List Seg)} (h : FnS P f args Bs v Bs' Ns) (hfl : ∀ B ∈ Bs, B.1 = false ∧ noRws B.2 = true) (hl : Bs.length ≤ 1000) (hnm : ∀ x ∈ args, ∀ b ∈ x.nm, b < Bs.length)
    {ids : Ids} {w : World} {cargs : List Value} (hH : HRep ids Bs w) (hA : TsR ids args cargs) (hg : GlobOk w []) : Calls P f cargs.toArray w fun e w' => ∃ ids' cv, e = .returned cv ∧ v.R ids' cv ∧ RowKit.Below w.heap.size w w' := by
  refine (h.2.2 ids w cargs hH hA hnm hl (by rw [wrAll_nil hfl]; exact hg)).mono ?_
  rintro e w' ⟨ids', cv, rfl, hr⟩
  refine ⟨ids', cv, rfl, hr.val, ?_⟩
  have := hr.keeps
  rw [wrAll_nil hfl] at this
  exact below_of this
theorem hrep_nil (ids : Ids) (w : World) : HRep ids [] w := by
  refine ⟨fun i B h => by simp at h, fun i j B C h => by simp at h, fun i B h => by simp at h, fun b B h => by simp at h, fun b B h => by simp at h, fun b B h => by simp at h, fun b c B C h => by simp at h, fun b c B C h => by simp at h⟩
end Go.Proofs.YtlmmgjngihlpeaaDoor.Sx
