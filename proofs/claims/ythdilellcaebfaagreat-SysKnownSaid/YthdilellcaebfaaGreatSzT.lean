/- Law 23: names (plain). -/
import Derived.Test.YthdilellcaebfaaGreatSzS
namespace Go.Proofs.YthdilellcaebfaaGreat
open Go.RowKit Go.Shelf
set_option linter.unusedVariables false
set_option linter.unusedSimpArgs false

section
variable {T : Nat} {s : SysS}
/-- Which names were given: of each place those below its turn; all that are there. -/
structure Given (s : SysS) (f : Int → Bool) : Prop where
  low : ∀ id, f id = true → 0 ≤ id ∧ ∃ x, s.slots[(id % 64).toNat]? = some x ∧ id / 64 < x.turn
  has : ∀ id t, s.find id = some t → f id = true
theorem Given.new : Given (SysS.new [0]) (fun _ => false) := ⟨fun id h => (by cases h), fun id t h => (by rw [SysS.new_find] at h; cases h)⟩
theorem all_full (hk : SysOk T s) (h : s.slots.findIdx? (fun x => x.task.isNone) = none) : s.tasks.length = 64 := by
  unfold SysS.tasks SysS.all
  rw [List.length_map, ← hk.s64]
  have h2 := List.findIdx?_eq_none_iff.1 h
  have key : ∀ l : List Slo, (∀ x ∈ l, x.task.isNone = false) → (l.filterMap Slo.task).length = l.length := by
    intro l
    induction l with
    | nil => intro _; rfl
    | cons x t ih =>
      intro hx
      have h1 := hx x (by simp)
      cases hq : x.task with
      | none => rw [hq] at h1; simp at h1
      | some u => rw [List.filterMap_cons_some hq, List.length_cons, List.length_cons, ih (fun y hy => hx y (by simp [hy]))]
  exact key s.slots (fun x hx => by simpa using h2 x hx)
/-- What Spawn does to the names. -/
theorem spawn_names (hk : SysOk T s) (hT : T ≤ 10000000) (hg : goodM 1 s.cores.length = true) {f : Int → Bool} (hf : Given s f) :
    ((s.spawn 1 1 0).2.2 = 3 ∧ (s.spawn 1 1 0).1 = s ∧ s.tasks.length = 64) ∨
    ((s.spawn 1 1 0).2.2 = 0 ∧ f (s.spawn 1 1 0).2.1 = false ∧ I63 (s.spawn 1 1 0).2.1 ∧ Given (s.spawn 1 1 0).1 (updB f (s.spawn 1 1 0).2.1 true)) := by
  have hh : hasG s.ups 0 = true := by
    unfold hasG SysS.ups
    have := hk.g1
    simp; omega
  cases hfi : s.slots.findIdx? (fun x => x.task.isNone) with
  | none =>
    have : s.spawn 1 1 0 = (s, 0, 3) := by unfold SysS.spawn; rw [if_pos (by decide), if_pos hg, if_pos hh, hfi]
    rw [this]
    exact .inl ⟨rfl, rfl, all_full hk hfi⟩
  | some i =>
    obtain ⟨n, hsl⟩ := free_slot s i hfi
    have h64 : i < 64 := by have := (List.getElem?_eq_some_iff.1 hsl).1; rw [hk.s64] at this; exact this
    have hn := hk.turn _ (List.mem_of_getElem? hsl)
    simp only at hn
    rw [SysS.spawn_is hfi hsl (by decide) hg hh]
    have hfd := SysS.find_putS (s := s) (t := ⟨i + 64 * n, 1, 0, -1, 1, 1, 0⟩) hsl h64 rfl hn.1
    refine .inr ⟨rfl, ?_, ?_, fun id h => ?_, fun id t h => ?_⟩
    · cases hq : f (i + 64 * n) with
      | false => rfl
      | true =>
        obtain ⟨h0, x, hx, hlt⟩ := hf.low _ hq
        rw [show ((i + 64 * n : Int) % 64).toNat = i by omega, hsl] at hx
        simp only [Option.some.injEq] at hx
        subst hx
        simp only at hlt
        omega
    · have := hk.turn _ (List.mem_of_getElem? hsl)
      simp only at this
      unfold I63
      simp only
      omega
    · simp only [updB] at h
      by_cases e : id = i + 64 * n
      · subst e
        refine ⟨by omega, ⟨n + 1, some ⟨i + 64 * n, 1, 0, -1, 1, 1, 0⟩⟩, ?_, by simp only; omega⟩
        rw [show ((i + 64 * n : Int) % 64).toNat = i by omega]
        simp [SysS.putS, List.getElem?_modify, hsl]
      · rw [if_neg e] at h
        obtain ⟨h0, x, hx, hlt⟩ := hf.low id h
        refine ⟨h0, ?_⟩
        simp only [SysS.putS, List.getElem?_modify, hx]
        by_cases e2 : i = (id % 64).toNat
        · refine ⟨⟨x.turn + 1, some ⟨i + 64 * n, 1, 0, -1, 1, 1, 0⟩⟩, by simp [e2], by simp only; omega⟩
        · exact ⟨x, by simp [e2], hlt⟩
    · rw [hfd] at h
      simp only [updB]
      split at h
      · rename_i e; rw [if_pos e]
      · rename_i e; rw [if_neg e]; exact hf.has id t h
/-- What End does to the names. -/
theorem leaveT_turn {t : Tk} (h : s.find t.id = some t) (k : Nat) : ((s.leaveT t).1.slots[k]?).map Slo.turn = (s.slots[k]?).map Slo.turn := by
  unfold SysS.leaveT
  split
  · simp only [SysS.setT, SysS.setC, List.getElem?_modify]
    cases s.slots[k]? with
    | none => rfl
    | some y => simp only [Option.map_eq_map, Option.map_some]; split <;> rfl
  · rfl
theorem end_names (hk : SysOk T s) {f : Int → Bool} (hf : Given s f) {t : Tk} (ht : s.find t.id = some t) : (s.endT t.id).2 = 0 ∧ (s.endT t.id).1.find t.id = none ∧ Given (s.endT t.id).1 f := by
  have e : s.endT t.id = ((s.leaveT t).1.delT t.id, 0) := by unfold SysS.endT; rw [ht]
  have hlf := SysS.leaveT_find ht
  have hlf0 := hlf t.id
  rw [if_pos rfl] at hlf0
  rw [e]
  refine ⟨rfl, by simp only; rw [SysS.find_delT hlf0, if_pos rfl], fun id h => ?_, fun id u h => ?_⟩
  · obtain ⟨h0, x, hx, hlt⟩ := hf.low id h
    refine ⟨h0, ?_⟩
    have h1 := leaveT_turn ht (id % 64).toNat
    rw [hx] at h1
    cases hq : (s.leaveT t).1.slots[(id % 64).toNat]? with
    | none => rw [hq] at h1; simp at h1
    | some y =>
      rw [hq] at h1
      simp only [Option.map_some, Option.some.injEq] at h1
      simp only [SysS.delT, List.getElem?_modify, hq, Option.map_eq_map, Option.map_some]
      refine ⟨_, rfl, ?_⟩
      split
      · simp only; omega
      · omega
  · simp only at h
    rw [SysS.find_delT hlf0] at h
    split at h
    · cases h
    · rename_i e2
      rw [hlf, if_neg e2] at h
      exact hf.has id u h
end
end Go.Proofs.YthdilellcaebfaaGreat
