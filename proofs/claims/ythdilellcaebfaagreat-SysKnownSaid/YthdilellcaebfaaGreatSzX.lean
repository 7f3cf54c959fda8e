/- A system keeps what is true of it: Tick (plain). -/
import Derived.Test.YthdilellcaebfaaGreatSzV
namespace Go.Proofs.YthdilellcaebfaaGreat
open Go.RowKit Go.Shelf
set_option linter.unusedVariables false
set_option linter.unusedSimpArgs false

section
variable {T : Nat} {s : SysS}
theorem Acn.tick_good {a : Acn} (h : a.good = true) (n : Int) : (a.tick n).1.good = true := by
  unfold Acn.tick
  split
  · rename_i h1
    obtain ⟨⟨a1, a2, a3, a4, a5, a6, a7, a8⟩, hn⟩ := h1
    unfold Acn.good
    rw [decide_eq_true_eq]
    refine .inr ?_
    have m0 := Int.emod_nonneg (a.f + n) (show a.p ≠ 0 by omega)
    have m1 := Int.emod_lt_of_pos (a.f + n) (show 0 < a.p by omega)
    unfold Acn.ok
    simp only
    refine ⟨a1, a2, a3, a4, ?_, ?_, m0, m1⟩ <;> (split <;> omega)
  · exact h
theorem ups_tickG (s : SysS) (n : Int) : (s.tickG n).ups = s.ups := by
  unfold SysS.ups SysS.tickG
  simp [Function.comp_def]
theorem acc_tickG (s : SysS) (n : Int) (g : Nat) : (s.tickG n).acc g = ((s.acc g).tick n).1 := by
  unfold SysS.acc SysS.tickG
  simp only [List.getElem?_map]
  cases s.grps[g]? with
  | none => simp [Acn.tick, Acn.zero, Acn.ok]
  | some p => rfl
theorem SysOk.tickG (h : SysOk T s) (n : Int) : SysOk T (s.tickG n) := by
  have hup := ups_tickG s n
  refine ⟨h.c1, h.c16, h.cor, by have := h.g1; simp [SysS.tickG]; omega, by have := h.g16; simp [SysS.tickG]; omega, fun p hp => ?_, h.s64, h.turn, fun i k t ht => ?_, h.rdy, h.rdq⟩
  · obtain ⟨q, hq, rfl⟩ := List.mem_map.1 hp
    exact Acn.tick_good (h.acc q hq) n
  · obtain ⟨a1, a2, a3⟩ := h.slot i k t ht
    exact ⟨a1, a2, a3.congr hup rfl⟩
theorem SysS.enterT_find {t : Tk} (h : s.find t.id = some t) (ex : Bool) (j : Int) : (s.enterT t ex).find j = if j = t.id then some { t with st := if s.spentG t.grp = true then 5 else 2 } else s.find j := by
  unfold SysS.enterT
  split
  · rw [SysS.find_setT (t' := { t with st := 5 }) h rfl]
  · rw [SysS.find_setT (s := s.setC _ _) (t := t) (t' := { t with st := 2 }) h rfl]
    rfl
theorem SysOk.tick1 (h : SysOk T s) (hT : T ≤ 10000000) (id : Int) : SysOk (T + 2) (s.tick1 id) := by
  unfold SysS.tick1
  cases hf : s.find id with
  | none => exact h.mono (by omega)
  | some t =>
    obtain ⟨hok, hid, -⟩ := h.tk hf
    subst hid
    simp only
    split
    · rename_i hs
      exact h.enterT hT hf (by omega) rfl rfl rfl rfl rfl (hok.old (by omega)) true
    · exact h.mono (by omega)
theorem SysS.tickL_append (s : SysS) (l : List Int) (x : Int) : s.tickL (l ++ [x]) = (s.tickL l).tick1 x := by
  induction l generalizing s with
  | nil => rfl
  | cons y t ih => exact ih (s.tick1 y)
theorem SysOk.tickL (hk : SysOk T s) : ∀ (l : List Int), T + 2 * l.length ≤ 10000000 → SysOk (T + 2 * l.length) (s.tickL l) := by
  intro l
  induction l generalizing s T with
  | nil => intro _; exact hk
  | cons y t ih =>
    intro h
    rw [List.length_cons] at h ⊢
    have := ih (hk.tick1 (by omega) y) (by omega)
    rw [show T + 2 * (t.length + 1) = T + 2 + 2 * t.length by omega]
    exact this
theorem SysS.tick1_find {s : SysS} (id j : Int) : ((s.tick1 id).find j).isSome = (s.find j).isSome := by
  unfold SysS.tick1
  cases hf : s.find id with
  | none => rfl
  | some t =>
    obtain ⟨-, hid, -⟩ := SysS.find_slot hf
    subst hid
    simp only
    split
    · rw [SysS.enterT_find hf]
      by_cases e : j = t.id
      · subst e; simp [hf]
      · simp [e]
    · rfl
theorem SysS.tickL_find (s : SysS) (l : List Int) (j : Int) : ((s.tickL l).find j).isSome = (s.find j).isSome := by
  induction l generalizing s with
  | nil => rfl
  | cons y t ih => exact (ih (s.tick1 y)).trans (SysS.tick1_find y j)
theorem SysOk.mem_ids (hk : SysOk T s) {id : Int} : id ∈ s.ids ↔ (s.find id).isSome = true := by
  unfold SysS.ids
  rw [List.mem_mergeSort]
  constructor
  · intro h
    obtain ⟨u, hu, rfl⟩ := List.mem_map.1 h
    rw [hk.all_find hu]; rfl
  · intro h
    obtain ⟨t, ht⟩ := Option.isSome_iff_exists.1 h
    obtain ⟨_, hid, n, hs⟩ := SysS.find_slot ht
    refine List.mem_map.2 ⟨t, ?_, hid⟩
    unfold SysS.all
    exact List.mem_filterMap.2 ⟨_, List.mem_of_getElem? hs, rfl⟩
theorem SysOk.tick_at (hk : SysOk T s) (hT : T ≤ 9000000) {k : Nat} (hlk : k < s.all.length) : ∃ id t, s.ids[k]? = some id ∧ (s.tickL (s.ids.take k)).find id = some t ∧ t.id = id ∧ SysOk (T + 128) (s.tickL (s.ids.take k)) ∧ s.tickL (s.ids.take (k + 1)) = (s.tickL (s.ids.take k)).tick1 id := by
  have h64 := hk.all64
  have hkl : k < s.ids.length := by rw [ids_len]; exact hlk
  have h2 := SysS.tickL_find s (s.ids.take k) s.ids[k]
  rw [hk.mem_ids.1 (List.getElem_mem hkl)] at h2
  obtain ⟨t, ht⟩ := Option.isSome_iff_exists.1 h2
  have hok := hk.tickL (s.ids.take k) (by rw [List.length_take, ids_len]; omega)
  refine ⟨s.ids[k], t, List.getElem?_eq_getElem hkl, ht, (SysS.find_slot ht).2.1, hok.mono (by rw [List.length_take, ids_len]; omega), ?_⟩
  rw [List.take_succ_eq_append_getElem hkl, SysS.tickL_append]
theorem SysOk.tick (hk : SysOk T s) (hT : T ≤ 9000000) (n : Int) : SysOk (T + 128) (s.tick n).1 := by
  unfold SysS.tick
  split
  · exact hk.mono (by omega)
  · have h1 := hk.tickG n
    have h64 := h1.all64
    exact (h1.tickL (s.tickG n).ids (by rw [ids_len]; omega)).mono (by rw [ids_len]; omega)
theorem SysS.tickL_all (s : SysS) : s.tickL s.ids = s.tickL (s.ids.take s.all.length) := by rw [← ids_len, List.take_length]
end
end Go.Proofs.YthdilellcaebfaaGreat
