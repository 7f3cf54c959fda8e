/- The document's own forms: what Good asks. -/
import Derived.Test.YtciiookcdkjegaaRefC
namespace Go.Proofs.Ytciiookcdkjegaa
open Go.RowKit
set_option linter.unusedVariables false
set_option linter.unusedSimpArgs false

/-- All items may be; or there is a first one that may not. -/
theorem firstBad (l : List It) : OkTo l l.length ∨ ∃ k x, l[k]? = some x ∧ OkTo l k ∧ (mayB x.id x.w x.lag = false ∨ ∃ j z, k = j + 1 ∧ l[j]? = some z ∧ ¬ z.id < x.id) := by
  have key : ∀ k, k ≤ l.length → OkTo l k ∨ ∃ k x, l[k]? = some x ∧ OkTo l k ∧ (mayB x.id x.w x.lag = false ∨ ∃ j z, k = j + 1 ∧ l[j]? = some z ∧ ¬ z.id < x.id) := by
    intro k
    induction k with
    | zero => exact fun _ => .inl ⟨fun i hi => absurd hi (Nat.not_lt_zero _), fun i hi => absurd hi (Nat.not_lt_zero _)⟩
    | succ k ih =>
      intro hk
      rcases ih (by omega) with h | h
      · obtain ⟨x, hx⟩ : ∃ x, l[k]? = some x := ⟨_, List.getElem?_eq_getElem (by omega)⟩
        cases hm : mayB x.id x.w x.lag with
        | false => exact .inr ⟨k, x, hx, h, .inl hm⟩
        | true =>
          cases k with
          | zero => exact .inl (OkTo.one hx hm)
          | succ j =>
            obtain ⟨z, hz⟩ : ∃ x, l[j]? = some x := ⟨_, List.getElem?_eq_getElem (by omega)⟩
            by_cases hlt : z.id < x.id
            · exact .inl (h.step hz hx hm hlt)
            · exact .inr ⟨j + 1, x, hx, h, .inr ⟨j, z, rfl, hz, hlt⟩⟩
      · exact .inr h
  exact key _ (Nat.le_refl _)
def curTo (cur : Int) (l : List It) (k : Nat) : Bool := (cur == -1) || (l.take k).any (isIt cur)
theorem curTo_succ {cur : Int} {l : List It} {k : Nat} {x : It} (hx : l[k]? = some x) : curTo cur l (k + 1) = (curTo cur l k || (x.id == cur)) := by
  unfold curTo
  obtain ⟨h, rfl⟩ := List.getElem?_eq_some_iff.1 hx
  rw [List.take_succ_eq_append_getElem h, List.any_append]
  simp [isIt, Bool.or_assoc]
theorem curTo_all {cur : Int} {l : List It} : curTo cur l l.length = true ↔ (cur = -1 ∨ ∃ x ∈ l, x.id = cur) := by
  unfold curTo
  rw [List.take_length]
  simp [isIt]
theorem goodF_to {cur : Int} {l : List It} (h : OkTo l l.length) : goodF ⟨cur, l⟩ = (curTo cur l l.length && someTo l l.length && decide (l.length ≤ 64)) := by
  rw [Bool.eq_iff_iff]
  simp only [Bool.and_eq_true, decide_eq_true_eq, curTo_all, someTo_all]
  unfold goodF
  simp only [decide_eq_true_eq]
  exact ⟨fun h1 => ⟨⟨h1.2.1, h1.2.2.2.2⟩, h1.1⟩, fun h1 => ⟨h1.2, h1.1.1, h.may, h.asc, h1.1.2⟩⟩
theorem OkTo.zero (l : List It) : OkTo l 0 := ⟨fun i hi => absurd hi (Nat.not_lt_zero _), fun i hi => absurd hi (Nat.not_lt_zero _)⟩
theorem goodF_bad {cur : Int} {l : List It} {k : Nat} {x : It} (hx : l[k]? = some x) (hm : mayB x.id x.w x.lag = false) : goodF ⟨cur, l⟩ = false :=
  decide_eq_false fun h => by have := h.2.2.1 x (List.mem_of_getElem? hx); rw [hm] at this; cases this
theorem goodF_down {cur : Int} {l : List It} {k : Nat} {x y : It} (hx : l[k]? = some x) (hy : l[k + 1]? = some y) (hn : ¬ x.id < y.id) : goodF ⟨cur, l⟩ = false :=
  decide_eq_false fun h => OkTo.not_asc hx hy hn h.2.2.2.1

end Go.Proofs.Ytciiookcdkjegaa
