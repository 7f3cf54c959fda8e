/- How far points may be from the base, whatever is called. -/
import Derived.Test.YtfijedmdfkelnaaGreatLags
namespace Go.Proofs.YtfijedmdfkelnaaGreat
open Go.RowKit
set_option linter.unusedVariables false
set_option linter.unusedSimpArgs false

/-- No point is further behind the base than a lag may be, nor further ahead than a lag and c. -/
def Far (c : Int) (S : Ln) : Prop := ∀ x ∈ S.l, -1125899906842624 ≤ x.v - S.base ∧ x.v - S.base ≤ 1125899906842624 + c
theorem Far.mono {c c' : Int} {S : Ln} (h : Far c S) (hc : c ≤ c') : Far c' S := fun x hx => by have := h x hx; omega
theorem Far.of_grow {c base cur : Int} {l : List Pt} (h : ∀ x ∈ l, -1125899906842624 ≤ x.v - base ∧ x.v - base ≤ 1125899906842624 + c) : Far c ⟨growB base l, cur, l⟩ := by
  intro x hx
  simp only at hx ⊢
  cases hz : least l with
  | none => rw [least_none.1 hz] at hx; cases hx
  | some z =>
    have hg : growB base l = max base z.v := by unfold growB; rw [hz]
    have h1 := h x hx
    have h2 := least_le hz x hx
    rw [hg]; omega
theorem Far.curs {c : Int} {S : Ln} (h : Far c S) (k : Int) : Far c ⟨S.base, k, S.l⟩ := h
theorem Far.put {c : Int} {S : Ln} (h : Far c S) (hc : 0 ≤ c) (id w lag : Int) (hl : S.l.length ≤ 64) : Far c (putR S id w lag) := by
  unfold putR
  split
  · rename_i hm
    have hm1 := mayB_true (mayE_zero hl hm).1
    refine Far.of_grow fun x hx => ?_
    rcases insP_mem.1 hx with rfl | hx
    · simp only [newP]; omega
    · exact h x hx
  · exact h
theorem Far.enter {c : Int} {S : Ln} (h : Far c S) (hc : 0 ≤ c) (held : Int → Int) (id w lag : Int) (hl : S.l.length ≤ 64) : Far c (enterR held S id w lag) := by
  unfold enterR
  split
  · exact h.put hc _ _ _ hl
  · exact h
theorem Far.leave {c : Int} {S : Ln} (h : Far c S) (id : Int) : Far c (leaveR S id).1 := by
  unfold leaveR
  cases at? S id with
  | none => exact h
  | some p =>
    obtain ⟨j, x⟩ := p
    exact Far.of_grow fun y hy => h y ((List.eraseIdx_sublist _ _).subset hy)
theorem Far.weigh {c : Int} {S : Ln} (h : Far c S) (id w : Int) : Far c (weighR S id w).1 := by
  unfold weighR
  rcases at_cases S id with ⟨e, _⟩ | ⟨j, x, e, _, _, hx, _⟩
  · rw [e]; exact h
  · rw [e]
    simp only
    split
    · refine Far.of_grow fun y hy => ?_
      rcases mem_set hx hy with rfl | hy
      · exact h x (List.mem_of_getElem? hx)
      · exact h y hy
    · exact h
theorem Far.charge {c : Int} {S : Ln} (h : Far c S) : Far (c + 232792560) (chargeR S).1 := by
  unfold chargeR
  rcases at_cases S S.cur with ⟨e, _⟩ | ⟨j, x, e, _, _, hx, _⟩
  · rw [e]; exact h.mono (by omega)
  · rw [e]
    simp only
    split
    · exact h.mono (by omega)
    · have hs := step_le x.w
      refine Far.of_grow fun y hy => ?_
      rcases mem_set hx hy with rfl | hy
      · rw [(chargeP_is x).2.2]; have := h x (List.mem_of_getElem? hx); omega
      · have := h y hy; omega
theorem Far.new (base : Int) : Far 0 ⟨base, -1, []⟩ := fun x hx => by cases hx
theorem Far.seed {base : Int} {f : Fm} (hg : goodF f = true) : Far 0 (seedR f base) := fun x hx => by
  have := (Lags.seed (base := base) hg).lag x hx; omega
end Go.Proofs.YtfijedmdfkelnaaGreat
