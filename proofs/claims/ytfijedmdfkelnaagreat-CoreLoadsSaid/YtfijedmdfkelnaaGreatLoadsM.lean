/- What a core's load is, in plain words. -/
import Derived.Test.YtfijedmdfkelnaaGreatCorM
import Derived.Test.YtfijedmdfkelnaaGreatJ
namespace Go.Proofs.YtfijedmdfkelnaaGreat
set_option linter.unusedVariables false
set_option linter.unusedSimpArgs false

theorem totW_erase : ∀ {l : List Pt} {j : Nat} {x : Pt}, l[j]? = some x → totW (l.eraseIdx j) = totW l - x.w := by
  intro l
  induction l with
  | nil => intro j x h; simp at h
  | cons y l ih =>
    intro j x h
    cases j with
    | zero => simp at h; subst h; simp only [List.eraseIdx_zero, List.tail_cons, totW]; omega
    | succ j =>
      have h1 : l[j]? = some x := by simpa using h
      simp only [List.eraseIdx_cons_succ, totW, ih h1]
      omega
theorem totW_ins (x : Pt) : ∀ l : List Pt, totW (insP x l) = totW l + x.w
  | [] => by simp only [insP, totW]; omega
  | y :: l => by
    unfold insP
    split
    · simp only [totW]; omega
    · simp only [totW, totW_ins x l]; omega
theorem totW_le : ∀ l : List Pt, (∀ x ∈ l, 1 ≤ x.w ∧ x.w ≤ 20) → 0 ≤ totW l ∧ totW l ≤ 20 * l.length
  | [], _ => by simp [totW]
  | x :: l, h => by
    have h1 := h x (List.mem_cons_self)
    have h2 := totW_le l fun y hy => h y (List.mem_cons_of_mem _ hy)
    simp only [totW, List.length_cons]
    omega
theorem fi_itOf (base id : Int) (l : List Pt) : fi (isIt id) (l.map (itOf base)) = fi (isId id) l := by
  unfold fi
  rw [List.findIdx?_map]
  rfl
theorem tot_ok {K : Int} {S : Ln} (h : OkS K S) : 0 ≤ totW S.l ∧ totW S.l ≤ 1280 := by
  have h1 := totW_le S.l fun x hx => by have := h.pts x hx; omega
  have h2 := h.len
  omega
/-- Leave: the one there goes with its weight; nobody there: nothing. -/
theorem loads_leave {K : Int} {S : Ln} (h : OkS K S) (id : Int) :
    (fi (isIt id) (S.l.map (itOf S.base)) = -1 ∧ leaveR S id = (S, 0, 2)) ∨
    ∃ (j : Nat) (x : Pt) (S' : Ln) (v : Int), fi (isIt id) (S.l.map (itOf S.base)) = j ∧ (S.l.map (itOf S.base))[j]? = some (itOf S.base x) ∧ leaveR S id = (S', v, 0) ∧ totW S'.l = totW S.l - x.w ∧ 1 ≤ x.w ∧ x.w ≤ 20 := by
  rw [fi_itOf]
  rcases at_cases S id with ⟨h1, h2, _⟩ | ⟨j, x, h1, h2, h3, h4, h5⟩
  · exact .inl ⟨h2, by unfold leaveR; rw [h1]⟩
  · have hp := h.pts x (List.mem_of_getElem? h4)
    exact .inr ⟨j, x, _, _, h2, by rw [List.getElem?_map, h4]; rfl, by unfold leaveR; rw [h1], totW_erase h4, by omega, by omega⟩
/-- Enter: it was not there and weighs in; or nothing. -/
theorem loads_enter {B : Nat} {K : Int} {s : CoreS} (h : CoreOk B K s) (id w lag : Int) (exact : Bool) :
    (mayE s.q.l id w lag = 0 ∧ fi (isIt id) (s.q.l.map (itOf s.q.base)) = -1 ∧ totW (s.enter id w lag exact).q.l = totW s.q.l + w ∧ 1 ≤ w ∧ w ≤ 20) ∨
    (mayE s.q.l id w lag ≠ 0 ∧ totW (s.enter id w lag exact).q.l = totW s.q.l) := by
  have hq : (s.enter id w lag exact).q = if exact = true then putR s.q id w lag else enterR (heldT s.tag) s.q id w lag := by
    unfold CoreS.enter CoreS.done
    split <;> rfl
  have hpl : ∀ lg, mayE s.q.l id w lg = 0 → totW (putR s.q id w lg).l = totW s.q.l + w := fun lg hz => by
    unfold putR
    rw [if_pos hz]
    rw [totW_ins]
    rfl
  by_cases hm : mayE s.q.l id w lag = 0
  · obtain ⟨h1, h2, h3⟩ := mayE_zero h.ok.len hm
    have hb := mayB_true h1
    left
    refine ⟨hm, ?_, ?_, hb.2.2.1, hb.2.2.2.1⟩
    · rw [fi_itOf]
      rcases at_cases s.q id with ⟨_, h4, _⟩ | ⟨j, x, _, _, _, h5, h6⟩
      · exact h4
      · exact absurd h6 (h2 x (List.mem_of_getElem? h5))
    · rw [hq]
      cases exact with
      | true => exact hpl lag hm
      | false =>
        simp only [Bool.false_eq_true, if_false]
        unfold enterR
        rw [if_pos hm]
        exact hpl _ (heldmay_T h.tag hm h.ok.len)
  · right
    refine ⟨hm, ?_⟩
    rw [hq]
    cases exact with
    | true => simp only [if_true]; unfold putR; rw [if_neg hm]
    | false => simp only [Bool.false_eq_true, if_false]; unfold enterR; rw [if_neg hm]
/-- What Find tells. -/
theorem find_cases (l : List It) (id : Int) : (fi (isIt id) l = -1) ∨ ∃ (j : Nat) (x : It), fi (isIt id) l = j ∧ l[j]? = some x := by
  rcases fi_cases (isIt id) l with ⟨h, _⟩ | ⟨j, x, h1, _, h3, _⟩
  · exact .inl h
  · exact .inr ⟨j, x, h1, h3⟩
end Go.Proofs.YtfijedmdfkelnaaGreat
