/- What a queue keeps: all is owed as it may be; days. -/
import Derived.Test.YtlgkkolgdjgclaaGreatO
namespace Go.Proofs.YtlgkkolgdjgclaaGreat
open Go.RowKit
set_option linter.unusedVariables false
set_option linter.unusedSimpArgs false

/-- A task's day is one to four steps off. -/
def DayOk (x : Pt) : Prop := x.day = x.v + step x.w ∨ x.day = x.v + 2 * step x.w ∨ x.day = x.v + 3 * step x.w ∨ x.day = x.v + 4 * step x.w
structure Lags (S : Ln) : Prop where
  lag : ∀ x ∈ S.l, -1125899906842624 ≤ S.base - x.v ∧ S.base - x.v ≤ 1125899906842624
  front : S.l = [] ∨ ∃ x ∈ S.l, x.v ≤ S.base
  days : ∀ x ∈ S.l, DayOk x
theorem DayOk.le {x : Pt} (h : DayOk x) : x.v + step x.w ≤ x.day ∧ x.day ≤ x.v + 4 * step x.w := by
  have := step_le x.w
  unfold DayOk at h; omega
theorem DayOk.dayOf (x : Pt) : DayOk (dayOf x) := .inr (.inr (.inr rfl))
theorem DayOk.newP (base id w lag : Int) : DayOk (newP base id w lag) := .inr (.inr (.inr rfl))
theorem DayOk.charge {x : Pt} (h : DayOk x) : DayOk (chargeP x) := by
  unfold chargeP
  split
  · exact DayOk.dayOf _
  · rename_i hn
    unfold DayOk at h ⊢
    simp only
    omega
theorem Lags.of_grow {base cur : Int} {l : List Pt} (h : ∀ x ∈ l, -1125899906842624 ≤ base - x.v ∧ base - x.v ≤ 1125899906842624) (hd : ∀ x ∈ l, DayOk x) : Lags ⟨growB base l, cur, l⟩ := by
  cases hz : least l with
  | none =>
    obtain rfl : l = [] := least_none.1 hz
    exact ⟨fun x hx => by simp at hx, .inl rfl, hd⟩
  | some z =>
    have hm := least_mem hz
    have hle := least_le hz
    have hg : growB base l = max base z.v := by unfold growB; rw [hz]
    have h3 := h z hm
    refine ⟨fun x hx => ?_, .inr ⟨z, hm, by simp only; rw [hg]; omega⟩, hd⟩
    have h1 := h x hx
    have h2 := hle x hx
    simp only; rw [hg]; omega
theorem Lags.curs {S : Ln} (h : Lags S) (c : Int) : Lags ⟨S.base, c, S.l⟩ := ⟨h.lag, h.front, h.days⟩
theorem Lags.put {S : Ln} (h : Lags S) (id w lag : Int) (hl : S.l.length ≤ 64) : Lags (putR S id w lag) := by
  unfold putR
  split
  · rename_i hm
    have hm1 := mayB_true (mayE_zero hl hm).1
    refine Lags.of_grow (fun x hx => ?_) fun x hx => ?_
    · rcases insP_mem.1 hx with rfl | hx
      · simp only [newP]; omega
      · exact h.lag x hx
    · rcases insP_mem.1 hx with rfl | hx
      · exact DayOk.newP _ _ _ _
      · exact h.days x hx
  · exact h
theorem Lags.enter {S : Ln} (h : Lags S) (held : Int → Int) (id w lag : Int) (hl : S.l.length ≤ 64) : Lags (enterR held S id w lag) := by
  unfold enterR
  split
  · exact h.put _ _ _ hl
  · exact h
theorem Lags.leave {S : Ln} (h : Lags S) (id : Int) : Lags (leaveR S id).1 := by
  unfold leaveR
  cases at? S id with
  | none => exact h
  | some p =>
    obtain ⟨j, x⟩ := p
    have hs : (S.l.eraseIdx j).Sublist S.l := List.eraseIdx_sublist _ _
    exact Lags.of_grow (fun y hy => h.lag y (hs.subset hy)) fun y hy => h.days y (hs.subset hy)
theorem Lags.weigh {S : Ln} (h : Lags S) (id w : Int) : Lags (weighR S id w).1 := by
  unfold weighR
  rcases at_cases S id with ⟨e, _⟩ | ⟨j, x, e, _, _, hx, _⟩
  · rw [e]; exact h
  · rw [e]
    simp only
    split
    · refine Lags.of_grow (fun y hy => ?_) fun y hy => ?_
      · rcases mem_set hx hy with rfl | hy
        · exact h.lag x (List.mem_of_getElem? hx)
        · exact h.lag y hy
      · rcases mem_set hx hy with rfl | hy
        · exact DayOk.dayOf _
        · exact h.days y hy
    · exact h
theorem at_mem {S : Ln} {id : Int} {j : Nat} {x : Pt} (h : at? S id = some (j, x)) : S.l[j]? = some x ∧ x ∈ S.l ∧ x.id = id := by
  rcases at_cases S id with ⟨e, _⟩ | ⟨j', x', e, _, _, hx, hid⟩
  · rw [e] at h; cases h
  · rw [e] at h
    obtain ⟨rfl, rfl⟩ : j' = j ∧ x' = x := by simpa using h
    exact ⟨hx, List.mem_of_getElem? hx, hid⟩
theorem ById.uniq {l : List Pt} (h : ById l) {x y : Pt} (hx : x ∈ l) (hy : y ∈ l) (he : x.id = y.id) : x = y := by
  obtain ⟨i, hi, rfl⟩ := List.getElem_of_mem hx
  obtain ⟨j, hj, rfl⟩ := List.getElem_of_mem hy
  have hg := List.pairwise_iff_getElem.1 h
  rcases Nat.lt_trichotomy i j with h1 | rfl | h1
  · have := hg i j hi hj h1; omega
  · rfl
  · have := hg j i hj hi h1; omega
theorem Lags.charge {S : Ln} (h : Lags S) (hr : ∀ j x, at? S S.cur = some (j, x) → x.v + step x.w ≤ S.base + 1000000000) : Lags (chargeR S).1 := by
  unfold chargeR
  rcases at_cases S S.cur with ⟨e, _⟩ | ⟨j, x, e, _, _, hx, _⟩
  · rw [e]; exact h
  · rw [e]
    simp only
    split
    · exact h
    · have h1 := hr j x e
      have h2 := h.lag x (List.mem_of_getElem? hx)
      have h3 := step_le x.w
      refine Lags.of_grow (fun y hy => ?_) fun y hy => ?_
      · rcases mem_set hx hy with rfl | hy
        · rw [(chargeP_is x).2.2]; omega
        · exact h.lag y hy
      · rcases mem_set hx hy with rfl | hy
        · exact (h.days x (List.mem_of_getElem? hx)).charge
        · exact h.days y hy
theorem Lags.new (base : Int) : Lags ⟨base, -1, []⟩ := ⟨(fun x hx => by cases hx), .inl rfl, (fun x hx => by cases hx)⟩
theorem Lags.seed {base : Int} {f : Fm} (hg : goodF f = true) : Lags (seedR f base) := by
  obtain ⟨g1, g2, g3, g4, g5⟩ := (of_decide_eq_true hg : GoodP f)
  refine ⟨fun x hx => ?_, ?_, fun x hx => ?_⟩
  · simp only [seedR, List.mem_map] at hx
    obtain ⟨y, hy, rfl⟩ := hx
    have := mayB_true (g3 y hy)
    simp only [seedR, seedP, newP]; omega
  · rcases g5 with h | ⟨x, hx, h⟩
    · left; simp only [seedR, h, List.map_nil]
    · right
      exact ⟨seedP base x, List.mem_map.2 ⟨x, hx, rfl⟩, by simp only [seedR, seedP, newP]; omega⟩
  · simp only [seedR, List.mem_map] at hx
    obtain ⟨y, hy, rfl⟩ := hx
    exact DayOk.newP _ _ _ _
/-- What is owed may be. -/
theorem good_of_lags {K : Int} {S : Ln} (h : OkS K S) (g : Lags S) : goodF (formR S) = true := by
  refine decide_eq_true ⟨?_, ?_, ?_, ?_, ?_⟩
  · simp only [formR, List.length_map]; exact h.len
  · rcases h.cur with hc | ⟨x, hx, hc⟩
    · exact .inl hc
    · exact .inr ⟨itOf S.base x, List.mem_map.2 ⟨x, hx, rfl⟩, hc⟩
  · intro y hy
    simp only [formR, List.mem_map] at hy
    obtain ⟨x, hx, rfl⟩ := hy
    have h1 := h.pts x hx
    have h2 := g.lag x hx
    simp only [formR, itOf]
    unfold mayB
    simp only [decide_eq_true_eq]; omega
  · exact List.pairwise_map.2 h.byid
  · rcases g.front with hf | ⟨x, hx, hf⟩
    · left; simp only [formR, hf, List.map_nil]
    · right
      exact ⟨itOf S.base x, List.mem_map.2 ⟨x, hx, rfl⟩, by simp only [itOf]; omega⟩
/-- The base never falls. -/
theorem base_put (S : Ln) (id w lag : Int) : S.base ≤ (putR S id w lag).base := by
  unfold putR; split
  · exact growB_ge _ _
  · exact Int.le_refl _
theorem base_enter (held : Int → Int) (S : Ln) (id w lag : Int) : S.base ≤ (enterR held S id w lag).base := by
  unfold enterR; split
  · exact base_put _ _ _ _
  · exact Int.le_refl _
theorem base_leave (S : Ln) (id : Int) : S.base ≤ (leaveR S id).1.base := by
  unfold leaveR; split
  · exact Int.le_refl _
  · exact growB_ge _ _
theorem base_weigh (S : Ln) (id w : Int) : S.base ≤ (weighR S id w).1.base := by
  unfold weighR; split
  · exact Int.le_refl _
  · split
    · exact growB_ge _ _
    · exact Int.le_refl _
theorem base_charge (S : Ln) : S.base ≤ (chargeR S).1.base := by
  unfold chargeR; split
  · exact Int.le_refl _
  · split
    · exact Int.le_refl _
    · exact growB_ge _ _
/-- Who is taken is found. -/
theorem take_at {K : Int} {S : Ln} (h : OkS K S) {z : Pt} (hz : z ∈ S.l) : ∃ j, at? (takeR S (some z)).1 z.id = some (j, z) := by
  rcases at_cases (takeR S (some z)).1 z.id with ⟨_, _, h3⟩ | ⟨j, x, h1, _, hj, hx, hid⟩
  · exact absurd rfl (h3 z hz)
  · obtain rfl := h.byid.uniq (List.mem_of_getElem? hx) hz hid
    exact ⟨j, h1⟩
theorem takeR_is (S : Ln) (z : Option Pt) : ∃ c, (takeR S z).1 = ⟨S.base, c, S.l⟩ := by cases z <;> exact ⟨_, rfl⟩
end Go.Proofs.YtlgkkolgdjgclaaGreat
