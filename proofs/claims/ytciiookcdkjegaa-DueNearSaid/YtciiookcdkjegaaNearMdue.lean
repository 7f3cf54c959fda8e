/- DueNear in the plain model. -/
import Derived.Test.YtciiookcdkjegaaLaw13
import Derived.Test.YtciiookcdkjegaadueM
namespace Go.Proofs.Ytciiookcdkjegaa
open Go.RowKit
set_option linter.unusedVariables false
set_option linter.unusedSimpArgs false

/-- i tasks came with nothing owed. -/
structure Near0 (i : Nat) (S : Ln) : Prop where
  ok : OkS ((i : Int) * 1125899906842624) S
  base : S.base = 0
  len : S.l.length = i
  pts : ∀ x ∈ S.l, x.id < i ∧ x.v = 0
  days : ∀ x ∈ S.l, DayOk x
theorem growB_zero {l : List Pt} (h : ∀ x ∈ l, x.v = 0) : growB 0 l = 0 := by
  unfold growB
  split
  · rfl
  · rename_i z hz
    rw [h z (least_mem hz)]; rfl
theorem near0_start : Near0 0 ⟨0, -1, []⟩ := ⟨OkS.new (by decide) (by decide), rfl, rfl, (fun x hx => by cases hx), (fun x hx => by cases hx)⟩
theorem near0_may {i : Nat} {S : Ln} (h : Near0 i S) (hi : i < 20) {w : Int} (h1 : 1 ≤ w) (h2 : w ≤ 20) : mayE S.l i w 0 = 0 := by
  have hm : mayB i w 0 = true := by unfold mayB; simp only [decide_eq_true_eq]; omega
  have ha : S.l.any (isId i) = false := by
    rw [List.any_eq_false]; intro x hx
    have := (h.pts x hx).1
    simp [isId]; omega
  unfold mayE
  rw [if_pos hm, ha, if_neg (by simp), if_neg (by rw [h.len]; omega)]
theorem near0_next {i : Nat} {S : Ln} (h : Near0 i S) (hi : i < 20) {w : Int} (h1 : 1 ≤ w) (h2 : w ≤ 20) : Near0 (i + 1) (enterR helddue S i w 0) := by
  have hm := near0_may h hi h1 h2
  have hk := h.ok.enter helddue i w 0 (by omega)
  have e1 : enterR helddue S i w 0 = ⟨growB S.base (insP (newP S.base i w 0) S.l), S.cur, insP (newP S.base i w 0) S.l⟩ := by
    unfold enterR; rw [if_pos hm, show helddue 0 = 0 by decide]; unfold putR; rw [if_pos hm]
  have hv : ∀ x ∈ insP (newP S.base i w 0) S.l, x.id < (i + 1 : Nat) ∧ x.v = 0 := by
    intro x hx
    rcases insP_mem.1 hx with rfl | hx
    · simp only [newP]; rw [h.base]; omega
    · have := h.pts x hx; omega
  refine ⟨?_, ?_, ?_, ?_, ?_⟩
  · have e : ((i + 1 : Nat) : Int) * 1125899906842624 = (i : Int) * 1125899906842624 + 1125899906842624 := by omega
    rw [e]; exact hk
  · rw [e1]; simp only; rw [h.base]; exact growB_zero fun x hx => (by rw [h.base] at hv; exact (hv x hx).2)
  · rw [e1]; simp only; rw [insP_len, h.len]
  · rw [e1]; exact hv
  · rw [e1]
    intro x hx
    rcases insP_mem.1 hx with rfl | hx
    · exact DayOk.newP _ _ _ _
    · exact h.days x hx

/-- Behind t ticks. -/
structure Near (m t : Nat) (K : Int) (S : Ln) : Prop where
  ok : OkS K S
  len : S.l.length = m
  b0 : 0 ≤ S.base
  b1 : S.base ≤ (t : Int) * 1000000000
  pts : ∀ x ∈ S.l, S.base ≤ x.v ∧ x.v ≤ S.base + 1000000000
  least : ∃ x ∈ S.l, x.v = S.base
  days : ∀ x ∈ S.l, DayOk x
theorem Near.lags {m t : Nat} {K : Int} {S : Ln} (h : Near m t K S) : Lags S := by
  refine ⟨fun x hx => ?_, ?_, h.days⟩
  · have := h.pts x hx; omega
  · obtain ⟨x, hx, hv⟩ := h.least
    exact .inr ⟨x, hx, by omega⟩
theorem near_start {m : Nat} {S : Ln} (h : Near0 m S) (hm : 0 < m) : Near m 0 ((m : Int) * 1125899906842624) S := by
  refine ⟨h.ok, h.len, by rw [h.base]; omega, by rw [h.base]; omega, fun x hx => ?_, ?_, h.days⟩
  · have := (h.pts x hx).2; rw [h.base]; omega
  · have hl : 0 < S.l.length := by rw [h.len]; exact hm
    exact ⟨S.l[0], List.getElem_mem hl, by rw [h.base]; exact (h.pts _ (List.getElem_mem hl)).2⟩
theorem least_some {l : List Pt} (h : 0 < l.length) : ∃ z, least l = some z := by
  cases l with
  | nil => simp at h
  | cons x t => exact ⟨_, rfl⟩
theorem byid_inj {l : List Pt} (h : ById l) {x y : Pt} (hx : x ∈ l) (hy : y ∈ l) (hid : x.id = y.id) : x = y := by
  obtain ⟨i, hi, rfl⟩ := List.getElem_of_mem hx
  obtain ⟨j, hj, rfl⟩ := List.getElem_of_mem hy
  have hg := List.pairwise_iff_getElem.1 h
  rcases Nat.lt_trichotomy i j with h | rfl | h
  · have := hg i j hi hj h; omega
  · rfl
  · have := hg j i hj hi h; omega
theorem growB_is {base : Int} {l : List Pt} {z : Pt} (hz : least l = some z) (h : ∀ x ∈ l, base ≤ x.v) : growB base l = z.v := by
  have := h z (least_mem hz)
  unfold growB; rw [hz]; simp only; omega
/-- One tick: who is picked is charged. -/
theorem near_tick {m t : Nat} {K : Int} {S : Ln} (h : Near m t K S) (hm : 0 < m) (ht : t < 500) :
    ∃ (id : Int) (S1 S2 : Ln), pickdue S = (S1, id, true) ∧ chargeR S1 = (S2, id, 0) ∧ OkS K S1 ∧ Near m (t + 1) K S2 := by
  obtain ⟨j, x, hp, hat⟩ := pickat_due h.ok (by rw [h.len]; exact hm)
  obtain ⟨c, hc⟩ := pickis_due S
  have hk1 := pickok_due h.ok
  have hroom := room_due h.ok h.lags j x hat
  have hpe : pickdue S = (⟨S.base, c, S.l⟩, x.id, true) := Prod.ext hc hp
  rw [hc] at hk1 hroom hat
  simp only at hat hroom
  obtain ⟨hx, hxm, hid⟩ := at_mem hat
  simp only at hx hxm
  have hst := step_le x.w
  have hb1 := h.b1
  have hpx := h.pts x hxm
  obtain ⟨c1, c2, c3⟩ := chargeP_is x
  have hch : chargeR ⟨S.base, c, S.l⟩ = (⟨growB S.base (S.l.set j (chargeP x)), c, S.l.set j (chargeP x)⟩, x.id, 0) := by
    unfold chargeR; simp only; rw [hat]; simp only; rw [if_neg (by omega)]
  have hok2 : OkS K ⟨growB S.base (S.l.set j (chargeP x)), c, S.l.set j (chargeP x)⟩ := by have := hk1.charge; rw [hch] at this; exact this
  have hpts : ∀ y ∈ S.l.set j (chargeP x), S.base ≤ y.v ∧ y.v ≤ S.base + 1000000000 := by
    intro y hy
    rcases mem_set hx hy with rfl | hy
    · rw [c3]; omega
    · exact h.pts y hy
  obtain ⟨u, hu⟩ := least_some (l := S.l.set j (chargeP x)) (by rw [List.length_set, h.len]; exact hm)
  have hg := growB_is hu (fun y hy => (hpts y hy).1)
  have hum := least_mem hu
  have h5 := hpts u hum
  have h0 := h.b0
  refine ⟨x.id, _, _, hpe, hch, hk1, hok2, by simp only; rw [List.length_set, h.len], by simp only; rw [hg]; omega, by simp only; rw [hg]; omega, fun y hy => ?_, ⟨u, hum, by simp only; rw [hg]⟩, fun y hy => ?_⟩
  · simp only
    rw [hg]
    have h6 := hpts y hy
    have h7 := least_le hu y hy
    omega
  · rcases mem_set hx hy with rfl | hy
    · exact (h.days x hxm).charge
    · exact h.days y hy
end Go.Proofs.Ytciiookcdkjegaa
