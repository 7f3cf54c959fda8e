/- Ticks, whatever the policy: those that came with nothing owed stay near one another. -/
import Derived.Test.YtfijedmdfkelnaaGreatPif
namespace Go.Proofs.YtfijedmdfkelnaaGreat
open Go.RowKit
set_option linter.unusedVariables false
set_option linter.unusedSimpArgs false

/-- Who is there, how heavy. -/
def prof (l : List Pt) : List (Int × Int) := l.map fun x => (x.id, x.w)
theorem prof_set {l : List Pt} {j : Nat} {x y : Pt} (hx : l[j]? = some x) (h1 : y.id = x.id) (h2 : y.w = x.w) : prof (l.set j y) = prof l := by
  unfold prof
  rw [List.map_set, h1, h2]
  obtain ⟨hj, rfl⟩ := List.getElem?_eq_some_iff.1 hx
  apply List.ext_getElem?
  intro i
  rw [List.getElem?_set]
  split
  · rename_i e; subst e; simp [hj]
  · rfl
structure NearT (t : Nat) (K : Int) (S : Ln) : Prop where
  ok : OkS K S
  len : 0 < S.l.length
  b0 : 0 ≤ S.base
  b1 : S.base ≤ (t : Int) * 1000000000
  pts : ∀ x ∈ S.l, S.base ≤ x.v ∧ x.v ≤ S.base + 1000000000
  least : ∃ x ∈ S.l, x.v = S.base
  days : ∀ x ∈ S.l, DayOk x
theorem NearT.lags {t : Nat} {K : Int} {S : Ln} (h : NearT t K S) : Lags S := by
  refine ⟨fun x hx => ?_, ?_, h.days⟩
  · have := h.pts x hx; omega
  · obtain ⟨x, hx, hv⟩ := h.least
    exact .inr ⟨x, hx, by omega⟩
theorem leastT_some {l : List Pt} (h : 0 < l.length) : ∃ z, least l = some z := by
  cases l with
  | nil => simp at h
  | cons x t => exact ⟨_, rfl⟩
theorem growT_is {base : Int} {l : List Pt} {z : Pt} (hz : least l = some z) (h : ∀ x ∈ l, base ≤ x.v) : growB base l = z.v := by
  have := h z (least_mem hz)
  unfold growB; rw [hz]; simp only; omega
/-- One tick: who is picked is charged. -/
theorem nearT_tick {t : Nat} {K tag : Int} {S : Ln} (ht : TagOk tag) (h : NearT t K S) (hb : t < 1000) :
    ∃ (j : Nat) (x : Pt) (S2 : Ln), S.l[j]? = some x ∧ chargeR (pickT tag S).1 = (S2, x.id, 0) ∧ (pickT tag S).2 = (x.id, true) ∧ S2.l = S.l.set j (chargeP x) ∧ NearT (t + 1) K S2 := by
  obtain ⟨j, x, hp, hat⟩ := pickat_T ht h.ok h.len
  obtain ⟨c, hc⟩ := pickis_T ht S
  have hk1 := pickok_T ht h.ok
  have hroom := room_T ht h.ok h.lags j x hat
  rw [hc] at hk1 hroom hat ⊢
  simp only at hat hroom
  obtain ⟨hx, hxm, hid⟩ := at_mem hat
  simp only at hx hxm
  have hst := step_le x.w
  have hb1 := h.b1
  have hpx := h.pts x hxm
  obtain ⟨c1, c2, c3⟩ := chargeP_is x
  have hch : chargeR ⟨S.base, c, S.l⟩ = (⟨growB S.base (S.l.set j (chargeP x)), c, S.l.set j (chargeP x)⟩, x.id, 0) := by
    unfold chargeR; simp only; rw [hat]; simp only; rw [if_neg (by omega)]
  have hok2 : OkS K ⟨growB S.base (S.l.set j (chargeP x)), c, S.l.set j (chargeP x)⟩ := by have := hk1.charge; rw [hch] at this; exact this
  have hpts : ∀ y ∈ S.l.set j (chargeP x), S.base ≤ y.v ∧ y.v ≤ S.base + 1000000000 := by
    intro y hy
    rcases mem_set hx hy with rfl | hy
    · rw [c3]; omega
    · exact h.pts y hy
  obtain ⟨u, hu⟩ := leastT_some (l := S.l.set j (chargeP x)) (by rw [List.length_set]; exact h.len)
  have hg := growT_is hu (fun y hy => (hpts y hy).1)
  have hum := least_mem hu
  have h5 := hpts u hum
  have h0 := h.b0
  refine ⟨j, x, _, hx, hch, hp, rfl, hok2, by simp only; rw [List.length_set]; exact h.len, by simp only; rw [hg]; omega, by simp only; rw [hg]; omega, fun y hy => ?_, ⟨u, hum, by simp only; rw [hg]⟩, fun y hy => ?_⟩
  · simp only
    rw [hg]
    have h6 := hpts y hy
    have h7 := least_le hu y hy
    omega
  · rcases mem_set hx hy with rfl | hy
    · exact (h.days x hxm).charge
    · exact h.days y hy
/-- Nobody is there: nobody is picked, nobody charged. -/
theorem none_tick {tag : Int} (ht : TagOk tag) {S : Ln} (hl : S.l = []) (hc : S.cur = -1) : ∃ c, (pickT tag S).1 = ⟨S.base, c, S.l⟩ ∧ (pickT tag S).2 = (0, false) ∧ c = -1 ∧ chargeR ⟨S.base, -1, S.l⟩ = (⟨S.base, -1, S.l⟩, 0, 14) := by
  obtain ⟨base, cur, l⟩ := S
  simp only at hl hc
  subst hl hc
  refine ⟨-1, ?_, ?_, rfl, rfl⟩ <;> rcases ht with rfl | rfl | rfl <;> rfl

/-- Those that come in with nothing owed. -/
structure NearT0 (i : Nat) (S : Ln) : Prop where
  ok : OkS ((i : Int) * 1125899906842624) S
  base : S.base = 0
  cur : S.cur = -1
  len : S.l.length ≤ i
  pts : ∀ x ∈ S.l, 0 ≤ x.id ∧ x.id < i ∧ x.v = 0
  days : ∀ x ∈ S.l, DayOk x
theorem nearT0_start : NearT0 0 ⟨0, -1, []⟩ := ⟨OkS.new (by decide) (by decide), rfl, rfl, Nat.le_refl _, (fun x hx => by cases hx), (fun x hx => by cases hx)⟩
theorem growT_zero {l : List Pt} (h : ∀ x ∈ l, x.v = 0) : growB 0 l = 0 := by
  unfold growB
  split
  · rfl
  · rename_i z hz
    rw [h z (least_mem hz)]; rfl
/-- One more comes: it is let in just if its weight may be. -/
theorem nearT0_next {tag : Int} (ht : TagOk tag) {i : Nat} {S : Ln} (h : NearT0 i S) (hi : i < 64) (w : Int) :
    NearT0 (i + 1) (enterR (heldT tag) S i w 0) ∧
    ((goodW w = true ∧ mayE S.l i w 0 = 0 ∧ (enterR (heldT tag) S i w 0).l = insP (newP 0 i w 0) S.l) ∨ (goodW w = false ∧ mayE S.l i w 0 = 1 ∧ enterR (heldT tag) S i w 0 = S)) := by
  have hk := h.ok.enter (heldT tag) i w 0 (by omega)
  have eK : ((i + 1 : Nat) : Int) * 1125899906842624 = (i : Int) * 1125899906842624 + 1125899906842624 := by omega
  have ha : S.l.any (isId i) = false := by
    rw [List.any_eq_false]; intro x hx
    have := (h.pts x hx).2.1
    simp [isId]; omega
  have hh : heldT tag 0 = 0 := by rcases ht with rfl | rfl | rfl <;> decide
  have hl := h.len
  cases hg : goodW w with
  | true =>
    obtain ⟨w1, w2⟩ := goodW_true hg
    have hm : mayE S.l i w 0 = 0 := by
      have hm : mayB i w 0 = true := by unfold mayB; simp only [decide_eq_true_eq]; omega
      unfold mayE
      rw [if_pos hm, ha, if_neg (by simp), if_neg (by omega)]
    have e1 : enterR (heldT tag) S i w 0 = ⟨growB S.base (insP (newP S.base i w 0) S.l), S.cur, insP (newP S.base i w 0) S.l⟩ := by
      unfold enterR; rw [if_pos hm, hh]; unfold putR; rw [if_pos hm]
    have hv : ∀ x ∈ insP (newP S.base i w 0) S.l, 0 ≤ x.id ∧ x.id < (i + 1 : Nat) ∧ x.v = 0 := by
      intro x hx
      rcases insP_mem.1 hx with rfl | hx
      · simp only [newP]; rw [h.base]; omega
      · have := h.pts x hx; omega
    refine ⟨⟨by rw [eK]; exact hk, ?_, ?_, ?_, ?_, ?_⟩, .inl ⟨rfl, hm, ?_⟩⟩
    · rw [e1]; simp only; rw [h.base]; exact growT_zero fun x hx => (by rw [h.base] at hv; exact (hv x hx).2.2)
    · rw [e1]; exact h.cur
    · rw [e1]; simp only; rw [insP_len]; omega
    · rw [e1]; exact hv
    · rw [e1]
      intro x hx
      rcases insP_mem.1 hx with rfl | hx
      · exact DayOk.newP _ _ _ _
      · exact h.days x hx
    · rw [e1]; simp only; rw [h.base]
  | false =>
    have hm : mayE S.l i w 0 = 1 := by
      have hm : mayB i w 0 = false := by
        unfold goodW at hg
        unfold mayB
        simp only [decide_eq_false_iff_not] at hg ⊢
        omega
      unfold mayE
      rw [if_neg (by rw [hm]; decide)]
    have e1 : enterR (heldT tag) S i w 0 = S := by unfold enterR; rw [if_neg (by rw [hm]; decide)]
    refine ⟨?_, .inr ⟨rfl, hm, e1⟩⟩
    rw [e1]
    exact ⟨h.ok.mono (by omega) (by omega), h.base, h.cur, by omega, fun x hx => by have := h.pts x hx; omega, h.days⟩
theorem nearT_start {i : Nat} {S : Ln} (h : NearT0 i S) (hl : 0 < S.l.length) : NearT 0 ((i : Int) * 1125899906842624) S := by
  refine ⟨h.ok, hl, by rw [h.base]; omega, by rw [h.base]; omega, fun x hx => ?_, ?_, h.days⟩
  · have := (h.pts x hx).2.2; rw [h.base]; omega
  · exact ⟨S.l[0], List.getElem_mem hl, by rw [h.base]; exact (h.pts _ (List.getElem_mem hl)).2.2⟩
/-- How long all ran together. -/
def sumTo (sv : Int → Int) : Nat → Int
  | 0 => 0
  | k + 1 => sumTo sv k + sv k
theorem sumTo_upd (sv : Int → Int) (id u : Int) : ∀ m : Nat, 0 ≤ id → id < m → sumTo (fun j => if j = id then u else sv j) m = sumTo sv m + (u - sv id)
  | 0, h1, h2 => by omega
  | m + 1, h1, h2 => by
    simp only [sumTo]
    by_cases e : (m : Int) = id
    · rw [if_pos e]
      have : ∀ k : Nat, (k : Int) ≤ id → sumTo (fun j => if j = id then u else sv j) k = sumTo sv k := by
        intro k
        induction k with
        | zero => intro _; rfl
        | succ k ih => intro hk; simp only [sumTo]; rw [ih (by omega), if_neg (by omega)]
      rw [this m (by omega), ← e]; omega
    · rw [if_neg e, sumTo_upd sv id u m h1 (by omega)]; omega
theorem sumTo_zero : ∀ m : Nat, sumTo (fun _ => 0) m = 0
  | 0 => rfl
  | m + 1 => by simp only [sumTo, sumTo_zero m]; rfl
end Go.Proofs.YtfijedmdfkelnaaGreat
