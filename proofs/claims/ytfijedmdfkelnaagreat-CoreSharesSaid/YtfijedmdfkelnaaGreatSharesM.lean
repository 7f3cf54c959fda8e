/- CoreShares in the plain model. -/
import Derived.Test.YtfijedmdfkelnaaGreatServesM
import Derived.Test.YtfijedmdfkelnaaGreatDueM
namespace Go.Proofs.YtfijedmdfkelnaaGreat
open Go.RowKit
set_option linter.unusedVariables false
set_option linter.unusedSimpArgs false

def wAt (ws : List Int) (i : Nat) : Int := ws.getD i 0
def wTo (ws : List Int) : Nat → Int
  | 0 => 0
  | k + 1 => wTo ws k + wAt ws k
/-- The first k weights, and no others, are there. -/
structure ProfI (ws : List Int) (k : Nat) (l : List Pt) : Prop where
  all : ∀ i, i < k → ((i : Int), wAt ws i) ∈ prof l
  only : ∀ q ∈ prof l, ∃ i : Nat, i < k ∧ q = ((i : Int), wAt ws i)
theorem ProfI.congr {ws : List Int} {k : Nat} {l l' : List Pt} (h : ProfI ws k l) (e : prof l' = prof l) : ProfI ws k l' := ⟨by rw [e]; exact h.all, by rw [e]; exact h.only⟩
theorem mem_prof {l : List Pt} {q : Int × Int} : q ∈ prof l ↔ ∃ x ∈ l, x.id = q.1 ∧ x.w = q.2 := by
  unfold prof
  rw [List.mem_map]
  constructor
  · rintro ⟨x, hx, rfl⟩; exact ⟨x, hx, rfl, rfl⟩
  · rintro ⟨x, hx, h1, h2⟩; exact ⟨x, hx, Prod.ext h1 h2⟩
theorem ProfI.ins {ws : List Int} {k : Nat} {l : List Pt} (h : ProfI ws k l) (b lag : Int) : ProfI ws (k + 1) (insP (newP b k (wAt ws k) lag) l) := by
  refine ⟨fun i hi => ?_, fun q hq => ?_⟩
  · rcases Nat.lt_or_ge i k with h1 | h1
    · obtain ⟨x, hx, h2⟩ := mem_prof.1 (h.all i h1)
      exact mem_prof.2 ⟨x, insP_mem.2 (.inr hx), h2⟩
    · obtain rfl : i = k := by omega
      exact mem_prof.2 ⟨_, insP_mem.2 (.inl rfl), rfl, rfl⟩
  · obtain ⟨x, hx, h1, h2⟩ := mem_prof.1 hq
    rcases insP_mem.1 hx with rfl | hx
    · exact ⟨k, by omega, Prod.ext h1.symm h2.symm⟩
    · obtain ⟨i, hi, e⟩ := h.only q (mem_prof.2 ⟨x, hx, h1, h2⟩)
      exact ⟨i, by omega, e⟩
/-- Those who came in so far. -/
structure ShA (ws : List Int) (i : Nat) (s : CoreS) : Prop where
  sv : ∃ inn, SvA s.tag i inn s
  prof : ProfI ws i s.q.l
theorem ShA.start {ws : List Int} {tag : Int} (ht : TagOk tag) : ShA ws 0 ⟨tag, ⟨0, -1, []⟩, fun _ => 0, 0, 0, 0⟩ := ⟨⟨0, SvA.start ht⟩, ⟨fun i hi => absurd hi (Nat.not_lt_zero _), fun q hq => by cases hq⟩⟩
theorem ShA.next {ws : List Int} {i : Nat} {s : CoreS} (h : ShA ws i s) (hi : i < 64) (h1 : 1 ≤ wAt ws i) (h2 : wAt ws i ≤ 20) : mayE s.q.l i (wAt ws i) 0 = 0 ∧ ShA ws (i + 1) (s.enter i (wAt ws i) 0 false) := by
  obtain ⟨inn, hA⟩ := h.sv
  have ht : TagOk s.tag := hA.ok.tag
  obtain ⟨_, hc⟩ := nearT0_next ht hA.near hi (wAt ws i)
  have hg : goodW (wAt ws i) = true := by unfold goodW; simp; omega
  rcases hc with ⟨_, hm, hl⟩ | ⟨hg2, _, _⟩
  · have htag : (s.enter i (wAt ws i) 0 false).tag = s.tag := by
      show (CoreS.done _ (mayE s.q.l i (wAt ws i) 0)).tag = _
      rw [hm]; rfl
    have hq : (s.enter i (wAt ws i) 0 false).q.l = insP (newP 0 i (wAt ws i) 0) s.q.l := by
      show (CoreS.done { s with q := enterR (heldT s.tag) s.q i (wAt ws i) 0 } (mayE s.q.l i (wAt ws i) 0)).q.l = _
      rw [hm]; exact hl
    refine ⟨hm, ⟨inn + 1, ?_⟩, ?_⟩
    · rcases hA.next hi (wAt ws i) with ⟨_, h3⟩ | ⟨h3, _⟩
      · rw [htag]; exact h3
      · rw [hm] at h3; cases h3
    · rw [hq]; exact h.prof.ins 0 0
  · rw [hg] at hg2; cases hg2
/-- Behind t runs: points are a common number, and as many steps as each ran. -/
structure ShB (ws : List Int) (m t : Nat) (s : CoreS) : Prop where
  ok : CoreOk (m + t) ((m : Int) * 1125899906842624) s
  near : NearT t ((m : Int) * 1125899906842624) s.q
  prof : ProfI ws m s.q.l
  sum : sumTo s.sv m = t
  share : ∃ C, ∀ x ∈ s.q.l, x.v = C + s.sv x.id * step x.w
theorem ShA.runs {ws : List Int} {m : Nat} {s : CoreS} (h : ShA ws m s) (hm : 0 < m) : ShB ws m 0 s := by
  obtain ⟨inn, hA⟩ := h.sv
  have hl : 0 < s.q.l.length := by
    obtain ⟨x, hx, _⟩ := mem_prof.1 (h.prof.all 0 hm)
    exact List.length_pos_of_mem hx
  have hsum : sumTo s.sv m = 0 := by
    have : s.sv = fun _ => 0 := funext hA.sv
    rw [this]; exact sumTo_zero m
  exact ⟨hA.ok, nearT_start hA.near hl, h.prof, by rw [hsum]; rfl, 0, fun x hx => by rw [hA.sv, Int.zero_mul]; exact (hA.near.pts x hx).2.2⟩
theorem ShB.next {ws : List Int} {m t : Nat} {s : CoreS} (h : ShB ws m t s) (hb : t < 1000) : ∃ s' v, s.run = (s', v, 0) ∧ (-9223372036854775808 ≤ s.ran.2.1 ∧ s.ran.2.1 ≤ 9223372036854775807) ∧ 0 ≤ v ∧ v < m ∧ ShB ws m (t + 1) s' := by
  have hok := h.ok.run
  have ht := h.ok.tag
  obtain ⟨j, x, S2, hx, hc, hp, hl, hN⟩ := nearT_tick ht h.near hb
  have hxm := List.mem_of_getElem? hx
  have hpx := h.near.ok.pts x hxm
  obtain ⟨i, hi, hq⟩ := h.prof.only (x.id, x.w) (mem_prof.2 ⟨x, hxm, rfl, rfl⟩)
  obtain ⟨hid, hww⟩ : x.id = (i : Int) ∧ x.w = wAt ws i := by simpa using hq
  have hran : s.ran = (S2, x.id, 0) := hc
  have hrun : s.run = ({ s with q := S2, sv := updI s.sv x.id (s.sv x.id + 1), n := s.n + 1, age := s.age + 1 }, x.id, 0) := by
    unfold CoreS.run; rw [hran]; rfl
  rw [hrun] at hok
  obtain ⟨C, hC⟩ := h.share
  obtain ⟨c1, c2, c3⟩ := chargeP_is x
  refine ⟨_, _, hrun, by rw [hran]; simp only; omega, by omega, by omega, hok, hN, ?_, ?_, C, ?_⟩
  · simp only; rw [hl]; exact h.prof.congr (prof_set hx c1 c2)
  · simp only
    have := sumTo_upd s.sv x.id (s.sv x.id + 1) m (by omega) (by omega)
    unfold updI
    rw [this, h.sum]; omega
  · simp only
    rw [hl]
    intro y hy
    obtain ⟨k, hk⟩ := List.mem_iff_getElem?.1 hy
    rw [List.getElem?_set] at hk
    by_cases e : j = k
    · subst e
      rw [if_pos rfl, if_pos (List.getElem?_eq_some_iff.1 hx).1] at hk
      obtain rfl : chargeP x = y := by simpa using hk
      unfold updI
      rw [c1, c2, c3, if_pos rfl, hC x hxm, Int.add_mul, Int.one_mul]; omega
    · rw [if_neg e] at hk
      have hym := List.mem_of_getElem? hk
      have hne : y.id ≠ x.id := by
        intro e2
        obtain ⟨hj, hje⟩ := List.getElem?_eq_some_iff.1 hx
        obtain ⟨hk2, hke⟩ := List.getElem?_eq_some_iff.1 hk
        have hg := List.pairwise_iff_getElem.1 h.near.ok.byid
        rcases Nat.lt_or_gt_of_ne e with h1 | h1
        · have := hg j k hj hk2 h1; rw [hje, hke] at this; omega
        · have := hg k j hk2 hj h1; rw [hje, hke] at this; omega
      unfold updI
      rw [if_neg hne]; exact hC y hym
/-- Another queue of what is owed: all goes on. -/
theorem ShB.change {ws : List Int} {m t : Nat} {s : CoreS} (h : ShB ws m t s) {tag2 : Int} (ht : TagOk tag2) :
    goodF (formR s.q) = true ∧ formR (seedR (formR s.q) 0) = formR s.q ∧ OkS 0 (seedR (formR s.q) 0) ∧ ShB ws m t { s with tag := tag2, q := seedR (formR s.q) 0 } := by
  have hg : goodF (formR s.q) = true := good_of_lags h.near.ok h.near.lags
  have hk : OkS 0 (seedR (formR s.q) 0) := OkS.seed (by decide) (by decide) hg
  have k0 := h.near.ok.k0
  have k1 := h.near.ok.k1
  have hk2 := hk.mono k0 k1
  obtain ⟨C, hC⟩ := h.share
  have hmem : ∀ y ∈ (seedR (formR s.q) 0).l, ∃ x ∈ s.q.l, y.id = x.id ∧ y.w = x.w ∧ y.v = x.v - s.q.base := by
    intro y hy
    simp only [seedR, formR, List.mem_map] at hy
    obtain ⟨z, ⟨x, hx, rfl⟩, rfl⟩ := hy
    exact ⟨x, hx, rfl, rfl, by simp only [seedP, newP, itOf]; omega⟩
  have hback : ∀ x ∈ s.q.l, seedP 0 (itOf s.q.base x) ∈ (seedR (formR s.q) 0).l := fun x hx => by
    simp only [seedR, formR]
    exact List.mem_map_of_mem (List.mem_map_of_mem hx)
  refine ⟨hg, form_seed _ _, hk, ⟨ht, hk2, h.ok.age0, h.ok.age1, h.ok.idle0, h.ok.idle1, h.ok.sv0, h.ok.sv1, h.ok.n1⟩, ⟨hk2, ?_, Int.le_refl _, ?_, ?_, ?_, (Lags.seed hg).days⟩, ?_, h.sum, C - s.q.base, ?_⟩
  · simp only [seedR, formR, List.length_map]; exact h.near.len
  · simp only [seedR]; omega
  · intro y hy
    obtain ⟨x, hx, _, _, e⟩ := hmem y hy
    have := h.near.pts x hx
    have e0 : (seedR (formR s.q) 0).base = 0 := rfl
    rw [e0, e]; omega
  · obtain ⟨x, hx, e⟩ := h.near.least
    refine ⟨_, hback x hx, ?_⟩
    simp only [seedP, newP, itOf, seedR]; omega
  · refine h.prof.congr ?_
    show (seedR (formR s.q) 0).l.map (fun x => (x.id, x.w)) = s.q.l.map (fun x => (x.id, x.w))
    simp only [seedR, formR, List.map_map]
    exact List.map_congr_left fun x _ => rfl
  · intro y hy
    obtain ⟨x, hx, e1, e2, e3⟩ := hmem y hy
    show y.v = C - s.q.base + s.sv y.id * step y.w
    rw [e1, e2, e3, hC x hx]; omega

theorem step_mul {w : Int} (h1 : 1 ≤ w) (h2 : w ≤ 20) : step w * w = 232792560 := by
  have : w = 1 ∨ w = 2 ∨ w = 3 ∨ w = 4 ∨ w = 5 ∨ w = 6 ∨ w = 7 ∨ w = 8 ∨ w = 9 ∨ w = 10 ∨ w = 11 ∨ w = 12 ∨ w = 13 ∨ w = 14 ∨ w = 15 ∨ w = 16 ∨ w = 17 ∨ w = 18 ∨ w = 19 ∨ w = 20 := by omega
  rcases this with rfl | rfl | rfl | rfl | rfl | rfl | rfl | rfl | rfl | rfl | rfl | rfl | rfl | rfl | rfl | rfl | rfl | rfl | rfl | rfl <;> decide
/-- All together. -/
theorem shares_sum {ws : List Int} {m t : Nat} {s : CoreS} (h : ShB ws m t s) (hw : ∀ i, i < m → 1 ≤ wAt ws i ∧ wAt ws i ≤ 20) {i : Nat} (hi : i < m) :
    ∀ k, k ≤ m → -(1000000000 * wTo ws k) ≤ s.sv i * step (wAt ws i) * wTo ws k - 232792560 * sumTo s.sv k ∧ s.sv i * step (wAt ws i) * wTo ws k - 232792560 * sumTo s.sv k ≤ 1000000000 * wTo ws k := by
  obtain ⟨C, hC⟩ := h.share
  have hpt : ∀ j, j < m → ∃ v, v = C + s.sv j * step (wAt ws j) ∧ s.q.base ≤ v ∧ v ≤ s.q.base + 1000000000 := by
    intro j hj
    obtain ⟨x, hx, h1, h2⟩ := mem_prof.1 (h.prof.all j hj)
    have h3 := h.near.pts x hx
    refine ⟨x.v, ?_, h3.1, h3.2⟩
    rw [hC x hx, h1, h2]
  obtain ⟨vi, ei, li, ui⟩ := hpt i hi
  generalize hA : s.sv i * step (wAt ws i) = A at ei
  intro k
  induction k with
  | zero => intro _; simp [wTo, sumTo]
  | succ k ih =>
    intro hk
    obtain ⟨h1, h2⟩ := ih (by omega)
    obtain ⟨vj, ej, lj, uj⟩ := hpt k (by omega)
    obtain ⟨w1, w2⟩ := hw k (by omega)
    have hs := step_mul w1 w2
    have e1 : A * wTo ws (k + 1) = A * wTo ws k + A * wAt ws k := by simp only [wTo]; rw [Int.mul_add]
    have e2 : (A - s.sv k * step (wAt ws k)) * wAt ws k = A * wAt ws k - 232792560 * s.sv k := by
      rw [Int.sub_mul, Int.mul_assoc, hs, Int.mul_comm (s.sv k)]
    have e3 := prod_abs (a := A - s.sv k * step (wAt ws k)) (b := wAt ws k) (B := 1000000000) (M := wAt ws k) (by omega) (by omega) (by omega) (Int.le_refl _) (by omega)
    rw [e2] at e3
    rw [e1]
    simp only [wTo, sumTo]
    omega
theorem wTo_pos {ws : List Int} {m : Nat} (hw : ∀ i, i < m → 1 ≤ wAt ws i ∧ wAt ws i ≤ 20) : ∀ k, k ≤ m → (k : Int) ≤ wTo ws k ∧ wTo ws k ≤ 20 * k := by
  intro k
  induction k with
  | zero => intro _; simp [wTo]
  | succ k ih => intro hk; have := ih (by omega); have := hw k (by omega); simp only [wTo]; omega
theorem share_off {ws : List Int} {m t : Nat} {s : CoreS} (h : ShB ws m t s) (hw : ∀ i, i < m → 1 ≤ wAt ws i ∧ wAt ws i ≤ 20) {i : Nat} (hi : i < m) :
    -(5 * wTo ws m * wAt ws i) ≤ s.sv i * wTo ws m - t * wAt ws i ∧ s.sv i * wTo ws m - t * wAt ws i ≤ 5 * wTo ws m * wAt ws i := by
  obtain ⟨h1, h2⟩ := shares_sum h hw hi m (Nat.le_refl _)
  rw [h.sum] at h1 h2
  obtain ⟨w1, w2⟩ := hw i hi
  have hs := step_mul w1 w2
  have hW := (wTo_pos hw m (Nat.le_refl _)).1
  generalize wTo ws m = W at h1 h2 hW ⊢
  generalize wAt ws i = v at h1 h2 w1 w2 hs ⊢
  generalize s.sv i = a at h1 h2 ⊢
  have e1 := prod_abs (a := a * step v * W - 232792560 * t) (b := v) (B := 1000000000 * W) (M := v) (by omega) (by omega) (by omega) (Int.le_refl _) (by omega)
  have e2 : (a * step v * W - 232792560 * t) * v = 232792560 * (a * W - t * v) := by
    rw [Int.sub_mul, Int.mul_sub]
    have x1 : a * step v * W * v = 232792560 * (a * W) := by
      rw [Int.mul_right_comm (a * step v) W v, Int.mul_assoc a (step v) v, hs, Int.mul_comm a 232792560, Int.mul_assoc]
    have x2 : 232792560 * (t : Int) * v = 232792560 * (t * v) := Int.mul_assoc _ _ _
    rw [x1, x2]
  rw [e2] at e1
  have e3 : 1000000000 * W * v = 1000000000 * (W * v) := Int.mul_assoc _ _ _
  have e4 : 5 * W * v = 5 * (W * v) := Int.mul_assoc _ _ _
  rw [e3] at e1
  rw [e4]
  have hT : 0 ≤ W * v := Int.mul_nonneg (by omega) (by omega)
  generalize W * v = T at e1 hT ⊢
  generalize a * W - t * v = X at e1 ⊢
  omega
end Go.Proofs.YtfijedmdfkelnaaGreat
