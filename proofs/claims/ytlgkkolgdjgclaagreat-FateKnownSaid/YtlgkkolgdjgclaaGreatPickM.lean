/- What a queue keeps: all is owed as it may be; days. -/
import Derived.Test.YtlgkkolgdjgclaaGreatO
namespace Go.Proofs.YtlgkkolgdjgclaaGreat
open Go.RowKit
set_option linter.unusedVariables false
set_option linter.unusedSimpArgs false

/-- A task's day is one to four steps off. -/
def DayOk (x : Pt) : Prop := x.day = x.v + step x.w ∨ x.day = x.v + 2 * step x.w ∨ x.day = x.v + 3 * step x.w ∨ x.day = x.v + 4 * step x.w
structure Lags (S : Ln) : Prop where
  lag : ∀ x ∈ S.l, -1125899906842624 ≤ S.base - x.v ∧ S.base - x.v ≤ 1125899906842624
  front : S.l = [] ∨ ∃ x ∈ S.l, x.v ≤ S.base
  days : ∀ x ∈ S.l, DayOk x
theorem DayOk.le {x : Pt} (h : DayOk x) : x.v + step x.w ≤ x.day ∧ x.day ≤ x.v + 4 * step x.w := by
  have := step_le x.w
  unfold DayOk at h; omega
theorem DayOk.dayOf (x : Pt) : DayOk (dayOf x) := .inr (.inr (.inr rfl))
theorem DayOk.newP (base id w lag : Int) : DayOk (newP base id w lag) := .inr (.inr (.inr rfl))
theorem DayOk.charge {x : Pt} (h : DayOk x) : DayOk (chargeP x) := by
  unfold chargeP
  split
  · exact DayOk.dayOf _
  · rename_i hn
    unfold DayOk at h ⊢
    simp only
    omega
theorem Lags.of_grow {base cur : Int} {l : List Pt} (h : ∀ x ∈ l, -1125899906842624 ≤ base - x.v ∧ base - x.v ≤ 1125899906842624) (hd : ∀ x ∈ l, DayOk x) : Lags ⟨growB base l, cur, l⟩ := by
  cases hz : least l with
  | none =>
    obtain rfl : l = [] := least_none.1 hz
    exact ⟨fun x hx => by simp at hx, .inl rfl, hd⟩
  | some z =>
    have hm := least_mem hz
    have hle := least_le hz
    have hg : growB base l = max base z.v := by unfold growB; rw [hz]
    have h3 := h z hm
    refine ⟨fun x hx => ?_, .inr ⟨z, hm, by simp only; rw [hg]; omega⟩, hd⟩
    have h1 := h x hx
    have h2 := hle x hx
    simp only; rw [hg]; omega
theorem Lags.curs {S : Ln} (h : Lags S) (c : Int) : Lags ⟨S.base, c, S.l⟩ := ⟨h.lag, h.front, h.days⟩
theorem Lags.put {S : Ln} (h : Lags S) (id w lag : Int) (hl : S.l.length ≤ 64) : Lags (putR S id w lag) := by
  unfold putR
  split
  · rename_i hm
    have hm1 := mayB_true (mayE_zero hl hm).1
    refine Lags.of_grow (fun x hx => ?_) fun x hx => ?_
    · rcases insP_mem.1 hx with rfl | hx
      · simp only [newP]; omega
      · exact h.lag x hx
    · rcases insP_mem.1 hx with rfl | hx
      · exact DayOk.newP _ _ _ _
      · exact h.days x hx
  · exact h
theorem Lags.enter {S : Ln} (h : Lags S) (held : Int → Int) (id w lag : Int) (hl : S.l.length ≤ 64) : Lags (enterR held S id w lag) := by
  unfold enterR
  split
  · exact h.put _ _ _ hl
  · exact h
theorem Lags.leave {S : Ln} (h : Lags S) (id : Int) : Lags (leaveR S id).1 := by
  unfold leaveR
  cases at? S id with
  | none => exact h
  | some p =>
    obtain ⟨j, x⟩ := p
    have hs : (S.l.eraseIdx j).Sublist S.l := List.eraseIdx_sublist _ _
    exact Lags.of_grow (fun y hy => h.lag y (hs.subset hy)) fun y hy => h.days y (hs.subset hy)
theorem Lags.weigh {S : Ln} (h : Lags S) (id w : Int) : Lags (weighR S id w).1 := by
  unfold weighR
  rcases at_cases S id with ⟨e, _⟩ | ⟨j, x, e, _, _, hx, _⟩
  · rw [e]; exact h
  · rw [e]
    simp only
    split
    · refine Lags.of_grow (fun y hy => ?_) fun y hy => ?_
      · rcases mem_set hx hy with rfl | hy
        · exact h.lag x (List.mem_of_getElem? hx)
        · exact h.lag y hy
      · rcases mem_set hx hy with rfl | hy
        · exact DayOk.dayOf _
        · exact h.days y hy
    · exact h
theorem at_mem {S : Ln} {id : Int} {j : Nat} {x : Pt} (h : at? S id = some (j, x)) : S.l[j]? = some x ∧ x ∈ S.l ∧ x.id = id := by
  rcases at_cases S id with ⟨e, _⟩ | ⟨j', x', e, _, _, hx, hid⟩
  · rw [e] at h; cases h
  · rw [e] at h
    obtain ⟨rfl, rfl⟩ : j' = j ∧ x' = x := by simpa using h
    exact ⟨hx, List.mem_of_getElem? hx, hid⟩
theorem ById.uniq {l : List Pt} (h : ById l) {x y : Pt} (hx : x ∈ l) (hy : y ∈ l) (he : x.id = y.id) : x = y := by
  obtain ⟨i, hi, rfl⟩ := List.getElem_of_mem hx
  obtain ⟨j, hj, rfl⟩ := List.getElem_of_mem hy
  have hg := List.pairwise_iff_getElem.1 h
  rcases Nat.lt_trichotomy i j with h1 | rfl | h1
  · have := hg i j hi hj h1; omega
  · rfl
  · have := hg j i hj hi h1; omega
theorem Lags.charge {S : Ln} (h : Lags S) (hr : ∀ j x, at? S S.cur = some (j, x) → x.v + step x.w ≤ S.base + 1000000000) : Lags (chargeR S).1 := by
  unfold chargeR
  rcases at_cases S S.cur with ⟨e, _⟩ | ⟨j, x, e, _, _, hx, _⟩
  · rw [e]; exact h
  · rw [e]
    simp only
    split
    · exact h
    · have h1 := hr j x e
      have h2 := h.lag x (List.mem_of_getElem? hx)
      have h3 := step_le x.w
      refine Lags.of_grow (fun y hy => ?_) fun y hy => ?_
      · rcases mem_set hx hy with rfl | hy
        · rw [(chargeP_is x).2.2]; omega
        · exact h.lag y hy
      · rcases mem_set hx hy with rfl | hy
        · exact (h.days x (List.mem_of_getElem? hx)).charge
        · exact h.days y hy
theorem Lags.new (base : Int) : Lags ⟨base, -1, []⟩ := ⟨(fun x hx => by cases hx), .inl rfl, (fun x hx => by cases hx)⟩
theorem Lags.seed {base : Int} {f : Fm} (hg : goodF f = true) : Lags (seedR f base) := by
  obtain ⟨g1, g2, g3, g4, g5⟩ := (of_decide_eq_true hg : GoodP f)
  refine ⟨fun x hx => ?_, ?_, fun x hx => ?_⟩
  · simp only [seedR, List.mem_map] at hx
    obtain ⟨y, hy, rfl⟩ := hx
    have := mayB_true (g3 y hy)
    simp only [seedR, seedP, newP]; omega
  · rcases g5 with h | ⟨x, hx, h⟩
    · left; simp only [seedR, h, List.map_nil]
    · right
      exact ⟨seedP base x, List.mem_map.2 ⟨x, hx, rfl⟩, by simp only [seedR, seedP, newP]; omega⟩
  · simp only [seedR, List.mem_map] at hx
    obtain ⟨y, hy, rfl⟩ := hx
    exact DayOk.newP _ _ _ _
/-- What is owed may be. -/
theorem good_of_lags {K : Int} {S : Ln} (h : OkS K S) (g : Lags S) : goodF (formR S) = true := by
  refine decide_eq_true ⟨?_, ?_, ?_, ?_, ?_⟩
  · simp only [formR, List.length_map]; exact h.len
  · rcases h.cur with hc | ⟨x, hx, hc⟩
    · exact .inl hc
    · exact .inr ⟨itOf S.base x, List.mem_map.2 ⟨x, hx, rfl⟩, hc⟩
  · intro y hy
    simp only [formR, List.mem_map] at hy
    obtain ⟨x, hx, rfl⟩ := hy
    have h1 := h.pts x hx
    have h2 := g.lag x hx
    simp only [formR, itOf]
    unfold mayB
    simp only [decide_eq_true_eq]; omega
  · exact List.pairwise_map.2 h.byid
  · rcases g.front with hf | ⟨x, hx, hf⟩
    · left; simp only [formR, hf, List.map_nil]
    · right
      exact ⟨itOf S.base x, List.mem_map.2 ⟨x, hx, rfl⟩, by simp only [itOf]; omega⟩
/-- The base never falls. -/
theorem base_put (S : Ln) (id w lag : Int) : S.base ≤ (putR S id w lag).base := by
  unfold putR; split
  · exact growB_ge _ _
  · exact Int.le_refl _
theorem base_enter (held : Int → Int) (S : Ln) (id w lag : Int) : S.base ≤ (enterR held S id w lag).base := by
  unfold enterR; split
  · exact base_put _ _ _ _
  · exact Int.le_refl _
theorem base_leave (S : Ln) (id : Int) : S.base ≤ (leaveR S id).1.base := by
  unfold leaveR; split
  · exact Int.le_refl _
  · exact growB_ge _ _
theorem base_weigh (S : Ln) (id w : Int) : S.base ≤ (weighR S id w).1.base := by
  unfold weighR; split
  · exact Int.le_refl _
  · split
    · exact growB_ge _ _
    · exact Int.le_refl _
theorem base_charge (S : Ln) : S.base ≤ (chargeR S).1.base := by
  unfold chargeR; split
  · exact Int.le_refl _
  · split
    · exact Int.le_refl _
    · exact growB_ge _ _
/-- Who is taken is found. -/
theorem take_at {K : Int} {S : Ln} (h : OkS K S) {z : Pt} (hz : z ∈ S.l) : ∃ j, at? (takeR S (some z)).1 z.id = some (j, z) := by
  rcases at_cases (takeR S (some z)).1 z.id with ⟨_, _, h3⟩ | ⟨j, x, h1, _, hj, hx, hid⟩
  · exact absurd rfl (h3 z hz)
  · obtain rfl := h.byid.uniq (List.mem_of_getElem? hx) hz hid
    exact ⟨j, h1⟩
theorem takeR_is (S : Ln) (z : Option Pt) : ∃ c, (takeR S z).1 = ⟨S.base, c, S.l⟩ := by cases z <;> exact ⟨_, rfl⟩
end Go.Proofs.YtlgkkolgdjgclaaGreat
/- A queue moved along: all is alike but for the base. -/
namespace Go.Proofs.YtlgkkolgdjgclaaGreat
open Go.RowKit
set_option linter.unusedVariables false
set_option linter.unusedSimpArgs false

def shP (d : Int) (p : Pt) : Pt := { p with v := p.v + d, day := p.day + d }
def shS (d : Int) (S : Ln) : Ln := ⟨S.base + d, S.cur, S.l.map (shP d)⟩
theorem best_sh (d : Int) : ∀ (l : List Pt) (m : Pt), best (l.map (shP d)) (shP d m) = shP d (best l m)
  | [], m => rfl
  | x :: t, m => by
    simp only [List.map_cons, best]
    rw [← best_sh d t]
    congr 1
    by_cases h : x.v < m.v
    · rw [if_pos h, if_pos (by simp [shP]; omega)]
    · rw [if_neg h, if_neg (by simp [shP]; omega)]
theorem least_sh (d : Int) (l : List Pt) : least (l.map (shP d)) = (least l).map (shP d) := by
  cases l with
  | nil => rfl
  | cons x t => simp only [List.map_cons, least, Option.map_some, best_sh]
theorem growB_sh (d base : Int) (l : List Pt) : growB (base + d) (l.map (shP d)) = growB base l + d := by
  unfold growB
  rw [least_sh]
  cases least l with
  | none => rfl
  | some z => simp only [Option.map_some, shP]; omega
theorem any_sh (d : Int) (l : List Pt) (id : Int) : (l.map (shP d)).any (isId id) = l.any (isId id) := by
  induction l with
  | nil => rfl
  | cons x t ih => simp [isId, shP] at ih ⊢; rw [ih]
theorem mayE_sh (d : Int) (l : List Pt) (id w lag : Int) : mayE (l.map (shP d)) id w lag = mayE l id w lag := by
  unfold mayE
  rw [any_sh, List.length_map]
theorem newP_sh (d base id w lag : Int) : newP (base + d) id w lag = shP d (newP base id w lag) := by
  simp only [newP, shP, Pt.mk.injEq, true_and]
  omega
theorem insP_sh (d : Int) (x : Pt) : ∀ l : List Pt, insP (shP d x) (l.map (shP d)) = (insP x l).map (shP d)
  | [] => rfl
  | y :: t => by
    simp only [List.map_cons, insP]
    have e1 : (shP d x).id = x.id := rfl
    have e2 : (shP d y).id = y.id := rfl
    rw [e1, e2]
    by_cases h : x.id < y.id
    · rw [if_pos h, if_pos h]; rfl
    · rw [if_neg h, if_neg h, insP_sh d x t]; rfl
theorem putR_sh (d : Int) (S : Ln) (id w lag : Int) : putR (shS d S) id w lag = shS d (putR S id w lag) := by
  unfold putR
  simp only [shS, mayE_sh]
  split
  · simp only [newP_sh, insP_sh, growB_sh]
  · rfl
theorem enterR_sh (held : Int → Int) (d : Int) (S : Ln) (id w lag : Int) : enterR held (shS d S) id w lag = shS d (enterR held S id w lag) := by
  unfold enterR
  rw [putR_sh]
  simp only [shS, mayE_sh]
  split <;> rfl
theorem find_sh (d : Int) (l : List Pt) (id : Int) : (l.map (shP d)).findIdx? (isId id) = l.findIdx? (isId id) := by
  induction l with
  | nil => rfl
  | cons x t ih =>
    have e : isId id (shP d x) = isId id x := rfl
    simp only [List.map_cons, List.findIdx?_cons, ih, e]
theorem at_sh (d : Int) (S : Ln) (id : Int) : at? (shS d S) id = (at? S id).map fun p => (p.1, shP d p.2) := by
  unfold at?
  simp only [shS, find_sh]
  cases S.l.findIdx? (isId id) with
  | none => rfl
  | some j =>
    simp only [List.getElem?_map]
    cases S.l[j]? <;> rfl
theorem erase_map {α β : Type} (f : α → β) : ∀ (l : List α) (j : Nat), (l.map f).eraseIdx j = (l.eraseIdx j).map f
  | [], _ => rfl
  | x :: t, 0 => rfl
  | x :: t, j + 1 => by simp only [List.map_cons, List.eraseIdx_cons_succ, erase_map f t j]
theorem leaveR_sh (d : Int) (S : Ln) (id : Int) : leaveR (shS d S) id = (shS d (leaveR S id).1, (leaveR S id).2) := by
  unfold leaveR
  rw [at_sh]
  cases at? S id with
  | none => rfl
  | some p =>
    obtain ⟨j, x⟩ := p
    have e : S.base + d - (shP d x).v = S.base - x.v := by simp only [shP]; omega
    simp only [Option.map_some, shS, erase_map, growB_sh, e]
    rfl
theorem dayOf_sh (d : Int) (x : Pt) : dayOf (shP d x) = shP d (dayOf x) := by
  simp only [dayOf, shP, Pt.mk.injEq, true_and]; omega
theorem weighR_sh (d : Int) (S : Ln) (id w : Int) : weighR (shS d S) id w = (shS d (weighR S id w).1, (weighR S id w).2) := by
  unfold weighR
  rw [at_sh]
  cases at? S id with
  | none => rfl
  | some p =>
    obtain ⟨j, x⟩ := p
    simp only [Option.map_some]
    split
    · have e : dayOf { shP d x with w := w } = shP d (dayOf { x with w := w }) := dayOf_sh d { x with w := w }
      rw [e]
      simp only [shS, ← List.map_set, growB_sh]
    · rfl
theorem chargeP_sh (d : Int) (x : Pt) : chargeP (shP d x) = shP d (chargeP x) := by
  unfold chargeP
  have e : ({ shP d x with v := (shP d x).v + step (shP d x).w } : Pt) = shP d { x with v := x.v + step x.w } := by
    simp only [shP, Pt.mk.injEq, true_and, and_true]; omega
  rw [e]
  by_cases h : x.day ≤ x.v + step x.w
  · rw [if_pos h, if_pos (by simp only [shP]; omega), dayOf_sh]
  · rw [if_neg h, if_neg (by simp only [shP]; omega)]
/-- All points, and the base, are at most c. -/
structure Hi (c : Int) (S : Ln) : Prop where
  base : S.base ≤ c
  pts : ∀ x ∈ S.l, x.v ≤ c
theorem Hi.mono {c c' : Int} {S : Ln} (h : Hi c S) (hc : c ≤ c') : Hi c' S := ⟨by have := h.base; omega, fun x hx => by have := h.pts x hx; omega⟩
theorem Hi.grow {c : Int} {base cur : Int} {l : List Pt} (h1 : base ≤ c) (h2 : ∀ x ∈ l, x.v ≤ c) : Hi c ⟨growB base l, cur, l⟩ := ⟨growB_le h1 h2, h2⟩
theorem Hi.put {c : Int} {S : Ln} (h : Hi c S) (id w lag : Int) (hl : -1125899906842624 ≤ lag ∨ mayE S.l id w lag = 0) (hlen : S.l.length ≤ 64) : Hi (c + 1125899906842624) (putR S id w lag) := by
  unfold putR
  split
  · rename_i hm
    have hm1 := mayB_true (mayE_zero hlen hm).1
    have hb := h.base
    refine Hi.grow (by omega) fun x hx => ?_
    rcases insP_mem.1 hx with rfl | hx
    · simp only [newP]; omega
    · have := h.pts x hx; omega
  · exact h.mono (by omega)
theorem Hi.enter {c : Int} {S : Ln} (h : Hi c S) (held : Int → Int) (id w lag : Int) (hlen : S.l.length ≤ 64) : Hi (c + 1125899906842624) (enterR held S id w lag) := by
  unfold enterR
  split
  · by_cases hm : mayE S.l id w (held lag) = 0
    · exact h.put _ _ _ (.inr hm) hlen
    · unfold putR; rw [if_neg hm]; exact h.mono (by omega)
  · exact h.mono (by omega)
theorem Hi.leave {c : Int} {S : Ln} (h : Hi c S) (id : Int) : Hi c (leaveR S id).1 := by
  unfold leaveR
  cases at? S id with
  | none => exact h
  | some p =>
    obtain ⟨j, x⟩ := p
    exact Hi.grow h.base fun y hy => h.pts y ((List.eraseIdx_sublist _ _).subset hy)
theorem Hi.weigh {c : Int} {S : Ln} (h : Hi c S) (id w : Int) : Hi c (weighR S id w).1 := by
  unfold weighR
  rcases at_cases S id with ⟨e, _⟩ | ⟨j, x, e, _, _, hx, _⟩
  · rw [e]; exact h
  · rw [e]
    simp only
    split
    · exact Hi.grow h.base fun y hy => by
        rcases mem_set hx hy with rfl | hy
        · exact h.pts x (List.mem_of_getElem? hx)
        · exact h.pts y hy
    · exact h
theorem Hi.charge {c : Int} {S : Ln} (h : Hi c S) : Hi (c + 1125899906842624) (chargeR S).1 := by
  unfold chargeR
  rcases at_cases S S.cur with ⟨e, _⟩ | ⟨j, x, e, _, _, hx, _⟩
  · rw [e]; exact h.mono (by omega)
  · rw [e]
    simp only
    split
    · exact h.mono (by omega)
    · have hb := h.base
      have hs := step_le x.w
      refine Hi.grow (by omega) fun y hy => ?_
      rcases mem_set hx hy with rfl | hy
      · rw [(chargeP_is x).2.2]; have := h.pts x (List.mem_of_getElem? hx); omega
      · have := h.pts y hy; omega
theorem chargeR_sh (d c : Int) (S : Ln) (h : Hi c S) (h1 : c + 232792560 ≤ 2305843009213693952) (h2 : c + d + 232792560 ≤ 2305843009213693952) : chargeR (shS d S) = (shS d (chargeR S).1, (chargeR S).2) := by
  unfold chargeR
  have e0 : at? (shS d S) (shS d S).cur = (at? S S.cur).map fun p => (p.1, shP d p.2) := at_sh d S S.cur
  rw [e0]
  rcases at_cases S S.cur with ⟨e, _⟩ | ⟨j, x, e, _, _, hx, _⟩
  · rw [e]; rfl
  · rw [e]
    have hv := h.pts x (List.mem_of_getElem? hx)
    have hs := step_le x.w
    simp only [Option.map_some]
    rw [if_neg (by simp only [shP]; omega), if_neg (by omega), chargeP_sh]
    simp only [shS, ← List.map_set, growB_sh]
    rfl
theorem takeR_sh (d : Int) (S : Ln) (z : Option Pt) : takeR (shS d S) (z.map (shP d)) = (shS d (takeR S z).1, (takeR S z).2) := by cases z <;> rfl
theorem formR_sh (d : Int) (S : Ln) : formR (shS d S) = formR S := by
  unfold formR
  simp only [shS, List.map_map, Fm.mk.injEq, true_and]
  refine List.map_congr_left fun x _ => ?_
  simp only [Function.comp, itOf, shP, It.mk.injEq, true_and]; omega
theorem seedR_sh (d a : Int) (f : Fm) : seedR f (a + d) = shS d (seedR f a) := by
  unfold seedR shS
  simp only [Ln.mk.injEq, true_and, List.map_map]
  refine List.map_congr_left fun x _ => ?_
  exact newP_sh d a _ _ _
theorem Hi.seed {f : Fm} {a : Int} (hg : goodF f = true) : Hi (a + 1125899906842624) (seedR f a) := by
  obtain ⟨g1, g2, g3, g4, g5⟩ := (of_decide_eq_true hg : GoodP f)
  refine ⟨by simp only [seedR]; omega, fun x hx => ?_⟩
  simp only [seedR, List.mem_map] at hx
  obtain ⟨y, hy, rfl⟩ := hx
  have := mayB_true (g3 y hy)
  simp only [seedP, newP]; omega
theorem Hi.curs {c : Int} {S : Ln} (h : Hi c S) (k : Int) : Hi c { S with cur := k } := ⟨h.base, h.pts⟩
end Go.Proofs.YtlgkkolgdjgclaaGreat
/- Who is picked by fair and by due, in plain words. -/
namespace Go.Proofs.YtlgkkolgdjgclaaGreat
open Go.RowKit
set_option linter.unusedVariables false
set_option linter.unusedSimpArgs false

def heldfair (lag : Int) : Int := min lag 698377680
def helddue (lag : Int) : Int := max (-698377680) (min lag 698377680)
/-- fair: the one that runs goes on, until it is too far ahead. -/
def keepfair (S : Ln) : Option Pt := match at? S S.cur, least S.l with
  | some (_, x), some z => if x.v - 465585120 ≤ z.v then some x else none
  | _, _ => none
def pickfair (S : Ln) : Ln × Int × Bool := match keepfair S with
  | some x => (S, x.id, true)
  | none => takeR S (least S.l)
theorem keepfair_some {S : Ln} {x : Pt} (h : keepfair S = some x) : ∃ j z, at? S S.cur = some (j, x) ∧ least S.l = some z ∧ x.v - 465585120 ≤ z.v := by
  unfold keepfair at h
  cases h1 : at? S S.cur with
  | none => rw [h1] at h; simp at h
  | some p =>
    obtain ⟨j, y⟩ := p
    cases h2 : least S.l with
    | none => rw [h1, h2] at h; simp at h
    | some z =>
      rw [h1, h2] at h
      simp only at h
      split at h
      · rename_i hle
        obtain rfl : y = x := by simpa using h
        exact ⟨j, z, rfl, rfl, hle⟩
      · cases h
theorem pickis_fair (S : Ln) : ∃ c, (pickfair S).1 = ⟨S.base, c, S.l⟩ := by
  unfold pickfair
  cases keepfair S with
  | none => exact takeR_is _ _
  | some x => exact ⟨S.cur, rfl⟩
theorem pickok_fair {K : Int} {S : Ln} (h : OkS K S) : OkS K (pickfair S).1 := by
  unfold pickfair
  cases keepfair S with
  | none => exact h.take _ fun x hx => least_mem hx
  | some x => exact h
theorem keepfair_sh (d : Int) (S : Ln) : keepfair (shS d S) = (keepfair S).map (shP d) := by
  unfold keepfair
  have e0 : at? (shS d S) (shS d S).cur = (at? S S.cur).map fun p => (p.1, shP d p.2) := at_sh d S S.cur
  have e : least (shS d S).l = (least S.l).map (shP d) := least_sh d S.l
  rw [e0, e]
  cases at? S S.cur with
  | none => cases least S.l <;> rfl
  | some p =>
    cases least S.l with
    | none => rfl
    | some z =>
      simp only [Option.map_some]
      by_cases h : p.2.v - 465585120 ≤ z.v
      · rw [if_pos h, if_pos (by simp only [shP]; omega)]; rfl
      · rw [if_neg h, if_neg (by simp only [shP]; omega)]; rfl
theorem picksh_fair (d : Int) (S : Ln) : pickfair (shS d S) = (shS d (pickfair S).1, (pickfair S).2) := by
  unfold pickfair
  rw [keepfair_sh]
  have e : least (shS d S).l = (least S.l).map (shP d) := least_sh d S.l
  cases keepfair S with
  | none => simp only [Option.map_none]; rw [e, takeR_sh]
  | some x => rfl
theorem least_le_base {S : Ln} {z : Pt} (g : Lags S) (hz : least S.l = some z) : z.v ≤ S.base := by
  rcases g.front with e | ⟨y, hy, hv⟩
  · rw [e] at hz; cases hz
  · have := least_le hz y hy; omega
theorem room_take {K : Int} {S : Ln} (h : OkS K S) (z : Option Pt) (hz : ∀ y, z = some y → y ∈ S.l ∧ y.v + step y.w ≤ S.base + 1000000000) (hn : z = none → S.l = []) :
    ∀ j x, at? (takeR S z).1 (takeR S z).1.cur = some (j, x) → x.v + step x.w ≤ (takeR S z).1.base + 1000000000 := by
  intro j x hx
  obtain ⟨_, hm, hid⟩ := at_mem hx
  cases z with
  | none =>
    have e := hn rfl
    simp only [takeR, e] at hm
    cases hm
  | some y =>
    simp only [takeR] at hm hid ⊢
    obtain ⟨h1, h2⟩ := hz y rfl
    obtain rfl := h.byid.uniq hm h1 hid
    exact h2
theorem room_fair {K : Int} {S : Ln} (h : OkS K S) (g : Lags S) : ∀ j x, at? (pickfair S).1 (pickfair S).1.cur = some (j, x) → x.v + step x.w ≤ (pickfair S).1.base + 1000000000 := by
  unfold pickfair
  cases hk : keepfair S with
  | none =>
    refine room_take h _ (fun y hy => ⟨least_mem hy, ?_⟩) fun e => least_none.1 e
    have := least_le_base g hy
    have hs := step_le y.w
    omega
  | some x =>
    intro j y hy
    obtain ⟨j2, z, h1, h2, h3⟩ := keepfair_some hk
    simp only at hy ⊢
    rw [h1] at hy
    obtain ⟨rfl, rfl⟩ : j2 = j ∧ x = y := by simpa using hy
    have := least_le_base g h2
    have hs := step_le x.w
    omega

theorem pickat_fair {K : Int} {S : Ln} (h : OkS K S) (hl : 0 < S.l.length) : ∃ j x, (pickfair S).2 = (x.id, true) ∧ at? (pickfair S).1 (pickfair S).1.cur = some (j, x) := by
  unfold pickfair
  cases hk : keepfair S with
  | none =>
    cases hz : least S.l with
    | none => rw [least_none.1 hz] at hl; cases hl
    | some z =>
      obtain ⟨j, hj⟩ := take_at h (least_mem hz)
      exact ⟨j, z, rfl, hj⟩
  | some x =>
    obtain ⟨j, z, h1, _, _⟩ := keepfair_some hk
    exact ⟨j, x, rfl, h1⟩
/-- due: all weights; how far all are from a point; the one that is due first of those not ahead. -/
def totW : List Pt → Int
  | [] => 0
  | x :: t => x.w + totW t
def farW (m : Int) : List Pt → Int
  | [] => 0
  | x :: t => (x.v - m) * x.w + farW m t
def eligW (m tot far : Int) (x : Pt) : Bool := decide ((x.v - m) * tot ≤ far)
def laterW (b : Option Pt) (x : Pt) : Bool := match b with | none => true | some y => decide (x.day < y.day)
def dueB (m tot far : Int) : List Pt → Option Pt → Option Pt
  | [], b => b
  | x :: t, b => dueB m tot far t (if (eligW m tot far x && laterW b x) = true then some x else b)
def duePick (l : List Pt) : Option Pt := match least l with | none => none | some z => dueB z.v (totW l) (farW z.v l) l none
def pickdue (S : Ln) : Ln × Int × Bool := takeR S (duePick S.l)
theorem dueB_some (m tot far : Int) : ∀ (l : List Pt) (b : Option Pt) (y : Pt), dueB m tot far l b = some y →
    (b = some y ∨ (y ∈ l ∧ eligW m tot far y = true)) ∧ (∀ z, b = some z → y.day ≤ z.day) ∧ ∀ x ∈ l, eligW m tot far x = true → y.day ≤ x.day
  | [], b, y, h => by
    simp only [dueB] at h
    subst h
    exact ⟨.inl rfl, fun z hz => by cases hz; exact Int.le_refl _, fun x hx => by cases hx⟩
  | x :: t, b, y, h => by
    simp only [dueB] at h
    obtain ⟨h1, h2, h3⟩ := dueB_some m tot far t _ y h
    by_cases hc : (eligW m tot far x && laterW b x) = true
    · rw [if_pos hc] at h1 h2
      simp only [Bool.and_eq_true] at hc
      have h4 := h2 x rfl
      refine ⟨?_, fun z hz => ?_, fun u hu he => ?_⟩
      · rcases h1 with h1 | ⟨h1, h5⟩
        · obtain rfl : x = y := by simpa using h1
          exact .inr ⟨by simp, hc.1⟩
        · exact .inr ⟨by simp [h1], h5⟩
      · subst hz
        have := hc.2
        simp only [laterW, decide_eq_true_eq] at this
        omega
      · rcases List.mem_cons.1 hu with rfl | hu
        · exact h4
        · exact h3 u hu he
    · rw [if_neg hc] at h1 h2
      refine ⟨?_, h2, fun u hu he => ?_⟩
      · rcases h1 with h1 | ⟨h1, h5⟩
        · exact .inl h1
        · exact .inr ⟨by simp [h1], h5⟩
      · rcases List.mem_cons.1 hu with rfl | hu
        · cases b with
          | none => simp [he, laterW] at hc
          | some z =>
            have := h2 z rfl
            simp [he, laterW] at hc
            omega
        · exact h3 u hu he
theorem dueB_none (m tot far : Int) : ∀ (l : List Pt) (b : Option Pt), dueB m tot far l b = none → b = none ∧ ∀ x ∈ l, eligW m tot far x = false
  | [], b, h => ⟨h, fun x hx => by cases hx⟩
  | x :: t, b, h => by
    simp only [dueB] at h
    obtain ⟨h1, h2⟩ := dueB_none m tot far t _ h
    by_cases hc : (eligW m tot far x && laterW b x) = true
    · rw [if_pos hc] at h1; cases h1
    · rw [if_neg hc] at h1
      subst h1
      simp [laterW] at hc
      exact ⟨rfl, fun y hy => by
        rcases List.mem_cons.1 hy with rfl | hy
        · exact hc
        · exact h2 y hy⟩
theorem farW_nonneg {m : Int} : ∀ {l : List Pt}, (∀ x ∈ l, m ≤ x.v ∧ 1 ≤ x.w) → 0 ≤ farW m l
  | [], _ => Int.le_refl _
  | x :: t, h => by
    have h1 := h x (by simp)
    have h2 := farW_nonneg (m := m) (l := t) fun y hy => h y (by simp [hy])
    have h3 : 0 ≤ (x.v - m) * x.w := Int.mul_nonneg (by omega) (by omega)
    simp only [farW]; omega
theorem least_elig {l : List Pt} {z : Pt} (hz : least l = some z) (hw : ∀ x ∈ l, 1 ≤ x.w) : eligW z.v (totW l) (farW z.v l) z = true := by
  have := farW_nonneg (m := z.v) (l := l) fun x hx => ⟨least_le hz x hx, hw x hx⟩
  unfold eligW
  simp only [decide_eq_true_eq]
  rw [Int.sub_self, Int.zero_mul]; exact this
theorem duePick_some {l : List Pt} {y z : Pt} (hz : least l = some z) (hw : ∀ x ∈ l, 1 ≤ x.w) (h : duePick l = some y) : y ∈ l ∧ y.day ≤ z.day := by
  unfold duePick at h
  rw [hz] at h
  obtain ⟨h1, _, h3⟩ := dueB_some _ _ _ l none y h
  refine ⟨?_, h3 z (least_mem hz) (least_elig hz hw)⟩
  rcases h1 with h1 | ⟨h1, _⟩
  · cases h1
  · exact h1
theorem duePick_none {l : List Pt} (hw : ∀ x ∈ l, 1 ≤ x.w) (h : duePick l = none) : l = [] := by
  unfold duePick at h
  cases hz : least l with
  | none => exact least_none.1 hz
  | some z =>
    rw [hz] at h
    have := (dueB_none _ _ _ l none h).2 z (least_mem hz)
    rw [least_elig hz hw] at this; cases this
theorem duePick_mem {l : List Pt} {y : Pt} (h : duePick l = some y) : y ∈ l := by
  unfold duePick at h
  cases hz : least l with
  | none => rw [hz] at h; cases h
  | some z =>
    rw [hz] at h
    rcases (dueB_some _ _ _ l none y h).1 with h1 | ⟨h1, _⟩
    · cases h1
    · exact h1
theorem pickis_due (S : Ln) : ∃ c, (pickdue S).1 = ⟨S.base, c, S.l⟩ := takeR_is _ _
theorem pickok_due {K : Int} {S : Ln} (h : OkS K S) : OkS K (pickdue S).1 := h.take _ fun x hx => duePick_mem hx
theorem pickat_due {K : Int} {S : Ln} (h : OkS K S) (hl : 0 < S.l.length) : ∃ j x, (pickdue S).2 = (x.id, true) ∧ at? (pickdue S).1 (pickdue S).1.cur = some (j, x) := by
  unfold pickdue
  cases hz : duePick S.l with
  | none => rw [duePick_none (fun x hx => (h.pts x hx).2.2.1) hz] at hl; cases hl
  | some z =>
    obtain ⟨j, hj⟩ := take_at h (duePick_mem hz)
    exact ⟨j, z, rfl, hj⟩
theorem totW_sh (d : Int) : ∀ l : List Pt, totW (l.map (shP d)) = totW l
  | [] => rfl
  | x :: t => by simp only [List.map_cons, totW, totW_sh d t]; rfl
theorem farW_sh (d m : Int) : ∀ l : List Pt, farW (m + d) (l.map (shP d)) = farW m l
  | [] => rfl
  | x :: t => by
    simp only [List.map_cons, farW, farW_sh d m t]
    have : (shP d x).v - (m + d) = x.v - m := by simp only [shP]; omega
    rw [this]; rfl
theorem dueB_sh (d m tot far : Int) : ∀ (l : List Pt) (b : Option Pt), dueB (m + d) tot far (l.map (shP d)) (b.map (shP d)) = (dueB m tot far l b).map (shP d)
  | [], b => rfl
  | x :: t, b => by
    simp only [List.map_cons, dueB]
    have e1 : eligW (m + d) tot far (shP d x) = eligW m tot far x := by
      unfold eligW
      have : (shP d x).v - (m + d) = x.v - m := by simp only [shP]; omega
      rw [this]
    have e2 : laterW (b.map (shP d)) (shP d x) = laterW b x := by
      cases b with
      | none => rfl
      | some y =>
        show decide (x.day + d < y.day + d) = decide (x.day < y.day)
        rw [decide_eq_decide]; omega
    rw [e1, e2]
    have e3 : (if (eligW m tot far x && laterW b x) = true then some (shP d x) else b.map (shP d)) = (if (eligW m tot far x && laterW b x) = true then some x else b).map (shP d) := by
      split <;> rfl
    rw [e3, dueB_sh d m tot far t]
theorem duePick_sh (d : Int) (l : List Pt) : duePick (l.map (shP d)) = (duePick l).map (shP d) := by
  unfold duePick
  rw [least_sh]
  cases least l with
  | none => rfl
  | some z =>
    simp only [Option.map_some]
    have e : (shP d z).v = z.v + d := rfl
    rw [e, totW_sh, farW_sh]
    exact dueB_sh d _ _ _ l none
theorem picksh_due (d : Int) (S : Ln) : pickdue (shS d S) = (shS d (pickdue S).1, (pickdue S).2) := by
  unfold pickdue
  have e : duePick (shS d S).l = (duePick S.l).map (shP d) := duePick_sh d S.l
  rw [e, takeR_sh]
theorem room_due {K : Int} {S : Ln} (h : OkS K S) (g : Lags S) : ∀ j x, at? (pickdue S).1 (pickdue S).1.cur = some (j, x) → x.v + step x.w ≤ (pickdue S).1.base + 1000000000 := by
  have hw : ∀ x ∈ S.l, 1 ≤ x.w := fun x hx => (h.pts x hx).2.2.1
  unfold pickdue
  refine room_take h _ (fun y hy => ⟨duePick_mem hy, ?_⟩) fun e => duePick_none hw e
  cases hz : least S.l with
  | none => have := duePick_mem hy; rw [least_none.1 hz] at this; cases this
  | some z =>
    obtain ⟨h1, h2⟩ := duePick_some hz hw hy
    have h3 := least_le_base g hz
    have h4 := (g.days y h1).le
    have h5 := (g.days z (least_mem hz)).le
    have hs := step_le z.w
    omega
end Go.Proofs.YtlgkkolgdjgclaaGreat
/- Package due's sums, in words of 64 bits. -/
namespace Go.Proofs.YtlgkkolgdjgclaaGreat
open Go.RowKit
set_option linter.unusedVariables false
set_option linter.unusedSimpArgs false

theorem totW_succ {x : Pt} : ∀ {l : List Pt} {k : Nat}, l[k]? = some x → totW (l.take (k + 1)) = totW (l.take k) + x.w
  | [], k, h => by simp at h
  | y :: t, 0, h => by
    obtain rfl : y = x := by simpa using h
    simp [totW]
  | y :: t, k + 1, h => by
    have := totW_succ (l := t) (k := k) (by simpa using h)
    simp only [List.take_succ_cons, totW]
    omega
theorem farW_succ {m : Int} {x : Pt} : ∀ {l : List Pt} {k : Nat}, l[k]? = some x → farW m (l.take (k + 1)) = farW m (l.take k) + (x.v - m) * x.w
  | [], k, h => by simp at h
  | y :: t, 0, h => by
    obtain rfl : y = x := by simpa using h
    simp [farW]
  | y :: t, k + 1, h => by
    have := farW_succ (m := m) (l := t) (k := k) (by simpa using h)
    simp only [List.take_succ_cons, farW]
    omega
theorem duePick_is {m : Int} {l : List Pt} (h : ∀ z, least l = some z → z.v = m) : duePick l = dueB m (totW l) (farW m l) l none := by
  unfold duePick
  cases hz : least l with
  | none => rw [least_none.1 hz]; rfl
  | some z => rw [← h z hz]
theorem dueB_drop {m tot far : Int} {l : List Pt} {k : Nat} {x : Pt} (hx : l[k]? = some x) (b : Option Pt) :
    dueB m tot far (l.drop k) b = dueB m tot far (l.drop (k + 1)) (if (eligW m tot far x && laterW b x) = true then some x else b) := by
  obtain ⟨h, rfl⟩ := List.getElem?_eq_some_iff.1 hx
  rw [List.drop_eq_getElem_cons h]
  rfl
/-- One that is picked lies ahead. -/
theorem prod_le {a b : Int} (h1 : 0 ≤ a) (h2 : a ≤ 4700000000000000000) (h3 : 1 ≤ b) (h4 : b ≤ 20) : 0 ≤ a * b ∧ a * b ≤ 94000000000000000000 := by
  refine ⟨Int.mul_nonneg h1 (by omega), ?_⟩
  have h5 : a * b ≤ a * 20 := Int.mul_le_mul_of_nonneg_left h4 h1
  omega
/-- The sums behind k of them: all weights, and how far all are, in two words. -/
structure DueS (m : Int) (l : List Pt) (k : Nat) (tot dh dl : Int) : Prop where
  t : totW (l.take k) = tot
  t0 : 0 ≤ tot
  t1 : tot ≤ 20 * k
  d : farW m (l.take k) = dh * 18446744073709551616 + dl
  l0 : 0 ≤ dl
  l1 : dl < 18446744073709551616
  d0 : 0 ≤ dh
  d1 : dh * 18446744073709551616 + dl ≤ k * 100000000000000000000
theorem DueS.start (m : Int) (l : List Pt) : DueS m l 0 0 0 0 := ⟨by simp [totW], by omega, by omega, by simp [farW], by omega, by omega, by omega, by omega⟩
theorem DueS.next {m : Int} {l : List Pt} {k : Nat} {tot dh dl : Int} (h : DueS m l k tot dh dl) {x : Pt} (hx : l[k]? = some x) (h1 : 0 ≤ x.v - m) (h2 : x.v - m ≤ 4700000000000000000) (h3 : 1 ≤ x.w) (h4 : x.w ≤ 20)
    {ph pl cc s : Int} (hp : (x.v - m) * x.w = ph * 18446744073709551616 + pl) (hp0 : 0 ≤ pl) (hp1 : pl < 18446744073709551616) (hs : dl + pl = cc * 18446744073709551616 + s) (hs0 : 0 ≤ s) (hs1 : s < 18446744073709551616) :
    DueS m l (k + 1) (tot + x.w) (dh + (ph + cc)) s := by
  have hb := prod_le h1 h2 h3 h4
  have g := h.d1
  have g0 := h.d0
  have g2 := h.l0
  have g3 := h.l1
  have g4 := h.t0
  have g5 := h.t1
  have e1 := farW_succ (m := m) hx
  have e2 := totW_succ hx
  rw [h.t] at e2
  rw [h.d, hp] at e1
  rw [hp] at hb
  exact ⟨e2, by omega, by omega, by omega, hs0, hs1, by omega, by omega⟩
theorem words_gt {a b h l dh dl : Int} (he : a = h * 18446744073709551616 + l) (hb : b = dh * 18446744073709551616 + dl) (l0 : 0 ≤ l) (l1 : l < 18446744073709551616) (d0 : 0 ≤ dl) (d1 : dl < 18446744073709551616) :
    a ≤ b ↔ ¬ (dh < h ∨ (h = dh ∧ dl < l)) := by omega

/-! ### from any point -/
theorem farW_move (m b : Int) : ∀ l : List Pt, farW m l = farW b l + (b - m) * totW l
  | [] => by simp [farW, totW]
  | x :: t => by
    have ih := farW_move m b t
    have e1 : (x.v - m) * x.w = (x.v - b) * x.w + (b - m) * x.w := by rw [← Int.add_mul]; congr 1; omega
    simp only [farW, totW]
    rw [ih, e1, Int.mul_add]
    omega
theorem eligW_move (m b : Int) (l : List Pt) (x : Pt) : eligW m (totW l) (farW m l) x = eligW b (totW l) (farW b l) x := by
  unfold eligW
  rw [decide_eq_decide, farW_move m b l]
  have e1 : (x.v - m) * totW l = (x.v - b) * totW l + (b - m) * totW l := by rw [← Int.add_mul]; congr 1; omega
  rw [e1]
  omega
theorem dueB_congr {m m' tot tot' far far' : Int} (h : ∀ x, eligW m tot far x = eligW m' tot' far' x) : ∀ (l : List Pt) (b : Option Pt), dueB m tot far l b = dueB m' tot' far' l b
  | [], b => rfl
  | x :: t, b => by
    simp only [dueB]
    rw [h x]
    exact dueB_congr h t _
theorem duePick_from (b : Int) (l : List Pt) : duePick l = dueB b (totW l) (farW b l) l none := by
  unfold duePick
  cases hz : least l with
  | none => rw [least_none.1 hz]; rfl
  | some z => exact dueB_congr (fun x => eligW_move z.v b l x) l none
theorem prod_abs {a b B M : Int} (h1 : -B ≤ a) (h2 : a ≤ B) (h3 : 0 ≤ b) (h4 : b ≤ M) (hB : 0 ≤ B) : -(B * M) ≤ a * b ∧ a * b ≤ B * M := by
  have h5 : B * b ≤ B * M := Int.mul_le_mul_of_nonneg_left h4 hB
  have h6 : a * b ≤ B * b := Int.mul_le_mul_of_nonneg_right h2 h3
  have h7 : -B * b ≤ a * b := Int.mul_le_mul_of_nonneg_right h1 h3
  rw [Int.neg_mul] at h7
  omega
/-- The sums behind k of them, from the base. -/
structure DueT (b : Int) (l : List Pt) (k : Nat) (tot far : Int) : Prop where
  t : totW (l.take k) = tot
  t0 : 0 ≤ tot
  t1 : tot ≤ 20 * k
  d : farW b (l.take k) = far
  d0 : -(k * 22540000000000000) ≤ far
  d1 : far ≤ k * 22540000000000000
theorem DueT.start (b : Int) (l : List Pt) : DueT b l 0 0 0 := ⟨by simp [totW], by omega, by omega, by simp [farW], by omega, by omega⟩
theorem DueT.next {b : Int} {l : List Pt} {k : Nat} {tot far : Int} (h : DueT b l k tot far) {x : Pt} (hx : l[k]? = some x) (h1 : -1127000000000000 ≤ x.v - b) (h2 : x.v - b ≤ 1127000000000000) (h3 : 1 ≤ x.w) (h4 : x.w ≤ 20) :
    DueT b l (k + 1) (tot + x.w) (far + (x.v - b) * x.w) := by
  have hb := prod_abs (B := 1127000000000000) (M := 20) h1 h2 (by omega) h4 (by omega)
  have g := h.d1
  have g0 := h.d0
  have g4 := h.t0
  have g5 := h.t1
  have e1 := farW_succ (m := b) hx
  have e2 := totW_succ hx
  rw [h.t] at e2
  rw [h.d] at e1
  exact ⟨e2, by omega, by omega, e1, by omega, by omega⟩
end Go.Proofs.YtlgkkolgdjgclaaGreat
