/- A queue moved along: all is alike but for the base. -/
import Derived.Test.YtlgkkolgdjgclaaGreatO
namespace Go.Proofs.YtlgkkolgdjgclaaGreat
open Go.RowKit
set_option linter.unusedVariables false
set_option linter.unusedSimpArgs false

def shP (d : Int) (p : Pt) : Pt := { p with v := p.v + d, day := p.day + d }
def shS (d : Int) (S : Ln) : Ln := ⟨S.base + d, S.cur, S.l.map (shP d)⟩
theorem best_sh (d : Int) : ∀ (l : List Pt) (m : Pt), best (l.map (shP d)) (shP d m) = shP d (best l m)
  | [], m => rfl
  | x :: t, m => by
    simp only [List.map_cons, best]
    rw [← best_sh d t]
    congr 1
    by_cases h : x.v < m.v
    · rw [if_pos h, if_pos (by simp [shP]; omega)]
    · rw [if_neg h, if_neg (by simp [shP]; omega)]
theorem least_sh (d : Int) (l : List Pt) : least (l.map (shP d)) = (least l).map (shP d) := by
  cases l with
  | nil => rfl
  | cons x t => simp only [List.map_cons, least, Option.map_some, best_sh]
theorem growB_sh (d base : Int) (l : List Pt) : growB (base + d) (l.map (shP d)) = growB base l + d := by
  unfold growB
  rw [least_sh]
  cases least l with
  | none => rfl
  | some z => simp only [Option.map_some, shP]; omega
theorem any_sh (d : Int) (l : List Pt) (id : Int) : (l.map (shP d)).any (isId id) = l.any (isId id) := by
  induction l with
  | nil => rfl
  | cons x t ih => simp [isId, shP] at ih ⊢; rw [ih]
theorem mayE_sh (d : Int) (l : List Pt) (id w lag : Int) : mayE (l.map (shP d)) id w lag = mayE l id w lag := by
  unfold mayE
  rw [any_sh, List.length_map]
theorem newP_sh (d base id w lag : Int) : newP (base + d) id w lag = shP d (newP base id w lag) := by
  simp only [newP, shP, Pt.mk.injEq, true_and]
  omega
theorem insP_sh (d : Int) (x : Pt) : ∀ l : List Pt, insP (shP d x) (l.map (shP d)) = (insP x l).map (shP d)
  | [] => rfl
  | y :: t => by
    simp only [List.map_cons, insP]
    have e1 : (shP d x).id = x.id := rfl
    have e2 : (shP d y).id = y.id := rfl
    rw [e1, e2]
    by_cases h : x.id < y.id
    · rw [if_pos h, if_pos h]; rfl
    · rw [if_neg h, if_neg h, insP_sh d x t]; rfl
theorem putR_sh (d : Int) (S : Ln) (id w lag : Int) : putR (shS d S) id w lag = shS d (putR S id w lag) := by
  unfold putR
  simp only [shS, mayE_sh]
  split
  · simp only [newP_sh, insP_sh, growB_sh]
  · rfl
theorem enterR_sh (held : Int → Int) (d : Int) (S : Ln) (id w lag : Int) : enterR held (shS d S) id w lag = shS d (enterR held S id w lag) := by
  unfold enterR
  rw [putR_sh]
  simp only [shS, mayE_sh]
  split <;> rfl
theorem find_sh (d : Int) (l : List Pt) (id : Int) : (l.map (shP d)).findIdx? (isId id) = l.findIdx? (isId id) := by
  induction l with
  | nil => rfl
  | cons x t ih =>
    have e : isId id (shP d x) = isId id x := rfl
    simp only [List.map_cons, List.findIdx?_cons, ih, e]
theorem at_sh (d : Int) (S : Ln) (id : Int) : at? (shS d S) id = (at? S id).map fun p => (p.1, shP d p.2) := by
  unfold at?
  simp only [shS, find_sh]
  cases S.l.findIdx? (isId id) with
  | none => rfl
  | some j =>
    simp only [List.getElem?_map]
    cases S.l[j]? <;> rfl
theorem erase_map {α β : Type} (f : α → β) : ∀ (l : List α) (j : Nat), (l.map f).eraseIdx j = (l.eraseIdx j).map f
  | [], _ => rfl
  | x :: t, 0 => rfl
  | x :: t, j + 1 => by simp only [List.map_cons, List.eraseIdx_cons_succ, erase_map f t j]
theorem leaveR_sh (d : Int) (S : Ln) (id : Int) : leaveR (shS d S) id = (shS d (leaveR S id).1, (leaveR S id).2) := by
  unfold leaveR
  rw [at_sh]
  cases at? S id with
  | none => rfl
  | some p =>
    obtain ⟨j, x⟩ := p
    have e : S.base + d - (shP d x).v = S.base - x.v := by simp only [shP]; omega
    simp only [Option.map_some, shS, erase_map, growB_sh, e]
    rfl
theorem dayOf_sh (d : Int) (x : Pt) : dayOf (shP d x) = shP d (dayOf x) := by
  simp only [dayOf, shP, Pt.mk.injEq, true_and]; omega
theorem weighR_sh (d : Int) (S : Ln) (id w : Int) : weighR (shS d S) id w = (shS d (weighR S id w).1, (weighR S id w).2) := by
  unfold weighR
  rw [at_sh]
  cases at? S id with
  | none => rfl
  | some p =>
    obtain ⟨j, x⟩ := p
    simp only [Option.map_some]
    split
    · have e : dayOf { shP d x with w := w } = shP d (dayOf { x with w := w }) := dayOf_sh d { x with w := w }
      rw [e]
      simp only [shS, ← List.map_set, growB_sh]
    · rfl
theorem chargeP_sh (d : Int) (x : Pt) : chargeP (shP d x) = shP d (chargeP x) := by
  unfold chargeP
  have e : ({ shP d x with v := (shP d x).v + step (shP d x).w } : Pt) = shP d { x with v := x.v + step x.w } := by
    simp only [shP, Pt.mk.injEq, true_and, and_true]; omega
  rw [e]
  by_cases h : x.day ≤ x.v + step x.w
  · rw [if_pos h, if_pos (by simp only [shP]; omega), dayOf_sh]
  · rw [if_neg h, if_neg (by simp only [shP]; omega)]
/-- All points, and the base, are at most c. -/
structure Hi (c : Int) (S : Ln) : Prop where
  base : S.base ≤ c
  pts : ∀ x ∈ S.l, x.v ≤ c
theorem Hi.mono {c c' : Int} {S : Ln} (h : Hi c S) (hc : c ≤ c') : Hi c' S := ⟨by have := h.base; omega, fun x hx => by have := h.pts x hx; omega⟩
theorem Hi.grow {c : Int} {base cur : Int} {l : List Pt} (h1 : base ≤ c) (h2 : ∀ x ∈ l, x.v ≤ c) : Hi c ⟨growB base l, cur, l⟩ := ⟨growB_le h1 h2, h2⟩
theorem Hi.put {c : Int} {S : Ln} (h : Hi c S) (id w lag : Int) (hl : -1125899906842624 ≤ lag ∨ mayE S.l id w lag = 0) (hlen : S.l.length ≤ 64) : Hi (c + 1125899906842624) (putR S id w lag) := by
  unfold putR
  split
  · rename_i hm
    have hm1 := mayB_true (mayE_zero hlen hm).1
    have hb := h.base
    refine Hi.grow (by omega) fun x hx => ?_
    rcases insP_mem.1 hx with rfl | hx
    · simp only [newP]; omega
    · have := h.pts x hx; omega
  · exact h.mono (by omega)
theorem Hi.enter {c : Int} {S : Ln} (h : Hi c S) (held : Int → Int) (id w lag : Int) (hlen : S.l.length ≤ 64) : Hi (c + 1125899906842624) (enterR held S id w lag) := by
  unfold enterR
  split
  · by_cases hm : mayE S.l id w (held lag) = 0
    · exact h.put _ _ _ (.inr hm) hlen
    · unfold putR; rw [if_neg hm]; exact h.mono (by omega)
  · exact h.mono (by omega)
theorem Hi.leave {c : Int} {S : Ln} (h : Hi c S) (id : Int) : Hi c (leaveR S id).1 := by
  unfold leaveR
  cases at? S id with
  | none => exact h
  | some p =>
    obtain ⟨j, x⟩ := p
    exact Hi.grow h.base fun y hy => h.pts y ((List.eraseIdx_sublist _ _).subset hy)
theorem Hi.weigh {c : Int} {S : Ln} (h : Hi c S) (id w : Int) : Hi c (weighR S id w).1 := by
  unfold weighR
  rcases at_cases S id with ⟨e, _⟩ | ⟨j, x, e, _, _, hx, _⟩
  · rw [e]; exact h
  · rw [e]
    simp only
    split
    · exact Hi.grow h.base fun y hy => by
        rcases mem_set hx hy with rfl | hy
        · exact h.pts x (List.mem_of_getElem? hx)
        · exact h.pts y hy
    · exact h
theorem Hi.charge {c : Int} {S : Ln} (h : Hi c S) : Hi (c + 1125899906842624) (chargeR S).1 := by
  unfold chargeR
  rcases at_cases S S.cur with ⟨e, _⟩ | ⟨j, x, e, _, _, hx, _⟩
  · rw [e]; exact h.mono (by omega)
  · rw [e]
    simp only
    split
    · exact h.mono (by omega)
    · have hb := h.base
      have hs := step_le x.w
      refine Hi.grow (by omega) fun y hy => ?_
      rcases mem_set hx hy with rfl | hy
      · rw [(chargeP_is x).2.2]; have := h.pts x (List.mem_of_getElem? hx); omega
      · have := h.pts y hy; omega
theorem chargeR_sh (d c : Int) (S : Ln) (h : Hi c S) (h1 : c + 232792560 ≤ 2305843009213693952) (h2 : c + d + 232792560 ≤ 2305843009213693952) : chargeR (shS d S) = (shS d (chargeR S).1, (chargeR S).2) := by
  unfold chargeR
  have e0 : at? (shS d S) (shS d S).cur = (at? S S.cur).map fun p => (p.1, shP d p.2) := at_sh d S S.cur
  rw [e0]
  rcases at_cases S S.cur with ⟨e, _⟩ | ⟨j, x, e, _, _, hx, _⟩
  · rw [e]; rfl
  · rw [e]
    have hv := h.pts x (List.mem_of_getElem? hx)
    have hs := step_le x.w
    simp only [Option.map_some]
    rw [if_neg (by simp only [shP]; omega), if_neg (by omega), chargeP_sh]
    simp only [shS, ← List.map_set, growB_sh]
    rfl
theorem takeR_sh (d : Int) (S : Ln) (z : Option Pt) : takeR (shS d S) (z.map (shP d)) = (shS d (takeR S z).1, (takeR S z).2) := by cases z <;> rfl
theorem formR_sh (d : Int) (S : Ln) : formR (shS d S) = formR S := by
  unfold formR
  simp only [shS, List.map_map, Fm.mk.injEq, true_and]
  refine List.map_congr_left fun x _ => ?_
  simp only [Function.comp, itOf, shP, It.mk.injEq, true_and]; omega
theorem seedR_sh (d a : Int) (f : Fm) : seedR f (a + d) = shS d (seedR f a) := by
  unfold seedR shS
  simp only [Ln.mk.injEq, true_and, List.map_map]
  refine List.map_congr_left fun x _ => ?_
  exact newP_sh d a _ _ _
theorem Hi.seed {f : Fm} {a : Int} (hg : goodF f = true) : Hi (a + 1125899906842624) (seedR f a) := by
  obtain ⟨g1, g2, g3, g4, g5⟩ := (of_decide_eq_true hg : GoodP f)
  refine ⟨by simp only [seedR]; omega, fun x hx => ?_⟩
  simp only [seedR, List.mem_map] at hx
  obtain ⟨y, hy, rfl⟩ := hx
  have := mayB_true (g3 y hy)
  simp only [seedP, newP]; omega
theorem Hi.curs {c : Int} {S : Ln} (h : Hi c S) (k : Int) : Hi c { S with cur := k } := ⟨h.base, h.pts⟩
end Go.Proofs.YtlgkkolgdjgclaaGreat
