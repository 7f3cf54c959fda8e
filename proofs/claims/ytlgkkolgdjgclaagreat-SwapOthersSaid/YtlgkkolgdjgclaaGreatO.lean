/- The plain model of a queue: what each call does to base, core and points. -/
import Derived.Test.YtlgkkolgdjgclaaGreatL
namespace Go.Proofs.YtlgkkolgdjgclaaGreat
open Go.RowKit
set_option linter.unusedVariables false
set_option linter.unusedSimpArgs false

structure OkS (K : Int) (S : Ln) : Prop where
  k0 : 0 ≤ K
  k1 : K ≤ 1152921504606846976
  byid : ById S.l
  len : S.l.length ≤ 64
  blo : -1152921504606846976 ≤ S.base
  bhi : S.base ≤ 2305843009213693952 + K
  pts : ∀ x ∈ S.l, 0 ≤ x.id ∧ x.id ≤ 1073741824 ∧ 1 ≤ x.w ∧ x.w ≤ 20 ∧ -1154047404513689600 ≤ x.v ∧ x.v ≤ 2305843009213693952 + K
  cur : S.cur = -1 ∨ ∃ x ∈ S.l, x.id = S.cur

theorem OkS.mono {K K' : Int} {S : Ln} (h : OkS K S) (hk : K ≤ K') (h1 : K' ≤ 1152921504606846976) : OkS K' S :=
  ⟨by have := h.k0; omega, h1, h.byid, h.len, h.blo, by have := h.bhi; omega, fun x hx => by have := h.pts x hx; omega, h.cur⟩

theorem best_mem : ∀ (l : List Pt) (m : Pt), best l m = m ∨ best l m ∈ l
  | [], m => .inl rfl
  | x :: t, m => by
    unfold best
    rcases best_mem t (if x.v < m.v then x else m) with h | h
    · rw [h]; split
      · exact .inr (by simp)
      · exact .inl rfl
    · exact .inr (by simp [h])
theorem least_mem {l : List Pt} {z : Pt} (h : least l = some z) : z ∈ l := by
  cases l with
  | nil => simp [least] at h
  | cons x t =>
    simp [least] at h
    rcases best_mem t x with h1 | h1
    · rw [← h, h1]; simp
    · rw [← h]; simp [h1]
theorem best_le : ∀ (l : List Pt) (m : Pt), (best l m).v ≤ m.v ∧ ∀ x ∈ l, (best l m).v ≤ x.v
  | [], m => ⟨Int.le_refl _, fun x hx => by cases hx⟩
  | x :: t, m => by
    unfold best
    obtain ⟨h1, h2⟩ := best_le t (if x.v < m.v then x else m)
    have h3 : (if x.v < m.v then x else m).v ≤ m.v ∧ (if x.v < m.v then x else m).v ≤ x.v := by split <;> omega
    refine ⟨by omega, fun y hy => ?_⟩
    rcases List.mem_cons.1 hy with rfl | hy
    · omega
    · exact h2 y hy
theorem least_le {l : List Pt} {z : Pt} (h : least l = some z) : ∀ x ∈ l, z.v ≤ x.v := by
  cases l with
  | nil => simp [least] at h
  | cons x t =>
    simp [least] at h
    obtain ⟨h1, h2⟩ := best_le t x
    intro y hy
    rw [← h]
    rcases List.mem_cons.1 hy with rfl | hy
    · exact h1
    · exact h2 y hy
theorem least_none {l : List Pt} : least l = none ↔ l = [] := by cases l <;> simp [least]

theorem growB_ge (base : Int) (l : List Pt) : base ≤ growB base l := by unfold growB; split <;> omega
theorem growB_le {base c : Int} {l : List Pt} (hb : base ≤ c) (h : ∀ x ∈ l, x.v ≤ c) : growB base l ≤ c := by
  unfold growB
  split
  · exact hb
  · rename_i z hz
    have := h z (least_mem hz); omega

/-- The calls. -/
def putR (S : Ln) (id w lag : Int) : Ln := if mayE S.l id w lag = 0 then ⟨growB S.base (insP (newP S.base id w lag) S.l), S.cur, insP (newP S.base id w lag) S.l⟩ else S
def enterR (held : Int → Int) (S : Ln) (id w lag : Int) : Ln := if mayE S.l id w lag = 0 then putR S id w (held lag) else S
/-- The place of a task, and the task. -/
def at? (S : Ln) (id : Int) : Option (Nat × Pt) := match S.l.findIdx? (isId id) with | some j => (S.l[j]?).map fun x => (j, x) | none => none
theorem at_cases (S : Ln) (id : Int) : (at? S id = none ∧ fi (isId id) S.l = -1 ∧ ∀ x ∈ S.l, x.id ≠ id) ∨ ∃ j x, at? S id = some (j, x) ∧ fi (isId id) S.l = (j : Nat) ∧ j < S.l.length ∧ S.l[j]? = some x ∧ x.id = id := by
  rcases fi_cases (isId id) S.l with ⟨h1, h2⟩ | ⟨j, x, h1, h2, h3, h4, h5⟩
  · left
    refine ⟨?_, h1, fun x hx e => by have := h2 x hx; simp [isId, e] at this⟩
    unfold at?
    have : S.l.findIdx? (isId id) = none := List.findIdx?_eq_none_iff.2 fun x hx => by simp [h2 x hx]
    rw [this]
  · right
    refine ⟨j, x, ?_, h1, h2, h3, by simpa [isId] using h4⟩
    unfold at?
    have : S.l.findIdx? (isId id) = some j := by
      unfold fi at h1
      split at h1
      · rename_i i hi; rw [hi]; congr 1; omega
      · omega
    rw [this]; simp [h3]
def leaveR (S : Ln) (id : Int) : Ln × Int × Int := match at? S id with
  | none => (S, 0, 2)
  | some (j, x) => (⟨growB S.base (S.l.eraseIdx j), if S.cur = id then -1 else S.cur, S.l.eraseIdx j⟩, S.base - x.v, 0)
def weighR (S : Ln) (id w : Int) : Ln × Int := match at? S id with
  | none => (S, 2)
  | some (j, x) => if goodW w = true then (⟨growB S.base (S.l.set j (dayOf { x with w := w })), S.cur, S.l.set j (dayOf { x with w := w })⟩, 0) else (S, 1)
def chargeR (S : Ln) : Ln × Int × Int := match at? S S.cur with
  | none => (S, 0, 14)
  | some (j, x) => if 2305843009213693952 < x.v + step x.w then (S, 0, 7) else (⟨growB S.base (S.l.set j (chargeP x)), S.cur, S.l.set j (chargeP x)⟩, x.id, 0)
def backR (S : Ln) : Ln × Bool := ({ S with cur := -1 }, S.cur != -1)
def takeR (S : Ln) : Option Pt → Ln × Int × Bool
  | none => ({ S with cur := -1 }, 0, false)
  | some z => ({ S with cur := z.id }, z.id, true)
def formR (S : Ln) : Fm := ⟨S.cur, S.l.map (itOf S.base)⟩
def seedR (f : Fm) (base : Int) : Ln := ⟨base, f.cur, f.l.map (seedP base)⟩

theorem ById.sub {l m : List Pt} (h : ById l) (hs : m.Sublist l) : ById m := List.Pairwise.sublist hs h
theorem ById.set {l : List Pt} (h : ById l) {j : Nat} {x y : Pt} (hx : l[j]? = some x) (hy : y.id = x.id) : ById (l.set j y) := by
  refine List.pairwise_iff_getElem.2 fun a b ha hb hab => ?_
  have hg := List.pairwise_iff_getElem.1 h
  obtain ⟨hj, rfl⟩ := List.getElem?_eq_some_iff.1 hx
  simp only [List.length_set] at ha hb
  simp only [List.getElem_set]
  have h0 := hg a b ha hb hab
  split
  · rename_i e; subst e
    split
    · omega
    · omega
  · split
    · rename_i e; subst e; omega
    · omega
theorem mem_set {l : List Pt} {j : Nat} {x y z : Pt} (hx : l[j]? = some x) (hz : z ∈ l.set j y) : z = y ∨ z ∈ l := by
  rcases List.mem_or_eq_of_mem_set hz with h | h
  · exact .inr h
  · exact .inl h

theorem OkS.put {K : Int} {S : Ln} (h : OkS K S) (id w lag : Int) (hk : K + 1125899906842624 ≤ 1152921504606846976) : OkS (K + 1125899906842624) (putR S id w lag) := by
  have k0 := h.k0
  unfold putR
  split
  · rename_i hm
    obtain ⟨hm1, hm2, hm3⟩ := mayE_zero h.len hm
    obtain ⟨i1, i2, w1, w2, g1, g2⟩ := mayB_true hm1
    have hb := h.bhi
    have hl := h.blo
    have hpts : ∀ x ∈ insP (newP S.base id w lag) S.l, 0 ≤ x.id ∧ x.id ≤ 1073741824 ∧ 1 ≤ x.w ∧ x.w ≤ 20 ∧ -1154047404513689600 ≤ x.v ∧ x.v ≤ 2305843009213693952 + (K + 1125899906842624) := by
      intro x hx
      rcases insP_mem.1 hx with rfl | hx
      · simp only [newP]; omega
      · have := h.pts x hx; omega
    refine ⟨by omega, hk, insP_sorted h.byid (fun y hy => hm2 y hy), by simp only; rw [insP_len]; omega, Int.le_trans h.blo (growB_ge _ _), growB_le (by omega) fun x hx => (hpts x hx).2.2.2.2.2, hpts, ?_⟩
    rcases h.cur with hc | ⟨x, hx, hc⟩
    · exact .inl hc
    · exact .inr ⟨x, insP_mem.2 (.inr hx), hc⟩
  · exact h.mono (by omega) hk
theorem OkS.enter {K : Int} {S : Ln} (held : Int → Int) (h : OkS K S) (id w lag : Int) (hk : K + 1125899906842624 ≤ 1152921504606846976) : OkS (K + 1125899906842624) (enterR held S id w lag) := by
  unfold enterR
  split
  · exact h.put _ _ _ hk
  · exact h.mono (by omega) hk
theorem OkS.leave {K : Int} {S : Ln} (h : OkS K S) (id : Int) : OkS K (leaveR S id).1 := by
  unfold leaveR
  rcases at_cases S id with ⟨h1, _⟩ | ⟨j, x, h1, _, hj, hx, hid⟩
  · rw [h1]; exact h
  · rw [h1]
    have hsub : (S.l.eraseIdx j).Sublist S.l := List.eraseIdx_sublist _ _
    have hpts := fun y (hy : y ∈ S.l.eraseIdx j) => h.pts y (hsub.subset hy)
    refine ⟨h.k0, h.k1, h.byid.sub hsub, Nat.le_trans hsub.length_le h.len, Int.le_trans h.blo (growB_ge _ _), growB_le h.bhi fun x hx => (hpts x hx).2.2.2.2.2, hpts, ?_⟩
    simp only
    split
    · exact .inl rfl
    · rename_i hne
      rcases h.cur with hc | ⟨y, hy, hc⟩
      · exact .inl hc
      · refine .inr ⟨y, ?_, hc⟩
        obtain ⟨i, hi, rfl⟩ := List.getElem_of_mem hy
        obtain ⟨hj', rfl⟩ := List.getElem?_eq_some_iff.1 hx
        refine List.mem_eraseIdx_iff_getElem.2 ⟨i, hi, fun e => hne ?_, rfl⟩
        subst e; rw [← hc, ← hid]
theorem OkS.setP {K : Int} {S : Ln} (h : OkS K S) {j : Nat} {x y : Pt} (hx : S.l[j]? = some x) (hy : y.id = x.id) (hw : 1 ≤ y.w ∧ y.w ≤ 20) (hv : x.v ≤ y.v ∧ y.v ≤ 2305843009213693952 + K) : OkS K ⟨growB S.base (S.l.set j y), S.cur, S.l.set j y⟩ := by
  have hmem := List.mem_of_getElem? hx
  have h0 := h.pts x hmem
  have hpts : ∀ z ∈ S.l.set j y, 0 ≤ z.id ∧ z.id ≤ 1073741824 ∧ 1 ≤ z.w ∧ z.w ≤ 20 ∧ -1154047404513689600 ≤ z.v ∧ z.v ≤ 2305843009213693952 + K := fun z hz => by
    rcases mem_set hx hz with rfl | hz
    · omega
    · exact h.pts z hz
  refine ⟨h.k0, h.k1, h.byid.set hx hy, by simp only; rw [List.length_set]; exact h.len, Int.le_trans h.blo (growB_ge _ _), growB_le h.bhi fun z hz => (hpts z hz).2.2.2.2.2, hpts, ?_⟩
  rcases h.cur with hc | ⟨z, hz, hc⟩
  · exact .inl hc
  · right
    simp only
    obtain ⟨i, hi, rfl⟩ := List.getElem_of_mem hz
    by_cases hij : j = i
    · subst hij
      obtain ⟨_, rfl⟩ := List.getElem?_eq_some_iff.1 hx
      exact ⟨y, List.mem_set hi y, by omega⟩
    · exact ⟨S.l[i], List.mem_iff_getElem.2 ⟨i, by rw [List.length_set]; exact hi, by rw [List.getElem_set, if_neg hij]⟩, hc⟩
theorem OkS.weigh {K : Int} {S : Ln} (h : OkS K S) (id w : Int) : OkS K (weighR S id w).1 := by
  unfold weighR
  rcases at_cases S id with ⟨h1, _⟩ | ⟨j, x, h1, _, hj, hx, hid⟩
  · rw [h1]; exact h
  · rw [h1]
    simp only
    split
    · rename_i hg
      obtain ⟨g1, g2⟩ := goodW_true hg
      exact h.setP hx rfl ⟨g1, g2⟩ ⟨Int.le_refl _, (h.pts x (List.mem_of_getElem? hx)).2.2.2.2.2⟩
    · exact h
theorem chargeP_is (x : Pt) : (chargeP x).id = x.id ∧ (chargeP x).w = x.w ∧ (chargeP x).v = x.v + step x.w := by unfold chargeP dayOf; split <;> simp
theorem OkS.charge {K : Int} {S : Ln} (h : OkS K S) : OkS K (chargeR S).1 := by
  unfold chargeR
  rcases at_cases S S.cur with ⟨h1, _⟩ | ⟨j, x, h1, _, hj, hx, hid⟩
  · rw [h1]; exact h
  · rw [h1]
    simp only
    split
    · exact h
    · rename_i hg
      have hp := h.pts x (List.mem_of_getElem? hx)
      have hs := step_le x.w
      have k0 := h.k0
      obtain ⟨c1, c2, c3⟩ := chargeP_is x
      exact h.setP hx c1 (by rw [c2]; omega) (by rw [c3]; omega)
theorem OkS.curs {K : Int} {S : Ln} (h : OkS K S) (c : Int) (hc : c = -1 ∨ ∃ x ∈ S.l, x.id = c) : OkS K { S with cur := c } := ⟨h.k0, h.k1, h.byid, h.len, h.blo, h.bhi, h.pts, hc⟩
theorem OkS.back {K : Int} {S : Ln} (h : OkS K S) : OkS K (backR S).1 := h.curs _ (.inl rfl)
theorem OkS.take {K : Int} {S : Ln} (h : OkS K S) (z : Option Pt) (hz : ∀ x, z = some x → x ∈ S.l) : OkS K (takeR S z).1 := by
  cases z with
  | none => exact h.curs _ (.inl rfl)
  | some x => exact h.curs _ (.inr ⟨x, hz x rfl, rfl⟩)
theorem OkS.new {base : Int} (h1 : -1152921504606846976 ≤ base) (h2 : base ≤ 1152921504606846976) : OkS 0 ⟨base, -1, []⟩ :=
  ⟨by omega, by omega, List.Pairwise.nil, by simp, h1, by simp only; omega, (fun x hx => by cases hx), .inl rfl⟩
theorem seed_byid {base : Int} {l : List It} (h : l.Pairwise fun a b => a.id < b.id) : ById (l.map (seedP base)) := List.pairwise_map.2 h
theorem OkS.seed {base : Int} {f : Fm} (h1 : -1152921504606846976 ≤ base) (h2 : base ≤ 1152921504606846976) (hg : goodF f = true) : OkS 0 (seedR f base) := by
  obtain ⟨g1, g2, g3, g4, g5⟩ := (of_decide_eq_true hg : GoodP f)
  refine ⟨by omega, by omega, seed_byid g4, by simp only [seedR]; rw [List.length_map]; exact g1, h1, by simp only [seedR]; omega, fun x hx => ?_, ?_⟩
  · simp only [seedR, List.mem_map] at hx
    obtain ⟨y, hy, rfl⟩ := hx
    have := mayB_true (g3 y hy)
    simp only [seedP, newP]; omega
  · rcases g2 with h | ⟨x, hx, h⟩
    · exact .inl h
    · exact .inr ⟨seedP base x, List.mem_map.2 ⟨x, hx, rfl⟩, h⟩
/-- What is told of a seed is the form. -/
theorem form_seed (f : Fm) (base : Int) : formR (seedR f base) = f := by
  unfold formR seedR
  cases f with
  | mk c l =>
    simp only [List.map_map, Fm.mk.injEq, true_and]
    have : ∀ x : It, (itOf base ∘ seedP base) x = x := fun x => by
      cases x
      simp only [Function.comp, itOf, seedP, newP, It.mk.injEq, true_and]; omega
    rw [List.map_congr_left (fun x _ => this x)]; simp
end Go.Proofs.YtlgkkolgdjgclaaGreat
