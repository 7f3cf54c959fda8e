/- The plain model of a line of points: what package owed computes, on lists and numbers. -/
namespace Go.Proofs.YtlgkkolgdjgclaaGreat
set_option linter.unusedVariables false

/-- A task in a line. -/
structure Pt where
  id : Int
  w : Int
  v : Int
  day : Int
deriving DecidableEq, Inhabited
/-- What one is owed. -/
structure It where
  id : Int
  w : Int
  lag : Int
deriving DecidableEq, Inhabited
/-- A line. -/
structure Ln where
  base : Int
  cur : Int
  l : List Pt
/-- A form. -/
structure Fm where
  cur : Int
  l : List It
deriving DecidableEq

def step (w : Int) : Int := if 1 ≤ w ∧ w ≤ 20 then 232792560 / w else 0
theorem step_le (w : Int) : 0 ≤ step w ∧ step w ≤ 232792560 := by
  unfold step; split
  · exact ⟨Int.ediv_nonneg (by omega) (by omega), Int.ediv_le_self _ (by omega)⟩
  · omega
theorem step_pos {w : Int} (h1 : 1 ≤ w) (h2 : w ≤ 20) : 11639628 ≤ step w := by
  unfold step; rw [if_pos ⟨h1, h2⟩]
  exact (Int.le_ediv_iff_mul_le (by omega)).2 (by omega)

/-- Where the first one is for which p holds; -1 if there is none. -/
def fi {α : Type} (p : α → Bool) (l : List α) : Int := match l.findIdx? p with | some i => (i : Int) | none => -1
theorem fi_neg {α : Type} {p : α → Bool} {l : List α} (h : ∀ x ∈ l, p x = false) : fi p l = -1 := by
  unfold fi
  rw [List.findIdx?_eq_none_iff.2 h]
theorem fi_at {α : Type} {p : α → Bool} {l : List α} {j : Nat} {x : α} (hx : l[j]? = some x) (hp : p x = true) (hn : ∀ i, i < j → ∀ y, l[i]? = some y → p y = false) : fi p l = j := by
  have : l.findIdx? p = some j := by
    rw [List.findIdx?_eq_some_iff_getElem]
    obtain ⟨hj, e⟩ := List.getElem?_eq_some_iff.1 hx
    exact ⟨hj, by rw [e]; exact hp, fun i hi => by rw [hn i hi _ (List.getElem?_eq_getElem (by omega))]; simp⟩
  unfold fi
  rw [this]
theorem fi_cases {α : Type} (p : α → Bool) (l : List α) : (fi p l = -1 ∧ ∀ x ∈ l, p x = false) ∨ ∃ j x, fi p l = (j : Nat) ∧ j < l.length ∧ l[j]? = some x ∧ p x = true ∧ ∀ i, i < j → ∀ y, l[i]? = some y → p y = false := by
  unfold fi
  cases h : l.findIdx? p with
  | none => exact .inl ⟨rfl, List.findIdx?_eq_none_iff.1 h⟩
  | some j =>
    obtain ⟨hj, hp, hn⟩ := List.findIdx?_eq_some_iff_getElem.1 h
    refine .inr ⟨j, l[j], rfl, hj, List.getElem?_eq_getElem hj, hp, fun i hi y hy => ?_⟩
    obtain ⟨hi', e⟩ := List.getElem?_eq_some_iff.1 hy
    have := hn i hi
    rw [e] at this
    simpa using this
/-- Looking on from place k. -/
theorem fi_lo {α : Type} (p : α → Bool) (l : List α) : -1 ≤ fi p l ∧ fi p l < l.length ∨ l.length = 0 ∧ fi p l = -1 := by
  rcases fi_cases p l with ⟨h, _⟩ | ⟨j, x, h, hj, _⟩ <;> rw [h] <;> omega

def isId (id : Int) (p : Pt) : Bool := p.id == id
def isIt (id : Int) (p : It) : Bool := p.id == id

/-- The first one with the least point. -/
def best : List Pt → Pt → Pt
  | [], m => m
  | x :: r, m => best r (if x.v < m.v then x else m)
theorem best_snoc (x : Pt) : ∀ (l : List Pt) (m : Pt), best (l ++ [x]) m = if x.v < (best l m).v then x else best l m
  | [], m => rfl
  | y :: l, m => by simp only [List.cons_append, best]; exact best_snoc x l _
def least : List Pt → Option Pt
  | [] => none
  | x :: r => some (best r x)

/-- The base, taken to the least point. -/
def growB (base : Int) (l : List Pt) : Int := match least l with | none => base | some p => max base p.v

def dayOf (p : Pt) : Pt := { p with day := p.v + 4 * step p.w }
/-- One that is charged. -/
def chargeP (x : Pt) : Pt := if x.day ≤ x.v + step x.w then dayOf { x with v := x.v + step x.w } else { x with v := x.v + step x.w }

/-- What a point is owed. -/
def itOf (base : Int) (p : Pt) : It := ⟨p.id, p.w, base - p.v⟩
end Go.Proofs.YtlgkkolgdjgclaaGreat
