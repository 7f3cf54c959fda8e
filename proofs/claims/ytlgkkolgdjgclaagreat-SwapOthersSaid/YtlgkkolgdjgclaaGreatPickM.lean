/- Who is picked by fair and by due, in plain words. -/
import Derived.Test.YtlgkkolgdjgclaaGreatLags
import Derived.Test.YtlgkkolgdjgclaaGreatShift
namespace Go.Proofs.YtlgkkolgdjgclaaGreat
open Go.RowKit
set_option linter.unusedVariables false
set_option linter.unusedSimpArgs false

def heldfair (lag : Int) : Int := min lag 698377680
def helddue (lag : Int) : Int := max (-698377680) (min lag 698377680)
/-- fair: the one that runs goes on, until it is too far ahead. -/
def keepfair (S : Ln) : Option Pt := match at? S S.cur, least S.l with
  | some (_, x), some z => if x.v - 465585120 ≤ z.v then some x else none
  | _, _ => none
def pickfair (S : Ln) : Ln × Int × Bool := match keepfair S with
  | some x => (S, x.id, true)
  | none => takeR S (least S.l)
theorem keepfair_some {S : Ln} {x : Pt} (h : keepfair S = some x) : ∃ j z, at? S S.cur = some (j, x) ∧ least S.l = some z ∧ x.v - 465585120 ≤ z.v := by
  unfold keepfair at h
  cases h1 : at? S S.cur with
  | none => rw [h1] at h; simp at h
  | some p =>
    obtain ⟨j, y⟩ := p
    cases h2 : least S.l with
    | none => rw [h1, h2] at h; simp at h
    | some z =>
      rw [h1, h2] at h
      simp only at h
      split at h
      · rename_i hle
        obtain rfl : y = x := by simpa using h
        exact ⟨j, z, rfl, rfl, hle⟩
      · cases h
theorem pickis_fair (S : Ln) : ∃ c, (pickfair S).1 = ⟨S.base, c, S.l⟩ := by
  unfold pickfair
  cases keepfair S with
  | none => exact takeR_is _ _
  | some x => exact ⟨S.cur, rfl⟩
theorem pickok_fair {K : Int} {S : Ln} (h : OkS K S) : OkS K (pickfair S).1 := by
  unfold pickfair
  cases keepfair S with
  | none => exact h.take _ fun x hx => least_mem hx
  | some x => exact h
theorem keepfair_sh (d : Int) (S : Ln) : keepfair (shS d S) = (keepfair S).map (shP d) := by
  unfold keepfair
  have e0 : at? (shS d S) (shS d S).cur = (at? S S.cur).map fun p => (p.1, shP d p.2) := at_sh d S S.cur
  have e : least (shS d S).l = (least S.l).map (shP d) := least_sh d S.l
  rw [e0, e]
  cases at? S S.cur with
  | none => cases least S.l <;> rfl
  | some p =>
    cases least S.l with
    | none => rfl
    | some z =>
      simp only [Option.map_some]
      by_cases h : p.2.v - 465585120 ≤ z.v
      · rw [if_pos h, if_pos (by simp only [shP]; omega)]; rfl
      · rw [if_neg h, if_neg (by simp only [shP]; omega)]; rfl
theorem picksh_fair (d : Int) (S : Ln) : pickfair (shS d S) = (shS d (pickfair S).1, (pickfair S).2) := by
  unfold pickfair
  rw [keepfair_sh]
  have e : least (shS d S).l = (least S.l).map (shP d) := least_sh d S.l
  cases keepfair S with
  | none => simp only [Option.map_none]; rw [e, takeR_sh]
  | some x => rfl
theorem least_le_base {S : Ln} {z : Pt} (g : Lags S) (hz : least S.l = some z) : z.v ≤ S.base := by
  rcases g.front with e | ⟨y, hy, hv⟩
  · rw [e] at hz; cases hz
  · have := least_le hz y hy; omega
theorem room_take {K : Int} {S : Ln} (h : OkS K S) (z : Option Pt) (hz : ∀ y, z = some y → y ∈ S.l ∧ y.v + step y.w ≤ S.base + 1000000000) (hn : z = none → S.l = []) :
    ∀ j x, at? (takeR S z).1 (takeR S z).1.cur = some (j, x) → x.v + step x.w ≤ (takeR S z).1.base + 1000000000 := by
  intro j x hx
  obtain ⟨_, hm, hid⟩ := at_mem hx
  cases z with
  | none =>
    have e := hn rfl
    simp only [takeR, e] at hm
    cases hm
  | some y =>
    simp only [takeR] at hm hid ⊢
    obtain ⟨h1, h2⟩ := hz y rfl
    obtain rfl := h.byid.uniq hm h1 hid
    exact h2
theorem room_fair {K : Int} {S : Ln} (h : OkS K S) (g : Lags S) : ∀ j x, at? (pickfair S).1 (pickfair S).1.cur = some (j, x) → x.v + step x.w ≤ (pickfair S).1.base + 1000000000 := by
  unfold pickfair
  cases hk : keepfair S with
  | none =>
    refine room_take h _ (fun y hy => ⟨least_mem hy, ?_⟩) fun e => least_none.1 e
    have := least_le_base g hy
    have hs := step_le y.w
    omega
  | some x =>
    intro j y hy
    obtain ⟨j2, z, h1, h2, h3⟩ := keepfair_some hk
    simp only at hy ⊢
    rw [h1] at hy
    obtain ⟨rfl, rfl⟩ : j2 = j ∧ x = y := by simpa using hy
    have := least_le_base g h2
    have hs := step_le x.w
    omega

theorem pickat_fair {K : Int} {S : Ln} (h : OkS K S) (hl : 0 < S.l.length) : ∃ j x, (pickfair S).2 = (x.id, true) ∧ at? (pickfair S).1 (pickfair S).1.cur = some (j, x) := by
  unfold pickfair
  cases hk : keepfair S with
  | none =>
    cases hz : least S.l with
    | none => rw [least_none.1 hz] at hl; cases hl
    | some z =>
      obtain ⟨j, hj⟩ := take_at h (least_mem hz)
      exact ⟨j, z, rfl, hj⟩
  | some x =>
    obtain ⟨j, z, h1, _, _⟩ := keepfair_some hk
    exact ⟨j, x, rfl, h1⟩
/-- due: all weights; how far all are from a point; the one that is due first of those not ahead. -/
def totW : List Pt → Int
  | [] => 0
  | x :: t => x.w + totW t
def farW (m : Int) : List Pt → Int
  | [] => 0
  | x :: t => (x.v - m) * x.w + farW m t
def eligW (m tot far : Int) (x : Pt) : Bool := decide ((x.v - m) * tot ≤ far)
def laterW (b : Option Pt) (x : Pt) : Bool := match b with | none => true | some y => decide (x.day < y.day)
def dueB (m tot far : Int) : List Pt → Option Pt → Option Pt
  | [], b => b
  | x :: t, b => dueB m tot far t (if (eligW m tot far x && laterW b x) = true then some x else b)
def duePick (l : List Pt) : Option Pt := match least l with | none => none | some z => dueB z.v (totW l) (farW z.v l) l none
def pickdue (S : Ln) : Ln × Int × Bool := takeR S (duePick S.l)
theorem dueB_some (m tot far : Int) : ∀ (l : List Pt) (b : Option Pt) (y : Pt), dueB m tot far l b = some y →
    (b = some y ∨ (y ∈ l ∧ eligW m tot far y = true)) ∧ (∀ z, b = some z → y.day ≤ z.day) ∧ ∀ x ∈ l, eligW m tot far x = true → y.day ≤ x.day
  | [], b, y, h => by
    simp only [dueB] at h
    subst h
    exact ⟨.inl rfl, fun z hz => by cases hz; exact Int.le_refl _, fun x hx => by cases hx⟩
  | x :: t, b, y, h => by
    simp only [dueB] at h
    obtain ⟨h1, h2, h3⟩ := dueB_some m tot far t _ y h
    by_cases hc : (eligW m tot far x && laterW b x) = true
    · rw [if_pos hc] at h1 h2
      simp only [Bool.and_eq_true] at hc
      have h4 := h2 x rfl
      refine ⟨?_, fun z hz => ?_, fun u hu he => ?_⟩
      · rcases h1 with h1 | ⟨h1, h5⟩
        · obtain rfl : x = y := by simpa using h1
          exact .inr ⟨by simp, hc.1⟩
        · exact .inr ⟨by simp [h1], h5⟩
      · subst hz
        have := hc.2
        simp only [laterW, decide_eq_true_eq] at this
        omega
      · rcases List.mem_cons.1 hu with rfl | hu
        · exact h4
        · exact h3 u hu he
    · rw [if_neg hc] at h1 h2
      refine ⟨?_, h2, fun u hu he => ?_⟩
      · rcases h1 with h1 | ⟨h1, h5⟩
        · exact .inl h1
        · exact .inr ⟨by simp [h1], h5⟩
      · rcases List.mem_cons.1 hu with rfl | hu
        · cases b with
          | none => simp [he, laterW] at hc
          | some z =>
            have := h2 z rfl
            simp [he, laterW] at hc
            omega
        · exact h3 u hu he
theorem dueB_none (m tot far : Int) : ∀ (l : List Pt) (b : Option Pt), dueB m tot far l b = none → b = none ∧ ∀ x ∈ l, eligW m tot far x = false
  | [], b, h => ⟨h, fun x hx => by cases hx⟩
  | x :: t, b, h => by
    simp only [dueB] at h
    obtain ⟨h1, h2⟩ := dueB_none m tot far t _ h
    by_cases hc : (eligW m tot far x && laterW b x) = true
    · rw [if_pos hc] at h1; cases h1
    · rw [if_neg hc] at h1
      subst h1
      simp [laterW] at hc
      exact ⟨rfl, fun y hy => by
        rcases List.mem_cons.1 hy with rfl | hy
        · exact hc
        · exact h2 y hy⟩
theorem farW_nonneg {m : Int} : ∀ {l : List Pt}, (∀ x ∈ l, m ≤ x.v ∧ 1 ≤ x.w) → 0 ≤ farW m l
  | [], _ => Int.le_refl _
  | x :: t, h => by
    have h1 := h x (by simp)
    have h2 := farW_nonneg (m := m) (l := t) fun y hy => h y (by simp [hy])
    have h3 : 0 ≤ (x.v - m) * x.w := Int.mul_nonneg (by omega) (by omega)
    simp only [farW]; omega
theorem least_elig {l : List Pt} {z : Pt} (hz : least l = some z) (hw : ∀ x ∈ l, 1 ≤ x.w) : eligW z.v (totW l) (farW z.v l) z = true := by
  have := farW_nonneg (m := z.v) (l := l) fun x hx => ⟨least_le hz x hx, hw x hx⟩
  unfold eligW
  simp only [decide_eq_true_eq]
  rw [Int.sub_self, Int.zero_mul]; exact this
theorem duePick_some {l : List Pt} {y z : Pt} (hz : least l = some z) (hw : ∀ x ∈ l, 1 ≤ x.w) (h : duePick l = some y) : y ∈ l ∧ y.day ≤ z.day := by
  unfold duePick at h
  rw [hz] at h
  obtain ⟨h1, _, h3⟩ := dueB_some _ _ _ l none y h
  refine ⟨?_, h3 z (least_mem hz) (least_elig hz hw)⟩
  rcases h1 with h1 | ⟨h1, _⟩
  · cases h1
  · exact h1
theorem duePick_none {l : List Pt} (hw : ∀ x ∈ l, 1 ≤ x.w) (h : duePick l = none) : l = [] := by
  unfold duePick at h
  cases hz : least l with
  | none => exact least_none.1 hz
  | some z =>
    rw [hz] at h
    have := (dueB_none _ _ _ l none h).2 z (least_mem hz)
    rw [least_elig hz hw] at this; cases this
theorem duePick_mem {l : List Pt} {y : Pt} (h : duePick l = some y) : y ∈ l := by
  unfold duePick at h
  cases hz : least l with
  | none => rw [hz] at h; cases h
  | some z =>
    rw [hz] at h
    rcases (dueB_some _ _ _ l none y h).1 with h1 | ⟨h1, _⟩
    · cases h1
    · exact h1
theorem pickis_due (S : Ln) : ∃ c, (pickdue S).1 = ⟨S.base, c, S.l⟩ := takeR_is _ _
theorem pickok_due {K : Int} {S : Ln} (h : OkS K S) : OkS K (pickdue S).1 := h.take _ fun x hx => duePick_mem hx
theorem pickat_due {K : Int} {S : Ln} (h : OkS K S) (hl : 0 < S.l.length) : ∃ j x, (pickdue S).2 = (x.id, true) ∧ at? (pickdue S).1 (pickdue S).1.cur = some (j, x) := by
  unfold pickdue
  cases hz : duePick S.l with
  | none => rw [duePick_none (fun x hx => (h.pts x hx).2.2.1) hz] at hl; cases hl
  | some z =>
    obtain ⟨j, hj⟩ := take_at h (duePick_mem hz)
    exact ⟨j, z, rfl, hj⟩
theorem totW_sh (d : Int) : ∀ l : List Pt, totW (l.map (shP d)) = totW l
  | [] => rfl
  | x :: t => by simp only [List.map_cons, totW, totW_sh d t]; rfl
theorem farW_sh (d m : Int) : ∀ l : List Pt, farW (m + d) (l.map (shP d)) = farW m l
  | [] => rfl
  | x :: t => by
    simp only [List.map_cons, farW, farW_sh d m t]
    have : (shP d x).v - (m + d) = x.v - m := by simp only [shP]; omega
    rw [this]; rfl
theorem dueB_sh (d m tot far : Int) : ∀ (l : List Pt) (b : Option Pt), dueB (m + d) tot far (l.map (shP d)) (b.map (shP d)) = (dueB m tot far l b).map (shP d)
  | [], b => rfl
  | x :: t, b => by
    simp only [List.map_cons, dueB]
    have e1 : eligW (m + d) tot far (shP d x) = eligW m tot far x := by
      unfold eligW
      have : (shP d x).v - (m + d) = x.v - m := by simp only [shP]; omega
      rw [this]
    have e2 : laterW (b.map (shP d)) (shP d x) = laterW b x := by
      cases b with
      | none => rfl
      | some y =>
        show decide (x.day + d < y.day + d) = decide (x.day < y.day)
        rw [decide_eq_decide]; omega
    rw [e1, e2]
    have e3 : (if (eligW m tot far x && laterW b x) = true then some (shP d x) else b.map (shP d)) = (if (eligW m tot far x && laterW b x) = true then some x else b).map (shP d) := by
      split <;> rfl
    rw [e3, dueB_sh d m tot far t]
theorem duePick_sh (d : Int) (l : List Pt) : duePick (l.map (shP d)) = (duePick l).map (shP d) := by
  unfold duePick
  rw [least_sh]
  cases least l with
  | none => rfl
  | some z =>
    simp only [Option.map_some]
    have e : (shP d z).v = z.v + d := rfl
    rw [e, totW_sh, farW_sh]
    exact dueB_sh d _ _ _ l none
theorem picksh_due (d : Int) (S : Ln) : pickdue (shS d S) = (shS d (pickdue S).1, (pickdue S).2) := by
  unfold pickdue
  have e : duePick (shS d S).l = (duePick S.l).map (shP d) := duePick_sh d S.l
  rw [e, takeR_sh]
theorem room_due {K : Int} {S : Ln} (h : OkS K S) (g : Lags S) : ∀ j x, at? (pickdue S).1 (pickdue S).1.cur = some (j, x) → x.v + step x.w ≤ (pickdue S).1.base + 1000000000 := by
  have hw : ∀ x ∈ S.l, 1 ≤ x.w := fun x hx => (h.pts x hx).2.2.1
  unfold pickdue
  refine room_take h _ (fun y hy => ⟨duePick_mem hy, ?_⟩) fun e => duePick_none hw e
  cases hz : least S.l with
  | none => have := duePick_mem hy; rw [least_none.1 hz] at this; cases this
  | some z =>
    obtain ⟨h1, h2⟩ := duePick_some hz hw hy
    have h3 := least_le_base g hz
    have h4 := (g.days y h1).le
    have h5 := (g.days z (least_mem hz)).le
    have hs := step_le z.w
    omega
end Go.Proofs.YtlgkkolgdjgclaaGreat
