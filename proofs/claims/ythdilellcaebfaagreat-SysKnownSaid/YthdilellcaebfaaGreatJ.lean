/- Package owed's forms: find, Good. -/
import Derived.Test.YthdilellcaebfaaGreatI
namespace Go.Proofs.YthdilellcaebfaaGreat
open Go.RowKit
set_option linter.unusedVariables false
set_option linter.unusedSimpArgs false

theorem findI1_any (p : It) (id : Int) (g : Nat) (w : World) (hg : w.cell? ⟨g, 0, none⟩ = some (.int .i64 id)) :
    Calls Tryz.prog 137 #[.agg #[.int .i64 p.id, .int .i64 p.w, .int .i64 p.lag], .pointer (some ⟨g, 0, none⟩)] w fun e w' => e = .returned (.bool (isIt id p)) ∧ Below w.heap.size w w' := by
  have hlt := World.block_lt_of_cell? w _ hg
  have hne : g ≠ w.heap.size := by simp at hlt; omega
  go_enter Tryz.func137, Tryz.ntmps137
  go_wp2
  go_ret
  exact ⟨by rfl, (Below.refl _ _).alloc (Nat.le_refl _) _⟩

set_option maxHeartbeats 800000 in
set_option maxRecDepth 100000 in
theorem indexIt (id : Int) (l : List It) (a : Option Addr) (c g : Nat) (w : World) (hl : l.length ≤ 4611686018427387904) (hs : Sl It.enc 3 w a l) (hg : w.cell? ⟨g, 0, none⟩ = some (.int .i64 id)) :
    Calls Tryz.prog 136 #[.slice a l.length c, .func (.func 137) #[] #[.pointer (some ⟨g, 0, none⟩)]] w fun e w' =>
      e = .returned (.int .i64 (fi (isIt id) l)) ∧ Below w.heap.size w w' := by
  have hglt := World.block_lt_of_cell? w _ hg
  simp only at hglt
  go_enter Tryz.func136, Tryz.ntmps136
  go_wp2_with fail
  go_loopw [8] (fun i wr => ∃ k : Nat, k ≤ l.length ∧ i = .int .i64 k ∧ Below w.heap.size w wr ∧ ∀ i, i < k → ∀ y, l[i]? = some y → isIt id y = false) (fun i _ => l.length - (intOf i).toNat)
  case atStart => exact ⟨0, Nat.zero_le _, rfl, Below.refl _ _, fun i hi => absurd hi (Nat.not_lt_zero _)⟩
  case round =>
    obtain ⟨k, hk, rfl, hb, hno⟩ := hrel
    by_cases hlt : k < l.length
    · obtain ⟨r, off, rfl, hr, hc⟩ := hs (by intro h; rw [h] at hlt; simp at hlt)
      obtain ⟨y, hx⟩ : ∃ y, l[k]? = some y := ⟨_, List.getElem?_eq_getElem hlt⟩
      have e0 := (hb.cell (p := ⟨r, off + k * 3 + 0, none⟩) hr).trans (hc k y hx 0 _ rfl)
      have e1 := (hb.cell (p := ⟨r, off + k * 3 + 1, none⟩) hr).trans (hc k y hx 1 _ rfl)
      have e2 := (hb.cell (p := ⟨r, off + k * 3 + 2, none⟩) hr).trans (hc k y hx 2 _ rfl)
      simp only [Nat.add_zero] at e0
      have hg' := (hb.cell (p := ⟨g, 0, none⟩) hglt).trans hg
      have hsz := hb.size
      clear hs hc
      have Hx := Lib.hid hx
      have Hno := Lib.hid hno
      clear hx hno
      rcases Bool.eq_false_or_eq_true (isIt id y) with hp | hp
      · go_wp2_with (go_at_call 137; refine (findI1_any y id g wr hg').mono ?_; rintro e w1 ⟨rfl, hb1⟩)
        go_ret
        exact ⟨ret_int (fi_at Hx.out hp Hno.out).symm, hb.trans (hb1.mono hsz)⟩
      · go_wp2_with (go_at_call 137; refine (findI1_any y id g wr hg').mono ?_; rintro e w1 ⟨rfl, hb1⟩)
        go_roundw
        case rel => exact ⟨k + 1, hlt, by go_num, hb.trans (hb1.mono hsz), fun i hi z hz => by
          rcases Nat.lt_or_ge i k with h | h
          · exact Hno.out i h z hz
          · obtain rfl : i = k := by omega
            rw [Hx.out] at hz; cases hz; exact hp⟩
        case measure => simp [intOf]; omega
    · have Hno := Lib.hid hno
      clear hno
      go_wp2
      go_ret
      exact ⟨ret_int (fi_neg (fun x hx => by
        obtain ⟨i, hi⟩ := List.mem_iff_getElem?.1 hx
        exact Hno.out i (by have := (List.getElem?_eq_some_iff.1 hi).1; omega) x hi)).symm, hb⟩

set_option maxHeartbeats 400000 in
theorem findF_any (cur id : Int) (l : List It) (n : Nat) (a : Option Addr) (c : Nat) (w : World) (hn : l.length = n) (hl : n ≤ 4611686018427387904) (hs : Sl It.enc 3 w a l) {v : Int} (hv : fi (isIt id) l = v) :
    Calls Tryz.prog 96 #[.agg #[.int .i64 cur, .slice a n c], .int .i64 id] w fun e w' => e = .returned (.int .i64 v) ∧ Below w.heap.size w w' := by
  subst hv hn
  have hs1 := hs.below (((Below.refl _ _).alloc (Nat.le_refl _) (.cells #[.int .i64 cur, .slice a l.length c] 77)).alloc (by simp) (.cells #[.int .i64 id] 3))
  have Hs := Lib.hid hs1
  clear hs hs1
  go_enter Tryz.func96, Tryz.ntmps96
  go_wp2_with (go_at_call 136; refine (indexIt id l a c (w.heap.size + 1) _ hl Hs.out (by simp)).mono ?_; rintro e w1 ⟨rfl, hb1⟩)
  go_ret
  exact ⟨rfl, (((Below.refl _ _).alloc (Nat.le_refl _) _).alloc (by simp) _).trans (hb1.mono (by simp; omega))⟩

/-- What a form must be. -/
def GoodP (f : Fm) : Prop := f.l.length ≤ 64 ∧ (f.cur = -1 ∨ ∃ x ∈ f.l, x.id = f.cur) ∧ (∀ x ∈ f.l, mayB x.id x.w x.lag = true) ∧ (f.l.Pairwise fun a b => a.id < b.id) ∧ (f.l = [] ∨ ∃ x ∈ f.l, 0 ≤ x.lag)
instance (f : Fm) : Decidable (GoodP f) := by unfold GoodP; infer_instance
def goodF (f : Fm) : Bool := decide (GoodP f)

/-- A form's first k items may be. -/
def OkTo (l : List It) (k : Nat) : Prop := (∀ i, i < k → ∀ x, l[i]? = some x → mayB x.id x.w x.lag = true) ∧ ∀ i, i + 1 < k → ∀ x y, l[i]? = some x → l[i + 1]? = some y → x.id < y.id
theorem OkTo.asc {l : List It} (h : OkTo l l.length) : l.Pairwise fun a b => a.id < b.id := by
  have key : ∀ d i x y, l[i]? = some x → l[i + d + 1]? = some y → x.id < y.id := by
    intro d
    induction d with
    | zero => intro i x y hx hy; exact h.2 i (List.getElem?_eq_some_iff.1 hy).1 x y hx hy
    | succ d ih =>
      intro i x y hx hy
      have hlt := (List.getElem?_eq_some_iff.1 hy).1
      obtain ⟨z, hz⟩ : ∃ z, l[i + d + 1]? = some z := ⟨_, List.getElem?_eq_getElem (by omega)⟩
      have h1 := ih i x z hx hz
      have h2 := h.2 (i + d + 1) (by omega) z y hz (by rw [← hy]; congr 1)
      omega
  refine List.pairwise_iff_getElem.2 fun i j hi hj hij => ?_
  exact key (j - i - 1) i l[i] l[j] (List.getElem?_eq_getElem hi) (by rw [show i + (j - i - 1) + 1 = j by omega]; exact List.getElem?_eq_getElem hj)
theorem OkTo.not_asc {l : List It} {k : Nat} {x y : It} (hx : l[k]? = some x) (hy : l[k + 1]? = some y) (hn : ¬ x.id < y.id) : ¬ l.Pairwise fun a b => a.id < b.id := fun h => by
  obtain ⟨h1, rfl⟩ := List.getElem?_eq_some_iff.1 hx
  obtain ⟨h2, rfl⟩ := List.getElem?_eq_some_iff.1 hy
  exact hn (List.pairwise_iff_getElem.1 h k (k + 1) h1 h2 (by omega))
theorem OkTo.may {l : List It} (h : OkTo l l.length) : ∀ x ∈ l, mayB x.id x.w x.lag = true := fun x hx => by
  obtain ⟨i, hi⟩ := List.mem_iff_getElem?.1 hx
  exact h.1 i (List.getElem?_eq_some_iff.1 hi).1 x hi
/-- Of the first k items one has a lag that is not below 0; or there is none at all. -/
def someTo (l : List It) (k : Nat) : Bool := l.isEmpty || (l.take k).any fun x => decide (0 ≤ x.lag)
theorem someTo_succ {l : List It} {k : Nat} {x : It} (hx : l[k]? = some x) : someTo l (k + 1) = (someTo l k || decide (0 ≤ x.lag)) := by
  unfold someTo
  obtain ⟨h, rfl⟩ := List.getElem?_eq_some_iff.1 hx
  rw [List.take_succ_eq_append_getElem h, List.any_append]
  simp [Bool.or_assoc]
theorem someTo_all (l : List It) : someTo l l.length = true ↔ (l = [] ∨ ∃ x ∈ l, 0 ≤ x.lag) := by
  unfold someTo
  rw [List.take_length]
  simp

theorem heap_drew_below {w w' : World} {g : Nat} {x o : Obj} (h : w.heap[g]? = some x) (hb : Below (w.alloc o).drew.heap.size (w.alloc o).drew w') : w'.heap[g]? = some x := heap_below (w := (w.alloc o).drew) (heap_alloc h o) hb
theorem OkTo.one {l : List It} {y : It} (hx : l[0]? = some y) (hm : mayB y.id y.w y.lag = true) : OkTo l 1 :=
  ⟨fun i hi x h => by obtain rfl : i = 0 := by omega
                      rw [hx] at h; cases h; exact hm, fun i hi => absurd hi (by omega)⟩
theorem OkTo.step {l : List It} {j : Nat} {z y : It} (h : OkTo l (j + 1)) (hz : l[j]? = some z) (hx : l[j + 1]? = some y) (hm : mayB y.id y.w y.lag = true) (hlt : z.id < y.id) : OkTo l (j + 1 + 1) := by
  refine ⟨fun i hi x hxi => ?_, fun i hi a b ha hb => ?_⟩
  · rcases Nat.lt_or_ge i (j + 1) with h1 | h1
    · exact h.1 i h1 x hxi
    · obtain rfl : i = j + 1 := by omega
      rw [hx] at hxi; cases hxi; exact hm
  · rcases Nat.lt_or_ge (i + 1) (j + 1) with h1 | h1
    · exact h.2 i h1 a b ha hb
    · obtain rfl : i = j := by omega
      rw [hz] at ha; cases ha
      rw [hx] at hb; cases hb
      exact hlt
theorem good_of {cur : Int} {l : List It} (h : OkTo l l.length) (hl : l.length ≤ 64) (hc : cur = -1 ∨ ∃ x ∈ l, x.id = cur) : goodF ⟨cur, l⟩ = someTo l l.length := by
  unfold goodF
  cases hs : someTo l l.length with
  | true => exact decide_eq_true ⟨hl, hc, h.may, h.asc, (someTo_all l).1 hs⟩
  | false => exact decide_eq_false fun hg => by rw [(someTo_all l).2 hg.2.2.2.2] at hs; cases hs

end Go.Proofs.YthdilellcaebfaaGreat
