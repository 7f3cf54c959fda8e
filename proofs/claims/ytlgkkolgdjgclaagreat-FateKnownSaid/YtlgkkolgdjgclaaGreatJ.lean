/- Package owed's forms: find, Good. -/
import Derived.Test.YtlgkkolgdjgclaaGreatI
namespace Go.Proofs.YtlgkkolgdjgclaaGreat
open Go.RowKit
set_option linter.unusedVariables false
set_option linter.unusedSimpArgs false

theorem findI1_any (p : It) (id : Int) (g : Nat) (w : World) (hg : w.cell? ⟨g, 0, none⟩ = some (.int .i64 id)) :
    Calls Tryz.prog 153 #[.agg #[.int .i64 p.id, .int .i64 p.w, .int .i64 p.lag], .pointer (some ⟨g, 0, none⟩)] w fun e w' => e = .returned (.bool (isIt id p)) ∧ Below w.heap.size w w' := by
  have hlt := World.block_lt_of_cell? w _ hg
  have hne : g ≠ w.heap.size := by simp at hlt; omega
  go_enter Tryz.func153, Tryz.ntmps153
  go_wp2
  go_ret
  exact ⟨by rfl, (Below.refl _ _).alloc (Nat.le_refl _) _⟩

set_option maxHeartbeats 800000 in
set_option maxRecDepth 100000 in
theorem indexIt (id : Int) (l : List It) (a : Option Addr) (c g : Nat) (w : World) (hl : l.length ≤ 4611686018427387904) (hs : Sl It.enc 3 w a l) (hg : w.cell? ⟨g, 0, none⟩ = some (.int .i64 id)) :
    Calls Tryz.prog 152 #[.slice a l.length c, .func (.func 153) #[] #[.pointer (some ⟨g, 0, none⟩)]] w fun e w' =>
      e = .returned (.int .i64 (fi (isIt id) l)) ∧ Below w.heap.size w w' := by
  have hglt := World.block_lt_of_cell? w _ hg
  simp only at hglt
  go_enter Tryz.func152, Tryz.ntmps152
  go_wp2_with fail
  go_loopw [8] (fun i wr => ∃ k : Nat, k ≤ l.length ∧ i = .int .i64 k ∧ Below w.heap.size w wr ∧ ∀ i, i < k → ∀ y, l[i]? = some y → isIt id y = false) (fun i _ => l.length - (intOf i).toNat)
  case atStart => exact ⟨0, Nat.zero_le _, rfl, Below.refl _ _, fun i hi => absurd hi (Nat.not_lt_zero _)⟩
  case round =>
    obtain ⟨k, hk, rfl, hb, hno⟩ := hrel
    by_cases hlt : k < l.length
    · obtain ⟨r, off, rfl, hr, hc⟩ := hs (by intro h; rw [h] at hlt; simp at hlt)
      obtain ⟨y, hx⟩ : ∃ y, l[k]? = some y := ⟨_, List.getElem?_eq_getElem hlt⟩
      have e0 := (hb.cell (p := ⟨r, off + k * 3 + 0, none⟩) hr).trans (hc k y hx 0 _ rfl)
      have e1 := (hb.cell (p := ⟨r, off + k * 3 + 1, none⟩) hr).trans (hc k y hx 1 _ rfl)
      have e2 := (hb.cell (p := ⟨r, off + k * 3 + 2, none⟩) hr).trans (hc k y hx 2 _ rfl)
      simp only [Nat.add_zero] at e0
      have hg' := (hb.cell (p := ⟨g, 0, none⟩) hglt).trans hg
      have hsz := hb.size
      clear hs hc
      have Hx := Lib.hid hx
      have Hno := Lib.hid hno
      clear hx hno
      rcases Bool.eq_false_or_eq_true (isIt id y) with hp | hp
      · go_wp2_with (go_at_call 153; refine (findI1_any y id g wr hg').mono ?_; rintro e w1 ⟨rfl, hb1⟩)
        go_ret
        exact ⟨ret_int (fi_at Hx.out hp Hno.out).symm, hb.trans (hb1.mono hsz)⟩
      · go_wp2_with (go_at_call 153; refine (findI1_any y id g wr hg').mono ?_; rintro e w1 ⟨rfl, hb1⟩)
        go_roundw
        case rel => exact ⟨k + 1, hlt, by go_num, hb.trans (hb1.mono hsz), fun i hi z hz => by
          rcases Nat.lt_or_ge i k with h | h
          · exact Hno.out i h z hz
          · obtain rfl : i = k := by omega
            rw [Hx.out] at hz; cases hz; exact hp⟩
        case measure => simp [intOf]; omega
    · have Hno := Lib.hid hno
      clear hno
      go_wp2
      go_ret
      exact ⟨ret_int (fi_neg (fun x hx => by
        obtain ⟨i, hi⟩ := List.mem_iff_getElem?.1 hx
        exact Hno.out i (by have := (List.getElem?_eq_some_iff.1 hi).1; omega) x hi)).symm, hb⟩

set_option maxHeartbeats 400000 in
theorem findF_any (cur id : Int) (l : List It) (n : Nat) (a : Option Addr) (c : Nat) (w : World) (hn : l.length = n) (hl : n ≤ 4611686018427387904) (hs : Sl It.enc 3 w a l) {v : Int} (hv : fi (isIt id) l = v) :
    Calls Tryz.prog 142 #[.agg #[.int .i64 cur, .slice a n c], .int .i64 id] w fun e w' => e = .returned (.int .i64 v) ∧ Below w.heap.size w w' := by
  subst hv hn
  have hs1 := hs.below (((Below.refl _ _).alloc (Nat.le_refl _) (.cells #[.int .i64 cur, .slice a l.length c] 41)).alloc (by simp) (.cells #[.int .i64 id] 3))
  have Hs := Lib.hid hs1
  clear hs hs1
  go_enter Tryz.func142, Tryz.ntmps142
  go_wp2_with (go_at_call 152; refine (indexIt id l a c (w.heap.size + 1) _ hl Hs.out (by simp)).mono ?_; rintro e w1 ⟨rfl, hb1⟩)
  go_ret
  exact ⟨rfl, (((Below.refl _ _).alloc (Nat.le_refl _) _).alloc (by simp) _).trans (hb1.mono (by simp; omega))⟩

/-- What a form must be. -/
def GoodP (f : Fm) : Prop := f.l.length ≤ 64 ∧ (f.cur = -1 ∨ ∃ x ∈ f.l, x.id = f.cur) ∧ (∀ x ∈ f.l, mayB x.id x.w x.lag = true) ∧ (f.l.Pairwise fun a b => a.id < b.id) ∧ (f.l = [] ∨ ∃ x ∈ f.l, 0 ≤ x.lag)
instance (f : Fm) : Decidable (GoodP f) := by unfold GoodP; infer_instance
def goodF (f : Fm) : Bool := decide (GoodP f)

/-- A form's first k items may be. -/
def OkTo (l : List It) (k : Nat) : Prop := (∀ i, i < k → ∀ x, l[i]? = some x → mayB x.id x.w x.lag = true) ∧ ∀ i, i + 1 < k → ∀ x y, l[i]? = some x → l[i + 1]? = some y → x.id < y.id
theorem OkTo.asc {l : List It} (h : OkTo l l.length) : l.Pairwise fun a b => a.id < b.id := by
  have key : ∀ d i x y, l[i]? = some x → l[i + d + 1]? = some y → x.id < y.id := by
    intro d
    induction d with
    | zero => intro i x y hx hy; exact h.2 i (List.getElem?_eq_some_iff.1 hy).1 x y hx hy
    | succ d ih =>
      intro i x y hx hy
      have hlt := (List.getElem?_eq_some_iff.1 hy).1
      obtain ⟨z, hz⟩ : ∃ z, l[i + d + 1]? = some z := ⟨_, List.getElem?_eq_getElem (by omega)⟩
      have h1 := ih i x z hx hz
      have h2 := h.2 (i + d + 1) (by omega) z y hz (by rw [← hy]; congr 1)
      omega
  refine List.pairwise_iff_getElem.2 fun i j hi hj hij => ?_
  exact key (j - i - 1) i l[i] l[j] (List.getElem?_eq_getElem hi) (by rw [show i + (j - i - 1) + 1 = j by omega]; exact List.getElem?_eq_getElem hj)
theorem OkTo.not_asc {l : List It} {k : Nat} {x y : It} (hx : l[k]? = some x) (hy : l[k + 1]? = some y) (hn : ¬ x.id < y.id) : ¬ l.Pairwise fun a b => a.id < b.id := fun h => by
  obtain ⟨h1, rfl⟩ := List.getElem?_eq_some_iff.1 hx
  obtain ⟨h2, rfl⟩ := List.getElem?_eq_some_iff.1 hy
  exact hn (List.pairwise_iff_getElem.1 h k (k + 1) h1 h2 (by omega))
theorem OkTo.may {l : List It} (h : OkTo l l.length) : ∀ x ∈ l, mayB x.id x.w x.lag = true := fun x hx => by
  obtain ⟨i, hi⟩ := List.mem_iff_getElem?.1 hx
  exact h.1 i (List.getElem?_eq_some_iff.1 hi).1 x hi
/-- Of the first k items one has a lag that is not below 0; or there is none at all. -/
def someTo (l : List It) (k : Nat) : Bool := l.isEmpty || (l.take k).any fun x => decide (0 ≤ x.lag)
theorem someTo_succ {l : List It} {k : Nat} {x : It} (hx : l[k]? = some x) : someTo l (k + 1) = (someTo l k || decide (0 ≤ x.lag)) := by
  unfold someTo
  obtain ⟨h, rfl⟩ := List.getElem?_eq_some_iff.1 hx
  rw [List.take_succ_eq_append_getElem h, List.any_append]
  simp [Bool.or_assoc]
theorem someTo_all (l : List It) : someTo l l.length = true ↔ (l = [] ∨ ∃ x ∈ l, 0 ≤ x.lag) := by
  unfold someTo
  rw [List.take_length]
  simp

theorem heap_drew_below {w w' : World} {g : Nat} {x o : Obj} (h : w.heap[g]? = some x) (hb : Below (w.alloc o).drew.heap.size (w.alloc o).drew w') : w'.heap[g]? = some x := heap_below (w := (w.alloc o).drew) (heap_alloc h o) hb
theorem OkTo.one {l : List It} {y : It} (hx : l[0]? = some y) (hm : mayB y.id y.w y.lag = true) : OkTo l 1 :=
  ⟨fun i hi x h => by obtain rfl : i = 0 := by omega
                      rw [hx] at h; cases h; exact hm, fun i hi => absurd hi (by omega)⟩
theorem OkTo.step {l : List It} {j : Nat} {z y : It} (h : OkTo l (j + 1)) (hz : l[j]? = some z) (hx : l[j + 1]? = some y) (hm : mayB y.id y.w y.lag = true) (hlt : z.id < y.id) : OkTo l (j + 1 + 1) := by
  refine ⟨fun i hi x hxi => ?_, fun i hi a b ha hb => ?_⟩
  · rcases Nat.lt_or_ge i (j + 1) with h1 | h1
    · exact h.1 i h1 x hxi
    · obtain rfl : i = j + 1 := by omega
      rw [hx] at hxi; cases hxi; exact hm
  · rcases Nat.lt_or_ge (i + 1) (j + 1) with h1 | h1
    · exact h.2 i h1 a b ha hb
    · obtain rfl : i = j := by omega
      rw [hz] at ha; cases ha
      rw [hx] at hb; cases hb
      exact hlt
theorem good_of {cur : Int} {l : List It} (h : OkTo l l.length) (hl : l.length ≤ 64) (hc : cur = -1 ∨ ∃ x ∈ l, x.id = cur) : goodF ⟨cur, l⟩ = someTo l l.length := by
  unfold goodF
  cases hs : someTo l l.length with
  | true => exact decide_eq_true ⟨hl, hc, h.may, h.asc, (someTo_all l).1 hs⟩
  | false => exact decide_eq_false fun hg => by rw [(someTo_all l).2 hg.2.2.2.2] at hs; cases hs

set_option maxHeartbeats 3200000 in
set_option maxRecDepth 100000 in
theorem GoodF_any (cur : Int) (l : List It) (n : Nat) (a : Option Addr) (c : Nat) (w : World) (hn : l.length = n) (hl : n ≤ 4611686018427387904) (hs : Sl It.enc 3 w a l) {v : Bool} (hv : goodF ⟨cur, l⟩ = v) :
    Calls Tryz.prog 133 #[.agg #[.int .i64 cur, .slice a n c]] w fun e w' => e = .returned (.bool v) ∧ Below w.heap.size w w' := by
  have HS := Lib.hid hs
  have Hs := Lib.hid (hs.below ((Below.refl _ _).alloc (Nat.le_refl _) (.cells #[.int .i64 cur, .slice a n c] 41)))
  have Hn := Lib.hid hn
  by_cases h64 : (64 : Int) < n
  · have hg : goodF ⟨cur, l⟩ = false := decide_eq_false fun h => by have := h.1; simp only at this; omega
    rw [hg] at hv; subst hv
    clear hs hg hn
    go_enter Tryz.func133, Tryz.ntmps133
    go_wp2_with fail
    go_ret
    exact ⟨rfl, (Below.refl _ _).alloc (Nat.le_refl _) _⟩
  · have hcurs : (cur = -1 ∨ ∃ x ∈ l, x.id = cur) ∨ (cur ≠ -1 ∧ fi (isIt cur) l = -1) := by
      by_cases hc : cur = -1
      · exact .inl (.inl hc)
      · rcases fi_cases (isIt cur) l with ⟨h1, h2⟩ | ⟨j, x, h1, h2, h3, h4, _⟩
        · exact .inr ⟨hc, h1⟩
        · exact .inl (.inr ⟨x, List.mem_of_getElem? h3, by simpa [isIt] using h4⟩)
    rcases hcurs with hcur | ⟨hc, hfi⟩
    case inr =>
      have hg : goodF ⟨cur, l⟩ = false := by
        refine decide_eq_false fun h => ?_
        rcases h.2.1 with h | ⟨x, hx, h⟩
        · exact absurd h hc
        · rcases fi_cases (isIt cur) l with ⟨h1, h2⟩ | ⟨j, x, h1, _⟩
          · have := h2 x hx; simp [isIt, h] at this
          · omega
      rw [hg] at hv; subst hv
      have Hf := Lib.hid (findF_any cur cur l n a c _ hn hl Hs.out hfi)
      have hc' : (cur != -1) = true := by simpa using hc
      have hc2 : (cur == -1) = false := by simpa using hc
      clear hs hg hn hc hfi
      go_enter Tryz.func133, Tryz.ntmps133
      go_wp2_with (go_at_call 142; refine (Hf.out).mono ?_; rintro e w1 ⟨rfl, hb1⟩)
      go_ret
      exact ⟨rfl, ((Below.refl _ _).alloc (Nat.le_refl _) _).trans (hb1.mono (by simp))⟩
    case inl =>
      have Hcur := Lib.hid hcur
      have Hv := Lib.hid hv
      have hsm0 : ((n : Int) == 0) = someTo l 0 := by
        unfold someTo; simp
        rw [Bool.eq_iff_iff]; simp; rw [← hn]; simp
      obtain ⟨jc, hjc, hjc0⟩ : ∃ jc : Int, fi (isIt cur) l = jc ∧ (cur ≠ -1 → 0 ≤ jc) := by
        refine ⟨_, rfl, fun hne => ?_⟩
        rcases fi_cases (isIt cur) l with ⟨h1, h2⟩ | ⟨j, x, h1, _⟩
        · rcases hcur with h | ⟨x, hx, h⟩
          · exact absurd h hne
          · have := h2 x hx; simp [isIt, h] at this
        · omega
      have Hf := Lib.hid (findF_any cur cur l n a c _ hn hl Hs.out hjc)
      have Hsm := Lib.hid hsm0
      have hj2 : cur ≠ -1 → ¬ jc < 0 := fun h => by have := hjc0 h; omega
      have H2 := Lib.hid hj2
      clear hs hn hcur hjc hjc0 hsm0 hv hj2
      by_cases hc : cur = -1
      · subst hc
        clear H2
        go_enter Tryz.func133, Tryz.ntmps133
        go_wp2_with fail
        go_loopw [3, 29] (fun s i wr => ∃ k : Nat, k ≤ n ∧ s = .bool (someTo l k) ∧ i = .int .i64 k ∧ Below w.heap.size w wr ∧ wr.heap[w.heap.size]? = some (.cells #[.int .i64 (-1), .slice a n c] 41 (0, 0)) ∧ OkTo l k) (fun s i _ => n - (intOf i).toNat)
        case atStart => exact ⟨0, Nat.zero_le _, by rw [Hsm.out], rfl, (Below.refl _ _).alloc (Nat.le_refl _) _, heap_new _ _, fun i hi => absurd hi (Nat.not_lt_zero _), fun i hi => absurd hi (Nat.not_lt_zero _)⟩
        case round =>
          obtain ⟨k, hk, rfl, rfl, hb, hG, hok⟩ := hrel
          obtain ⟨g0, g1, y0, y1, gsz⟩ := blk2 hG
          have hsz := hb.size
          by_cases hlt : k < n
          · obtain ⟨r, off, rfl, hr, hcc⟩ := HS.out (by intro h; have h1 := Hn.out; rw [h] at h1; simp at h1; omega)
            obtain ⟨y, hx⟩ : ∃ y, l[k]? = some y := ⟨_, List.getElem?_eq_getElem (by rw [Hn.out]; exact hlt)⟩
            have e0 := (hb.cell (p := ⟨r, off + k * 3 + 0, none⟩) hr).trans (hcc k y hx 0 _ rfl)
            have e1 := (hb.cell (p := ⟨r, off + k * 3 + 1, none⟩) hr).trans (hcc k y hx 1 _ rfl)
            have e2 := (hb.cell (p := ⟨r, off + k * 3 + 2, none⟩) hr).trans (hcc k y hx 2 _ rfl)
            simp only [Nat.add_zero] at e0
            have Hx := Lib.hid hx
            have Hok := Lib.hid hok
            have HG := Lib.hid hG
            have hne1 : w.heap.size ≠ wr.heap.size := by omega
            have hlr : r < wr.heap.size := by omega
            have hne2 : r ≠ wr.heap.size := by omega
            cases hm : mayB y.id y.w y.lag with
            | false =>
              have Hm := Lib.hid hm
              clear hm hx hok hG hcc
              go_wp2_with fail
              refine wp_region_chain 61 [0, 1, 3, 7, 15, 31, 63, 127, 255, 127, 639, 127, 2175, 7807, 15999, 32383, 65535, 131071, 262143] [(0, none), (1, some []), (2, none), (3, none), (4, none), (5, none), (6, none), (7, none), (8, none), (9, none), (10, none), (11, none), (12, none), (13, none), (14, none), (15, none), (16, none), (17, none), (18, none)] (by kernel_rfl) (by kernel_rfl) (by rfl) ?_; simp only [chain, Obs, List.getElem?_toArray, List.getElem?_cons_zero, List.getElem?_cons_succ]
              go_wp2_with (first
                | (with_reducible refine And.intro (by first | with_reducible exact True.intro | with_reducible rfl | go_simp) ?_)
                | (go_at_call 148; refine (may_any _ _ _ _ Hm.out).mono ?_; rintro e w2 ⟨rfl, hb2⟩; obtain ⟨hc2, hf2⟩ := bcell hb2))
              refine NoPanic.normal ?_
              go_wp2_with fail
              go_ret
              have hg : goodF ⟨-1, l⟩ = false := decide_eq_false fun h => by have := h.2.2.1 y (List.mem_of_getElem? Hx.out); rw [Hm.out] at this; cases this
              refine ⟨ret_bool ?_, hb.trans (((Below.refl _ wr).alloc (Nat.le_refl _) _).drew.trans (hb2.mono (by simp))|>.mono hsz)⟩
              rw [← Hv.out, hg]
            | true =>
              have Hm := Lib.hid hm
              rcases Nat.eq_zero_or_pos k with rfl | hk0
              · have hn0 : (0 : Int) < n := by omega
                simp only [Nat.zero_mul, Nat.add_zero] at e0 e1 e2
                clear hm hx hok hG hcc
                go_wp2_with fail
                refine wp_region_chain 61 [0, 1, 3, 7, 15, 31, 63, 127, 255, 127, 639, 127, 2175, 7807, 15999, 32383, 65535, 131071, 262143] [(0, none), (1, some []), (2, none), (3, none), (4, none), (5, none), (6, none), (7, none), (8, none), (9, none), (10, none), (11, none), (12, none), (13, none), (14, none), (15, none), (16, none), (17, none), (18, none)] (by kernel_rfl) (by kernel_rfl) (by rfl) ?_; simp only [chain, Obs, List.getElem?_toArray, List.getElem?_cons_zero, List.getElem?_cons_succ]
                go_wp2_with (first
                  | (with_reducible refine And.intro (by first | with_reducible exact True.intro | with_reducible rfl | go_simp) ?_)
                  | (go_at_call 148; refine (may_any _ _ _ _ Hm.out).mono ?_; rintro e w2 ⟨rfl, hb2⟩; obtain ⟨hc2, hf2⟩ := bcell hb2))
                refine NoPanic.normal ?_
                go_wp2_with fail
                all_goals
                  refine ⟨⟨1, by omega, ?_, by go_num, hb.trans (((Below.refl _ wr).alloc (Nat.le_refl _) _).drew.trans (hb2.mono (by simp))|>.mono hsz), heap_drew_below HG.out hb2, OkTo.one Hx.out Hm.out⟩, by simp [intOf]; omega⟩
                  rw [someTo_succ Hx.out]
                  first
                    | (have hs : someTo l 0 = true := by assumption
                       rw [hs]; rfl)
                    | (have hs : ¬ someTo l 0 = true := by assumption
                       rw [Bool.not_eq_true] at hs
                       rw [hs]; rfl)
              · obtain ⟨j, rfl⟩ : ∃ j, k = j + 1 := ⟨k - 1, by omega⟩
                obtain ⟨z, hz⟩ : ∃ z, l[j]? = some z := ⟨_, List.getElem?_eq_getElem (by rw [Hn.out]; omega)⟩
                have d0 := (hb.cell (p := ⟨r, off + j * 3 + 0, none⟩) hr).trans (hcc j z hz 0 _ rfl)
                simp only [Nat.add_zero] at d0
                have Hz := Lib.hid hz
                clear hm hx hok hG hcc hz
                by_cases hzy : y.id ≤ z.id
                · go_wp2_with fail
                  refine wp_region_chain 61 [0, 1, 3, 7, 15, 31, 63, 127, 255, 127, 639, 127, 2175, 7807, 15999, 32383, 65535, 131071, 262143] [(0, none), (1, some []), (2, none), (3, none), (4, none), (5, none), (6, none), (7, none), (8, none), (9, none), (10, none), (11, none), (12, none), (13, none), (14, none), (15, none), (16, none), (17, none), (18, none)] (by kernel_rfl) (by kernel_rfl) (by rfl) ?_; simp only [chain, Obs, List.getElem?_toArray, List.getElem?_cons_zero, List.getElem?_cons_succ]
                  go_wp2_with (first
                    | (with_reducible refine And.intro (by first | with_reducible exact True.intro | with_reducible rfl | go_simp) ?_)
                    | (go_at_call 148; refine (may_any _ _ _ _ Hm.out).mono ?_; rintro e w2 ⟨rfl, hb2⟩; obtain ⟨hc2, hf2⟩ := bcell hb2))
                  refine NoPanic.normal ?_
                  go_wp2_with fail
                  go_ret
                  have hg : goodF ⟨-1, l⟩ = false := decide_eq_false fun h => OkTo.not_asc Hz.out Hx.out (by omega) h.2.2.2.1
                  refine ⟨ret_bool ?_, hb.trans (((Below.refl _ wr).alloc (Nat.le_refl _) _).drew.trans (hb2.mono (by simp))|>.mono hsz)⟩
                  rw [← Hv.out, hg]
                · go_wp2_with fail
                  refine wp_region_chain 61 [0, 1, 3, 7, 15, 31, 63, 127, 255, 127, 639, 127, 2175, 7807, 15999, 32383, 65535, 131071, 262143] [(0, none), (1, some []), (2, none), (3, none), (4, none), (5, none), (6, none), (7, none), (8, none), (9, none), (10, none), (11, none), (12, none), (13, none), (14, none), (15, none), (16, none), (17, none), (18, none)] (by kernel_rfl) (by kernel_rfl) (by rfl) ?_; simp only [chain, Obs, List.getElem?_toArray, List.getElem?_cons_zero, List.getElem?_cons_succ]
                  go_wp2_with (first
                    | (with_reducible refine And.intro (by first | with_reducible exact True.intro | with_reducible rfl | go_simp) ?_)
                    | (go_at_call 148; refine (may_any _ _ _ _ Hm.out).mono ?_; rintro e w2 ⟨rfl, hb2⟩; obtain ⟨hc2, hf2⟩ := bcell hb2))
                  refine NoPanic.normal ?_
                  go_wp2_with fail
                  all_goals
                    refine ⟨⟨j + 1 + 1, by omega, ?_, by go_num, hb.trans (((Below.refl _ wr).alloc (Nat.le_refl _) _).drew.trans (hb2.mono (by simp))|>.mono hsz), heap_drew_below HG.out hb2, Hok.out.step Hz.out Hx.out Hm.out (by omega)⟩, by simp [intOf]; omega⟩
                    rw [someTo_succ Hx.out]
                    first
                      | (have hs : someTo l (j + 1) = true := by assumption
                         rw [hs]; rfl)
                      | (have hs : ¬ someTo l (j + 1) = true := by assumption
                         rw [Bool.not_eq_true] at hs
                         rw [hs]; rfl)
          · obtain rfl : k = n := by omega
            have Hok := Lib.hid hok
            clear hok hG
            go_wp2_with fail
            go_ret
            refine ⟨ret_bool ?_, hb⟩
            rw [← Hv.out, good_of (by rw [Hn.out]; exact Hok.out) (by rw [Hn.out]; omega) (.inl rfl), Hn.out]
      · have hc' : (cur != -1) = true := by simpa using hc
        have hc2 : (cur == -1) = false := by simpa using hc
        have hj := H2.out hc
        clear hc
        go_enter Tryz.func133, Tryz.ntmps133
        go_wp2_with (go_at_call 142; refine (Hf.out).mono ?_; rintro e w1 ⟨rfl, hb1⟩; obtain ⟨g0, g1, _, _, _⟩ := blk2 (heap_below (heap_new w (.cells #[.int .i64 cur, .slice a n c] 41)) hb1))
        go_loopw [3, 29] (fun s i wr => ∃ k : Nat, k ≤ n ∧ s = .bool (someTo l k) ∧ i = .int .i64 k ∧ Below w.heap.size w wr ∧ wr.heap[w.heap.size]? = some (.cells #[.int .i64 cur, .slice a n c] 41 (0, 0)) ∧ OkTo l k) (fun s i _ => n - (intOf i).toNat)
        case atStart => exact ⟨0, Nat.zero_le _, by rw [Hsm.out], rfl, ((Below.refl _ _).alloc (Nat.le_refl _) _).trans (hb1.mono (by simp)), heap_below (heap_new w _) hb1, fun i hi => absurd hi (Nat.not_lt_zero _), fun i hi => absurd hi (Nat.not_lt_zero _)⟩
        case round =>
          obtain ⟨k, hk, rfl, rfl, hb, hG, hok⟩ := hrel
          obtain ⟨g0, g1, y0, y1, gsz⟩ := blk2 hG
          have hsz := hb.size
          by_cases hlt : k < n
          · obtain ⟨r, off, rfl, hr, hcc⟩ := HS.out (by intro h; have h1 := Hn.out; rw [h] at h1; simp at h1; omega)
            obtain ⟨y, hx⟩ : ∃ y, l[k]? = some y := ⟨_, List.getElem?_eq_getElem (by rw [Hn.out]; exact hlt)⟩
            have e0 := (hb.cell (p := ⟨r, off + k * 3 + 0, none⟩) hr).trans (hcc k y hx 0 _ rfl)
            have e1 := (hb.cell (p := ⟨r, off + k * 3 + 1, none⟩) hr).trans (hcc k y hx 1 _ rfl)
            have e2 := (hb.cell (p := ⟨r, off + k * 3 + 2, none⟩) hr).trans (hcc k y hx 2 _ rfl)
            simp only [Nat.add_zero] at e0
            have Hx := Lib.hid hx
            have Hok := Lib.hid hok
            have HG := Lib.hid hG
            have hne1 : w.heap.size ≠ wr.heap.size := by omega
            have hlr : r < wr.heap.size := by omega
            have hne2 : r ≠ wr.heap.size := by omega
            cases hm : mayB y.id y.w y.lag with
            | false =>
              have Hm := Lib.hid hm
              clear hm hx hok hG hcc
              go_wp2_with fail
              refine wp_region_chain 61 [0, 1, 3, 7, 15, 31, 63, 127, 255, 127, 639, 127, 2175, 7807, 15999, 32383, 65535, 131071, 262143] [(0, none), (1, some []), (2, none), (3, none), (4, none), (5, none), (6, none), (7, none), (8, none), (9, none), (10, none), (11, none), (12, none), (13, none), (14, none), (15, none), (16, none), (17, none), (18, none)] (by kernel_rfl) (by kernel_rfl) (by rfl) ?_; simp only [chain, Obs, List.getElem?_toArray, List.getElem?_cons_zero, List.getElem?_cons_succ]
              go_wp2_with (first
                | (with_reducible refine And.intro (by first | with_reducible exact True.intro | with_reducible rfl | go_simp) ?_)
                | (go_at_call 148; refine (may_any _ _ _ _ Hm.out).mono ?_; rintro e w2 ⟨rfl, hb2⟩; obtain ⟨hc2, hf2⟩ := bcell hb2))
              refine NoPanic.normal ?_
              go_wp2_with fail
              go_ret
              have hg : goodF ⟨cur, l⟩ = false := decide_eq_false fun h => by have := h.2.2.1 y (List.mem_of_getElem? Hx.out); rw [Hm.out] at this; cases this
              refine ⟨ret_bool ?_, hb.trans (((Below.refl _ wr).alloc (Nat.le_refl _) _).drew.trans (hb2.mono (by simp))|>.mono hsz)⟩
              rw [← Hv.out, hg]
            | true =>
              have Hm := Lib.hid hm
              rcases Nat.eq_zero_or_pos k with rfl | hk0
              · have hn0 : (0 : Int) < n := by omega
                simp only [Nat.zero_mul, Nat.add_zero] at e0 e1 e2
                clear hm hx hok hG hcc
                go_wp2_with fail
                refine wp_region_chain 61 [0, 1, 3, 7, 15, 31, 63, 127, 255, 127, 639, 127, 2175, 7807, 15999, 32383, 65535, 131071, 262143] [(0, none), (1, some []), (2, none), (3, none), (4, none), (5, none), (6, none), (7, none), (8, none), (9, none), (10, none), (11, none), (12, none), (13, none), (14, none), (15, none), (16, none), (17, none), (18, none)] (by kernel_rfl) (by kernel_rfl) (by rfl) ?_; simp only [chain, Obs, List.getElem?_toArray, List.getElem?_cons_zero, List.getElem?_cons_succ]
                go_wp2_with (first
                  | (with_reducible refine And.intro (by first | with_reducible exact True.intro | with_reducible rfl | go_simp) ?_)
                  | (go_at_call 148; refine (may_any _ _ _ _ Hm.out).mono ?_; rintro e w2 ⟨rfl, hb2⟩; obtain ⟨hc2, hf2⟩ := bcell hb2))
                refine NoPanic.normal ?_
                go_wp2_with fail
                all_goals
                  refine ⟨⟨1, by omega, ?_, by go_num, hb.trans (((Below.refl _ wr).alloc (Nat.le_refl _) _).drew.trans (hb2.mono (by simp))|>.mono hsz), heap_drew_below HG.out hb2, OkTo.one Hx.out Hm.out⟩, by simp [intOf]; omega⟩
                  rw [someTo_succ Hx.out]
                  first
                    | (have hs : someTo l 0 = true := by assumption
                       rw [hs]; rfl)
                    | (have hs : ¬ someTo l 0 = true := by assumption
                       rw [Bool.not_eq_true] at hs
                       rw [hs]; rfl)
              · obtain ⟨j, rfl⟩ : ∃ j, k = j + 1 := ⟨k - 1, by omega⟩
                obtain ⟨z, hz⟩ : ∃ z, l[j]? = some z := ⟨_, List.getElem?_eq_getElem (by rw [Hn.out]; omega)⟩
                have d0 := (hb.cell (p := ⟨r, off + j * 3 + 0, none⟩) hr).trans (hcc j z hz 0 _ rfl)
                simp only [Nat.add_zero] at d0
                have Hz := Lib.hid hz
                clear hm hx hok hG hcc hz
                by_cases hzy : y.id ≤ z.id
                · go_wp2_with fail
                  refine wp_region_chain 61 [0, 1, 3, 7, 15, 31, 63, 127, 255, 127, 639, 127, 2175, 7807, 15999, 32383, 65535, 131071, 262143] [(0, none), (1, some []), (2, none), (3, none), (4, none), (5, none), (6, none), (7, none), (8, none), (9, none), (10, none), (11, none), (12, none), (13, none), (14, none), (15, none), (16, none), (17, none), (18, none)] (by kernel_rfl) (by kernel_rfl) (by rfl) ?_; simp only [chain, Obs, List.getElem?_toArray, List.getElem?_cons_zero, List.getElem?_cons_succ]
                  go_wp2_with (first
                    | (with_reducible refine And.intro (by first | with_reducible exact True.intro | with_reducible rfl | go_simp) ?_)
                    | (go_at_call 148; refine (may_any _ _ _ _ Hm.out).mono ?_; rintro e w2 ⟨rfl, hb2⟩; obtain ⟨hc2, hf2⟩ := bcell hb2))
                  refine NoPanic.normal ?_
                  go_wp2_with fail
                  go_ret
                  have hg : goodF ⟨cur, l⟩ = false := decide_eq_false fun h => OkTo.not_asc Hz.out Hx.out (by omega) h.2.2.2.1
                  refine ⟨ret_bool ?_, hb.trans (((Below.refl _ wr).alloc (Nat.le_refl _) _).drew.trans (hb2.mono (by simp))|>.mono hsz)⟩
                  rw [← Hv.out, hg]
                · go_wp2_with fail
                  refine wp_region_chain 61 [0, 1, 3, 7, 15, 31, 63, 127, 255, 127, 639, 127, 2175, 7807, 15999, 32383, 65535, 131071, 262143] [(0, none), (1, some []), (2, none), (3, none), (4, none), (5, none), (6, none), (7, none), (8, none), (9, none), (10, none), (11, none), (12, none), (13, none), (14, none), (15, none), (16, none), (17, none), (18, none)] (by kernel_rfl) (by kernel_rfl) (by rfl) ?_; simp only [chain, Obs, List.getElem?_toArray, List.getElem?_cons_zero, List.getElem?_cons_succ]
                  go_wp2_with (first
                    | (with_reducible refine And.intro (by first | with_reducible exact True.intro | with_reducible rfl | go_simp) ?_)
                    | (go_at_call 148; refine (may_any _ _ _ _ Hm.out).mono ?_; rintro e w2 ⟨rfl, hb2⟩; obtain ⟨hc2, hf2⟩ := bcell hb2))
                  refine NoPanic.normal ?_
                  go_wp2_with fail
                  all_goals
                    refine ⟨⟨j + 1 + 1, by omega, ?_, by go_num, hb.trans (((Below.refl _ wr).alloc (Nat.le_refl _) _).drew.trans (hb2.mono (by simp))|>.mono hsz), heap_drew_below HG.out hb2, Hok.out.step Hz.out Hx.out Hm.out (by omega)⟩, by simp [intOf]; omega⟩
                    rw [someTo_succ Hx.out]
                    first
                      | (have hs : someTo l (j + 1) = true := by assumption
                         rw [hs]; rfl)
                      | (have hs : ¬ someTo l (j + 1) = true := by assumption
                         rw [Bool.not_eq_true] at hs
                         rw [hs]; rfl)
          · obtain rfl : k = n := by omega
            have Hok := Lib.hid hok
            clear hok hG
            go_wp2_with fail
            go_ret
            refine ⟨ret_bool ?_, hb⟩
            rw [← Hv.out, good_of (by rw [Hn.out]; exact Hok.out) (by rw [Hn.out]; omega) Hcur.out, Hn.out]
end Go.Proofs.YtlgkkolgdjgclaaGreat
