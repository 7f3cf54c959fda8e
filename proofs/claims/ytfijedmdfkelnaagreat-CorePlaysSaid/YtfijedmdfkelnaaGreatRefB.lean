/- The document's own queue: grow. -/
import Derived.Test.YtfijedmdfkelnaaGreatRefA
import Derived.Test.YtfijedmdfkelnaaGreatR
namespace Go.Proofs.YtfijedmdfkelnaaGreat
open Go.RowKit
set_option linter.unusedVariables false
set_option linter.unusedSimpArgs false

/-- Point j is the least of the first m. -/
def leastTo (l : List Pt) (v : Int) (m : Nat) : Bool := (l.take m).all fun y => decide (v ≤ y.v)
theorem leastTo_succ {l : List Pt} {m : Nat} {y : Pt} (v : Int) (hy : l[m]? = some y) : leastTo l v (m + 1) = (leastTo l v m && decide (v ≤ y.v)) := by
  unfold leastTo
  obtain ⟨h, rfl⟩ := List.getElem?_eq_some_iff.1 hy
  rw [List.take_succ_eq_append_getElem h, List.all_append]
  simp
theorem leastTo_all {l : List Pt} {v : Int} : leastTo l v l.length = true ↔ ∀ y ∈ l, v ≤ y.v := by
  unfold leastTo
  rw [List.take_length]
  simp
theorem growB_least {l : List Pt} {base : Int} {j : Nat} {x : Pt} (hx : l[j]? = some x) (h : ∀ y ∈ l, x.v ≤ y.v) : growB base l = max base x.v := by
  unfold growB
  have hm := List.mem_of_getElem? hx
  cases hz : least l with
  | none => rw [least_none.1 hz] at hm; cases hm
  | some z =>
    have h1 := least_le hz x hm
    have h2 := h z (least_mem hz)
    simp only; omega
/-- What the base is behind k rounds. -/
def GrowTo (l : List Pt) (base : Int) (k : Nat) (B : Int) : Prop := (B = base ∨ B = growB base l) ∧ ∀ j, j < k → ∀ x, l[j]? = some x → (∀ y ∈ l, x.v ≤ y.v) → B = growB base l
theorem GrowTo.zero (l : List Pt) (base : Int) : GrowTo l base 0 base := ⟨.inl rfl, fun j hj => absurd hj (Nat.not_lt_zero _)⟩
theorem GrowTo.ge {l : List Pt} {base B : Int} {k : Nat} (h : GrowTo l base k B) : base ≤ B := by
  rcases h.1 with h | h
  · omega
  · rw [h]; exact growB_ge _ _
theorem GrowTo.skip {l : List Pt} {base B : Int} {k : Nat} {x : Pt} (h : GrowTo l base k B) (hx : l[k]? = some x) (hn : leastTo l x.v l.length = false) : GrowTo l base (k + 1) B :=
  ⟨h.1, fun j hj y hy hl => by
    rcases Nat.lt_or_ge j k with h1 | h1
    · exact h.2 j h1 y hy hl
    · obtain rfl : j = k := by omega
      rw [hx] at hy; cases hy
      rw [leastTo_all.2 hl] at hn; cases hn⟩
theorem GrowTo.low {l : List Pt} {base B : Int} {k : Nat} {x : Pt} (h : GrowTo l base k B) (hx : l[k]? = some x) (hn : leastTo l x.v l.length = true) (hv : x.v ≤ B) : GrowTo l base (k + 1) B := by
  have e := growB_least (base := base) hx (leastTo_all.1 hn)
  have hB : B = growB base l := by
    rcases h.1 with h1 | h1
    · rw [e, h1]; omega
    · exact h1
  exact ⟨.inr hB, fun _ _ _ _ _ => hB⟩
theorem GrowTo.up {l : List Pt} {base B : Int} {k : Nat} {x : Pt} (h : GrowTo l base k B) (hx : l[k]? = some x) (hn : leastTo l x.v l.length = true) (hv : B < x.v) : GrowTo l base (k + 1) x.v := by
  have e := growB_least (base := base) hx (leastTo_all.1 hn)
  have hg := h.ge
  have hB : x.v = growB base l := by rw [e]; omega
  exact ⟨.inr hB, fun _ _ _ _ _ => hB⟩
theorem GrowTo.all {l : List Pt} {base B : Int} (h : GrowTo l base l.length B) : B = growB base l := by
  cases hz : least l with
  | none =>
    have e : growB base l = base := by unfold growB; rw [hz]
    rcases h.1 with h1 | h1
    · rw [e, h1]
    · exact h1
  | some z =>
    obtain ⟨j, hj⟩ := List.mem_iff_getElem?.1 (least_mem hz)
    exact h.2 j (List.getElem?_eq_some_iff.1 hj).1 z hj (least_le hz)

set_option maxHeartbeats 3200000 in
set_option maxRecDepth 100000 in
theorem rgrow_any {w : World} {b c : Nat} {a : Option Addr} {tag : Int} {S : Ln} (h : RAt w b a c tag S) (hl : S.l.length ≤ 64) :
    Calls Tryz.prog 49 #[.pointer (some ⟨b, 0, none⟩)] w fun e w' => e = .returned (.tuple #[]) ∧ RAt w' b a c tag ⟨growB S.base S.l, S.cur, S.l⟩ ∧ Fr (fun k => k = b) w w' := by
  obtain ⟨base, cur, l⟩ := S
  simp only at hl ⊢
  have H0 := Lib.hid h
  obtain ⟨c0, c1, c2, c3, f0, f1, f2, f3, hlt⟩ := blk4 h.blk
  simp only at c1 c2 c3
  clear h
  go_enter Tryz.func49, Tryz.ntmps49
  go_wp2_with fail
  go_loopw [2] (fun ix wr => ∃ (k : Nat) (B : Int), k ≤ l.length ∧ ix = .int .i64 k ∧ RAt wr b a c tag ⟨B, cur, l⟩ ∧ Fr (fun k => k = b) w wr ∧ GrowTo l base k B) (fun ix _ => l.length - (intOf ix).toNat)
  case atStart => exact ⟨0, base, Nat.zero_le _, rfl, H0.out, Fr.refl _ _, GrowTo.zero _ _⟩
  case round =>
    obtain ⟨k, B, hk, rfl, hr, hf, hg⟩ := hrel
    clear c0 c1 c2 c3 f0 f1 f2 f3
    obtain ⟨c0, c1, c2, c3, f0, f1, f2, f3, hlt⟩ := blk4 hr.blk
    simp only at c1 c2 c3
    have HR := Lib.hid hr
    have HF := Lib.hid hf
    have HG := Lib.hid hg
    clear hf hg
    by_cases hlk : k < l.length
    · obtain ⟨x, hx⟩ : ∃ x, l[k]? = some x := ⟨_, List.getElem?_eq_getElem hlk⟩
      obtain ⟨r, rfl, _, _, hv, _, _, _, _, _, hrb, hrl⟩ := hr.elem k x hx
      have Hx := Lib.hid hx
      have hki : (k : Int) < l.length := by omega
      clear hx hr
      go_wp2_with fail
      go_loopw [3, 4] (fun bx mx wi => ∃ m : Nat, m ≤ l.length ∧ mx = .int .i64 m ∧ bx = .bool (leastTo l x.v m) ∧ Below wr.heap.size wr wi) (fun _ mx _ => l.length - (intOf mx).toNat)
      case atStart => exact ⟨0, Nat.zero_le _, rfl, by simp [leastTo], Below.refl _ _⟩
      case round =>
        obtain ⟨m, hm, rfl, rfl, hb⟩ := hrel
        obtain ⟨hc, hfz⟩ := bcell hb
        have Hb := Lib.hid hb
        clear hb
        cases ht : leastTo l x.v m with
        | false =>
          have Ht := Lib.hid ht
          clear ht
          by_cases hlm : m < l.length
          · obtain ⟨y, hy⟩ : ∃ y, l[m]? = some y := ⟨_, List.getElem?_eq_getElem hlm⟩
            have hts := leastTo_succ x.v hy
            rw [Ht.out, Bool.false_and] at hts
            have Hts := Lib.hid hts
            have hmi : (m : Int) < l.length := by omega
            clear hts hy
            go_wp2_with fail
            refine wp_region_chain 70 [0, 1, 3, 7, 15, 31, 3, 127, 255, 511, 3, 1027, 3075, 7171, 3, 31747, 64515, 130051, 262143, 524287, 1048575] [(0, none), (1, none), (2, none), (3, none), (4, none), (5, none), (6, none), (7, none), (8, none), (9, none), (10, none), (11, none), (12, none), (13, none), (14, none), (15, none), (16, none), (17, none), (18, none), (19, none), (20, none)] (by kernel_rfl) (by kernel_rfl) (by rfl) ?_; simp only [chain, Obs, List.getElem?_toArray, List.getElem?_cons_zero, List.getElem?_cons_succ]
            go_wp2_with (first
              | (with_reducible refine And.intro (by first | with_reducible exact True.intro | with_reducible rfl | go_simp) ?_))
            refine NoPanic.normal ?_
            go_wp2_with fail
            go_roundw
            case rel => exact ⟨m + 1, hlm, by go_num, by rw [Hts.out], Hb.out.drew⟩
            case measure => simp [intOf]; omega
          · obtain rfl : m = l.length := by omega
            go_wp2_with fail
            refine wp_region_chain 70 [0, 1, 3, 7, 15, 31, 3, 127, 255, 511, 3, 1027, 3075, 7171, 16383, 32767] [(0, none), (1, none), (2, none), (3, none), (4, none), (5, none), (6, none), (7, none), (8, none), (9, none), (10, none), (11, none), (12, none), (13, none), (14, none), (15, none)] (by kernel_rfl) (by kernel_rfl) (by rfl) ?_; simp only [chain, Obs, List.getElem?_toArray, List.getElem?_cons_zero, List.getElem?_cons_succ]
            go_wp2_with (first
              | (with_reducible refine And.intro (by first | with_reducible exact True.intro | with_reducible rfl | go_simp) ?_))
            refine NoPanic.normal ?_
            go_wp2_with fail
            go_roundw
            case rel => exact ⟨k + 1, B, hlk, by go_num, (HR.out.below Hb.out).drew, (HF.out.trans (Fr.of_below Hb.out) (fun _ _ h => h)).drew, HG.out.skip Hx.out Ht.out⟩
            case measure => simp [intOf]; omega
        | true =>
          have Ht := Lib.hid ht
          clear ht
          by_cases hlm : m < l.length
          · obtain ⟨y, hy⟩ : ∃ y, l[m]? = some y := ⟨_, List.getElem?_eq_getElem hlm⟩
            have hts := leastTo_succ x.v hy
            rw [Ht.out, Bool.true_and] at hts
            have Hts := Lib.hid hts
            obtain ⟨r', hr', _, _, hvy, _⟩ := HR.out.elem m y hy
            cases hr'
            have hmi : (m : Int) < l.length := by omega
            clear hts hy
            by_cases hle : x.v ≤ y.v
            all_goals
              go_wp2_with fail
              refine wp_region_chain 70 [0, 1, 3, 7, 15, 31, 3, 127, 255, 511, 3, 1027, 3075, 7171, 3, 31747, 64515, 130051, 262143, 524287, 1048575] [(0, none), (1, none), (2, none), (3, none), (4, none), (5, none), (6, none), (7, none), (8, none), (9, none), (10, none), (11, none), (12, none), (13, none), (14, none), (15, none), (16, none), (17, none), (18, none), (19, none), (20, none)] (by kernel_rfl) (by kernel_rfl) (by rfl) ?_; simp only [chain, Obs, List.getElem?_toArray, List.getElem?_cons_zero, List.getElem?_cons_succ]
              go_wp2_with (first
                | (with_reducible refine And.intro (by first | with_reducible exact True.intro | with_reducible rfl | go_simp) ?_))
              refine NoPanic.normal ?_
              go_wp2_with fail
              go_roundw
              case measure => simp [intOf]; omega
            · exact ⟨m + 1, hlm, by go_num, by rw [Hts.out, decide_eq_true hle], Hb.out.drew⟩
            · exact ⟨m + 1, hlm, by go_num, by rw [Hts.out, decide_eq_false (by omega)], Hb.out.drew⟩
          · obtain rfl : m = l.length := by omega
            by_cases hle : B < x.v
            all_goals
              go_wp2_with fail
              refine wp_region_chain 70 [0, 1, 3, 7, 15, 31, 3, 127, 255, 511, 3, 1027, 3075, 7171, 16383, 32767] [(0, none), (1, none), (2, none), (3, none), (4, none), (5, none), (6, none), (7, none), (8, none), (9, none), (10, none), (11, none), (12, none), (13, none), (14, none), (15, none)] (by kernel_rfl) (by kernel_rfl) (by rfl) ?_; simp only [chain, Obs, List.getElem?_toArray, List.getElem?_cons_zero, List.getElem?_cons_succ]
              go_wp2_with (first
                | (with_reducible refine And.intro (by first | with_reducible exact True.intro | with_reducible rfl | go_simp) ?_))
              refine NoPanic.normal ?_
              go_wp2_with fail
              go_roundw
              case measure => simp [intOf]; omega
            · exact ⟨k + 1, x.v, hlk, by go_num, ((HR.out.below Hb.out).drew).base x.v, ((HF.out.trans (Fr.of_below Hb.out) (fun _ _ h => h)).drew).setCell (p := ⟨b, 1, none⟩) (fun _ => rfl) _, HG.out.up Hx.out Ht.out hle⟩
            · exact ⟨k + 1, B, hlk, by go_num, (HR.out.below Hb.out).drew, (HF.out.trans (Fr.of_below Hb.out) (fun _ _ h => h)).drew, HG.out.low Hx.out Ht.out (by omega)⟩
    · obtain rfl : k = l.length := by omega
      have hB := HG.out.all
      clear hr
      go_wp2_with fail
      go_end0
      rw [← hB]
      exact ⟨rfl, HR.out, HF.out⟩
end Go.Proofs.YtfijedmdfkelnaaGreat
