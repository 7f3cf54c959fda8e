/- PolicyHeld walked. -/
import Derived.Test.YtciiookcdkjegaaPif
import Derived.Test.YtciiookcdkjegaaLaw14
import Derived.Test.YtciiookcdkjegaaFind
import Derived.Test.YtciiookcdkjegaaArg
namespace Go.Proofs.Ytciiookcdkjegaa
open Go.RowKit
set_option linter.unusedVariables false
set_option linter.unusedSimpArgs false

theorem growB_stays {base : Int} {l : List Pt} {x : Pt} (hx : x ∈ l) (h : x.v ≤ base) : growB base l = base := by
  unfold growB
  cases hz : least l with
  | none => rfl
  | some z => have := least_le hz x hx; simp only; omega
theorem heldT_0 {tag : Int} (ht : TagOk tag) : heldT tag 0 = 0 := by rcases ht with rfl | rfl | rfl <;> decide
theorem heldS1 {tag : Int} (ht : TagOk tag) : enterR (heldT tag) ⟨0, -1, []⟩ 1 1 0 = ⟨0, -1, [newP 0 1 1 0]⟩ := by
  have h1 : mayE [] 1 1 0 = 0 := by decide
  unfold enterR
  rw [if_pos h1, heldT_0 ht]
  unfold putR
  rw [if_pos h1]
  show (⟨growB 0 [newP 0 1 1 0], -1, [newP 0 1 1 0]⟩ : Ln) = _
  rw [growB_stays (x := newP 0 1 1 0) (by simp) (by decide)]
theorem heldM2 {tw lag : Int} (h1 : 1 ≤ tw) (h2 : tw ≤ 20) (h3 : -1125899906842624 ≤ lag) (h4 : lag ≤ 1125899906842624) : mayE [newP 0 1 1 0] 2 tw lag = 0 := by
  have hm : mayB 2 tw lag = true := by unfold mayB; simp only [decide_eq_true_eq]; omega
  unfold mayE
  rw [if_pos hm, if_neg (by decide), if_neg (by decide)]
theorem heldS2 {tag tw lag : Int} (ht : TagOk tag) (h1 : 1 ≤ tw) (h2 : tw ≤ 20) (h3 : -1125899906842624 ≤ lag) (h4 : lag ≤ 1125899906842624) :
    enterR (heldT tag) ⟨0, -1, [newP 0 1 1 0]⟩ 2 tw lag = ⟨0, -1, [newP 0 1 1 0, newP 0 2 tw (heldT tag lag)]⟩ := by
  have hm := heldM2 h1 h2 h3 h4
  have hm2 : mayE [newP 0 1 1 0] 2 tw (heldT tag lag) = 0 := heldmay_T ht hm (by decide)
  unfold enterR
  rw [if_pos hm]
  unfold putR
  rw [if_pos hm2]
  show (⟨growB 0 [newP 0 1 1 0, newP 0 2 tw (heldT tag lag)], -1, [newP 0 1 1 0, newP 0 2 tw (heldT tag lag)]⟩ : Ln) = _
  rw [growB_stays (x := newP 0 1 1 0) (by simp) (by decide)]
theorem heldForm (tw h : Int) : ([newP 0 1 1 0, newP 0 2 tw h] : List Pt).map (itOf 0) = [⟨1, 1, 0⟩, ⟨2, tw, h⟩] := by
  simp [itOf, newP]
theorem heldFind (tw h : Int) : fi (isIt 2) [⟨1, 1, 0⟩, ⟨2, tw, h⟩] = (1 : Nat) :=
  fi_at (j := 1) (x := ⟨2, tw, h⟩) rfl rfl (fun i hi y hy => by
    obtain rfl : i = 0 := by omega
    simp at hy; subst hy; rfl)

set_option maxHeartbeats 3200000 in
set_option maxRecDepth 100000 in
theorem PolicyHeld_walk (tag tw lag : Int) (w : World) (hi0 : I64 tag) (hi1 : I64 tw) (hi2 : I64 lag) :
    Calls Try.prog 14 #[.int .i64 tag, .int .i64 tw, .int .i64 lag] w fun e w' => e = .returned (.bool true) ∧ Below w.heap.size w w' := by
  by_cases ht : TagOk tag
  case neg =>
    have HN := Lib.hid (fun W => PolNew_err tag 0 W fun h => ht h.1)
    clear ht
    go_enter Try.func14, Try.ntmps14
    go_wp2_with (first
      | (go_at_call 51; refine (awake14 _).mono ?_; rintro e w1 ⟨rfl, hb1⟩)
      | (go_at_call 52; refine (HN.out _).mono ?_; rintro e w2 ⟨rfl, hb2⟩))
    go_ret
    exact ⟨rfl, hb1.trans (hb2.mono hb1.size)⟩
  case pos =>
    have HN := Lib.hid (fun W => PolNew_ok tag 0 W ht (by decide))
    by_cases hr : 1 ≤ tw ∧ tw ≤ 20 ∧ -1125899906842624 ≤ lag ∧ lag ≤ 1125899906842624
    case neg =>
      have hc : tw < 1 ∨ (1 ≤ tw ∧ 20 < tw) ∨ (1 ≤ tw ∧ tw ≤ 20 ∧ lag < -1125899906842624) ∨ (1 ≤ tw ∧ tw ≤ 20 ∧ -1125899906842624 ≤ lag ∧ 1125899906842624 < lag) := by omega
      clear hr ht
      rcases hc with h1 | ⟨h1, h2⟩ | ⟨h1, h2, h3⟩ | ⟨h1, h2, h3, h4⟩
      all_goals
        go_enter Try.func14, Try.ntmps14
        go_wp2_with (first
          | (go_at_call 51; refine (awake14 _).mono ?_; rintro e w1 ⟨rfl, hb1⟩)
          | (go_at_call 52; refine (HN.out _).mono ?_; rintro e w2 ⟨p, F, rfl, hq, hF, hb2⟩; clear hq hF))
        go_ret
        exact ⟨rfl, hb1.trans (hb2.mono hb1.size)⟩
    case pos =>
      obtain ⟨r1, r2, r3, r4⟩ := hr
      have k0 : OkS 0 ⟨0, -1, []⟩ := OkS.new (by decide) (by decide)
      have k1 : OkS 1125899906842624 ⟨0, -1, [newP 0 1 1 0]⟩ := by have := k0.enter (heldT tag) 1 1 0 (by decide); rw [heldS1 ht] at this; exact this
      have k2 : OkS 2251799813685248 ⟨0, -1, [newP 0 1 1 0, newP 0 2 tw (heldT tag lag)]⟩ := by have := k1.enter (heldT tag) 2 tw lag (by decide); rw [heldS2 ht r1 r2 r3 r4] at this; exact this
      have HT := Lib.hid ht
      obtain ⟨hv, hh⟩ : ∃ h, heldT tag lag = h := ⟨_, rfl⟩
      have hh2 : heldT tag hv = hv := by rw [← hh]; exact heldT_idem ht lag
      have CE1 := Lib.hid (fun (b : Nat) => ifEnter tag ht b)
      have CF1 := Lib.hid (fun (b : Nat) => ifForm tag ht b)
      have E1 := Lib.hid (heldS1 ht)
      have E2 := Lib.hid (heldS2 ht r1 r2 r3 r4)
      have M2 := Lib.hid (heldM2 r1 r2 r3 r4)
      rw [hh] at k2 E2
      have K0 := Lib.hid k0
      have K1 := Lib.hid k1
      have K2 := Lib.hid k2
      have Hh := Lib.hid hh
      have Hh2 := Lib.hid hh2
      clear ht k0 k1 k2 hh hh2
      go_enter Try.func14, Try.ntmps14
      go_wp2_with (first
        | (go_at_call 51; refine (awake14 _).mono ?_; rintro e w1 ⟨rfl, hb1⟩)
        | (go_at_call 52; refine (HN.out _).mono ?_; go_loud (rintro e w2 hnp); obtain ⟨p, b, F, rfl, hp, _, hb2⟩ := hnp.st hb1
           obtain ⟨FE, mE, eE, cE⟩ := CE1.out b
           obtain ⟨FF, mF, eF, cF⟩ := CF1.out b
           obtain ⟨c0, c1, f0, f1, pl⟩ := blk2 hp.cell
           have CE := Lib.hid (fun W G (h : PSt w W G p b tag ⟨0, -1, []⟩) => (by have := cE.out h K0.out (by decide) 1 1 0 0 (by decide); rw [E1.out] at this; exact this : Calls Try.prog FE #[.pointer (some ⟨b, 0, none⟩), .int .i64 1, .int .i64 1, .int .i64 0] W fun e w' => e = .returned (.int .i64 0) ∧ PNext w W G p b tag ⟨0, -1, [newP 0 1 1 0]⟩ w'))
           have CE2 := Lib.hid (fun W G (h : PSt w W G p b tag ⟨0, -1, [newP 0 1 1 0]⟩) => (by have := cE.out h K1.out (by decide) 2 tw lag 0 M2.out; rw [E2.out] at this; exact this : Calls Try.prog FE #[.pointer (some ⟨b, 0, none⟩), .int .i64 2, .int .i64 tw, .int .i64 lag] W fun e w' => e = .returned (.int .i64 0) ∧ PNext w W G p b tag ⟨0, -1, [newP 0 1 1 0, newP 0 2 tw hv]⟩ w'))
           have CF := Lib.hid (fun W G (h : PSt w W G p b tag ⟨0, -1, [newP 0 1 1 0, newP 0 2 tw hv]⟩) => (by have := cF.out h.q K2.out; rw [heldForm] at this; exact this : Calls Try.prog FF #[.pointer (some ⟨b, 0, none⟩)] W (FormPost W (-1) [⟨1, 1, 0⟩, ⟨2, tw, hv⟩])))
           have Hp := Lib.hid hp
           clear hp hnp cE cF)
        | (go_at_fn FE; first
          | ((with_reducible refine (CE.out _ _ Hp.out).mono ?_); rintro e w3 ⟨rfl, F3, hp3, _, _⟩; obtain ⟨c0, c1, f0, f1, pl⟩ := blk2 hp3.cell; have Hp3 := Lib.hid hp3; clear hp3)
          | ((with_reducible refine (CE2.out _ _ Hp3.out).mono ?_); rintro e w4 ⟨rfl, F4, hp4, _, _⟩; obtain ⟨c0, c1, f0, f1, pl⟩ := blk2 hp4.cell; have Hp4 := Lib.hid hp4; clear hp4))
        | (go_at_call 53; first
          | ((with_reducible refine (PolHeld Hp3.out.pm HT.out lag Hh.out).mono ?_); rintro e w5 ⟨rfl, rfl⟩)
          | ((with_reducible refine (PolHeld Hp8.out.pm HT.out hv Hh2.out).mono ?_); rintro e w5 ⟨rfl, rfl⟩))
        | (go_at_fn FF; refine (CF.out _ _ Hp4.out).mono ?_; rintro e w6 ⟨a6, k6, rfl, ho, hb6⟩; have Hs6 := Lib.hid (Sl.of_own It.len ho); have Hp6 := Lib.hid (Hp4.out.below hb6); clear ho hb6)
        | (go_at_call 54; refine (FindF_some (-1) 2 [⟨1, 1, 0⟩, ⟨2, tw, hv⟩] 2 a6 k6 _ rfl (by omega) Hs6.out 1 ⟨2, tw, hv⟩ (heldFind tw hv) rfl).mono ?_; rintro e w7 ⟨rfl, hb7⟩; have Hp8 := Lib.hid ((Hp6.out.below hb7).below ((Below.refl _ _).alloc (Nat.le_refl _) (.cells #[.int .i64 2, .int .i64 tw, .int .i64 hv] 55)))))
      go_ret
      exact ⟨rfl, Hp8.out.old⟩
end Go.Proofs.Ytciiookcdkjegaa
