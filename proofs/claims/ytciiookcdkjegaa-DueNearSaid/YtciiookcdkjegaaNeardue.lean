/- DueNear walked. -/
import Derived.Test.YtciiookcdkjegaaNearMdue
namespace Go.Proofs.Ytciiookcdkjegaa
open Go.RowKit
set_option linter.unusedVariables false
set_option linter.unusedSimpArgs false

set_option maxHeartbeats 3200000 in
set_option maxRecDepth 100000 in
theorem DueNear_walk (ws : List Int) (m : Nat) (wa : Option Addr) (wc : Nat) (n : Int) (w : World) (hm : ws.length = m) (hmm : m ≤ maxLen) (hws : Sl encI 1 w wa ws) (hn : I64 n) :
    Calls Try.prog 9 #[.slice wa m wc, .int .i64 n] w fun e w' => e = .returned (.bool true) ∧ Below w.heap.size w w' := by
  have HW := Lib.hid hws
  have HM := Lib.hid hm
  unfold maxLen at hmm
  clear hws hm
  by_cases h1 : 1 ≤ m ∧ m ≤ 20 ∧ 0 ≤ n ∧ n ≤ 500
  case neg =>
    have h2 : (m : Int) < 1 ∨ (20 : Int) < m ∨ n < 0 ∨ 500 < n := by omega
    rcases h2 with h2 | h2 | h2 | h2
    all_goals
      go_enter Try.func9, Try.ntmps9
      go_wp2_with (go_at_call 38; refine (awake13 _).mono ?_; rintro e w1 ⟨rfl, hb⟩)
      all_goals go_ret
      all_goals exact ⟨rfl, hb⟩
  case pos =>
    obtain ⟨m1, m2, n0, n5⟩ := h1
    have m1' : (1 : Int) ≤ m := by omega
    have m2' : (m : Int) ≤ 20 := by omega
    have HN := Lib.hid (fun W => New_ok_due 0 W (by decide))
    go_enter Try.func9, Try.ntmps9
    go_wp2_with (first
      | (go_at_call 38; refine (awake13 _).mono ?_; rintro e w1 ⟨rfl, hb1⟩)
      | (go_at_call 39; refine (HN.out _).mono ?_; rintro e w2 ⟨b, F, rfl, hq, hF, hb2⟩; have Hq := Lib.hid hq; have HF := Lib.hid hF; have Hb := Lib.hid (hb1.trans (hb2.mono hb1.size)); have hs1 := hb1.size; clear hq hF hb2))
    go_loopw [7] (fun ix wr => ∃ (i : Nat) (F : Nat → Prop) (S : Ln), i ≤ m ∧ ix = .int .i64 i ∧ Below w.heap.size w wr ∧ Near0 i S ∧ Qm wr F b S ∧ (∀ x, F x → w.heap.size ≤ x)) (fun ix _ => m - (intOf ix).toNat)
    case atStart => exact ⟨0, F, _, Nat.zero_le _, rfl, Hb.out, near0_start, Hq.out, fun x hx => Nat.le_trans hs1 (HF.out x hx)⟩
    case round =>
      obtain ⟨i, F, S, hi, rfl, hbw, hN, hq, hF⟩ := hrel
      have hsz := hbw.size
      by_cases hlt : i < m
      · obtain ⟨r, off, rfl, hr, hcc⟩ := HW.out (by intro h; have h1 := HM.out; rw [h] at h1; simp at h1; omega)
        obtain ⟨tw, htg⟩ : ∃ y, ws[i]? = some y := ⟨_, List.getElem?_eq_getElem (by rw [HM.out]; exact hlt)⟩
        have e0 := (hbw.cell (p := ⟨r, off + i * 1 + 0, none⟩) hr).trans (hcc i tw htg 0 _ rfl)
        simp only [Nat.mul_one, Nat.add_zero] at e0
        have hki : (i : Int) < m := by omega
        have HNr := Lib.hid hN
        have Hq := Lib.hid hq
        have HF := Lib.hid hF
        clear hcc htg hN hq hF
        by_cases h1 : tw < 1
        · go_wp2_with fail
          go_ret
          exact ⟨rfl, hbw⟩
        · by_cases h2 : 20 < tw
          · go_wp2_with fail
            go_ret
            exact ⟨rfl, hbw⟩
          · have hmay := near0_may HNr.out (by omega) (w := tw) (by omega) (by omega)
            have HE := Lib.hid (Enter_due Hq.out HNr.out.ok (by omega) i tw 0 hmay)
            clear hmay
            go_wp2_with (go_at_call 40; refine HE.out.mono ?_; rintro e w3 ⟨rfl, F3, hq3, hs3, hf3⟩; have Hq3 := Lib.hid hq3; have Hs3 := Lib.hid hs3; have Hf3 := Lib.hid hf3; clear hq3 hs3 hf3)
            go_roundw
            case rel => exact ⟨i + 1, F3, _, hlt, by go_num, hbw.trans (Hf3.out.below hsz fun x hx => HF.out x hx), near0_next HNr.out (by omega) (by omega) (by omega), Hq3.out, fun x hx => (Hs3.out x hx).elim (HF.out x) (fun h => by omega)⟩
            case measure => simp [intOf]; omega
      · obtain rfl : i = m := by omega
        have hN2 := near_start hN (by omega)
        have HN2 := Lib.hid hN2
        have Hq := Lib.hid hq
        have HF := Lib.hid hF
        clear hN hN2 hq hF
        go_wp2_with fail
        go_loopw [8] (fun tx wt => ∃ (t : Nat) (G : Nat → Prop) (S : Ln), (t : Int) ≤ n ∧ tx = .int .i64 t ∧ Below w.heap.size w wt ∧ Near i t ((i : Int) * 1125899906842624) S ∧ Qm wt G b S ∧ (∀ x, G x → w.heap.size ≤ x)) (fun tx _ => n.toNat - (intOf tx).toNat)
        case atStart => exact ⟨0, F, S, by omega, rfl, hbw, HN2.out, Hq.out, HF.out⟩
        case round =>
          obtain ⟨t, G, S, ht, rfl, hbt, hN, hq, hG⟩ := hrel
          have hst := hbt.size
          by_cases hltt : (t : Int) < n
          · obtain ⟨id, S1, S2, hp, hc, hk1, hN2⟩ := near_tick hN (by omega) (by omega)
            have HP := Lib.hid (Pick_due hq hN.ok hp)
            have HC := Lib.hid (fun (W : World) (G : Nat → Prop) (h : Qm W G b S1) => Charge_due h hk1 hc)
            have HFm := Lib.hid (fun (W : World) (G : Nat → Prop) (h : Qm W G b S2) => Form_due h hN2.ok)
            have HN2 := Lib.hid hN2
            have HG := Lib.hid hG
            have hlen2 : S2.l.length = i := hN2.len
            have Hlen2 := Lib.hid hlen2
            clear hp hc hk1 hN hN2 hq hG hlen2
            go_wp2_with (first
              | (go_at_call 41; refine HP.out.mono ?_; rintro e w4 ⟨rfl, F4, hq4, hs4, hf4⟩; have Hq4 := Lib.hid hq4; have Hs4 := Lib.hid hs4; have Hf4 := Lib.hid hf4; clear hq4 hs4 hf4)
              | (go_at_call 42; refine (HC.out _ _ Hq4.out).mono ?_; rintro e w5 ⟨rfl, F5, hq5, hs5, hf5⟩; have Hq5 := Lib.hid hq5; have Hs5 := Lib.hid hs5; have Hf5 := Lib.hid hf5; clear hq5 hs5 hf5)
              | (go_at_call 43; refine (HFm.out _ _ Hq5.out).mono ?_; rintro e w6 ⟨a6, c6, rfl, ho, hb6⟩; rw [List.length_map, Hlen2.out] at ho ⊢; have Ho := Lib.hid ho; have Hb6 := Lib.hid hb6; clear ho hb6))
            have HSl := Lib.hid (Sl.of_own (l := S2.l.map (itOf S2.base)) It.len (by rw [List.length_map, Hlen2.out]; exact Ho.out))
            go_loopw [14, 15, 16] (fun lo hi jx wj => ∃ (j : Nat) (l h : Int), j ≤ i ∧ lo = .int .i64 l ∧ hi = .int .i64 h ∧ jx = .int .i64 j ∧ Below (w6.heap.size + 1) (w6.alloc (.cells #[.int .i64 S2.cur, .slice a6 i c6] 24)) wj ∧
                (l = 4611686018427387904 ∨ ∃ x ∈ S2.l, l = S2.base - x.v) ∧ (h = -4611686018427387904 ∨ ∃ x ∈ S2.l, h = S2.base - x.v) ∧ ∀ q, q < j → ∀ x, S2.l[q]? = some x → S2.base - x.v ≤ h) (fun lo hi jx _ => i - (intOf jx).toNat)
            case atStart => exact ⟨0, _, _, Nat.zero_le _, rfl, rfl, rfl, Below.refl _ _, .inl rfl, .inl rfl, fun q hq => absurd hq (Nat.not_lt_zero _)⟩
            case round =>
              obtain ⟨j, l, h, hj, rfl, rfl, rfl, hbj, hl, hh, hall⟩ := hrel
              have hbox := heap_below (w := w6.alloc (.cells #[.int .i64 S2.cur, .slice a6 i c6] 24)) (heap_new _ _) (by simpa using hbj)
              obtain ⟨g0, g1, y0, y1, gl⟩ := blk2 hbox
              have HL := Lib.hid hl
              have HH := Lib.hid hh
              have HA := Lib.hid hall
              clear hl hh hall hbox
              by_cases hlj : j < i
              · obtain ⟨r, off, rfl, hr, hcc⟩ := HSl.out (by intro h0; have h1 := Hlen2.out; have h2 := congrArg List.length h0; rw [List.length_map] at h2; simp at h2; rw [h2] at h1; simp at h1; omega)
                obtain ⟨x, hx⟩ : ∃ x, S2.l[j]? = some x := ⟨_, List.getElem?_eq_getElem (by rw [Hlen2.out]; exact hlj)⟩
                have hit : (S2.l.map (itOf S2.base))[j]? = some (itOf S2.base x) := by rw [List.getElem?_map, hx]; rfl
                have hr1 : r < w6.heap.size + 1 := by omega
                have e2 := (hbj.cell (p := ⟨r, off + j * 3 + 2, none⟩) hr1).trans ((((Below.refl w6.heap.size w6).alloc (Nat.le_refl _) _).cell (p := ⟨r, off + j * 3 + 2, none⟩) hr).trans (hcc j _ hit 2 _ rfl))
                simp only [itOf] at e2
                have hki : (j : Int) < i := by omega
                have Hx := Lib.hid hx
                generalize hlag : S2.base - x.v = lag at e2
                have Hlag := Lib.hid hlag
                clear hcc hit hx hlag
                have hall' : ∀ h', h ≤ h' → lag ≤ h' → ∀ q, q < j + 1 → ∀ y, S2.l[q]? = some y → S2.base - y.v ≤ h' := by
                  intro h' h1 h2 q hq y hy
                  rcases Nat.lt_or_ge q j with h3 | h3
                  · have := HA.out q h3 y hy; omega
                  · obtain rfl : q = j := by omega
                    rw [Hx.out] at hy; cases hy
                    rw [Hlag.out]; exact h2
                have HAl := Lib.hid hall'
                have Hmem := Lib.hid (⟨x, List.mem_of_getElem? Hx.out, Hlag.out.symm⟩ : ∃ x ∈ S2.l, lag = S2.base - x.v)
                clear hall'
                by_cases c1 : lag < l
                all_goals
                  by_cases c2 : h < lag
                all_goals
                  go_wp2_with fail
                  go_roundw
                  case measure => simp [intOf]; omega
                · exact ⟨j + 1, lag, lag, hlj, rfl, rfl, by go_num, hbj, .inr Hmem.out, .inr Hmem.out, HAl.out lag (by omega) (Int.le_refl _)⟩
                · exact ⟨j + 1, lag, h, hlj, rfl, rfl, by go_num, hbj, .inr Hmem.out, HH.out, HAl.out h (Int.le_refl _) (by omega)⟩
                · exact ⟨j + 1, l, lag, hlj, rfl, rfl, by go_num, hbj, HL.out, .inr Hmem.out, HAl.out lag (by omega) (Int.le_refl _)⟩
                · exact ⟨j + 1, l, h, hlj, rfl, rfl, by go_num, hbj, HL.out, HH.out, HAl.out h (Int.le_refl _) (by omega)⟩
              · obtain rfl : j = i := by omega
                have hh0 : h = 0 := by
                  obtain ⟨x, hx, hxv⟩ := HN2.out.least
                  obtain ⟨q, hq⟩ := List.mem_iff_getElem?.1 hx
                  have h1 := HA.out q (by rw [← Hlen2.out]; exact (List.getElem?_eq_some_iff.1 hq).1) x hq
                  rcases HH.out with h2 | ⟨y, hy, h2⟩
                  · omega
                  · have := (HN2.out.pts y hy).1; omega
                have hll : -1000000000 ≤ l := by
                  rcases HL.out with h2 | ⟨y, hy, h2⟩
                  · omega
                  · have := (HN2.out.pts y hy).2; omega
                subst hh0
                clear HH
                have hl62 : l ≤ 4611686018427387904 := by
                  rcases HL.out with h2 | ⟨y, hy, h2⟩
                  · omega
                  · have := (HN2.out.pts y hy).1; omega
                have hw0 : IntKind.i64.wrap (0 - l) = 0 - l := IntWalk.i64_in _ (by omega)
                have hw1 : IntKind.i64.wrap (-l) = -l := IntWalk.i64_in _ (by omega)
                clear HL
                go_wp2_with fail
                go_roundw
                case rel =>
                  have hb45 : Below w.heap.size w w5 := (hbt.trans (Hf4.out.below hst fun x hx => HG.out x hx)).trans (Hf5.out.below (Nat.le_trans hst Hf4.out.size) fun x hx => (Hs4.out x hx).elim (HG.out x) (fun h => by omega))
                  have hb46 : Below w.heap.size w w6 := hb45.trans (Hb6.out.mono hb45.size)
                  have hbj' : Below w6.heap.size w6 wr := ((Below.refl _ _).alloc (Nat.le_refl _) _).trans (hbj.mono (by omega))
                  exact ⟨t + 1, F5, S2, by omega, by go_num, hb46.trans (hbj'.mono hb46.size), HN2.out, (Hq5.out.below Hb6.out).below hbj', fun x hx => (Hs5.out x hx).elim (fun h => (Hs4.out x h).elim (HG.out x) (fun h => by omega)) (fun h => by have := Hf4.out.size; omega)⟩
                case measure => simp [intOf]; omega
          · go_wp2_with fail
            go_ret
            exact ⟨rfl, hbt⟩
end Go.Proofs.Ytciiookcdkjegaa
