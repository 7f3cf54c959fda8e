/- CoreShares walked. -/
import Derived.Test.YtfijedmdfkelnaaGreatSharesM
import Derived.Test.YtfijedmdfkelnaaGreatAw15
namespace Go.Proofs.YtfijedmdfkelnaaGreat
open Go.RowKit
set_option linter.unusedVariables false
set_option linter.unusedSimpArgs false

theorem wAt_get {ws : List Int} {i : Nat} {x : Int} (h : ws[i]? = some x) : wAt ws i = x := by
  unfold wAt; rw [List.getD_eq_getElem?_getD, h]; rfl
set_option maxHeartbeats 12800000 in
set_option maxRecDepth 100000 in
theorem CoreShares_walk (ws : List Int) (m : Nat) (wa : Option Addr) (wc : Nat) (tags : List Int) (nt : Nat) (ta : Option Addr) (tc : Nat) (ev n : Int) (w : World) (hm : ws.length = m) (hmm : m ≤ maxLen) (hws : Sl encI 1 w wa ws) (hnt : tags.length = nt) (hntm : nt ≤ maxLen) (hts : Sl encI 1 w ta tags) (hev : I64 ev) (hn : I64 n) :
    Calls Tryz.prog 5 #[.slice wa m wc, .slice ta nt tc, .int .i64 ev, .int .i64 n] w fun e w' => e = .returned (.bool true) ∧ Below w.heap.size w w' := by
  have HW := Lib.hid hws
  have HM := Lib.hid hm
  have HTs := Lib.hid hts
  have HNt := Lib.hid hnt
  unfold maxLen at hmm hntm
  clear hws hm hts hnt
  by_cases hr : 1 ≤ m ∧ m ≤ 20 ∧ 1 ≤ nt ∧ nt ≤ 20 ∧ 1 ≤ ev ∧ 0 ≤ n ∧ n ≤ 600
  case neg =>
    have hc : (m : Int) < 1 ∨ (1 ≤ (m : Int) ∧ (20 : Int) < m) ∨ (1 ≤ (m : Int) ∧ (m : Int) ≤ 20 ∧ (nt : Int) < 1) ∨ (1 ≤ (m : Int) ∧ (m : Int) ≤ 20 ∧ 1 ≤ (nt : Int) ∧ (20 : Int) < nt) ∨ (1 ≤ (m : Int) ∧ (m : Int) ≤ 20 ∧ 1 ≤ (nt : Int) ∧ (nt : Int) ≤ 20 ∧ ev < 1) ∨
        (1 ≤ (m : Int) ∧ (m : Int) ≤ 20 ∧ 1 ≤ (nt : Int) ∧ (nt : Int) ≤ 20 ∧ 1 ≤ ev ∧ n < 0) ∨ (1 ≤ (m : Int) ∧ (m : Int) ≤ 20 ∧ 1 ≤ (nt : Int) ∧ (nt : Int) ≤ 20 ∧ 1 ≤ ev ∧ 0 ≤ n ∧ 600 < n) := by omega
    clear hr
    rcases hc with h1 | ⟨h1, h2⟩ | ⟨h1, h2, h3⟩ | ⟨h1, h2, h3, h4⟩ | ⟨h1, h2, h3, h4, h5⟩ | ⟨h1, h2, h3, h4, h5, h6⟩ | ⟨h1, h2, h3, h4, h5, h6, h7⟩
    all_goals
      go_enter Tryz.func5, Tryz.ntmps5
      go_wp2_with (first
        | (go_at_call 22; refine (awakeC _).mono ?_; rintro e w1 ⟨rfl, hb1⟩; have Hb1 := Lib.hid hb1; clear hb1)
        )
      go_ret
      exact ⟨rfl, Hb1.out⟩
  case pos =>
    obtain ⟨r1, r2, r3, r4, r5, r6, r7⟩ := hr
    have r1' : 1 ≤ (m : Int) := by omega
    have r2' : (m : Int) ≤ 20 := by omega
    have r3' : 1 ≤ (nt : Int) := by omega
    have r4' : (nt : Int) ≤ 20 := by omega
    have hev0 : (ev == 0) = false := by simp; omega
    have hnt0 : ((nt : Int) == 0) = false := by simp; omega
    go_enter Tryz.func5, Tryz.ntmps5
    go_wp2_with (first
      | (go_at_call 22; refine (awakeC _).mono ?_; rintro e w1 ⟨rfl, hb1⟩; have Hb1 := Lib.hid hb1; clear hb1)
      )
    go_loopw [10, 9] (fun ix tx wr => ∃ i : Nat, i ≤ m ∧ ix = .int .i64 i ∧ tx = .int .i64 (wTo ws i) ∧ wr = w1 ∧ (∀ k, k < i → 1 ≤ wAt ws k ∧ wAt ws k ≤ 20)) (fun ix _ _ => m - (intOf ix).toNat)
    case atStart => exact ⟨0, Nat.zero_le _, rfl, rfl, rfl, fun k hk => absurd hk (Nat.not_lt_zero _)⟩
    case round =>
      obtain ⟨i, hi, rfl, rfl, rfl, hok⟩ := hrel
      have HO := Lib.hid hok
      clear hok
      by_cases hlt : i < m
      · obtain ⟨rr, off, rfl, hrl, hcc⟩ := HW.out (by intro h; have h1 := HM.out; rw [h] at h1; simp at h1; omega)
        obtain ⟨tw, htg⟩ : ∃ y, ws[i]? = some y := ⟨_, List.getElem?_eq_getElem (by rw [HM.out]; exact hlt)⟩
        have e0 := (Hb1.out.cell (p := ⟨rr, off + i * 1 + 0, none⟩) hrl).trans (hcc i tw htg 0 _ rfl)
        simp only [Nat.mul_one, Nat.add_zero] at e0
        have hki : (i : Int) < m := by omega
        have hwa := Lib.hid (wAt_get htg)
        clear hcc htg
        by_cases h1 : tw < 1
        · go_wp2_with fail
          go_ret
          exact ⟨rfl, Hb1.out⟩
        · by_cases h2 : 20 < tw
          · go_wp2_with fail
            go_ret
            exact ⟨rfl, Hb1.out⟩
          · have hb := wTo_pos (m := i) HO.out i (Nat.le_refl _)
            have hw : IntKind.i64.wrap (wTo ws i + tw) = wTo ws i + tw := IntWalk.i64_in _ (by omega)
            go_wp2_with fail
            go_roundw
            case rel => exact ⟨i + 1, hlt, by go_num, by simp only [wTo]; rw [hwa.out], by first | rfl | trivial, fun k hk => by
              rcases Nat.lt_or_ge k i with h | h
              · exact HO.out k h
              · obtain rfl : k = i := by omega
                rw [hwa.out]; omega⟩
            case measure => simp [intOf]; omega
      · obtain rfl : i = m := by omega
        rename World => wl
        obtain ⟨rt, offt, rfl, hrt, hcct⟩ := HTs.out (by intro h; have h1 := HNt.out; rw [h] at h1; simp at h1; omega)
        obtain ⟨tg, htg0⟩ : ∃ y, tags[0]? = some y := ⟨_, List.getElem?_eq_getElem (by rw [HNt.out]; omega)⟩
        have et0 := (Hb1.out.cell (p := ⟨rt, offt + 0 * 1 + 0, none⟩) hrt).trans (hcct 0 tg htg0 0 _ rfl)
        simp only [Nat.mul_one, Nat.add_zero] at et0
        have HCt := Lib.hid hcct
        have hnt00 : (0 : Int) < nt := by omega
        clear hcct htg0
        by_cases ht : TagOk tg
        case neg =>
          have HN := Lib.hid (fun W => CorNew_err tg 0 W fun h => ht h.1)
          clear ht
          go_wp2_with (go_at_call 23; refine (HN.out _).mono ?_; rintro e w2 ⟨rfl, hb2⟩)
          go_ret
          exact ⟨rfl, Hb1.out.trans (hb2.mono Hb1.out.size)⟩
        case pos =>
          have HN := Lib.hid (fun W => CorNew_ok tg 0 W ht (by decide))
          have HT := Lib.hid ht
          clear ht
          go_wp2_with (go_at_call 23; refine (HN.out _).mono ?_; go_loud (rintro e w2 hnp); obtain ⟨c, p, b, r, F, rfl, hc, _, _⟩ := hnp.st Hb1.out; have Hc := Lib.hid hc; clear hc hnp)
          clear et0
          go_loopw [13] (fun ix wr => ∃ (k : Nat) (F : Nat → Prop) (s : CoreS), k ≤ i ∧ ix = .int .i64 k ∧ CSt w wr F c p b r s ∧ ShA ws k s) (fun ix _ => i - (intOf ix).toNat)
          case atStart => exact ⟨0, F, _, Nat.zero_le _, rfl, Hc.out, ShA.start HT.out⟩
          case round =>
            obtain ⟨k, F2, s, hk, rfl, hc, hA⟩ := hrel
            have Hc2 := Lib.hid hc
            have HA := Lib.hid hA
            clear hc hA
            by_cases hlk : k < i
            · obtain ⟨rr, off, rfl, hrl, hcc⟩ := HW.out (by intro h; have h1 := HM.out; rw [h] at h1; simp at h1; omega)
              obtain ⟨tw, htg⟩ : ∃ y, ws[k]? = some y := ⟨_, List.getElem?_eq_getElem (by rw [HM.out]; exact hlk)⟩
              have e0 := (Hc2.out.old.cell (p := ⟨rr, off + k * 1 + 0, none⟩) hrl).trans (hcc k tw htg 0 _ rfl)
              simp only [Nat.mul_one, Nat.add_zero] at e0
              have hki : (k : Int) < i := by omega
              have hwa := wAt_get htg
              obtain ⟨w1', w2'⟩ := HO.out k hlk
              obtain ⟨hm0, hA2⟩ := HA.out.next (by omega) w1' w2'
              obtain ⟨inn, hAA⟩ := HA.out.sv
              have HE := Lib.hid (CorEnter Hc2.out hAA.ok (by omega) (by omega) k (wAt ws k) 0 false hm0)
              have HA2 := Lib.hid hA2
              rw [hwa] at HE HA2
              clear hcc htg hm0 hA2 hAA hwa w1' w2'
              go_wp2_with (go_at_call 28; refine HE.out.mono ?_; rintro e w3 ⟨rfl, F3, hc3, _, _⟩; have Hc3 := Lib.hid hc3; clear hc3)
              go_roundw
              case rel => exact ⟨k + 1, F3, _, hlk, by go_num, Hc3.out, HA2.out⟩
              case measure => simp [intOf]; omega
            · obtain rfl : k = i := by omega
              have HB := Lib.hid (HA.out.runs (by omega))
              clear HA
              go_wp2_with fail
              go_loopw [14] (fun tx wr => ∃ (t : Nat) (F : Nat → Prop) (p b : Nat) (s : CoreS), (t : Int) ≤ n ∧ tx = .int .i64 t ∧ CSt w wr F c p b r s ∧ ShB ws k t s) (fun tx _ => n.toNat - (intOf tx).toNat)
              case atStart => exact ⟨0, F2, p, b, s, by omega, rfl, Hc2.out, HB.out⟩
              case round =>
                clear Hc HB Hc2
                obtain ⟨t, F4, p4, b4, s4, ht, rfl, hc4, hB4⟩ := hrel
                have Hc4 := Lib.hid hc4
                have HB4 := Lib.hid hB4
                clear hc4 hB4
                by_cases htn : (t : Int) < n
                · have hev1 : ev ≤ 9223372036854775807 := hev.2
                  have hwe : IntKind.i64.wrap (ev - 1) = ev - 1 := IntWalk.i64_in _ (by omega)
                  have hold := Lib.hid Hc4.out.old
                  by_cases hq : (t : Int) % ev = ev - 1
                  case neg =>
                    have hqb : ((t : Int) % ev == ev - 1) = false := by simpa using hq
                    clear hq
                    obtain ⟨s9, v9, hrun, hv9, v0, v1, hB9⟩ := HB4.out.next (by omega)
                    have HR := Lib.hid (CorRun Hc4.out HB4.out.ok (by omega) hrun hv9)
                    have HB9 := Lib.hid hB9
                    clear hrun hv9 hB9
                    go_wp2_with (go_at_call 30; refine HR.out.mono ?_; rintro e w9 ⟨rfl, F9, hc9, _, _⟩; have Hc9 := Lib.hid hc9; clear hc9)
                    go_roundw
                    case rel => exact ⟨t + 1, F9, _, _, s9, by omega, by go_num, Hc9.out, HB9.out⟩
                    case measure => simp [intOf]; omega
                  case pos =>
                    have hqb : ((t : Int) % ev == ev - 1) = true := by simpa using hq
                    obtain ⟨qi, hqi, hqn⟩ : ∃ qi : Nat, (t : Int) / ev % nt = qi ∧ qi < nt := by
                      have h1 := Int.emod_nonneg ((t : Int) / ev) (show (nt : Int) ≠ 0 by omega)
                      have h2 := Int.emod_lt_of_pos ((t : Int) / ev) (show (0 : Int) < nt by omega)
                      exact ⟨((t : Int) / ev % nt).toNat, by omega, by omega⟩
                    have hqn' : (qi : Int) < nt := by omega
                    have hd0 : 0 ≤ (t : Int) / ev := Int.ediv_nonneg (by omega) (by omega)
                    have hd1 : (t : Int) / ev ≤ t := Int.ediv_le_self _ (by omega)
                    have hwq : wrap64 ((t : Int) / ev) = (t : Int) / ev := by unfold wrap64; omega
                    have hevn : ¬ ev = 0 := by omega
                    have hntn : ¬ nt = 0 := by omega
                    have hwi : IntKind.i64.wrap ((t : Int) / ev) = (t : Int) / ev := IntWalk.i64_in _ (by omega)
                    have hqm : ((t : Int) / ev).tmod nt = qi := by rw [Int.tmod_eq_emod_of_nonneg hd0]; exact hqi
                    obtain ⟨tg2, htg2⟩ : ∃ y, tags[qi]? = some y := ⟨_, List.getElem?_eq_getElem (by rw [HNt.out]; exact hqn)⟩
                    have et2 := (Hc4.out.old.cell (p := ⟨rt, offt + qi * 1 + 0, none⟩) hrt).trans (HCt.out qi tg2 htg2 0 _ rfl)
                    simp only [Nat.mul_one, Nat.add_zero] at et2
                    have hrl4 : rt < wr.heap.size := by have := Hc4.out.old.size; omega
                    have HFm := Lib.hid (fun W (hW : Below wr.heap.size wr W) => CorForm (Hc4.out.below hW) HB4.out.ok.tag HB4.out.near.ok)
                    clear hq htg2
                    by_cases ht2 : TagOk tg2
                    case neg =>
                      have HPs := Lib.hid (fun W a k (hW : Sl It.enc 3 W a (s4.q.l.map (itOf s4.q.base))) => PolSeed_err tg2 (formR s4.q) s4.q.l.length a k 0 W (List.length_map _) (by have := HB4.out.near.ok.len; omega) hW fun h => ht2 h.1)
                      clear ht2
                      go_wp2_with fail
                      refine wp_region_chain 181 [0, 0, 0, 6, 0, 16, 62, 127, 255, 0, 512, 2047, 4095, 8191, 8191, 16383, 65535] [(0, none), (1, none), (2, none), (3, none), (4, none), (5, none), (6, none), (7, none), (8, none), (9, none), (10, some [0, 1, 2, 3, 4, 5, 6, 7, 8]), (11, some []), (12, none), (13, none), (14, none), (15, none), (16, none)] (by kernel_rfl) (by kernel_rfl) (by rfl) ?_; simp only [chain, Obs, List.getElem?_toArray, List.getElem?_cons_zero, List.getElem?_cons_succ]
                      go_wp2_with (first
                        | (with_reducible refine And.intro (by first | with_reducible exact True.intro | with_reducible rfl | (go_simp; done) | (go_simp; rw [if_neg hevn, hwi]) | (go_simp; exact hntn)) ?_)
                        | (go_at_call 26; refine (HFm.out _ (Below.refl _ _).drew).mono ?_; rintro e w5 ⟨a5, k5, rfl, ho, hb5⟩; rw [List.length_map] at ho ⊢; have Hb5 := Lib.hid ((Below.refl wr.heap.size wr).drew.trans (hb5.mono (Nat.le_refl _))); have Hs5 := Lib.hid (Sl.of_own (l := s4.q.l.map (itOf s4.q.base)) It.len (by rw [List.length_map]; exact ho)); have et5 := (hb5.cell (p := ⟨rt, offt + qi, none⟩) hrl4).trans et2; clear ho hb5)
                        | (go_at_call 8; refine (HPs.out _ _ _ Hs5.out).mono ?_; rintro e w6 ⟨rfl, hb6⟩; have Hc6 := Lib.hid (Hc4.out.below (Hb5.out.trans (hb6.mono Hb5.out.size))); clear hb6))
                      refine NoPanic.normal ?_
                      obtain ⟨s9, v9, hrun, hv9, v0, v1, hB9⟩ := HB4.out.next (by omega)
                      have HR := Lib.hid (CorRun Hc6.out HB4.out.ok (by omega) hrun hv9)
                      have HB9 := Lib.hid hB9
                      clear hrun hv9 hB9
                      go_wp2_with (go_at_call 30; refine HR.out.mono ?_; rintro e w9 ⟨rfl, F9, hc9, _, _⟩; have Hc9 := Lib.hid hc9; clear hc9)
                      go_roundw
                      case rel => exact ⟨t + 1, F9, _, _, s9, by omega, by go_num, Hc9.out, HB9.out⟩
                      case measure => simp [intOf]; omega
                    case pos =>
                      obtain ⟨hg, hfe, hk0, hB5⟩ := HB4.out.change ht2
                      have HPs := Lib.hid (fun W a k (hW : Sl It.enc 3 W a (s4.q.l.map (itOf s4.q.base))) => PolSeed_ok tg2 (formR s4.q) s4.q.l.length a k 0 W (List.length_map _) hW ht2 (by decide) hg)
                      have HB5 := Lib.hid hB5
                      have HT2 := Lib.hid ht2
                      have Hfe := Lib.hid hfe
                      have Hk0 := Lib.hid hk0
                      clear ht2 hg hB5 hfe hk0
                      go_wp2_with fail
                      refine wp_region_chain 181 [0, 0, 0, 6, 0, 16, 62, 127, 255, 0, 512, 2047, 4095, 8191, 8191, 16383, 65535] [(0, none), (1, none), (2, none), (3, none), (4, none), (5, none), (6, none), (7, none), (8, none), (9, none), (10, some [0, 1, 2, 3, 4, 5, 6, 7, 8]), (11, some []), (12, none), (13, none), (14, none), (15, none), (16, none)] (by kernel_rfl) (by kernel_rfl) (by rfl) ?_; simp only [chain, Obs, List.getElem?_toArray, List.getElem?_cons_zero, List.getElem?_cons_succ]
                      go_wp2_with (first
                        | (with_reducible refine And.intro (by first | with_reducible exact True.intro | with_reducible rfl | (go_simp; done) | (go_simp; rw [if_neg hevn, hwi]) | (go_simp; exact hntn)) ?_)
                        | (go_at_call 26; refine (HFm.out _ (Below.refl _ _).drew).mono ?_; rintro e w5 ⟨a5, k5, rfl, ho, hb5⟩; rw [List.length_map] at ho ⊢; have Hb5 := Lib.hid ((Below.refl wr.heap.size wr).drew.trans (hb5.mono (Nat.le_refl _))); have Hs5 := Lib.hid (Sl.of_own (l := s4.q.l.map (itOf s4.q.base)) It.len (by rw [List.length_map]; exact ho)); have et5 := (hb5.cell (p := ⟨rt, offt + qi, none⟩) hrl4).trans et2; clear ho hb5)
                        | (go_at_call 8; refine (HPs.out _ _ _ Hs5.out).mono ?_; go_loud (rintro e w6 hnp); obtain ⟨p6, b6, F6, rfl, hp6, hF6, hb6⟩ := hnp.st (Hc4.out.below Hb5.out).old; have Hc6 := Lib.hid (Hc4.out.below (Hb5.out.trans (hb6.mono Hb5.out.size))); have Hp6 := Lib.hid hp6
                           have Hd6 := Lib.hid (fun k (h1 : F6 k ∨ k = p6) (h2 : cfoot F4 c p4 r k) => by have h3 := hF6 k h1; have h4 := Hc4.out.lt k h2; have h5 := Hb5.out.size; omega : ∀ k, F6 k ∨ k = p6 → ¬ cfoot F4 c p4 r k)
                           clear hp6 hF6 hb6 hnp))
                      refine NoPanic.normal ?_
                      have HCh := Lib.hid (CorChange_ok Hc6.out Hp6.out HB4.out.ok.tag HT2.out HB4.out.near.ok Hk0.out Hd6.out Hfe.out)
                      go_wp2_with (go_at_call 29; refine HCh.out.mono ?_; rintro e w7 ⟨rfl, hc7, _⟩; have Hc7 := Lib.hid hc7; clear hc7)
                      obtain ⟨s9, v9, hrun, hv9, v0, v1, hB9⟩ := HB5.out.next (by omega)
                      have HR := Lib.hid (CorRun Hc7.out HB5.out.ok (by omega) hrun hv9)
                      have HB9 := Lib.hid hB9
                      clear hrun hv9 hB9
                      go_wp2_with (go_at_call 30; refine HR.out.mono ?_; rintro e w9 ⟨rfl, F9, hc9, _, _⟩; have Hc9 := Lib.hid hc9; clear hc9)
                      go_roundw
                      case rel => exact ⟨t + 1, F9, _, _, s9, by omega, by go_num, Hc9.out, HB9.out⟩
                      case measure => simp [intOf]; omega
                · obtain htn2 : (t : Int) = n := by omega
                  have HOff := Lib.hid (fun (i2 : Nat) (hi2 : i2 < k) => share_off HB4.out HO.out hi2)
                  have hWp := wTo_pos HO.out k (Nat.le_refl _)
                  have hsv0 := Lib.hid HB4.out.ok.sv0
                  have hsv1 := Lib.hid HB4.out.ok.sv1
                  go_wp2_with fail
                  rename World => wl4
                  go_loopw [19] (fun ix wr => ∃ i2 : Nat, i2 ≤ k ∧ ix = .int .i64 i2 ∧ Below wl4.heap.size wl4 wr) (fun ix _ => k - (intOf ix).toNat)
                  case atStart => exact ⟨0, Nat.zero_le _, rfl, Below.refl _ _⟩
                  case round =>
                    obtain ⟨i2, hi2, rfl, hb2⟩ := hrel
                    have Hc5 := Lib.hid (Hc4.out.below hb2)
                    have Hb2 := Lib.hid hb2
                    clear hb2
                    by_cases hlk2 : i2 < k
                    · obtain ⟨rr, off, rfl, hrl, hcc⟩ := HW.out (by intro h; have h1 := HM.out; rw [h] at h1; simp at h1; omega)
                      obtain ⟨tw, htg⟩ : ∃ y, ws[i2]? = some y := ⟨_, List.getElem?_eq_getElem (by rw [HM.out]; exact hlk2)⟩
                      have e0 := (Hc5.out.old.cell (p := ⟨rr, off + i2 * 1 + 0, none⟩) hrl).trans (hcc i2 tw htg 0 _ rfl)
                      simp only [Nat.mul_one, Nat.add_zero] at e0
                      have hrl5 : rr < wr.heap.size := by have := Hc5.out.old.size; omega
                      have hki : (i2 : Int) < k := by omega
                      have hwa := wAt_get htg
                      obtain ⟨w1', w2'⟩ := HO.out i2 hlk2
                      obtain ⟨o1, o2⟩ := HOff.out i2 hlk2
                      have a0 := hsv0.out i2
                      have a1 := hsv1.out i2
                      have HSv := Lib.hid (fun W (hW : Below wr.heap.size wr W) => CorServed (Hc5.out.below hW) i2 (by omega))
                      rw [hwa, htn2] at o1 o2
                      rw [hwa] at w1' w2'
                      generalize s4.sv i2 = av at o1 o2 a0 a1 HSv
                      obtain ⟨hW0, hW1⟩ := hWp
                      have q1 := prod_abs (a := av) (b := wTo ws k) (B := 1000) (M := 400) (by omega) (by omega) (by omega) (by omega) (by omega)
                      have q2 := prod_abs (a := n) (b := tw) (B := 600) (M := 20) (by omega) (by omega) (by omega) (by omega) (by omega)
                      have q3 := prod_abs (a := 5 * wTo ws k) (b := tw) (B := 2000) (M := 20) (by omega) (by omega) (by omega) (by omega) (by omega)
                      have u1 : IntKind.i64.wrap (av * wTo ws k) = av * wTo ws k := IntWalk.i64_in _ (by omega)
                      have u2 : IntKind.i64.wrap (n * tw) = n * tw := IntWalk.i64_in _ (by omega)
                      have u3 : IntKind.i64.wrap (av * wTo ws k - n * tw) = av * wTo ws k - n * tw := IntWalk.i64_in _ (by omega)
                      have u4 : IntKind.i64.wrap (5 * wTo ws k) = 5 * wTo ws k := IntWalk.i64_in _ (by omega)
                      have u5 : IntKind.i64.wrap (5 * wTo ws k * tw) = 5 * wTo ws k * tw := IntWalk.i64_in _ (by omega)
                      have u6 : IntKind.i64.wrap (-(av * wTo ws k - n * tw)) = -(av * wTo ws k - n * tw) := IntWalk.i64_in _ (by omega)
                      have u7 : IntKind.i64.wrap (n * tw - av * wTo ws k) = n * tw - av * wTo ws k := IntWalk.i64_in _ (by omega)
                      clear hcc htg hwa a0 a1 q1 q2 q3 hW0 hW1
                      by_cases hneg : av * wTo ws k - n * tw < 0
                      all_goals
                        go_wp2_with fail
                        refine wp_region_chain 181 [0, 0, 3, 0, 15, 0, 0, 0, 192, 448, 992, 2047, 4095] [(0, none), (1, none), (3, none), (5, none), (6, none), (7, none), (8, none), (9, none), (10, none), (2, some [3, 5, 6, 7, 8, 9, 10]), (4, none), (11, none), (12, none)] (by kernel_rfl) (by kernel_rfl) (by rfl) ?_; simp only [chain, Obs, List.getElem?_toArray, List.getElem?_cons_zero, List.getElem?_cons_succ]
                        go_wp2_with (first
                          | (with_reducible refine And.intro (by first | with_reducible exact True.intro | with_reducible rfl | go_simp) ?_)
                          | (go_at_call 31; refine (HSv.out _ (Below.refl _ _).drew).mono ?_; rintro e w9 ⟨rfl, rfl⟩))
                        refine NoPanic.normal ?_
                        go_wp2_with fail
                        go_roundw
                        case measure => simp [intOf]; omega
                        case rel => exact ⟨i2 + 1, hlk2, by go_num, Hb2.out.drew⟩
                    · go_wp2_with fail
                      go_ret
                      exact ⟨rfl, Hc5.out.old⟩
end Go.Proofs.YtfijedmdfkelnaaGreat
