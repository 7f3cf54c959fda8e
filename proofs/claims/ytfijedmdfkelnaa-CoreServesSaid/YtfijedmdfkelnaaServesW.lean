/- CoreServes walked. -/
import Derived.Test.YtfijedmdfkelnaaServesM
import Derived.Test.YtfijedmdfkelnaaAw15
namespace Go.Proofs.Ytfijedmdfkelnaa
open Go.RowKit
set_option linter.unusedVariables false
set_option linter.unusedSimpArgs false

set_option maxHeartbeats 6400000 in
set_option maxRecDepth 100000 in
theorem CoreServes_walk (tag : Int) (ws : List Int) (m : Nat) (wa : Option Addr) (wc : Nat) (n : Int) (w : World) (htag : I64 tag) (hm : ws.length = m) (hmm : m ≤ maxLen) (hws : Sl encI 1 w wa ws) (hn : I64 n) :
    Calls Try.prog 4 #[.int .i64 tag, .slice wa m wc, .int .i64 n] w fun e w' => e = .returned (.bool true) ∧ Below w.heap.size w w' := by
  have HW := Lib.hid hws
  have HM := Lib.hid hm
  unfold maxLen at hmm
  clear hws hm
  by_cases ht : TagOk tag
  case neg =>
    have HN := Lib.hid (fun W => CorNew_err tag 0 W fun h => ht h.1)
    clear ht
    go_enter Try.func4, Try.ntmps4
    go_wp2_with (first
      | (go_at_call 12; refine (awakeC _).mono ?_; rintro e w1 ⟨rfl, hb1⟩)
      | (go_at_call 13; refine (HN.out _).mono ?_; rintro e w2 ⟨rfl, hb2⟩))
    go_ret
    exact ⟨rfl, hb1.trans (hb2.mono hb1.size)⟩
  case pos =>
    have HN := Lib.hid (fun W => CorNew_ok tag 0 W ht (by decide))
    by_cases hr : m ≤ 20 ∧ 0 ≤ n ∧ n ≤ 300
    case neg =>
      have hc : (20 : Int) < m ∨ ((m : Int) ≤ 20 ∧ n < 0) ∨ ((m : Int) ≤ 20 ∧ 0 ≤ n ∧ 300 < n) := by omega
      clear hr ht
      rcases hc with h1 | ⟨h1, h2⟩ | ⟨h1, h2, h3⟩
      all_goals
        go_enter Try.func4, Try.ntmps4
        go_wp2_with (first
          | (go_at_call 12; refine (awakeC _).mono ?_; rintro e w1 ⟨rfl, hb1⟩)
          | (go_at_call 13; refine (HN.out _).mono ?_; rintro e w2 ⟨c, p, b, r, F, rfl, _, hb2⟩))
        go_ret
        exact ⟨rfl, hb1.trans (hb2.mono hb1.size)⟩
    case pos =>
      obtain ⟨r1, r2, r3⟩ := hr
      have r1' : (m : Int) ≤ 20 := by omega
      have HT := Lib.hid ht
      clear ht
      go_enter Try.func4, Try.ntmps4
      go_wp2_with (first
        | (go_at_call 12; refine (awakeC _).mono ?_; rintro e w1 ⟨rfl, hb1⟩)
        | (go_at_call 13; refine (HN.out _).mono ?_; go_loud (rintro e w2 hnp); obtain ⟨c, p, b, r, F, rfl, hc, _, _⟩ := hnp.st hb1; have Hc := Lib.hid hc; clear hc hnp))
      go_loopw [10, 9] (fun ix nx wr => ∃ (i inn : Nat) (F : Nat → Prop) (s : CoreS), i ≤ m ∧ ix = .int .i64 i ∧ nx = .int .i64 inn ∧ CSt w wr F c p b r s ∧ SvA tag i inn s) (fun ix _ _ => m - (intOf ix).toNat)
      case atStart => exact ⟨0, 0, F, _, Nat.zero_le _, rfl, rfl, Hc.out, SvA.start HT.out⟩
      case round =>
        obtain ⟨i, inn, F, s, hi, rfl, rfl, hc, hA⟩ := hrel
        have hle := hA.le
        have HA := Lib.hid hA
        have Hc := Lib.hid hc
        clear hA hc
        by_cases hlt : i < m
        · obtain ⟨rr, off, rfl, hr, hcc⟩ := HW.out (by intro h; have h1 := HM.out; rw [h] at h1; simp at h1; omega)
          obtain ⟨tw, htg⟩ : ∃ y, ws[i]? = some y := ⟨_, List.getElem?_eq_getElem (by rw [HM.out]; exact hlt)⟩
          have e0 := (Hc.out.old.cell (p := ⟨rr, off + i * 1 + 0, none⟩) hr).trans (hcc i tw htg 0 _ rfl)
          simp only [Nat.mul_one, Nat.add_zero] at e0
          have hki : (i : Int) < m := by omega
          clear hcc htg
          rcases HA.out.next (by omega) tw with ⟨hm0, hA2⟩ | ⟨hm1, hA2⟩
          · have HE := Lib.hid (CorEnter Hc.out HA.out.ok (by omega) (by omega) i tw 0 false hm0)
            have HA2 := Lib.hid hA2
            clear hm0 hA2
            go_wp2_with (go_at_call 14; refine HE.out.mono ?_; rintro e w3 ⟨rfl, F3, hc3, _, _⟩; have Hc3 := Lib.hid hc3; clear hc3)
            go_roundw
            case rel => exact ⟨i + 1, inn + 1, F3, _, hlt, by go_num, by go_num, Hc3.out, HA2.out⟩
            case measure => simp [intOf]; omega
          · have HE := Lib.hid (CorEnter Hc.out HA.out.ok (by omega) (by omega) i tw 0 false hm1)
            have HA2 := Lib.hid hA2
            clear hm1 hA2
            go_wp2_with (go_at_call 14; refine HE.out.mono ?_; rintro e w3 ⟨rfl, F3, hc3, _, _⟩; have Hc3 := Lib.hid hc3; clear hc3)
            go_roundw
            case rel => exact ⟨i + 1, inn, F3, _, hlt, by go_num, rfl, Hc3.out, HA2.out⟩
            case measure => simp [intOf]; omega
        · obtain rfl : i = m := by omega
          have HB := Lib.hid HA.out.runs
          clear HA
          go_wp2_with fail
          go_loopw [11] (fun tx wr => ∃ (t : Nat) (F : Nat → Prop) (s : CoreS), (t : Int) ≤ n ∧ tx = .int .i64 t ∧ CSt w wr F c p b r s ∧ SvB i inn t s) (fun tx _ => n.toNat - (intOf tx).toNat)
          case atStart => exact ⟨0, F, s, by omega, rfl, Hc.out, HB.out⟩
          case round =>
            obtain ⟨t, F2, s2, ht, rfl, hc, hB⟩ := hrel
            have Hc2 := Lib.hid hc
            have HB2 := Lib.hid hB
            clear hc hB Hc HB
            by_cases hltt : (t : Int) < n
            · obtain ⟨s3, v3, x3, hrun, hv3, hB3⟩ := HB2.out.next (by omega)
              have HR := Lib.hid (CorRun Hc2.out HB2.out.ok (by omega) hrun hv3)
              have HB3 := Lib.hid hB3
              clear hrun hv3 hB3
              go_wp2_with (go_at_call 15; refine HR.out.mono ?_; rintro e w4 ⟨rfl, F4, hc4, _, _⟩; have Hc4 := Lib.hid hc4; clear hc4)
              go_roundw
              case rel => exact ⟨t + 1, F4, s3, by omega, by go_num, Hc4.out, HB3.out⟩
              case measure => simp [intOf]; omega
            · have htn : (t : Int) = n := by omega
              have HS := Lib.hid (show s2.idle + sumTo s2.sv i = t ∧ (0 < inn → s2.idle = 0) ∧ (inn = 0 → s2.idle = t) from by
                rcases Nat.eq_zero_or_pos inn with h0 | h0
                · obtain ⟨_, _, h3, h4⟩ := HB2.out.none h0
                  exact ⟨by omega, fun h => by omega, fun _ => h3⟩
                · obtain ⟨_, h2, h3, _⟩ := HB2.out.some h0
                  exact ⟨by omega, fun _ => h2, fun h => by omega⟩)
              have hage := HB2.out.age
              have hsv0 := HB2.out.ok.sv0
              have hsv1 := HB2.out.ok.sv1
              have hi0 := HB2.out.ok.idle0
              have hi1 := HB2.out.ok.idle1
              have HV := Lib.hid (fun (k : Nat) => (show 0 ≤ sumTo s2.sv k ∧ sumTo s2.sv k ≤ k * 1000 from by
                induction k with
                | zero => exact ⟨Int.le_refl _, by simp [sumTo]⟩
                | succ k ih => have h1 := hsv0 k; have h2 := hsv1 k; simp only [sumTo]; omega))
              clear hsv0 hsv1
              go_wp2_with (go_at_call 16; refine (CorIdle Hc2.out).mono ?_; rintro e w5 ⟨rfl, rfl⟩)
              rename World => wl
              go_loopw [13, 12] (fun kx sx wr => ∃ k : Nat, k ≤ i ∧ kx = .int .i64 k ∧ sx = .int .i64 (s2.idle + sumTo s2.sv k) ∧ wr = wl) (fun kx _ _ => i - (intOf kx).toNat)
              case atStart => exact ⟨0, Nat.zero_le _, rfl, by simp [sumTo], rfl⟩
              case round =>
                obtain ⟨k, hk, rfl, rfl, rfl⟩ := hrel
                by_cases hkk : k < i
                · have hki : (k : Int) < i := by omega
                  have h1 := HV.out k
                  have h2 := HV.out (k + 1)
                  have hw : IntKind.i64.wrap (s2.idle + sumTo s2.sv k + s2.sv k) = s2.idle + sumTo s2.sv k + s2.sv k := IntWalk.i64_in _ (by simp only [sumTo] at h2; omega)
                  go_wp2_with (go_at_call 17; refine (CorServed Hc2.out k (by omega)).mono ?_; rintro e w6 ⟨rfl, rfl⟩)
                  go_roundw
                  case rel => exact ⟨k + 1, hkk, by go_num, by simp only [sumTo]; rw [Int.add_assoc], by first | rfl | trivial⟩
                  case measure => simp [intOf]; omega
                · obtain rfl : k = i := by omega
                  obtain ⟨hs1, hs2, hs3⟩ := HS.out
                  rw [hs1]
                  rw [htn] at hage
                  have hw : IntKind.i64.wrap ((inn : Int) + n) = inn + n := IntWalk.i64_in _ (by omega)
                  rcases Nat.eq_zero_or_pos inn with h0 | h0
                  · subst h0
                    have hid : s2.idle = n := by rw [hs3 rfl]; exact htn
                    rw [htn]
                    go_wp2_with (first
                      | (go_at_call 16; refine (CorIdle Hc2.out).mono ?_; rintro e w7 ⟨rfl, rfl⟩)
                      | (go_at_call 18; refine (CorAge Hc2.out).mono ?_; rintro e w7 ⟨rfl, rfl⟩))
                    go_ret
                    exact ⟨rfl, Hc2.out.old⟩
                  · have hid : s2.idle = 0 := hs2 h0
                    have hin : (0 : Int) < inn := by omega
                    have hin2 : ((inn : Int) == 0) = false := by simp; omega
                    rw [htn]
                    go_wp2_with (first
                      | (go_at_call 16; refine (CorIdle Hc2.out).mono ?_; rintro e w7 ⟨rfl, rfl⟩)
                      | (go_at_call 18; refine (CorAge Hc2.out).mono ?_; rintro e w7 ⟨rfl, rfl⟩))
                    go_ret
                    exact ⟨rfl, Hc2.out.old⟩
end Go.Proofs.Ytfijedmdfkelnaa
