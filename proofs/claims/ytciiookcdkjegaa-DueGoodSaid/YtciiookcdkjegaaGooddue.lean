/- DueGood walked. -/
import Derived.Test.YtciiookcdkjegaaLaw13
import Derived.Test.YtciiookcdkjegaadueM
import Derived.Test.YtciiookcdkjegaaSt
import Derived.Test.YtciiookcdkjegaaK
namespace Go.Proofs.Ytciiookcdkjegaa
open Go.RowKit
set_option linter.unusedVariables false
set_option linter.unusedSimpArgs false

/-- What stays, whatever is done. -/
structure GoodI (i : Nat) (S : Ln) : Prop where
  ok : OkS ((i : Int) * 1125899906842624) S
  lags : Lags S
theorem GoodI.next {i : Nat} {S' : Ln} {K : Int} (hi : i < 150) (h : OkS K S') (hk : K ≤ (i : Int) * 1125899906842624 + 1125899906842624) (g : Lags S') : GoodI (i + 1) S' := ⟨h.mono (by omega) (by omega), g⟩
/-- Picked and charged. -/
theorem goodRun_due {i : Nat} {S : Ln} (hi : i < 150) (h : GoodI i S) : GoodI (i + 1) (chargeR (pickdue S).1).1 ∧ S.base ≤ (chargeR (pickdue S).1).1.base := by
  have h0 := pickok_due h.ok
  obtain ⟨c, hc⟩ := pickis_due S
  have h1 : Lags (pickdue S).1 := by rw [hc]; exact h.lags.curs c
  have h2 := base_charge (pickdue S).1
  refine ⟨GoodI.next hi h0.charge (by omega) (h1.charge (room_due h.ok h.lags)), ?_⟩
  rw [hc] at h2 ⊢
  exact h2
theorem goodPick_due {i : Nat} {S : Ln} (hi : i < 150) (h : GoodI i S) : GoodI (i + 1) (pickdue S).1 ∧ S.base ≤ (pickdue S).1.base := by
  obtain ⟨c, hc⟩ := pickis_due S
  have h0 := pickok_due h.ok
  refine ⟨GoodI.next hi h0 (by omega) ?_, ?_⟩
  · rw [hc]; exact h.lags.curs c
  · rw [hc]; exact Int.le_refl _

set_option maxHeartbeats 3200000 in
set_option maxRecDepth 100000 in
theorem DueGood_walk (cu : Int) (l : List It) (n : Nat) (a : Option Addr) (c : Nat) (acts : List Ac) (m : Nat) (aa : Option Addr) (ac : Nat) (w : World) (hn : l.length = n) (hm : n ≤ maxLen) (hs : Sl It.enc 3 w a l) (hna : acts.length = m) (hma : m ≤ maxLen) (hsa : Sl Ac.enc 4 w aa acts) :
    Calls Try.prog 11 #[.agg #[.int .i64 cu, .slice a n c], .slice aa m ac] w fun e w' => e = .returned (.bool true) ∧ Below w.heap.size w w' := by
  have HS := Lib.hid hs
  have Hn := Lib.hid hn
  have HA := Lib.hid hsa
  have Hm := Lib.hid hna
  unfold maxLen at hm hma
  clear hs hn hsa hna
  by_cases h1 : (64 : Int) < n
  · go_enter Try.func11, Try.ntmps11
    go_wp2_with (go_at_call 38; refine (awake13 _).mono ?_; rintro e w1 ⟨rfl, hb⟩; obtain ⟨g0, g1, y0, y1, gl⟩ := blk2 (heap_below (heap_new w _) hb))
    go_ret
    exact ⟨rfl, ((Below.refl _ _).alloc (Nat.le_refl _) _).trans (hb.mono (by simp))⟩
  · by_cases h2 : (150 : Int) < m
    · go_enter Try.func11, Try.ntmps11
      go_wp2_with (go_at_call 38; refine (awake13 _).mono ?_; rintro e w1 ⟨rfl, hb⟩; obtain ⟨g0, g1, y0, y1, gl⟩ := blk2 (heap_below (heap_new w _) hb))
      go_ret
      exact ⟨rfl, ((Below.refl _ _).alloc (Nat.le_refl _) _).trans (hb.mono (by simp))⟩
    · cases hg : goodF ⟨cu, l⟩ with
      | false =>
        have HE := Lib.hid (fun W (hW : Below w.heap.size w W) => Seed_err_due ⟨cu, l⟩ n a c 0 W Hn.out (by omega) (HS.out.below hW) (.inr hg))
        clear hg
        go_enter Try.func11, Try.ntmps11
        go_wp2_with (first
          | (go_at_call 38; refine (awake13 _).mono ?_; rintro e w1 ⟨rfl, hb⟩; obtain ⟨g0, g1, y0, y1, gl⟩ := blk2 (heap_below (heap_new w _) hb); have hb0 := ((Below.refl w.heap.size w).alloc (Nat.le_refl _) _).trans (hb.mono (by simp)))
          | (go_at_call 45; refine (HE.out _ hb0).mono ?_; rintro e w2 ⟨rfl, hb2⟩))
        go_ret
        exact ⟨rfl, hb0.trans (hb2.mono hb0.size)⟩
      | true =>
        have HE := Lib.hid (fun W (hW : Below w.heap.size w W) => Seed_ok_due ⟨cu, l⟩ n a c 0 W Hn.out (HS.out.below hW) (by decide) hg)
        have hI : GoodI 0 (seedR ⟨cu, l⟩ 0) := ⟨(OkS.seed (by decide) (by decide) hg).mono (by omega) (by omega), Lags.seed hg⟩
        have HI := Lib.hid hI
        clear hg hI
        go_enter Try.func11, Try.ntmps11
        go_wp2_with (first
          | (go_at_call 38; refine (awake13 _).mono ?_; rintro e w1 ⟨rfl, hb⟩; obtain ⟨g0, g1, y0, y1, gl⟩ := blk2 (heap_below (heap_new w _) hb); have hb0 := ((Below.refl w.heap.size w).alloc (Nat.le_refl _) _).trans (hb.mono (by simp)))
          | (go_at_call 45; refine (HE.out _ hb0).mono ?_; go_loud (rintro e w2 hnp); obtain ⟨b, F, rfl, hq, _, _⟩ := hnp.st hb0; have Hq := Lib.hid hq; clear hq hnp)
          | (go_at_call 46; refine (Base_due Hq.out.q).mono ?_; rintro e w3 ⟨rfl, rfl⟩))
        go_loopw [7, 8] (fun bx ix wr => ∃ (i : Nat) (F : Nat → Prop) (S : Ln), i ≤ m ∧ ix = .int .i64 i ∧ bx = .int .i64 S.base ∧ QSt w wr F b S ∧ GoodI i S) (fun _ ix _ => m - (intOf ix).toNat)
        case atStart => exact ⟨0, F, _, Nat.zero_le _, rfl, rfl, Hq.out, HI.out⟩
        case round =>
          obtain ⟨i, F, S, hi, rfl, rfl, hq, hI⟩ := hrel
          by_cases hlt : i < m
          · obtain ⟨r, off, rfl, hr, hcc⟩ := HA.out (by intro h; have h1 := Hm.out; rw [h] at h1; simp at h1; omega)
            obtain ⟨x, hx⟩ : ∃ y, acts[i]? = some y := ⟨_, List.getElem?_eq_getElem (by rw [Hm.out]; exact hlt)⟩
            have e0 := (hq.old.cell (p := ⟨r, off + i * 4 + 0, none⟩) hr).trans (hcc i x hx 0 _ rfl)
            have e1 := (hq.old.cell (p := ⟨r, off + i * 4 + 1, none⟩) hr).trans (hcc i x hx 1 _ rfl)
            have e2 := (hq.old.cell (p := ⟨r, off + i * 4 + 2, none⟩) hr).trans (hcc i x hx 2 _ rfl)
            have e3 := (hq.old.cell (p := ⟨r, off + i * 4 + 3, none⟩) hr).trans (hcc i x hx 3 _ rfl)
            simp only [Nat.add_zero] at e0
            have hki : (i : Int) < m := by omega
            have hi150 : i < 150 := by omega
            have hq1 : QSt w (wr.alloc (.cells #[.int .i64 x.op, .int .i64 x.id, .int .i64 x.w, .int .i64 x.lag] 75)) F b S := hq.below ((Below.refl _ _).alloc (Nat.le_refl _) _)
            have Hq1 := Lib.hid hq1
            have HI := Lib.hid hI
            have hK : (i : Int) * 1125899906842624 ≤ 1151795604700004352 := by omega
            clear hcc hx hq hI hq1
            have hcase : x.op = 0 ∨ (x.op ≠ 0 ∧ x.op = 2) ∨ (x.op ≠ 0 ∧ x.op ≠ 2 ∧ x.op = 3) ∨ (x.op ≠ 0 ∧ x.op ≠ 2 ∧ x.op ≠ 3 ∧ x.op = 4) ∨ (x.op ≠ 0 ∧ x.op ≠ 2 ∧ x.op ≠ 3 ∧ x.op ≠ 4) := by omega
            rcases hcase with o1 | ⟨o1, o2⟩ | ⟨o1, o2, o3⟩ | ⟨o1, o2, o3, o4⟩ | ⟨o1, o2, o3, o4⟩
            · have b0 : (x.op == 0) = true := by simpa using o1
              obtain ⟨S2, hS2⟩ : ∃ S2, S2 = enterR helddue S x.id x.w x.lag := ⟨_, rfl⟩
              have HE := Lib.hid (callsNext Hq1.out (Enter_due Hq1.out.q HI.out.ok hK x.id x.w x.lag rfl))
              rw [← hS2] at HE
              have hI2 : GoodI (i + 1) S2 := by rw [hS2]; exact GoodI.next hi150 (HI.out.ok.enter helddue _ _ _ (by omega)) (by omega) (HI.out.lags.enter _ _ _ _ HI.out.ok.len)
              have hge : S.base ≤ S2.base := by rw [hS2]; exact base_enter _ _ _ _ _
              clear o1
              have HI2 := Lib.hid hI2
              have hle : ¬ S2.base < S.base := by omega
              clear hS2 hI2
              go_wp2_with (first
                | (go_at_call 40; refine HE.out.mono ?_; rintro e w4 ⟨rfl, F4, hq4, _, _⟩; have Hq4 := Lib.hid hq4; have Hf := Lib.hid (Form_due hq4.q HI2.out.ok); clear hq4)
                | (go_at_call 47; refine HE.out.mono ?_; rintro e w4 ⟨rfl, F4, hq4, _, _⟩; have Hq4 := Lib.hid hq4; have Hf := Lib.hid (Form_due hq4.q HI2.out.ok); clear hq4)
                | (go_at_call 48; refine HE.out.mono ?_; rintro e w4 ⟨rfl, F4, hq4, _, _⟩; have Hq4 := Lib.hid hq4; have Hf := Lib.hid (Form_due hq4.q HI2.out.ok); clear hq4)
                | (go_at_call 41; first
                  | (refine HE.out.mono ?_; rintro e w4 ⟨rfl, F4, hq4, _, _⟩; have Hq4 := Lib.hid hq4; have Hf := Lib.hid (Form_due hq4.q HI2.out.ok); clear hq4)
                  | (refine HP.out.mono ?_; rintro e w3 ⟨rfl, F3, hq3, _, _⟩; have Hq3 := Lib.hid hq3; clear hq3))
                | (go_at_call 42; refine (HE1.out _ _ Hq3.out).mono ?_; rintro e w4 ⟨rfl, F4, hq4, _, _⟩; have Hq4 := Lib.hid hq4; have Hf := Lib.hid (Form_due hq4.q HI2.out.ok); clear hq4)
                | (go_at_call 43; refine Hf.out.mono ?_; rintro e w6 ⟨a6, c6, rfl, ho, hb6⟩; have Hs6 := Lib.hid (Sl.of_own It.len ho); rw [List.length_map]; have Hq6 := Lib.hid (Hq4.out.below hb6); clear ho hb6)
                | (go_at_call 35; refine (GoodF_any S2.cur (S2.l.map (itOf S2.base)) S2.l.length a6 c6 _ (List.length_map _) (by have := HI2.out.ok.len; omega) Hs6.out (good_of_lags HI2.out.ok HI2.out.lags)).mono ?_; rintro e w7 ⟨rfl, hb7⟩; have Hq7 := Lib.hid (Hq6.out.below hb7); clear hb7)
                | (go_at_call 46; refine (Base_due Hq7.out.q).mono ?_; rintro e w8 ⟨rfl, rfl⟩))
              go_roundw
              case rel => exact ⟨i + 1, _, S2, hlt, by go_num, rfl, Hq7.out, HI2.out⟩
              case measure => simp [intOf]; omega
            · have b0 : (x.op == 0) = false := by simpa using o1
              have b1 : (x.op == 2) = true := by simpa using o2
              obtain ⟨S2, v2, f2, hr⟩ : ∃ S2 v2 f2, leaveR S x.id = (S2, v2, f2) := ⟨_, _, _, rfl⟩
              have HE := Lib.hid (callsNext Hq1.out (Leave_due Hq1.out.q HI.out.ok x.id hr))
              have hS2 : S2 = (leaveR S x.id).1 := by rw [hr]
              have hI2 : GoodI (i + 1) S2 := by rw [hS2]; exact GoodI.next hi150 (HI.out.ok.leave x.id) (by omega) (HI.out.lags.leave _)
              have hge : S.base ≤ S2.base := by rw [hS2]; exact base_leave _ _
              clear hr o1 o2
              have HI2 := Lib.hid hI2
              have hle : ¬ S2.base < S.base := by omega
              clear hS2 hI2
              go_wp2_with (first
                | (go_at_call 40; refine HE.out.mono ?_; rintro e w4 ⟨rfl, F4, hq4, _, _⟩; have Hq4 := Lib.hid hq4; have Hf := Lib.hid (Form_due hq4.q HI2.out.ok); clear hq4)
                | (go_at_call 47; refine HE.out.mono ?_; rintro e w4 ⟨rfl, F4, hq4, _, _⟩; have Hq4 := Lib.hid hq4; have Hf := Lib.hid (Form_due hq4.q HI2.out.ok); clear hq4)
                | (go_at_call 48; refine HE.out.mono ?_; rintro e w4 ⟨rfl, F4, hq4, _, _⟩; have Hq4 := Lib.hid hq4; have Hf := Lib.hid (Form_due hq4.q HI2.out.ok); clear hq4)
                | (go_at_call 41; first
                  | (refine HE.out.mono ?_; rintro e w4 ⟨rfl, F4, hq4, _, _⟩; have Hq4 := Lib.hid hq4; have Hf := Lib.hid (Form_due hq4.q HI2.out.ok); clear hq4)
                  | (refine HP.out.mono ?_; rintro e w3 ⟨rfl, F3, hq3, _, _⟩; have Hq3 := Lib.hid hq3; clear hq3))
                | (go_at_call 42; refine (HE1.out _ _ Hq3.out).mono ?_; rintro e w4 ⟨rfl, F4, hq4, _, _⟩; have Hq4 := Lib.hid hq4; have Hf := Lib.hid (Form_due hq4.q HI2.out.ok); clear hq4)
                | (go_at_call 43; refine Hf.out.mono ?_; rintro e w6 ⟨a6, c6, rfl, ho, hb6⟩; have Hs6 := Lib.hid (Sl.of_own It.len ho); rw [List.length_map]; have Hq6 := Lib.hid (Hq4.out.below hb6); clear ho hb6)
                | (go_at_call 35; refine (GoodF_any S2.cur (S2.l.map (itOf S2.base)) S2.l.length a6 c6 _ (List.length_map _) (by have := HI2.out.ok.len; omega) Hs6.out (good_of_lags HI2.out.ok HI2.out.lags)).mono ?_; rintro e w7 ⟨rfl, hb7⟩; have Hq7 := Lib.hid (Hq6.out.below hb7); clear hb7)
                | (go_at_call 46; refine (Base_due Hq7.out.q).mono ?_; rintro e w8 ⟨rfl, rfl⟩))
              go_roundw
              case rel => exact ⟨i + 1, _, S2, hlt, by go_num, rfl, Hq7.out, HI2.out⟩
              case measure => simp [intOf]; omega
            · have b0 : (x.op == 0) = false := by simpa using o1
              have b1 : (x.op == 2) = false := by simpa using o2
              have b2 : (x.op == 3) = true := by simpa using o3
              obtain ⟨S2, f2, hr⟩ : ∃ S2 f2, weighR S x.id x.w = (S2, f2) := ⟨_, _, rfl⟩
              have HE := Lib.hid (callsNext Hq1.out (Weigh_due Hq1.out.q HI.out.ok x.id x.w hr))
              have hS2 : S2 = (weighR S x.id x.w).1 := by rw [hr]
              have hI2 : GoodI (i + 1) S2 := by rw [hS2]; exact GoodI.next hi150 (HI.out.ok.weigh x.id x.w) (by omega) (HI.out.lags.weigh _ _)
              have hge : S.base ≤ S2.base := by rw [hS2]; exact base_weigh _ _ _
              clear hr o1 o2 o3
              have HI2 := Lib.hid hI2
              have hle : ¬ S2.base < S.base := by omega
              clear hS2 hI2
              go_wp2_with (first
                | (go_at_call 40; refine HE.out.mono ?_; rintro e w4 ⟨rfl, F4, hq4, _, _⟩; have Hq4 := Lib.hid hq4; have Hf := Lib.hid (Form_due hq4.q HI2.out.ok); clear hq4)
                | (go_at_call 47; refine HE.out.mono ?_; rintro e w4 ⟨rfl, F4, hq4, _, _⟩; have Hq4 := Lib.hid hq4; have Hf := Lib.hid (Form_due hq4.q HI2.out.ok); clear hq4)
                | (go_at_call 48; refine HE.out.mono ?_; rintro e w4 ⟨rfl, F4, hq4, _, _⟩; have Hq4 := Lib.hid hq4; have Hf := Lib.hid (Form_due hq4.q HI2.out.ok); clear hq4)
                | (go_at_call 41; first
                  | (refine HE.out.mono ?_; rintro e w4 ⟨rfl, F4, hq4, _, _⟩; have Hq4 := Lib.hid hq4; have Hf := Lib.hid (Form_due hq4.q HI2.out.ok); clear hq4)
                  | (refine HP.out.mono ?_; rintro e w3 ⟨rfl, F3, hq3, _, _⟩; have Hq3 := Lib.hid hq3; clear hq3))
                | (go_at_call 42; refine (HE1.out _ _ Hq3.out).mono ?_; rintro e w4 ⟨rfl, F4, hq4, _, _⟩; have Hq4 := Lib.hid hq4; have Hf := Lib.hid (Form_due hq4.q HI2.out.ok); clear hq4)
                | (go_at_call 43; refine Hf.out.mono ?_; rintro e w6 ⟨a6, c6, rfl, ho, hb6⟩; have Hs6 := Lib.hid (Sl.of_own It.len ho); rw [List.length_map]; have Hq6 := Lib.hid (Hq4.out.below hb6); clear ho hb6)
                | (go_at_call 35; refine (GoodF_any S2.cur (S2.l.map (itOf S2.base)) S2.l.length a6 c6 _ (List.length_map _) (by have := HI2.out.ok.len; omega) Hs6.out (good_of_lags HI2.out.ok HI2.out.lags)).mono ?_; rintro e w7 ⟨rfl, hb7⟩; have Hq7 := Lib.hid (Hq6.out.below hb7); clear hb7)
                | (go_at_call 46; refine (Base_due Hq7.out.q).mono ?_; rintro e w8 ⟨rfl, rfl⟩))
              go_roundw
              case rel => exact ⟨i + 1, _, S2, hlt, by go_num, rfl, Hq7.out, HI2.out⟩
              case measure => simp [intOf]; omega
            · have b0 : (x.op == 0) = false := by simpa using o1
              have b1 : (x.op == 2) = false := by simpa using o2
              have b2 : (x.op == 3) = false := by simpa using o3
              have b3 : (x.op == 4) = true := by simpa using o4
              obtain ⟨S2, v2, f2, hr⟩ : ∃ S2 v2 f2, pickdue S = (S2, v2, f2) := ⟨_, _, _, rfl⟩
              have HE := Lib.hid (callsNext Hq1.out (Pick_due Hq1.out.q HI.out.ok hr))
              have hS2 : S2 = (pickdue S).1 := by rw [hr]
              obtain ⟨hI2, hge⟩ := goodPick_due hi150 HI.out
              rw [← hS2] at hI2 hge
              clear hr o1 o2 o3 o4
              have HI2 := Lib.hid hI2
              have hle : ¬ S2.base < S.base := by omega
              clear hS2 hI2
              go_wp2_with (first
                | (go_at_call 40; refine HE.out.mono ?_; rintro e w4 ⟨rfl, F4, hq4, _, _⟩; have Hq4 := Lib.hid hq4; have Hf := Lib.hid (Form_due hq4.q HI2.out.ok); clear hq4)
                | (go_at_call 47; refine HE.out.mono ?_; rintro e w4 ⟨rfl, F4, hq4, _, _⟩; have Hq4 := Lib.hid hq4; have Hf := Lib.hid (Form_due hq4.q HI2.out.ok); clear hq4)
                | (go_at_call 48; refine HE.out.mono ?_; rintro e w4 ⟨rfl, F4, hq4, _, _⟩; have Hq4 := Lib.hid hq4; have Hf := Lib.hid (Form_due hq4.q HI2.out.ok); clear hq4)
                | (go_at_call 41; first
                  | (refine HE.out.mono ?_; rintro e w4 ⟨rfl, F4, hq4, _, _⟩; have Hq4 := Lib.hid hq4; have Hf := Lib.hid (Form_due hq4.q HI2.out.ok); clear hq4)
                  | (refine HP.out.mono ?_; rintro e w3 ⟨rfl, F3, hq3, _, _⟩; have Hq3 := Lib.hid hq3; clear hq3))
                | (go_at_call 42; refine (HE1.out _ _ Hq3.out).mono ?_; rintro e w4 ⟨rfl, F4, hq4, _, _⟩; have Hq4 := Lib.hid hq4; have Hf := Lib.hid (Form_due hq4.q HI2.out.ok); clear hq4)
                | (go_at_call 43; refine Hf.out.mono ?_; rintro e w6 ⟨a6, c6, rfl, ho, hb6⟩; have Hs6 := Lib.hid (Sl.of_own It.len ho); rw [List.length_map]; have Hq6 := Lib.hid (Hq4.out.below hb6); clear ho hb6)
                | (go_at_call 35; refine (GoodF_any S2.cur (S2.l.map (itOf S2.base)) S2.l.length a6 c6 _ (List.length_map _) (by have := HI2.out.ok.len; omega) Hs6.out (good_of_lags HI2.out.ok HI2.out.lags)).mono ?_; rintro e w7 ⟨rfl, hb7⟩; have Hq7 := Lib.hid (Hq6.out.below hb7); clear hb7)
                | (go_at_call 46; refine (Base_due Hq7.out.q).mono ?_; rintro e w8 ⟨rfl, rfl⟩))
              go_roundw
              case rel => exact ⟨i + 1, _, S2, hlt, by go_num, rfl, Hq7.out, HI2.out⟩
              case measure => simp [intOf]; omega
            · have b0 : (x.op == 0) = false := by simpa using o1
              have b1 : (x.op == 2) = false := by simpa using o2
              have b2 : (x.op == 3) = false := by simpa using o3
              have b3 : (x.op == 4) = false := by simpa using o4
              obtain ⟨S1, v1, f1, hr1⟩ : ∃ S2 v2 f2, pickdue S = (S2, v2, f2) := ⟨_, _, _, rfl⟩
              obtain ⟨S2, v2, f2, hr⟩ : ∃ S2 v2 f2, chargeR S1 = (S2, v2, f2) := ⟨_, _, _, rfl⟩
              have HP := Lib.hid (callsNext Hq1.out (Pick_due Hq1.out.q HI.out.ok hr1))
              have hS1 : S1 = (pickdue S).1 := by rw [hr1]
              have ho1 : OkS ((i : Int) * 1125899906842624) S1 := by rw [hS1]; exact pickok_due HI.out.ok
              have HE1 := Lib.hid (fun W G (hW : QSt w W G b S1) => callsNext hW (Charge_due hW.q ho1 hr))
              have hS2 : S2 = (chargeR (pickdue S).1).1 := by rw [← hS1, hr]
              obtain ⟨hI2, hge⟩ := goodRun_due hi150 HI.out
              rw [← hS2] at hI2 hge
              clear hr hr1 hS1 ho1 o1 o2 o3 o4
              have HI2 := Lib.hid hI2
              have hle : ¬ S2.base < S.base := by omega
              clear hS2 hI2
              go_wp2_with (first
                | (go_at_call 40; refine HE.out.mono ?_; rintro e w4 ⟨rfl, F4, hq4, _, _⟩; have Hq4 := Lib.hid hq4; have Hf := Lib.hid (Form_due hq4.q HI2.out.ok); clear hq4)
                | (go_at_call 47; refine HE.out.mono ?_; rintro e w4 ⟨rfl, F4, hq4, _, _⟩; have Hq4 := Lib.hid hq4; have Hf := Lib.hid (Form_due hq4.q HI2.out.ok); clear hq4)
                | (go_at_call 48; refine HE.out.mono ?_; rintro e w4 ⟨rfl, F4, hq4, _, _⟩; have Hq4 := Lib.hid hq4; have Hf := Lib.hid (Form_due hq4.q HI2.out.ok); clear hq4)
                | (go_at_call 41; first
                  | (refine HE.out.mono ?_; rintro e w4 ⟨rfl, F4, hq4, _, _⟩; have Hq4 := Lib.hid hq4; have Hf := Lib.hid (Form_due hq4.q HI2.out.ok); clear hq4)
                  | (refine HP.out.mono ?_; rintro e w3 ⟨rfl, F3, hq3, _, _⟩; have Hq3 := Lib.hid hq3; clear hq3))
                | (go_at_call 42; refine (HE1.out _ _ Hq3.out).mono ?_; rintro e w4 ⟨rfl, F4, hq4, _, _⟩; have Hq4 := Lib.hid hq4; have Hf := Lib.hid (Form_due hq4.q HI2.out.ok); clear hq4)
                | (go_at_call 43; refine Hf.out.mono ?_; rintro e w6 ⟨a6, c6, rfl, ho, hb6⟩; have Hs6 := Lib.hid (Sl.of_own It.len ho); rw [List.length_map]; have Hq6 := Lib.hid (Hq4.out.below hb6); clear ho hb6)
                | (go_at_call 35; refine (GoodF_any S2.cur (S2.l.map (itOf S2.base)) S2.l.length a6 c6 _ (List.length_map _) (by have := HI2.out.ok.len; omega) Hs6.out (good_of_lags HI2.out.ok HI2.out.lags)).mono ?_; rintro e w7 ⟨rfl, hb7⟩; have Hq7 := Lib.hid (Hq6.out.below hb7); clear hb7)
                | (go_at_call 46; refine (Base_due Hq7.out.q).mono ?_; rintro e w8 ⟨rfl, rfl⟩))
              go_roundw
              case rel => exact ⟨i + 1, _, S2, hlt, by go_num, rfl, Hq7.out, HI2.out⟩
              case measure => simp [intOf]; omega
          · go_wp2_with fail
            go_ret
            exact ⟨rfl, hq.old⟩
end Go.Proofs.Ytciiookcdkjegaa
