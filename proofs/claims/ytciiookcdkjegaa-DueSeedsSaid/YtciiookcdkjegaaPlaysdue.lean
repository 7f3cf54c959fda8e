/- DuePlays walked. -/
import Derived.Test.YtciiookcdkjegaaStepdue
import Derived.Test.YtciiookcdkjegaaLaw13
namespace Go.Proofs.Ytciiookcdkjegaa
open Go.RowKit
set_option linter.unusedVariables false
set_option linter.unusedSimpArgs false


set_option maxHeartbeats 6400000 in
set_option maxRecDepth 100000 in
theorem step6_due {w0 w : World} {F G : Nat → Prop} {b r i : Nat} {S : Ln} (x : Ac) (hp : QSt w0 w F b S) (hq : RSt w0 w G r 2 S) (hd : ∀ k, F k → ¬ G k) (hI : PlayI i S) (hi : i < 200) (o1 : x.op ≠ 0 ∧ x.op ≠ 1 ∧ x.op ≠ 2 ∧ x.op ≠ 3 ∧ x.op ≠ 4 ∧ x.op ≠ 5) :
    Calls Try.prog 44 #[.pointer (some ⟨b, 0, none⟩), .pointer (some ⟨r, 0, none⟩), .agg #[.int .i64 x.op, .int .i64 x.id, .int .i64 x.w, .int .i64 x.lag]] w fun e w' => e = .returned (.bool true) ∧ TwoAt 2 w0 b r (i + 1) w' := by
  have HI := Lib.hid hI
  have Hlt := Lib.hid hp.lt
  have Hp0 := Lib.hid (hp.below ((Below.refl _ _).alloc (Nat.le_refl _) (.cells #[.int .i64 x.op, .int .i64 x.id, .int .i64 x.w, .int .i64 x.lag] 75)))
  have Hq0 := Lib.hid (hq.below ((Below.refl _ _).alloc (Nat.le_refl _) (.cells #[.int .i64 x.op, .int .i64 x.id, .int .i64 x.w, .int .i64 x.lag] 75)))
  have HX0 := Lib.hid (heap_new w (.cells #[.int .i64 x.op, .int .i64 x.id, .int .i64 x.w, .int .i64 x.lag] 75))
  have Hd := Lib.hid hd
  have hK : (i : Int) * 1125899906842624 ≤ 1151795604700004352 := by omega
  have hK2 : ((i + 1 : Nat) : Int) * 1125899906842624 ≤ 1152921504606846976 := by omega
  clear hp hq hd hI
  have b0 : (x.op == 0) = false := by simp; omega
  have b1 : (x.op == 1) = false := by simp; omega
  have b2 : (x.op == 2) = false := by simp; omega
  have b3 : (x.op == 3) = false := by simp; omega
  have b4 : (x.op == 4) = false := by simp; omega
  have b5 : (x.op == 5) = false := by simp; omega
  obtain ⟨G5, rfl⟩ : ∃ G5, G5 = G := ⟨_, rfl⟩
  have Hp := Lib.hid (Hp0.out.below (Below.refl _ _).drew)
  have Hq := Lib.hid (Hq0.out.below (Below.refl _ _).drew)
  have HX := Lib.hid (heap_drew HX0.out)
  obtain ⟨S2, hS2⟩ : ∃ S2, S2 = (⟨S.base, -1, S.l⟩ : Ln) := ⟨_, rfl⟩
  obtain ⟨v, hv⟩ : ∃ v, (S.cur != -1) = v := ⟨_, rfl⟩
  have hbk : backR S = (S2, v) := by rw [hS2, ← hv]; rfl
  have hI2 : PlayI (i + 1) S2 := by rw [hS2]; exact HI.out.pick hi (HI.out.ok.curs (-1) (.inl rfl)) ⟨-1, rfl⟩
  have HE1 := Lib.hid (callsNext Hp.out (Back_due Hp.out.q hbk))
  have HI2 := Lib.hid hI2
  have HS2 := Lib.hid hS2
  obtain ⟨ra0, rc0, hr0⟩ := Hq.out.cells
  obtain ⟨m0, m1, m2, m3, n0, n1, n2, n3, ml⟩ := blk4 hr0
  have hrne : r ≠ w.heap.size := by
    obtain ⟨ra, rc, hrb⟩ := Hq0.out.q
    intro e
    have h1 := hrb.1.blk
    rw [e] at h1
    have h2 := HX0.out
    rw [h2] at h1
    simp at h1
  have hcase : (decide (0 ≤ S.cur) = false ∧ v = false) ∨ (decide (0 ≤ S.cur) = true ∧ v = true) := by
    rw [← hv]
    rcases HI.out.ok.cur with h | ⟨y, hy, h⟩
    · left; rw [h]; exact ⟨rfl, rfl⟩
    · right
      have := (HI.out.ok.pts y hy).1
      exact ⟨decide_eq_true (by omega), by simp; omega⟩
  clear hbk hI2 hS2 hv o1 hr0
  rcases hcase with ⟨hc, rfl⟩ | ⟨hc, rfl⟩
  all_goals
    go_enter Try.func44, Try.ntmps44
    go_wp2_with fail
    refine wp_region_chain 164 [0, 1, 0, 4, 12, 28, 60, 127] [(0, none), (2, none), (3, none), (4, none), (5, none), (6, none), (1, some [2, 3, 4, 5, 6]), (7, none)] (by kernel_rfl) (by kernel_rfl) (by rfl) ?_; simp only [chain, Obs, List.getElem?_toArray, List.getElem?_cons_zero, List.getElem?_cons_succ]
    go_wp2_with (first
      | (with_reducible refine And.intro (by first | with_reducible exact True.intro | with_reducible rfl | go_simp) ?_)
      | (go_at_call 94; (with_reducible refine HE1.out.mono ?_)
         rintro e w4 ⟨rfl, F4, hp4, hf4, hs4⟩
         have Hq4 := Lib.hid (Hq.out.fr hf4 (fun k h1 h2 => Hd.out k h2 h1) Hp.out.new)
         obtain ⟨ra1, rc1, hr1⟩ := Hq4.out.cells
         obtain ⟨k0, k1, k2, k3, y0, y1, y2, y3, kl⟩ := blk4 hr1
         have Hd5 := Lib.hid (fun k (h1 : F4 k) (h2 : G5 k) => (hs4 k h1).elim (fun h => Hd.out k h h2) (fun h => by have := Hq.out.lt k h2; omega) : ∀ k, F4 k → ¬ G5 k)
         have hfS : Fr G5 w4 (w4.setCell ⟨r, 2, none⟩ (.int .i64 (-1))) := (Fr.refl G5 w4).setCell (p := ⟨r, 2, none⟩) (fun _ => by obtain ⟨a, c, _, e⟩ := Hq4.out.q; rw [e]; exact .inl rfl) _
         have hp5 := hp4.fr hfS Hd5.out Hq4.out.new
         have hq5 : RSt w0 (w4.setCell ⟨r, 2, none⟩ (.int .i64 (-1))) G5 r 2 S2 := by
           obtain ⟨a, c, h1, h2⟩ := Hq4.out.q
           rw [HS2.out]
           exact ⟨⟨a, c, h1.cur (-1), h2⟩, Hq4.out.new, Hq4.out.old.trans (hfS.below Hq4.out.old.size Hq4.out.new)⟩
         have Hpq5 := Lib.hid (And.intro hp5 hq5)
         clear hp4 hf4 hs4 hr1 hfS hp5 hq5 m0 m1 m2 m3 n0 n1 n2 n3 ml))
    refine NoPanic.normal ?_
    go_wp2_with fail
    clear k0 k1 k2 k3 y0 y1 y2 y3 kl
    obtain ⟨w5, hw5⟩ : ∃ w5, w5 = w4.setCell ⟨r, 2, none⟩ (.int .i64 (-1)) := ⟨_, rfl⟩
    rw [← hw5] at Hpq5 ⊢
    have Hp5 := Lib.hid Hpq5.out.1
    have Hq5 := Lib.hid Hpq5.out.2
    clear hw5
    obtain ⟨ra, rc, hrb⟩ := Hq5.out.cells
    obtain ⟨c0, c1, c2, c3, f0, f1, f2, f3, rl⟩ := blk4 hrb
    have HRB := Lib.hid hrb
    have Hq6 := Lib.hid (Hq5.out.below (Below.refl _ _).drew)
    have Hp6 := Lib.hid (Hp5.out.below (Below.refl _ _).drew)
    have HF1 := Lib.hid (Form_due Hp6.out.q HI2.out.ok)
    have hlen := HI2.out.ok.len
    clear hrb
    refine wp_region_chain 164 [0, 1, 3, 0, 15, 31, 63, 127, 255, 127, 639, 1663, 3711, 8191, 16383, 32767] [(0, none), (3, none), (1, some [3]), (2, some [3]), (4, some []), (5, some []), (6, none), (7, none), (9, none), (10, none), (11, none), (12, none), (8, some [9, 10, 11, 12]), (13, none), (14, none), (15, none)] (by kernel_rfl) (by kernel_rfl) (by rfl) ?_; simp only [chain, Obs, List.getElem?_toArray, List.getElem?_cons_zero, List.getElem?_cons_succ]
    go_wp2_with (first
      | (with_reducible refine And.intro (by first | with_reducible exact True.intro | with_reducible rfl | go_simp) ?_)
      | (go_at_call 43; refine HF1.out.mono ?_; rintro e w6 ⟨a6, k6, rfl, ho, hb6⟩; have Hs6 := Lib.hid (Sl.of_own It.len ho); rw [List.length_map]; have Hq7 := Lib.hid (Hq6.out.below hb6); have Hp7 := Lib.hid (Hp6.out.below hb6); have h7 := heap_below (heap_drew HRB.out) hb6; obtain ⟨c0, c1, c2, c3, f0, f1, f2, f3, rl⟩ := blk4 h7; have HRB7 := Lib.hid h7; clear ho hb6 h7)
      | (go_at_call 50; refine (own_due S2.cur (S2.l.map (itOf S2.base)) S2.l.length a6 k6 _ (List.length_map _) (by omega) Hs6.out).mono ?_; rintro e w7 ⟨a7, k7, rfl, ho, hb7⟩; have Hs7 := Lib.hid (Sl.of_own It.len ho); rw [List.length_map]; have Hq8 := Lib.hid (Hq7.out.below hb7); have Hp8 := Lib.hid (Hp7.out.below hb7); have h8 := heap_below HRB7.out hb7; obtain ⟨c0, c1, c2, c3, f0, f1, f2, f3, rl⟩ := blk4 h8; have HRB8 := Lib.hid h8; clear ho hb7 h8)
      | (go_at_call 75; refine (rFormS Hq8.out HI2.out.ok).mono ?_; rintro e w8 ⟨a8, k8, rfl, ho, hb8⟩; have Hs8 := Lib.hid (Sl.of_own It.len ho); have Hs78 := Lib.hid (Hs7.out.below hb8); rw [List.length_map]; have Hq9 := Lib.hid (Hq8.out.below hb8); have Hp9 := Lib.hid (Hp8.out.below hb8); have h9 := heap_below HRB8.out hb8; obtain ⟨c0, c1, c2, c3, f0, f1, f2, f3, rl⟩ := blk4 h9; have HRB9 := Lib.hid h9; clear ho hb8 h9)
      | (go_at_call 74; refine (rSame_any S2.cur S2.cur (S2.l.map (itOf S2.base)) (S2.l.map (itOf S2.base)) S2.l.length S2.l.length a7 a8 k7 k8 _ (List.length_map _) (List.length_map _) (by omega) (by omega) Hs78.out Hs8.out rfl).mono ?_; rintro e w9 ⟨rfl, hb9⟩; have Hq10 := Lib.hid (Hq9.out.below hb9); have Hp10 := Lib.hid (Hp9.out.below hb9); have h10 := heap_below HRB9.out hb9; obtain ⟨c0, c1, c2, c3, f0, f1, f2, f3, rl⟩ := blk4 h10; have HRB10 := Lib.hid h10; clear hb9 h10)
      | (go_at_call 46; refine (Base_due Hp10.out.q).mono ?_; rintro e w11 ⟨rfl, rfl⟩))
    refine NoPanic.normal ?_
    go_wp2_with fail
    go_ret
    exact ⟨rfl, F4, G5, S2, Hp10.out, Hq10.out, Hd5.out, HI2.out⟩

theorem step_due {w0 w : World} {b r i : Nat} (x : Ac) (h : TwoAt 2 w0 b r i w) (hi : i < 200) :
    Calls Try.prog 44 #[.pointer (some ⟨b, 0, none⟩), .pointer (some ⟨r, 0, none⟩), .agg #[.int .i64 x.op, .int .i64 x.id, .int .i64 x.w, .int .i64 x.lag]] w fun e w' => e = .returned (.bool true) ∧ TwoAt 2 w0 b r (i + 1) w' := by
  obtain ⟨F, G, S, hp, hq, hd, hI⟩ := h
  by_cases h0 : x.op = 0
  · exact step0_due x hp hq hd hI hi h0
  by_cases h1 : x.op = 1
  · exact step1_due x hp hq hd hI hi h1
  by_cases h2 : x.op = 2
  · exact step2_due x hp hq hd hI hi h2
  by_cases h3 : x.op = 3
  · exact step3_due x hp hq hd hI hi h3
  by_cases h4 : x.op = 4
  · exact step4_due x hp hq hd hI hi h4
  by_cases h5 : x.op = 5
  · exact step5_due x hp hq hd hI hi h5
  exact step6_due x hp hq hd hI hi ⟨h0, h1, h2, h3, h4, h5⟩
set_option maxHeartbeats 3200000 in
set_option maxRecDepth 100000 in
theorem DuePlays_walk (base : Int) (acts : List Ac) (m : Nat) (aa : Option Addr) (ac : Nat) (w : World) (hbs : I64 base) (hna : acts.length = m) (hma : m ≤ maxLen) (hac : Sl Ac.enc 4 w aa acts) :
    Calls Try.prog 10 #[.int .i64 base, .slice aa m ac] w fun e w' => e = .returned (.bool true) ∧ Below w.heap.size w w' := by
  have HA := Lib.hid hac
  have Hm := Lib.hid hna
  unfold maxLen at hma
  clear hac hna
  by_cases h1 : (200 : Int) < m
  · go_enter Try.func10, Try.ntmps10
    go_wp2_with (go_at_call 38; refine (awake13 _).mono ?_; rintro e w1 ⟨rfl, hb⟩)
    go_ret
    exact ⟨rfl, hb⟩
  · by_cases hB : BaseOk base
    · have HN := Lib.hid (fun W => New_ok_due base W hB)
      have HR := Lib.hid (fun W => rNew_ok 2 base W (by omega) hB)
      have HB := Lib.hid hB
      clear hB
      go_enter Try.func10, Try.ntmps10
      go_wp2_with (first
        | (go_at_call 38; refine (awake13 _).mono ?_; rintro e w1 ⟨rfl, hb1⟩)
        | (go_at_call 39; refine (HN.out _).mono ?_; go_loud (rintro e w2 hnp); obtain ⟨b, F, rfl, hp, _, hb2⟩ := hnp.st hb1; have Hp := Lib.hid hp; clear hp hnp)
        | (go_at_call 29; refine (HR.out _).mono ?_; rintro e w3 ⟨rfl, hra, hb3⟩
           have Hq := Lib.hid (rNew_st Hp.out.old hra hb3)
           have Hp3 := Lib.hid (Hp.out.below hb3)
           have hd0 : ∀ k, F k → ¬ foot w2.heap.size none k := fun k h1 h2 => by
             have h3 := Hp.out.lt k h1
             rcases h2 with h2 | ⟨p, h2, _⟩
             · omega
             · cases h2
           have Hd := Lib.hid hd0
           clear hd0
           clear hra))
      go_loopw [9] (fun ix wr => ∃ i : Nat, i ≤ m ∧ ix = .int .i64 i ∧ TwoAt 2 w b w2.heap.size i wr) (fun ix _ => m - (intOf ix).toNat)
      case atStart => exact ⟨0, Nat.zero_le _, rfl, F, _, _, Hp3.out, Hq.out, Hd.out, PlayI.new HB.out⟩
      case round =>
        obtain ⟨i, hi, rfl, hT⟩ := hrel
        by_cases hlt : i < m
        · obtain ⟨r, off, rfl, hr, hcc⟩ := HA.out (by intro h; have h1 := Hm.out; rw [h] at h1; simp at h1; omega)
          obtain ⟨x, hx⟩ : ∃ y, acts[i]? = some y := ⟨_, List.getElem?_eq_getElem (by rw [Hm.out]; exact hlt)⟩
          have e0 := (hT.old.cell (p := ⟨r, off + i * 4 + 0, none⟩) hr).trans (hcc i x hx 0 _ rfl)
          have e1 := (hT.old.cell (p := ⟨r, off + i * 4 + 1, none⟩) hr).trans (hcc i x hx 1 _ rfl)
          have e2 := (hT.old.cell (p := ⟨r, off + i * 4 + 2, none⟩) hr).trans (hcc i x hx 2 _ rfl)
          have e3 := (hT.old.cell (p := ⟨r, off + i * 4 + 3, none⟩) hr).trans (hcc i x hx 3 _ rfl)
          simp only [Nat.add_zero] at e0
          have hki : (i : Int) < m := by omega
          have HS := Lib.hid (step_due x hT (by omega))
          clear hcc hx hT
          go_wp2_with (go_at_call 44; refine HS.out.mono ?_; rintro e w5 ⟨rfl, hT5⟩; have HT5 := Lib.hid hT5; clear hT5)
          go_roundw
          case rel => exact ⟨i + 1, hlt, by go_num, HT5.out⟩
          case measure => simp [intOf]; omega
        · have HT := Lib.hid hT
          clear hT
          go_wp2_with fail
          go_ret
          exact ⟨rfl, HT.out.old⟩
    · have HN := Lib.hid (fun W => New_err_due base W hB)
      have HR := Lib.hid (fun W => rNew_err 2 base W (fun h => hB h.2))
      clear hB
      go_enter Try.func10, Try.ntmps10
      go_wp2_with (first
        | (go_at_call 38; refine (awake13 _).mono ?_; rintro e w1 ⟨rfl, hb1⟩)
        | (go_at_call 39; refine (HN.out _).mono ?_; rintro e w2 ⟨rfl, hb2⟩)
        | (go_at_call 29; refine (HR.out _).mono ?_; rintro e w3 ⟨rfl, rfl⟩))
      go_ret
      exact ⟨rfl, hb1.trans (hb2.mono hb1.size)⟩
end Go.Proofs.Ytciiookcdkjegaa
