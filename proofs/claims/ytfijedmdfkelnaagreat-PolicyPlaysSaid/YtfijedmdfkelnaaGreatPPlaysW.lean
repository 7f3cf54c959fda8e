/- PolicyPlays walked. -/
import Derived.Test.YtfijedmdfkelnaaGreatPlayP
import Derived.Test.YtfijedmdfkelnaaGreatFix14
import Derived.Test.YtfijedmdfkelnaaGreatRefS
import Derived.Test.YtfijedmdfkelnaaGreatLaw14
import Derived.Test.YtfijedmdfkelnaaGreatArg
namespace Go.Proofs.YtfijedmdfkelnaaGreat
open Go.RowKit
set_option linter.unusedVariables false
set_option linter.unusedSimpArgs false

set_option maxHeartbeats 25600000 in
set_option maxRecDepth 100000 in
theorem PolicyPlays_walk (tag cur : Int) (l : List It) (n : Nat) (a : Option Addr) (c : Nat) (base : Int) (acts : List Ac) (m : Nat) (aa : Option Addr) (ac : Nat) (w : World) (htag : I64 tag) (hn : l.length = n) (hmn : n ≤ maxLen) (hs : Sl It.enc 3 w a l) (hbs : I64 base) (hna : acts.length = m) (hma : m ≤ maxLen) (hac : Sl Ac.enc 4 w aa acts) (hal : ∀ x ∈ acts, -9223372036854775808 ≤ x.lag) :
    Calls Tryz.prog 3 #[.int .i64 tag, .agg #[.int .i64 cur, .slice a n c], .int .i64 base, .slice aa m ac] w fun e w' => e = .returned (.bool true) ∧ Below w.heap.size w w' := by
  have hb0 := (Below.refl w.heap.size w).alloc (Nat.le_refl _) (.cells #[.int .i64 cur, .slice a n c] 24)
  have X0 := Lib.hid (heap_new w (.cells #[.int .i64 cur, .slice a n c] 24))
  have HS := Lib.hid (hs.below hb0)
  have HA := Lib.hid (hac.below hb0)
  have Hn := Lib.hid hn
  have Hm := Lib.hid hna
  have Hb0 := Lib.hid hb0
  have Hal := Lib.hid hal
  unfold maxLen at hmn hma
  clear hs hn hb0 hac hna hal
  by_cases h1 : (200 : Int) < m
  · go_enter Tryz.func3, Tryz.ntmps3
    go_wp2_with (first
      | (go_at_call 7; refine (awake14 _).mono ?_; rintro e w1 ⟨rfl, hb⟩; have hc := Lib.hid hb; obtain ⟨g0, g1, y0, y1, gl⟩ := blk2 (heap_below X0.out hb); clear hb)
      )
    go_ret
    exact ⟨rfl, Hb0.out.trans (hc.out.mono (by simp))⟩
  · by_cases h2 : (70 : Int) < n
    · go_enter Tryz.func3, Tryz.ntmps3
      go_wp2_with (first
        | (go_at_call 7; refine (awake14 _).mono ?_; rintro e w1 ⟨rfl, hb⟩; have hc := Lib.hid hb; obtain ⟨g0, g1, y0, y1, gl⟩ := blk2 (heap_below X0.out hb); clear hb)
        )
      go_ret
      exact ⟨rfl, Hb0.out.trans (hc.out.mono (by simp))⟩
    · have HO := Lib.hid (fun W (hW : Below (w.alloc (.cells #[.int .i64 cur, .slice a n c] 24)).heap.size (w.alloc (.cells #[.int .i64 cur, .slice a n c] 24)) W) => own_14 cur l n a c W Hn.out (by omega) (HS.out.below hW))
      by_cases hG : TagOk tag ∧ BaseOk base ∧ goodF ⟨cur, l⟩ = true
      case neg =>
        have HP := Lib.hid (fun W (hW : Below (w.alloc (.cells #[.int .i64 cur, .slice a n c] 24)).heap.size (w.alloc (.cells #[.int .i64 cur, .slice a n c] 24)) W) => PolSeed_err tag ⟨cur, l⟩ n a c base W Hn.out (by omega) (HS.out.below hW) hG)
        have hG2 : ¬ ((tag = 0 ∨ tag = 1 ∨ tag = 2) ∧ BaseOk base) ∨ goodF ⟨cur, l⟩ = false := by
          by_cases h : (tag = 0 ∨ tag = 1 ∨ tag = 2) ∧ BaseOk base
          · right
            cases hg : goodF ⟨cur, l⟩ with
            | false => rfl
            | true => exact absurd ⟨h.1, h.2, hg⟩ hG
          · exact .inl h
        have HR := Lib.hid (fun W a2 c2 (hW : Sl It.enc 3 W a2 l) => rSeed_err tag cur l n a2 c2 base W Hn.out (by omega) hW hG2)
        clear hG hG2
        go_enter Tryz.func3, Tryz.ntmps3
        go_wp2_with (first
          | (go_at_call 7; refine (awake14 _).mono ?_; rintro e w1 ⟨rfl, hb⟩; have hc := Lib.hid hb; obtain ⟨g0, g1, y0, y1, gl⟩ := blk2 (heap_below X0.out hb); clear hb)
          | (go_at_call 8; refine (HP.out _ hc.out).mono ?_; rintro e w2 ⟨rfl, hb⟩; have hc := Lib.hid (hc.out.trans (hb.mono hc.out.size)); obtain ⟨g0, g1, y0, y1, gl⟩ := blk2 (heap_below X0.out hc.out); clear hb)
          | (go_at_call 10; refine (HO.out _ hc.out).mono ?_; rintro e w3 ⟨a3, c3, rfl, ho, hb⟩; have Hs3 := Lib.hid (Sl.of_own It.len ho); rw [Hn.out]; have hc := Lib.hid (hc.out.trans (hb.mono hc.out.size)); clear ho hb)
          | (go_at_call 9; refine (HR.out _ _ _ Hs3.out).mono ?_; rintro e w4 ⟨rfl, hb⟩; have hc := Lib.hid (hc.out.trans (hb.mono hc.out.size)); clear hb))
        go_ret
        exact ⟨rfl, Hb0.out.trans (hc.out.mono (by simp))⟩
      case pos =>
        obtain ⟨ht, hB, hg⟩ := hG
        have HP := Lib.hid (fun W (hW : Below (w.alloc (.cells #[.int .i64 cur, .slice a n c] 24)).heap.size (w.alloc (.cells #[.int .i64 cur, .slice a n c] 24)) W) => PolSeed_ok tag ⟨cur, l⟩ n a c base W Hn.out (HS.out.below hW) ht hB hg)
        have HR := Lib.hid (fun W a2 c2 (hW : Sl It.enc 3 W a2 l) => rSeed_ok tag cur l n a2 c2 base W Hn.out hW ht hB hg)
        have HI0 := Lib.hid (PlayI.seed (f := ⟨cur, l⟩) hB hg)
        have HT := Lib.hid ht
        have IE := Lib.hid (fun (b : Nat) => ifEnter tag ht b)
        have IPu := Lib.hid (fun (b : Nat) => ifPut tag ht b)
        have IL := Lib.hid (fun (b : Nat) => ifLeave tag ht b)
        have IW := Lib.hid (fun (b : Nat) => ifWeigh tag ht b)
        have IPi := Lib.hid (fun (b : Nat) => ifPick tag ht b)
        have IC := Lib.hid (fun (b : Nat) => ifCharge tag ht b)
        have IB := Lib.hid (fun (b : Nat) => ifBack tag ht b)
        have IF := Lib.hid (fun (b : Nat) => ifForm tag ht b)
        generalize seedR ⟨cur, l⟩ base = S0 at HP HR HI0
        clear ht hB hg
        go_enter Tryz.func3, Tryz.ntmps3
        go_wp2_with (first
          | (go_at_call 7; refine (awake14 _).mono ?_; rintro e w1 ⟨rfl, hb⟩; have hc := Lib.hid hb; obtain ⟨g0, g1, y0, y1, gl⟩ := blk2 (heap_below X0.out hb); clear hb)
          | (go_at_call 8; refine (HP.out _ hc.out).mono ?_; go_loud (rintro e w2 hnp); obtain ⟨p, b, F, rfl, hp, _, hb⟩ := hnp.st hc.out; obtain ⟨g0, g1, y0, y1, gl⟩ := blk2 (heap_below X0.out hp.old); have Hp := Lib.hid hp; clear hp hnp hb)
          | (go_at_call 10; refine (HO.out _ Hp.out.old).mono ?_; rintro e w3 ⟨a3, c3, rfl, ho, hb⟩; have Hs3 := Lib.hid (Sl.of_own It.len ho); rw [Hn.out]; have Hp3 := Lib.hid (Hp.out.below hb); clear ho hb)
          | (go_at_call 9; refine (HR.out _ _ _ Hs3.out).mono ?_
             rintro e w4 ⟨r, a4, c4, rfl, hra, hnew, hb⟩
             have Hp4 := Lib.hid (Hp3.out.below hb)
             have Hq4 := Lib.hid (RSt.mk (w0 := w.alloc (.cells #[.int .i64 cur, .slice a n c] 24)) (w := w4) (G := foot r a4) (r := r) (tag := tag) (S := S0) ⟨a4, c4, hra, rfl⟩ (fun k hk => Nat.le_trans Hp3.out.old.size (hnew k hk)) Hp4.out.old)
             have Hd := Lib.hid (fun k (h1 : F k ∨ k = p) (h2 : foot r a4 k) => by have h4 := hnew k h2; rcases h1 with h1 | h1; (have h3 := Hp3.out.lt k h1; omega); (have h3 := Hp3.out.plt; omega) : ∀ k, F k ∨ k = p → ¬ foot r a4 k)
             clear hra hnew hb))
        go_loopw [13] (fun ix wr => ∃ i : Nat, i ≤ m ∧ ix = .int .i64 i ∧ TwoP tag (w.alloc (.cells #[.int .i64 cur, .slice a n c] 24)) p b r i wr) (fun ix _ => m - (intOf ix).toNat)
        case atStart => exact ⟨0, Nat.zero_le _, rfl, F, _, S0, Hp4.out, Hq4.out, Hd.out, HI0.out⟩
        case round =>
          clear Hp Hp3 Hp4 Hq4 Hd Hs3 hc
          obtain ⟨i, hi, rfl, hT⟩ := hrel
          by_cases hlt : i < m
          case neg =>
            have HTw := Lib.hid hT.old
            clear hT
            go_wp2_with fail
            go_ret
            exact ⟨rfl, Hb0.out.trans (HTw.out.mono (by simp))⟩
          case pos =>
            obtain ⟨r0, off, rfl, hr, hcc⟩ := HA.out (by intro h; have h1 := Hm.out; rw [h] at h1; simp at h1; omega)
            obtain ⟨x, hx⟩ : ∃ y, acts[i]? = some y := ⟨_, List.getElem?_eq_getElem (by rw [Hm.out]; exact hlt)⟩
            have e0 := (hT.old.cell (p := ⟨r0, off + i * 4 + 0, none⟩) hr).trans (hcc i x hx 0 _ rfl)
            have e1 := (hT.old.cell (p := ⟨r0, off + i * 4 + 1, none⟩) hr).trans (hcc i x hx 1 _ rfl)
            have e2 := (hT.old.cell (p := ⟨r0, off + i * 4 + 2, none⟩) hr).trans (hcc i x hx 2 _ rfl)
            have e3 := (hT.old.cell (p := ⟨r0, off + i * 4 + 3, none⟩) hr).trans (hcc i x hx 3 _ rfl)
            simp only [Nat.add_zero] at e0
            have hki : (i : Int) < m := by omega
            have hi200 : i < 200 := by omega
            have Hlag := Lib.hid (Hal.out x (List.mem_of_getElem? hx))
            obtain ⟨F, G, S, hp, hq, hd, hI⟩ := hT
            have HI := Lib.hid hI
            have Hlt := Lib.hid hp.lt
            have Hgt := Lib.hid (fun k (hk : (fun k => G k) k) => hq.lt k hk : ∀ k, G k → k < wr.heap.size)
            have Hd := Lib.hid hd
            have hplt := hp.plt
            have hpn : p ≠ wr.heap.size := by omega
            obtain ⟨c0, c1, f0, f1, pl⟩ := blk2 hp.cell
            have Hp0 := Lib.hid (hp.below ((Below.refl _ _).alloc (Nat.le_refl _) (.cells #[.int .i64 x.op, .int .i64 x.id, .int .i64 x.w, .int .i64 x.lag] 39)))
            have Hq0 := Lib.hid (hq.below ((Below.refl _ _).alloc (Nat.le_refl _) (.cells #[.int .i64 x.op, .int .i64 x.id, .int .i64 x.w, .int .i64 x.lag] 39)))
            have HX0 := Lib.hid (heap_new wr (.cells #[.int .i64 x.op, .int .i64 x.id, .int .i64 x.w, .int .i64 x.lag] 39))
            have hK : (i : Int) * 1125899906842624 ≤ 1151795604700004352 := by omega
            clear hcc hx hp hq hd hI
            obtain ⟨FF, mF, eF, cF⟩ := IF.out b
            by_cases o0 : x.op = 0
            · have b0 : (x.op == 0) = true := by simpa using o0
              have Hp := Lib.hid (Hp0.out.below (Below.refl _ _).drew)
              have Hq := Lib.hid (Hq0.out.below (Below.refl _ _).drew)
              have HX := Lib.hid (heap_drew HX0.out)
              obtain ⟨v, hv⟩ : ∃ v, mayE S.l x.id x.w x.lag = v := ⟨_, rfl⟩
              obtain ⟨FN, mN, eN, cN⟩ := IE.out b
              have hI2 := HI.out.enter hi200 (heldT tag) x.id x.w x.lag
              have HE1 := Lib.hid (cN.out Hp.out HI.out.ok hK x.id x.w x.lag v hv)
              have HE2 := Lib.hid (fun W G (hW : RSt (w.alloc (.cells #[.int .i64 cur, .slice a n c] 24)) W G r tag S) => rEnterS (heldT tag) hW HI.out.ok hK HT.out (heldT_r HT.out) (fun h1 h2 => heldmay_T HT.out h1 h2) x.id x.w x.lag hv)
              generalize enterR (heldT tag) S x.id x.w x.lag = S2 at hI2 HE1 HE2
              have HI2 := Lib.hid hI2
              clear hv hI2 o0 cN
              go_wp2_with fail
              refine wp_region_chain 287 [0, 1, 3, 7, 0, 16, 0, 64, 0, 256, 1023, 0, 0, 4096, 0, 16384, 0, 65536, 262143, 524287] [(0, none), (1, none), (2, none), (3, none), (4, none), (5, none), (6, none), (7, none), (8, none), (9, none), (11, none), (12, none), (13, none), (14, none), (15, none), (16, none), (17, none), (10, some [11, 12, 13, 14, 15, 16, 17]), (18, some []), (19, none)] (by kernel_rfl) (by kernel_rfl) (by rfl) ?_; simp only [chain, Obs, List.getElem?_toArray, List.getElem?_cons_zero, List.getElem?_cons_succ]
              go_wp2_with (first
                | (with_reducible refine And.intro (by first | with_reducible exact True.intro | with_reducible rfl | go_simp) ?_)
                | (go_at_fn FN; (with_reducible refine HE1.out.mono ?_)
                   rintro e w4 ⟨rfl, F4, hp4, hf4, hs4⟩
                   have hxx := heap_fr HX.out hf4 (fun h => by have := Hlt.out _ h; omega)
                   obtain ⟨x0, x1, x2, x3, z0, z1, z2, z3, xl⟩ := blk4 hxx
                   have Hxx := Lib.hid hxx
                   have Hp4 := Lib.hid hp4
                   have Hq4 := Lib.hid (Hq.out.fr hf4 (fun k h1 h2 => Hd.out k (.inl h2) h1) Hp.out.new)
                   have Hd4 := Lib.hid (fun k (h1 : F4 k ∨ k = p) (h2 : G k) => h1.elim (fun h1 => (hs4 k h1).elim (fun h => Hd.out k (.inl h) h2) (fun h => by have := Hq.out.lt k h2; omega)) (fun h1 => Hd.out k (.inr h1) h2) : ∀ k, F4 k ∨ k = p → ¬ G k)
                   clear hp4 hf4 hs4 hxx
                  )
                | (go_at_call 11; (with_reducible refine (HE2.out _ _ Hq4.out).mono ?_)
                   rintro e w5 ⟨rfl, G5, hq5, hf5, hs5⟩
                   have hxx := heap_fr Hxx.out hf5 (fun h => by have := Hgt.out _ h; omega)
                   have Hq5 := Lib.hid hq5
                   have Hp5 := Lib.hid (Hp4.out.fr hf5 (fun k h1 => Hd4.out k (.inl h1)) (Hd4.out p (.inr rfl)) Hq4.out.new)
                   have Hd5 := Lib.hid (fun k (h1 : F4 k ∨ k = p) (h2 : G5 k) => (hs5 k h2).elim (fun h => Hd4.out k h1 h) (fun h => h1.elim (fun h1 => by have := Hp4.out.lt k h1; omega) (fun h1 => by have := Hp4.out.plt; omega)) : ∀ k, F4 k ∨ k = p → ¬ G5 k)
                   have Hxx5 := Lib.hid hxx
                   clear hq5 hf5 hs5 hxx
                  ))
              refine NoPanic.normal ?_
              go_wp2_with fail
              obtain ⟨x0, x1, x2, x3, z0, z1, z2, z3, xl⟩ := blk4 Hxx5.out
              obtain ⟨c0, c1, f0, f1, pl⟩ := blk2 Hp5.out.cell
              have HFo := Lib.hid (fun W (hW : Below w5.heap.size w5 W) => cF.out (Hp5.out.below hW).q HI2.out.ok)
              have hlen := HI2.out.ok.len
              have HX5 := Lib.hid (heap_drew Hxx5.out)
              have Hp6 := Lib.hid (Hp5.out.below (Below.refl _ _).drew)
              have Hq6 := Lib.hid (Hq5.out.below (Below.refl _ _).drew)
              refine wp_region_chain 287 [0, 1, 3, 7, 15, 31, 0, 127, 255, 511, 1023, 2047, 4095, 2047, 16383, 32767, 65535, 131071, 131071, 393215, 1048575, 131071, 131071, 4325375, 16777215, 33554431, 67108863] [(0, none), (1, none), (2, none), (3, none), (6, none), (4, some [6]), (5, some [6]), (7, some []), (8, some []), (9, none), (10, none), (11, none), (13, none), (12, some [13]), (14, none), (15, none), (16, none), (17, none), (18, none), (19, none), (21, none), (22, none), (23, none), (20, some [21, 22, 23]), (24, some []), (25, none), (26, none)] (by kernel_rfl) (by kernel_rfl) (by rfl) ?_; simp only [chain, Obs, List.getElem?_toArray, List.getElem?_cons_zero, List.getElem?_cons_succ]
              go_wp2_with (first
                | (with_reducible refine And.intro (by first | with_reducible exact True.intro | with_reducible rfl | go_simp) ?_)
                | (go_at_fn FF; refine (HFo.out _ (Below.refl _ _).drew).mono ?_; rintro e w6 ⟨a6, k6, rfl, ho, hb6⟩; rw [List.length_map] at ho ⊢; have Hs6 := Lib.hid (Sl.of_own (l := S2.l.map (itOf S2.base)) It.len (by rw [List.length_map]; exact ho)); have Hp7 := Lib.hid (Hp6.out.below hb6); have Hq7 := Lib.hid (Hq6.out.below hb6); have HX6 := Lib.hid (heap_below HX5.out hb6); clear ho hb6)
                | (go_at_call 10; refine (own_14 S2.cur (S2.l.map (itOf S2.base)) S2.l.length a6 k6 _ (List.length_map _) (by omega) Hs6.out).mono ?_; rintro e w7 ⟨a7, k7, rfl, ho, hb7⟩; rw [List.length_map] at ho ⊢; have Hs7 := Lib.hid (Sl.of_own (l := S2.l.map (itOf S2.base)) It.len (by rw [List.length_map]; exact ho)); have Hp8 := Lib.hid (Hp7.out.below hb7); have Hq8 := Lib.hid (Hq7.out.below hb7); have HX7 := Lib.hid (heap_below HX6.out hb7); obtain ⟨x0, x1, x2, x3, z0, z1, z2, z3, xl⟩ := blk4 HX7.out; clear ho hb7)
                | (go_at_call 18; refine (rFormS Hq8.out HI2.out.ok).mono ?_; rintro e w8 ⟨a8, k8, rfl, ho, hb8⟩; rw [List.length_map] at ho ⊢; have Hs8 := Lib.hid (Sl.of_own (l := S2.l.map (itOf S2.base)) It.len (by rw [List.length_map]; exact ho)); have Hs78 := Lib.hid (Hs7.out.below hb8); have Hp9 := Lib.hid (Hp8.out.below hb8); have Hq9 := Lib.hid (Hq8.out.below hb8); have HX8 := Lib.hid (heap_below HX7.out hb8); obtain ⟨x0, x1, x2, x3, z0, z1, z2, z3, xl⟩ := blk4 HX8.out; clear ho hb8)
                | (go_at_call 17; refine (rSame_any S2.cur S2.cur (S2.l.map (itOf S2.base)) (S2.l.map (itOf S2.base)) S2.l.length S2.l.length a7 a8 k7 k8 _ (List.length_map _) (List.length_map _) (by omega) (by omega) Hs78.out Hs8.out rfl).mono ?_; rintro e w9 ⟨rfl, hb9⟩; have Hp10 := Lib.hid (Hp9.out.below hb9); have Hq10 := Lib.hid (Hq9.out.below hb9); have HX9 := Lib.hid (heap_below HX8.out hb9); obtain ⟨x0, x1, x2, x3, z0, z1, z2, z3, xl⟩ := blk4 HX9.out; clear hb9)
                | (go_at_call 19; refine (PolTag Hp10.out.pm).mono ?_; rintro e w10 ⟨rfl, rfl⟩)
                | (go_at_call 20; refine (PolHeld Hp10.out.pm HT.out x.lag rfl).mono ?_; rintro e w10 ⟨rfl, rfl⟩)
                | (go_at_call 21; refine (rHeld_any tag x.lag _ HT.out (Hlag.out)).mono ?_; rw [← heldT_r HT.out]; rintro e w10 ⟨rfl, rfl⟩))
              refine NoPanic.normal ?_
              go_wp2_with fail
              go_roundw
              case rel => exact ⟨i + 1, hlt, by go_num, F4, G5, S2, Hp10.out, Hq10.out, Hd5.out, HI2.out⟩
              case measure => simp [intOf]; omega
            · skip
              by_cases o1 : x.op = 1
              case pos =>
                as_aux_lemma =>
                have b1 : (x.op == 1) = true := by simpa using o1
                have b0 : (x.op == 0) = false := by simp; omega
                have Hp := Lib.hid (Hp0.out.below (Below.refl _ _).drew)
                have Hq := Lib.hid (Hq0.out.below (Below.refl _ _).drew)
                have HX := Lib.hid (heap_drew HX0.out)
                obtain ⟨v, hv⟩ : ∃ v, mayE S.l x.id x.w x.lag = v := ⟨_, rfl⟩
                obtain ⟨FN, mN, eN, cN⟩ := IPu.out b
                have hI2 := HI.out.put hi200 x.id x.w x.lag
                have HE1 := Lib.hid (cN.out Hp.out HI.out.ok hK x.id x.w x.lag v hv)
                have HE2 := Lib.hid (fun W G (hW : RSt (w.alloc (.cells #[.int .i64 cur, .slice a n c] 24)) W G r tag S) => rPutS hW HI.out.ok hK HT.out x.id x.w x.lag hv)
                generalize putR S x.id x.w x.lag = S2 at hI2 HE1 HE2
                have HI2 := Lib.hid hI2
                clear hv hI2 o1 cN
                go_wp2_with fail
                refine wp_region_chain 287 [0, 1, 3, 7, 0, 16, 0, 64, 0, 256, 1023, 0, 0, 4096, 0, 16384, 0, 65536, 262143, 524287] [(0, none), (1, none), (2, none), (3, none), (4, none), (5, none), (6, none), (7, none), (8, none), (9, none), (11, none), (12, none), (13, none), (14, none), (15, none), (16, none), (17, none), (10, some [11, 12, 13, 14, 15, 16, 17]), (18, some []), (19, none)] (by kernel_rfl) (by kernel_rfl) (by rfl) ?_; simp only [chain, Obs, List.getElem?_toArray, List.getElem?_cons_zero, List.getElem?_cons_succ]
                go_wp2_with (first
                  | (with_reducible refine And.intro (by first | with_reducible exact True.intro | with_reducible rfl | go_simp) ?_)
                  | (go_at_fn FN; (with_reducible refine HE1.out.mono ?_)
                     rintro e w4 ⟨rfl, F4, hp4, hf4, hs4⟩
                     have hxx := heap_fr HX.out hf4 (fun h => by have := Hlt.out _ h; omega)
                     obtain ⟨x0, x1, x2, x3, z0, z1, z2, z3, xl⟩ := blk4 hxx
                     have Hxx := Lib.hid hxx
                     have Hp4 := Lib.hid hp4
                     have Hq4 := Lib.hid (Hq.out.fr hf4 (fun k h1 h2 => Hd.out k (.inl h2) h1) Hp.out.new)
                     have Hd4 := Lib.hid (fun k (h1 : F4 k ∨ k = p) (h2 : G k) => h1.elim (fun h1 => (hs4 k h1).elim (fun h => Hd.out k (.inl h) h2) (fun h => by have := Hq.out.lt k h2; omega)) (fun h1 => Hd.out k (.inr h1) h2) : ∀ k, F4 k ∨ k = p → ¬ G k)
                     clear hp4 hf4 hs4 hxx
                    )
                  | (go_at_call 11; (with_reducible refine (HE2.out _ _ Hq4.out).mono ?_)
                     rintro e w5 ⟨rfl, G5, hq5, hf5, hs5⟩
                     have hxx := heap_fr Hxx.out hf5 (fun h => by have := Hgt.out _ h; omega)
                     have Hq5 := Lib.hid hq5
                     have Hp5 := Lib.hid (Hp4.out.fr hf5 (fun k h1 => Hd4.out k (.inl h1)) (Hd4.out p (.inr rfl)) Hq4.out.new)
                     have Hd5 := Lib.hid (fun k (h1 : F4 k ∨ k = p) (h2 : G5 k) => (hs5 k h2).elim (fun h => Hd4.out k h1 h) (fun h => h1.elim (fun h1 => by have := Hp4.out.lt k h1; omega) (fun h1 => by have := Hp4.out.plt; omega)) : ∀ k, F4 k ∨ k = p → ¬ G5 k)
                     have Hxx5 := Lib.hid hxx
                     clear hq5 hf5 hs5 hxx
                    ))
                refine NoPanic.normal ?_
                go_wp2_with fail
                obtain ⟨x0, x1, x2, x3, z0, z1, z2, z3, xl⟩ := blk4 Hxx5.out
                obtain ⟨c0, c1, f0, f1, pl⟩ := blk2 Hp5.out.cell
                have HFo := Lib.hid (fun W (hW : Below w5.heap.size w5 W) => cF.out (Hp5.out.below hW).q HI2.out.ok)
                have hlen := HI2.out.ok.len
                have HX5 := Lib.hid (heap_drew Hxx5.out)
                have Hp6 := Lib.hid (Hp5.out.below (Below.refl _ _).drew)
                have Hq6 := Lib.hid (Hq5.out.below (Below.refl _ _).drew)
                refine wp_region_chain 287 [0, 1, 3, 7, 15, 31, 0, 127, 255, 511, 1023, 2047, 4095, 2047, 16383, 32767, 65535, 131071, 131071, 393215, 1048575, 131071, 131071, 4325375, 16777215, 33554431, 67108863] [(0, none), (1, none), (2, none), (3, none), (6, none), (4, some [6]), (5, some [6]), (7, some []), (8, some []), (9, none), (10, none), (11, none), (13, none), (12, some [13]), (14, none), (15, none), (16, none), (17, none), (18, none), (19, none), (21, none), (22, none), (23, none), (20, some [21, 22, 23]), (24, some []), (25, none), (26, none)] (by kernel_rfl) (by kernel_rfl) (by rfl) ?_; simp only [chain, Obs, List.getElem?_toArray, List.getElem?_cons_zero, List.getElem?_cons_succ]
                go_wp2_with (first
                  | (with_reducible refine And.intro (by first | with_reducible exact True.intro | with_reducible rfl | go_simp) ?_)
                  | (go_at_fn FF; refine (HFo.out _ (Below.refl _ _).drew).mono ?_; rintro e w6 ⟨a6, k6, rfl, ho, hb6⟩; rw [List.length_map] at ho ⊢; have Hs6 := Lib.hid (Sl.of_own (l := S2.l.map (itOf S2.base)) It.len (by rw [List.length_map]; exact ho)); have Hp7 := Lib.hid (Hp6.out.below hb6); have Hq7 := Lib.hid (Hq6.out.below hb6); have HX6 := Lib.hid (heap_below HX5.out hb6); clear ho hb6)
                  | (go_at_call 10; refine (own_14 S2.cur (S2.l.map (itOf S2.base)) S2.l.length a6 k6 _ (List.length_map _) (by omega) Hs6.out).mono ?_; rintro e w7 ⟨a7, k7, rfl, ho, hb7⟩; rw [List.length_map] at ho ⊢; have Hs7 := Lib.hid (Sl.of_own (l := S2.l.map (itOf S2.base)) It.len (by rw [List.length_map]; exact ho)); have Hp8 := Lib.hid (Hp7.out.below hb7); have Hq8 := Lib.hid (Hq7.out.below hb7); have HX7 := Lib.hid (heap_below HX6.out hb7); obtain ⟨x0, x1, x2, x3, z0, z1, z2, z3, xl⟩ := blk4 HX7.out; clear ho hb7)
                  | (go_at_call 18; refine (rFormS Hq8.out HI2.out.ok).mono ?_; rintro e w8 ⟨a8, k8, rfl, ho, hb8⟩; rw [List.length_map] at ho ⊢; have Hs8 := Lib.hid (Sl.of_own (l := S2.l.map (itOf S2.base)) It.len (by rw [List.length_map]; exact ho)); have Hs78 := Lib.hid (Hs7.out.below hb8); have Hp9 := Lib.hid (Hp8.out.below hb8); have Hq9 := Lib.hid (Hq8.out.below hb8); have HX8 := Lib.hid (heap_below HX7.out hb8); obtain ⟨x0, x1, x2, x3, z0, z1, z2, z3, xl⟩ := blk4 HX8.out; clear ho hb8)
                  | (go_at_call 17; refine (rSame_any S2.cur S2.cur (S2.l.map (itOf S2.base)) (S2.l.map (itOf S2.base)) S2.l.length S2.l.length a7 a8 k7 k8 _ (List.length_map _) (List.length_map _) (by omega) (by omega) Hs78.out Hs8.out rfl).mono ?_; rintro e w9 ⟨rfl, hb9⟩; have Hp10 := Lib.hid (Hp9.out.below hb9); have Hq10 := Lib.hid (Hq9.out.below hb9); have HX9 := Lib.hid (heap_below HX8.out hb9); obtain ⟨x0, x1, x2, x3, z0, z1, z2, z3, xl⟩ := blk4 HX9.out; clear hb9)
                  | (go_at_call 19; refine (PolTag Hp10.out.pm).mono ?_; rintro e w10 ⟨rfl, rfl⟩)
                  | (go_at_call 20; refine (PolHeld Hp10.out.pm HT.out x.lag rfl).mono ?_; rintro e w10 ⟨rfl, rfl⟩)
                  | (go_at_call 21; refine (rHeld_any tag x.lag _ HT.out (Hlag.out)).mono ?_; rw [← heldT_r HT.out]; rintro e w10 ⟨rfl, rfl⟩))
                refine NoPanic.normal ?_
                go_wp2_with fail
                go_roundw
                case rel => exact ⟨i + 1, hlt, by go_num, F4, G5, S2, Hp10.out, Hq10.out, Hd5.out, HI2.out⟩
                case measure => simp [intOf]; omega
              case neg =>
                by_cases o2 : x.op = 2
                case pos =>
                  as_aux_lemma =>
                  have b2 : (x.op == 2) = true := by simpa using o2
                  have b0 : (x.op == 0) = false := by simp; omega
                  have b1 : (x.op == 1) = false := by simp; omega
                  have Hp := Lib.hid (Hp0.out.below (Below.refl _ _).drew)
                  have Hq := Lib.hid (Hq0.out.below (Below.refl _ _).drew)
                  have HX := Lib.hid (heap_drew HX0.out)
                  obtain ⟨S2, v, f, hv⟩ : ∃ S2 v f, leaveR S x.id = (S2, v, f) := ⟨_, _, _, rfl⟩
                  obtain ⟨FN, mN, eN, cN⟩ := IL.out b
                  have hI2 := HI.out.leave hi200 x.id
                  rw [hv] at hI2
                  have HE1 := Lib.hid (cN.out Hp.out HI.out.ok x.id S2 v f hv)
                  have HE2 := Lib.hid (fun W G (hW : RSt (w.alloc (.cells #[.int .i64 cur, .slice a n c] 24)) W G r tag S) => rLeaveS hW HI.out.ok x.id hv)
                  have HI2 := Lib.hid hI2
                  clear hv hI2 o2 cN
                  go_wp2_with fail
                  refine wp_region_chain 287 [0, 1, 3, 7, 0, 16, 63, 127, 255, 255, 511, 2047] [(0, none), (1, none), (2, none), (3, none), (4, none), (5, none), (6, some []), (7, none), (8, none), (9, none), (10, none), (11, none)] (by kernel_rfl) (by kernel_rfl) (by rfl) ?_; simp only [chain, Obs, List.getElem?_toArray, List.getElem?_cons_zero, List.getElem?_cons_succ]
                  go_wp2_with (first
                    | (with_reducible refine And.intro (by first | with_reducible exact True.intro | with_reducible rfl | go_simp) ?_)
                    | (go_at_fn FN; (with_reducible refine HE1.out.mono ?_)
                       rintro e w4 ⟨rfl, F4, hp4, hf4, hs4⟩
                       have hxx := heap_fr HX.out hf4 (fun h => by have := Hlt.out _ h; omega)
                       obtain ⟨x0, x1, x2, x3, z0, z1, z2, z3, xl⟩ := blk4 hxx
                       have Hxx := Lib.hid hxx
                       have Hp4 := Lib.hid hp4
                       have Hq4 := Lib.hid (Hq.out.fr hf4 (fun k h1 h2 => Hd.out k (.inl h2) h1) Hp.out.new)
                       have Hd4 := Lib.hid (fun k (h1 : F4 k ∨ k = p) (h2 : G k) => h1.elim (fun h1 => (hs4 k h1).elim (fun h => Hd.out k (.inl h) h2) (fun h => by have := Hq.out.lt k h2; omega)) (fun h1 => Hd.out k (.inr h1) h2) : ∀ k, F4 k ∨ k = p → ¬ G k)
                       clear hp4 hf4 hs4 hxx
                      ))
                  refine NoPanic.normal ?_
                  go_wp2_with (first
                    | (go_at_call 12; (with_reducible refine (HE2.out _ _ Hq4.out).mono ?_)
                       rintro e w5 ⟨rfl, G5, hq5, hf5, hs5⟩
                       have hxx := heap_fr Hxx.out hf5 (fun h => by have := Hgt.out _ h; omega)
                       have Hq5 := Lib.hid hq5
                       have Hp5 := Lib.hid (Hp4.out.fr hf5 (fun k h1 => Hd4.out k (.inl h1)) (Hd4.out p (.inr rfl)) Hq4.out.new)
                       have Hd5 := Lib.hid (fun k (h1 : F4 k ∨ k = p) (h2 : G5 k) => (hs5 k h2).elim (fun h => Hd4.out k h1 h) (fun h => h1.elim (fun h1 => by have := Hp4.out.lt k h1; omega) (fun h1 => by have := Hp4.out.plt; omega)) : ∀ k, F4 k ∨ k = p → ¬ G5 k)
                       have Hxx5 := Lib.hid hxx
                       clear hq5 hf5 hs5 hxx
                      ))
                  obtain ⟨x0, x1, x2, x3, z0, z1, z2, z3, xl⟩ := blk4 Hxx5.out
                  obtain ⟨c0, c1, f0, f1, pl⟩ := blk2 Hp5.out.cell
                  have HFo := Lib.hid (fun W (hW : Below w5.heap.size w5 W) => cF.out (Hp5.out.below hW).q HI2.out.ok)
                  have hlen := HI2.out.ok.len
                  have HX5 := Lib.hid (heap_drew Hxx5.out)
                  have Hp6 := Lib.hid (Hp5.out.below (Below.refl _ _).drew)
                  have Hq6 := Lib.hid (Hq5.out.below (Below.refl _ _).drew)
                  refine wp_region_chain 287 [0, 1, 3, 7, 15, 31, 0, 127, 255, 511, 1023, 2047, 4095, 2047, 16383, 32767, 65535, 131071, 131071, 393215, 1048575, 131071, 131071, 4325375, 16777215, 33554431, 67108863] [(0, none), (1, none), (2, none), (3, none), (6, none), (4, some [6]), (5, some [6]), (7, some []), (8, some []), (9, none), (10, none), (11, none), (13, none), (12, some [13]), (14, none), (15, none), (16, none), (17, none), (18, none), (19, none), (21, none), (22, none), (23, none), (20, some [21, 22, 23]), (24, some []), (25, none), (26, none)] (by kernel_rfl) (by kernel_rfl) (by rfl) ?_; simp only [chain, Obs, List.getElem?_toArray, List.getElem?_cons_zero, List.getElem?_cons_succ]
                  go_wp2_with (first
                    | (with_reducible refine And.intro (by first | with_reducible exact True.intro | with_reducible rfl | go_simp) ?_)
                    | (go_at_fn FF; refine (HFo.out _ (Below.refl _ _).drew).mono ?_; rintro e w6 ⟨a6, k6, rfl, ho, hb6⟩; rw [List.length_map] at ho ⊢; have Hs6 := Lib.hid (Sl.of_own (l := S2.l.map (itOf S2.base)) It.len (by rw [List.length_map]; exact ho)); have Hp7 := Lib.hid (Hp6.out.below hb6); have Hq7 := Lib.hid (Hq6.out.below hb6); have HX6 := Lib.hid (heap_below HX5.out hb6); clear ho hb6)
                    | (go_at_call 10; refine (own_14 S2.cur (S2.l.map (itOf S2.base)) S2.l.length a6 k6 _ (List.length_map _) (by omega) Hs6.out).mono ?_; rintro e w7 ⟨a7, k7, rfl, ho, hb7⟩; rw [List.length_map] at ho ⊢; have Hs7 := Lib.hid (Sl.of_own (l := S2.l.map (itOf S2.base)) It.len (by rw [List.length_map]; exact ho)); have Hp8 := Lib.hid (Hp7.out.below hb7); have Hq8 := Lib.hid (Hq7.out.below hb7); have HX7 := Lib.hid (heap_below HX6.out hb7); obtain ⟨x0, x1, x2, x3, z0, z1, z2, z3, xl⟩ := blk4 HX7.out; clear ho hb7)
                    | (go_at_call 18; refine (rFormS Hq8.out HI2.out.ok).mono ?_; rintro e w8 ⟨a8, k8, rfl, ho, hb8⟩; rw [List.length_map] at ho ⊢; have Hs8 := Lib.hid (Sl.of_own (l := S2.l.map (itOf S2.base)) It.len (by rw [List.length_map]; exact ho)); have Hs78 := Lib.hid (Hs7.out.below hb8); have Hp9 := Lib.hid (Hp8.out.below hb8); have Hq9 := Lib.hid (Hq8.out.below hb8); have HX8 := Lib.hid (heap_below HX7.out hb8); obtain ⟨x0, x1, x2, x3, z0, z1, z2, z3, xl⟩ := blk4 HX8.out; clear ho hb8)
                    | (go_at_call 17; refine (rSame_any S2.cur S2.cur (S2.l.map (itOf S2.base)) (S2.l.map (itOf S2.base)) S2.l.length S2.l.length a7 a8 k7 k8 _ (List.length_map _) (List.length_map _) (by omega) (by omega) Hs78.out Hs8.out rfl).mono ?_; rintro e w9 ⟨rfl, hb9⟩; have Hp10 := Lib.hid (Hp9.out.below hb9); have Hq10 := Lib.hid (Hq9.out.below hb9); have HX9 := Lib.hid (heap_below HX8.out hb9); obtain ⟨x0, x1, x2, x3, z0, z1, z2, z3, xl⟩ := blk4 HX9.out; clear hb9)
                    | (go_at_call 19; refine (PolTag Hp10.out.pm).mono ?_; rintro e w10 ⟨rfl, rfl⟩)
                    | (go_at_call 20; refine (PolHeld Hp10.out.pm HT.out x.lag rfl).mono ?_; rintro e w10 ⟨rfl, rfl⟩)
                    | (go_at_call 21; refine (rHeld_any tag x.lag _ HT.out (Hlag.out)).mono ?_; rw [← heldT_r HT.out]; rintro e w10 ⟨rfl, rfl⟩))
                  refine NoPanic.normal ?_
                  go_wp2_with fail
                  go_roundw
                  case rel => exact ⟨i + 1, hlt, by go_num, F4, G5, S2, Hp10.out, Hq10.out, Hd5.out, HI2.out⟩
                  case measure => simp [intOf]; omega
                case neg =>
                  by_cases o3 : x.op = 3
                  case pos =>
                    as_aux_lemma =>
                    have b3 : (x.op == 3) = true := by simpa using o3
                    have b0 : (x.op == 0) = false := by simp; omega
                    have b1 : (x.op == 1) = false := by simp; omega
                    have b2 : (x.op == 2) = false := by simp; omega
                    have Hp := Lib.hid (Hp0.out.below (Below.refl _ _).drew)
                    have Hq := Lib.hid (Hq0.out.below (Below.refl _ _).drew)
                    have HX := Lib.hid (heap_drew HX0.out)
                    obtain ⟨S2, v, hv⟩ : ∃ S2 v, weighR S x.id x.w = (S2, v) := ⟨_, _, rfl⟩
                    obtain ⟨FN, mN, eN, cN⟩ := IW.out b
                    have hI2 := HI.out.weigh hi200 x.id x.w
                    rw [hv] at hI2
                    have HE1 := Lib.hid (cN.out Hp.out HI.out.ok x.id x.w S2 v hv)
                    have HE2 := Lib.hid (fun W G (hW : RSt (w.alloc (.cells #[.int .i64 cur, .slice a n c] 24)) W G r tag S) => rWeighS hW HI.out.ok x.id x.w hv)
                    have HI2 := Lib.hid hI2
                    clear hv hI2 o3 cN
                    go_wp2_with fail
                    refine wp_region_chain 287 [0, 1, 3, 7, 0, 16, 0, 64, 255, 0, 0, 1024, 0, 4096, 16383, 32767] [(0, none), (1, none), (2, none), (3, none), (4, none), (5, none), (6, none), (7, none), (9, none), (10, none), (11, none), (12, none), (13, none), (8, some [9, 10, 11, 12, 13]), (14, some []), (15, none)] (by kernel_rfl) (by kernel_rfl) (by rfl) ?_; simp only [chain, Obs, List.getElem?_toArray, List.getElem?_cons_zero, List.getElem?_cons_succ]
                    go_wp2_with (first
                      | (with_reducible refine And.intro (by first | with_reducible exact True.intro | with_reducible rfl | go_simp) ?_)
                      | (go_at_fn FN; (with_reducible refine HE1.out.mono ?_)
                         rintro e w4 ⟨rfl, F4, hp4, hf4, hs4⟩
                         have hxx := heap_fr HX.out hf4 (fun h => by have := Hlt.out _ h; omega)
                         obtain ⟨x0, x1, x2, x3, z0, z1, z2, z3, xl⟩ := blk4 hxx
                         have Hxx := Lib.hid hxx
                         have Hp4 := Lib.hid hp4
                         have Hq4 := Lib.hid (Hq.out.fr hf4 (fun k h1 h2 => Hd.out k (.inl h2) h1) Hp.out.new)
                         have Hd4 := Lib.hid (fun k (h1 : F4 k ∨ k = p) (h2 : G k) => h1.elim (fun h1 => (hs4 k h1).elim (fun h => Hd.out k (.inl h) h2) (fun h => by have := Hq.out.lt k h2; omega)) (fun h1 => Hd.out k (.inr h1) h2) : ∀ k, F4 k ∨ k = p → ¬ G k)
                         clear hp4 hf4 hs4 hxx
                        )
                      | (go_at_call 13; (with_reducible refine (HE2.out _ _ Hq4.out).mono ?_)
                         rintro e w5 ⟨rfl, G5, hq5, hf5, hs5⟩
                         have hxx := heap_fr Hxx.out hf5 (fun h => by have := Hgt.out _ h; omega)
                         have Hq5 := Lib.hid hq5
                         have Hp5 := Lib.hid (Hp4.out.fr hf5 (fun k h1 => Hd4.out k (.inl h1)) (Hd4.out p (.inr rfl)) Hq4.out.new)
                         have Hd5 := Lib.hid (fun k (h1 : F4 k ∨ k = p) (h2 : G5 k) => (hs5 k h2).elim (fun h => Hd4.out k h1 h) (fun h => h1.elim (fun h1 => by have := Hp4.out.lt k h1; omega) (fun h1 => by have := Hp4.out.plt; omega)) : ∀ k, F4 k ∨ k = p → ¬ G5 k)
                         have Hxx5 := Lib.hid hxx
                         clear hq5 hf5 hs5 hxx
                        ))
                    refine NoPanic.normal ?_
                    go_wp2_with fail
                    obtain ⟨x0, x1, x2, x3, z0, z1, z2, z3, xl⟩ := blk4 Hxx5.out
                    obtain ⟨c0, c1, f0, f1, pl⟩ := blk2 Hp5.out.cell
                    have HFo := Lib.hid (fun W (hW : Below w5.heap.size w5 W) => cF.out (Hp5.out.below hW).q HI2.out.ok)
                    have hlen := HI2.out.ok.len
                    have HX5 := Lib.hid (heap_drew Hxx5.out)
                    have Hp6 := Lib.hid (Hp5.out.below (Below.refl _ _).drew)
                    have Hq6 := Lib.hid (Hq5.out.below (Below.refl _ _).drew)
                    refine wp_region_chain 287 [0, 1, 3, 7, 15, 31, 0, 127, 255, 511, 1023, 2047, 4095, 2047, 16383, 32767, 65535, 131071, 131071, 393215, 1048575, 131071, 131071, 4325375, 16777215, 33554431, 67108863] [(0, none), (1, none), (2, none), (3, none), (6, none), (4, some [6]), (5, some [6]), (7, some []), (8, some []), (9, none), (10, none), (11, none), (13, none), (12, some [13]), (14, none), (15, none), (16, none), (17, none), (18, none), (19, none), (21, none), (22, none), (23, none), (20, some [21, 22, 23]), (24, some []), (25, none), (26, none)] (by kernel_rfl) (by kernel_rfl) (by rfl) ?_; simp only [chain, Obs, List.getElem?_toArray, List.getElem?_cons_zero, List.getElem?_cons_succ]
                    go_wp2_with (first
                      | (with_reducible refine And.intro (by first | with_reducible exact True.intro | with_reducible rfl | go_simp) ?_)
                      | (go_at_fn FF; refine (HFo.out _ (Below.refl _ _).drew).mono ?_; rintro e w6 ⟨a6, k6, rfl, ho, hb6⟩; rw [List.length_map] at ho ⊢; have Hs6 := Lib.hid (Sl.of_own (l := S2.l.map (itOf S2.base)) It.len (by rw [List.length_map]; exact ho)); have Hp7 := Lib.hid (Hp6.out.below hb6); have Hq7 := Lib.hid (Hq6.out.below hb6); have HX6 := Lib.hid (heap_below HX5.out hb6); clear ho hb6)
                      | (go_at_call 10; refine (own_14 S2.cur (S2.l.map (itOf S2.base)) S2.l.length a6 k6 _ (List.length_map _) (by omega) Hs6.out).mono ?_; rintro e w7 ⟨a7, k7, rfl, ho, hb7⟩; rw [List.length_map] at ho ⊢; have Hs7 := Lib.hid (Sl.of_own (l := S2.l.map (itOf S2.base)) It.len (by rw [List.length_map]; exact ho)); have Hp8 := Lib.hid (Hp7.out.below hb7); have Hq8 := Lib.hid (Hq7.out.below hb7); have HX7 := Lib.hid (heap_below HX6.out hb7); obtain ⟨x0, x1, x2, x3, z0, z1, z2, z3, xl⟩ := blk4 HX7.out; clear ho hb7)
                      | (go_at_call 18; refine (rFormS Hq8.out HI2.out.ok).mono ?_; rintro e w8 ⟨a8, k8, rfl, ho, hb8⟩; rw [List.length_map] at ho ⊢; have Hs8 := Lib.hid (Sl.of_own (l := S2.l.map (itOf S2.base)) It.len (by rw [List.length_map]; exact ho)); have Hs78 := Lib.hid (Hs7.out.below hb8); have Hp9 := Lib.hid (Hp8.out.below hb8); have Hq9 := Lib.hid (Hq8.out.below hb8); have HX8 := Lib.hid (heap_below HX7.out hb8); obtain ⟨x0, x1, x2, x3, z0, z1, z2, z3, xl⟩ := blk4 HX8.out; clear ho hb8)
                      | (go_at_call 17; refine (rSame_any S2.cur S2.cur (S2.l.map (itOf S2.base)) (S2.l.map (itOf S2.base)) S2.l.length S2.l.length a7 a8 k7 k8 _ (List.length_map _) (List.length_map _) (by omega) (by omega) Hs78.out Hs8.out rfl).mono ?_; rintro e w9 ⟨rfl, hb9⟩; have Hp10 := Lib.hid (Hp9.out.below hb9); have Hq10 := Lib.hid (Hq9.out.below hb9); have HX9 := Lib.hid (heap_below HX8.out hb9); obtain ⟨x0, x1, x2, x3, z0, z1, z2, z3, xl⟩ := blk4 HX9.out; clear hb9)
                      | (go_at_call 19; refine (PolTag Hp10.out.pm).mono ?_; rintro e w10 ⟨rfl, rfl⟩)
                      | (go_at_call 20; refine (PolHeld Hp10.out.pm HT.out x.lag rfl).mono ?_; rintro e w10 ⟨rfl, rfl⟩)
                      | (go_at_call 21; refine (rHeld_any tag x.lag _ HT.out (Hlag.out)).mono ?_; rw [← heldT_r HT.out]; rintro e w10 ⟨rfl, rfl⟩))
                    refine NoPanic.normal ?_
                    go_wp2_with fail
                    go_roundw
                    case rel => exact ⟨i + 1, hlt, by go_num, F4, G5, S2, Hp10.out, Hq10.out, Hd5.out, HI2.out⟩
                    case measure => simp [intOf]; omega
                  case neg =>
                    by_cases o4 : x.op = 4
                    case pos =>
                      as_aux_lemma =>
                      have b4 : (x.op == 4) = true := by simpa using o4
                      have b0 : (x.op == 0) = false := by simp; omega
                      have b1 : (x.op == 1) = false := by simp; omega
                      have b2 : (x.op == 2) = false := by simp; omega
                      have b3 : (x.op == 3) = false := by simp; omega
                      have Hp := Hp0
                      have Hq := Hq0
                      have HX := HX0
                      obtain ⟨S2, v, f, hv⟩ : ∃ S2 v f, pickT tag S = (S2, v, f) := ⟨_, _, _, rfl⟩
                      obtain ⟨FN, mN, eN, cN⟩ := IPi.out b
                      have hI2 := PlayI.pickT HT.out hi200 HI.out
                      rw [hv] at hI2
                      have HE1 := Lib.hid (cN.out Hp.out HI.out.ok S2 v f hv)
                      have HE2 := Lib.hid (fun W G (hW : RSt (w.alloc (.cells #[.int .i64 cur, .slice a n c] 24)) W G r tag S) => rPickS_T HT.out hW HI.out.ok HI.out.far (by omega) hv)
                      have HI2 := Lib.hid hI2
                      clear hv hI2 o4 cN
                      go_wp2_with (first
                        | (go_at_fn FN; (with_reducible refine HE1.out.mono ?_)
                           rintro e w4 ⟨rfl, F4, hp4, hf4, hs4⟩
                           have hxx := heap_fr HX.out hf4 (fun h => by have := Hlt.out _ h; omega)
                           obtain ⟨x0, x1, x2, x3, z0, z1, z2, z3, xl⟩ := blk4 hxx
                           have Hxx := Lib.hid hxx
                           have Hp4 := Lib.hid hp4
                           have Hq4 := Lib.hid (Hq.out.fr hf4 (fun k h1 h2 => Hd.out k (.inl h2) h1) Hp.out.new)
                           have Hd4 := Lib.hid (fun k (h1 : F4 k ∨ k = p) (h2 : G k) => h1.elim (fun h1 => (hs4 k h1).elim (fun h => Hd.out k (.inl h) h2) (fun h => by have := Hq.out.lt k h2; omega)) (fun h1 => Hd.out k (.inr h1) h2) : ∀ k, F4 k ∨ k = p → ¬ G k)
                           clear hp4 hf4 hs4 hxx
                          )
                        | (go_at_call 14; (with_reducible refine (HE2.out _ _ Hq4.out).mono ?_)
                           rintro e w5 ⟨rfl, G5, hq5, hf5, hs5⟩
                           have hxx := heap_fr Hxx.out hf5 (fun h => by have := Hgt.out _ h; omega)
                           have Hq5 := Lib.hid hq5
                           have Hp5 := Lib.hid (Hp4.out.fr hf5 (fun k h1 => Hd4.out k (.inl h1)) (Hd4.out p (.inr rfl)) Hq4.out.new)
                           have Hd5 := Lib.hid (fun k (h1 : F4 k ∨ k = p) (h2 : G5 k) => (hs5 k h2).elim (fun h => Hd4.out k h1 h) (fun h => h1.elim (fun h1 => by have := Hp4.out.lt k h1; omega) (fun h1 => by have := Hp4.out.plt; omega)) : ∀ k, F4 k ∨ k = p → ¬ G5 k)
                           have Hxx5 := Lib.hid hxx
                           clear hq5 hf5 hs5 hxx
                          ))
                      obtain ⟨x0, x1, x2, x3, z0, z1, z2, z3, xl⟩ := blk4 Hxx5.out
                      obtain ⟨c0, c1, f0, f1, pl⟩ := blk2 Hp5.out.cell
                      have HFo := Lib.hid (fun W (hW : Below w5.heap.size w5 W) => cF.out (Hp5.out.below hW).q HI2.out.ok)
                      have hlen := HI2.out.ok.len
                      have HX5 := Lib.hid (heap_drew Hxx5.out)
                      have Hp6 := Lib.hid (Hp5.out.below (Below.refl _ _).drew)
                      have Hq6 := Lib.hid (Hq5.out.below (Below.refl _ _).drew)
                      refine wp_region_chain 287 [0, 1, 3, 7, 15, 31, 0, 127, 255, 511, 1023, 2047, 4095, 2047, 16383, 32767, 65535, 131071, 131071, 393215, 1048575, 131071, 131071, 4325375, 16777215, 33554431, 67108863] [(0, none), (1, none), (2, none), (3, none), (6, none), (4, some [6]), (5, some [6]), (7, some []), (8, some []), (9, none), (10, none), (11, none), (13, none), (12, some [13]), (14, none), (15, none), (16, none), (17, none), (18, none), (19, none), (21, none), (22, none), (23, none), (20, some [21, 22, 23]), (24, some []), (25, none), (26, none)] (by kernel_rfl) (by kernel_rfl) (by rfl) ?_; simp only [chain, Obs, List.getElem?_toArray, List.getElem?_cons_zero, List.getElem?_cons_succ]
                      go_wp2_with (first
                        | (with_reducible refine And.intro (by first | with_reducible exact True.intro | with_reducible rfl | go_simp) ?_)
                        | (go_at_fn FF; refine (HFo.out _ (Below.refl _ _).drew).mono ?_; rintro e w6 ⟨a6, k6, rfl, ho, hb6⟩; rw [List.length_map] at ho ⊢; have Hs6 := Lib.hid (Sl.of_own (l := S2.l.map (itOf S2.base)) It.len (by rw [List.length_map]; exact ho)); have Hp7 := Lib.hid (Hp6.out.below hb6); have Hq7 := Lib.hid (Hq6.out.below hb6); have HX6 := Lib.hid (heap_below HX5.out hb6); clear ho hb6)
                        | (go_at_call 10; refine (own_14 S2.cur (S2.l.map (itOf S2.base)) S2.l.length a6 k6 _ (List.length_map _) (by omega) Hs6.out).mono ?_; rintro e w7 ⟨a7, k7, rfl, ho, hb7⟩; rw [List.length_map] at ho ⊢; have Hs7 := Lib.hid (Sl.of_own (l := S2.l.map (itOf S2.base)) It.len (by rw [List.length_map]; exact ho)); have Hp8 := Lib.hid (Hp7.out.below hb7); have Hq8 := Lib.hid (Hq7.out.below hb7); have HX7 := Lib.hid (heap_below HX6.out hb7); obtain ⟨x0, x1, x2, x3, z0, z1, z2, z3, xl⟩ := blk4 HX7.out; clear ho hb7)
                        | (go_at_call 18; refine (rFormS Hq8.out HI2.out.ok).mono ?_; rintro e w8 ⟨a8, k8, rfl, ho, hb8⟩; rw [List.length_map] at ho ⊢; have Hs8 := Lib.hid (Sl.of_own (l := S2.l.map (itOf S2.base)) It.len (by rw [List.length_map]; exact ho)); have Hs78 := Lib.hid (Hs7.out.below hb8); have Hp9 := Lib.hid (Hp8.out.below hb8); have Hq9 := Lib.hid (Hq8.out.below hb8); have HX8 := Lib.hid (heap_below HX7.out hb8); obtain ⟨x0, x1, x2, x3, z0, z1, z2, z3, xl⟩ := blk4 HX8.out; clear ho hb8)
                        | (go_at_call 17; refine (rSame_any S2.cur S2.cur (S2.l.map (itOf S2.base)) (S2.l.map (itOf S2.base)) S2.l.length S2.l.length a7 a8 k7 k8 _ (List.length_map _) (List.length_map _) (by omega) (by omega) Hs78.out Hs8.out rfl).mono ?_; rintro e w9 ⟨rfl, hb9⟩; have Hp10 := Lib.hid (Hp9.out.below hb9); have Hq10 := Lib.hid (Hq9.out.below hb9); have HX9 := Lib.hid (heap_below HX8.out hb9); obtain ⟨x0, x1, x2, x3, z0, z1, z2, z3, xl⟩ := blk4 HX9.out; clear hb9)
                        | (go_at_call 19; refine (PolTag Hp10.out.pm).mono ?_; rintro e w10 ⟨rfl, rfl⟩)
                        | (go_at_call 20; refine (PolHeld Hp10.out.pm HT.out x.lag rfl).mono ?_; rintro e w10 ⟨rfl, rfl⟩)
                        | (go_at_call 21; refine (rHeld_any tag x.lag _ HT.out (Hlag.out)).mono ?_; rw [← heldT_r HT.out]; rintro e w10 ⟨rfl, rfl⟩))
                      refine NoPanic.normal ?_
                      go_wp2_with fail
                      go_roundw
                      case rel => exact ⟨i + 1, hlt, by go_num, F4, G5, S2, Hp10.out, Hq10.out, Hd5.out, HI2.out⟩
                      case measure => simp [intOf]; omega
                    case neg =>
                      by_cases o5 : x.op = 5
                      case pos =>
                        as_aux_lemma =>
                        have b5 : (x.op == 5) = true := by simpa using o5
                        have b0 : (x.op == 0) = false := by simp; omega
                        have b1 : (x.op == 1) = false := by simp; omega
                        have b2 : (x.op == 2) = false := by simp; omega
                        have b3 : (x.op == 3) = false := by simp; omega
                        have b4 : (x.op == 4) = false := by simp; omega
                        have Hp := Hp0
                        have Hq := Hq0
                        have HX := HX0
                        obtain ⟨S2, v, f, hv⟩ : ∃ S2 v f, chargeR S = (S2, v, f) := ⟨_, _, _, rfl⟩
                        obtain ⟨FN, mN, eN, cN⟩ := IC.out b
                        have hI2 := HI.out.charge hi200
                        rw [hv] at hI2
                        have HE1 := Lib.hid (cN.out Hp.out HI.out.ok S2 v f hv)
                        have HE2 := Lib.hid (fun W G (hW : RSt (w.alloc (.cells #[.int .i64 cur, .slice a n c] 24)) W G r tag S) => rChargeS hW HI.out.ok HI.out.day hv)
                        have HI2 := Lib.hid hI2
                        clear hv hI2 o5 cN
                        go_wp2_with (first
                          | (go_at_fn FN; (with_reducible refine HE1.out.mono ?_)
                             rintro e w4 ⟨rfl, F4, hp4, hf4, hs4⟩
                             have hxx := heap_fr HX.out hf4 (fun h => by have := Hlt.out _ h; omega)
                             obtain ⟨x0, x1, x2, x3, z0, z1, z2, z3, xl⟩ := blk4 hxx
                             have Hxx := Lib.hid hxx
                             have Hp4 := Lib.hid hp4
                             have Hq4 := Lib.hid (Hq.out.fr hf4 (fun k h1 h2 => Hd.out k (.inl h2) h1) Hp.out.new)
                             have Hd4 := Lib.hid (fun k (h1 : F4 k ∨ k = p) (h2 : G k) => h1.elim (fun h1 => (hs4 k h1).elim (fun h => Hd.out k (.inl h) h2) (fun h => by have := Hq.out.lt k h2; omega)) (fun h1 => Hd.out k (.inr h1) h2) : ∀ k, F4 k ∨ k = p → ¬ G k)
                             clear hp4 hf4 hs4 hxx
                            )
                          | (go_at_call 15; (with_reducible refine (HE2.out _ _ Hq4.out).mono ?_)
                             rintro e w5 ⟨rfl, G5, hq5, hf5, hs5⟩
                             have hxx := heap_fr Hxx.out hf5 (fun h => by have := Hgt.out _ h; omega)
                             have Hq5 := Lib.hid hq5
                             have Hp5 := Lib.hid (Hp4.out.fr hf5 (fun k h1 => Hd4.out k (.inl h1)) (Hd4.out p (.inr rfl)) Hq4.out.new)
                             have Hd5 := Lib.hid (fun k (h1 : F4 k ∨ k = p) (h2 : G5 k) => (hs5 k h2).elim (fun h => Hd4.out k h1 h) (fun h => h1.elim (fun h1 => by have := Hp4.out.lt k h1; omega) (fun h1 => by have := Hp4.out.plt; omega)) : ∀ k, F4 k ∨ k = p → ¬ G5 k)
                             have Hxx5 := Lib.hid hxx
                             clear hq5 hf5 hs5 hxx
                            ))
                        obtain ⟨x0, x1, x2, x3, z0, z1, z2, z3, xl⟩ := blk4 Hxx5.out
                        obtain ⟨c0, c1, f0, f1, pl⟩ := blk2 Hp5.out.cell
                        have HFo := Lib.hid (fun W (hW : Below w5.heap.size w5 W) => cF.out (Hp5.out.below hW).q HI2.out.ok)
                        have hlen := HI2.out.ok.len
                        have HX5 := Lib.hid (heap_drew Hxx5.out)
                        have Hp6 := Lib.hid (Hp5.out.below (Below.refl _ _).drew)
                        have Hq6 := Lib.hid (Hq5.out.below (Below.refl _ _).drew)
                        refine wp_region_chain 287 [0, 1, 3, 7, 15, 31, 0, 127, 255, 511, 1023, 2047, 4095, 2047, 16383, 32767, 65535, 131071, 131071, 393215, 1048575, 131071, 131071, 4325375, 16777215, 33554431, 67108863] [(0, none), (1, none), (2, none), (3, none), (6, none), (4, some [6]), (5, some [6]), (7, some []), (8, some []), (9, none), (10, none), (11, none), (13, none), (12, some [13]), (14, none), (15, none), (16, none), (17, none), (18, none), (19, none), (21, none), (22, none), (23, none), (20, some [21, 22, 23]), (24, some []), (25, none), (26, none)] (by kernel_rfl) (by kernel_rfl) (by rfl) ?_; simp only [chain, Obs, List.getElem?_toArray, List.getElem?_cons_zero, List.getElem?_cons_succ]
                        go_wp2_with (first
                          | (with_reducible refine And.intro (by first | with_reducible exact True.intro | with_reducible rfl | go_simp) ?_)
                          | (go_at_fn FF; refine (HFo.out _ (Below.refl _ _).drew).mono ?_; rintro e w6 ⟨a6, k6, rfl, ho, hb6⟩; rw [List.length_map] at ho ⊢; have Hs6 := Lib.hid (Sl.of_own (l := S2.l.map (itOf S2.base)) It.len (by rw [List.length_map]; exact ho)); have Hp7 := Lib.hid (Hp6.out.below hb6); have Hq7 := Lib.hid (Hq6.out.below hb6); have HX6 := Lib.hid (heap_below HX5.out hb6); clear ho hb6)
                          | (go_at_call 10; refine (own_14 S2.cur (S2.l.map (itOf S2.base)) S2.l.length a6 k6 _ (List.length_map _) (by omega) Hs6.out).mono ?_; rintro e w7 ⟨a7, k7, rfl, ho, hb7⟩; rw [List.length_map] at ho ⊢; have Hs7 := Lib.hid (Sl.of_own (l := S2.l.map (itOf S2.base)) It.len (by rw [List.length_map]; exact ho)); have Hp8 := Lib.hid (Hp7.out.below hb7); have Hq8 := Lib.hid (Hq7.out.below hb7); have HX7 := Lib.hid (heap_below HX6.out hb7); obtain ⟨x0, x1, x2, x3, z0, z1, z2, z3, xl⟩ := blk4 HX7.out; clear ho hb7)
                          | (go_at_call 18; refine (rFormS Hq8.out HI2.out.ok).mono ?_; rintro e w8 ⟨a8, k8, rfl, ho, hb8⟩; rw [List.length_map] at ho ⊢; have Hs8 := Lib.hid (Sl.of_own (l := S2.l.map (itOf S2.base)) It.len (by rw [List.length_map]; exact ho)); have Hs78 := Lib.hid (Hs7.out.below hb8); have Hp9 := Lib.hid (Hp8.out.below hb8); have Hq9 := Lib.hid (Hq8.out.below hb8); have HX8 := Lib.hid (heap_below HX7.out hb8); obtain ⟨x0, x1, x2, x3, z0, z1, z2, z3, xl⟩ := blk4 HX8.out; clear ho hb8)
                          | (go_at_call 17; refine (rSame_any S2.cur S2.cur (S2.l.map (itOf S2.base)) (S2.l.map (itOf S2.base)) S2.l.length S2.l.length a7 a8 k7 k8 _ (List.length_map _) (List.length_map _) (by omega) (by omega) Hs78.out Hs8.out rfl).mono ?_; rintro e w9 ⟨rfl, hb9⟩; have Hp10 := Lib.hid (Hp9.out.below hb9); have Hq10 := Lib.hid (Hq9.out.below hb9); have HX9 := Lib.hid (heap_below HX8.out hb9); obtain ⟨x0, x1, x2, x3, z0, z1, z2, z3, xl⟩ := blk4 HX9.out; clear hb9)
                          | (go_at_call 19; refine (PolTag Hp10.out.pm).mono ?_; rintro e w10 ⟨rfl, rfl⟩)
                          | (go_at_call 20; refine (PolHeld Hp10.out.pm HT.out x.lag rfl).mono ?_; rintro e w10 ⟨rfl, rfl⟩)
                          | (go_at_call 21; refine (rHeld_any tag x.lag _ HT.out (Hlag.out)).mono ?_; rw [← heldT_r HT.out]; rintro e w10 ⟨rfl, rfl⟩))
                        refine NoPanic.normal ?_
                        go_wp2_with fail
                        go_roundw
                        case rel => exact ⟨i + 1, hlt, by go_num, F4, G5, S2, Hp10.out, Hq10.out, Hd5.out, HI2.out⟩
                        case measure => simp [intOf]; omega
                      case neg =>
                        by_cases o6 : x.op = 6
                        case pos =>
                          as_aux_lemma =>
                          have b6 : (x.op == 6) = true := by simpa using o6
                          have b0 : (x.op == 0) = false := by simp; omega
                          have b1 : (x.op == 1) = false := by simp; omega
                          have b2 : (x.op == 2) = false := by simp; omega
                          have b3 : (x.op == 3) = false := by simp; omega
                          have b4 : (x.op == 4) = false := by simp; omega
                          have b5 : (x.op == 5) = false := by simp; omega
                          obtain ⟨G5, rfl⟩ : ∃ G5, G5 = G := ⟨_, rfl⟩
                          have Hp := Lib.hid (Hp0.out.below (Below.refl _ _).drew)
                          have Hq := Lib.hid (Hq0.out.below (Below.refl _ _).drew)
                          have HX := Lib.hid (heap_drew HX0.out)
                          obtain ⟨S2, hS2⟩ : ∃ S2, S2 = (⟨S.base, -1, S.l⟩ : Ln) := ⟨_, rfl⟩
                          obtain ⟨v, hv⟩ : ∃ v, (S.cur != -1) = v := ⟨_, rfl⟩
                          have hbk : backR S = (S2, v) := by rw [hS2, ← hv]; rfl
                          have hI2 : PlayI (i + 1) S2 := by rw [hS2]; exact HI.out.pick hi200 (HI.out.ok.curs (-1) (.inl rfl)) ⟨-1, rfl⟩
                          obtain ⟨FN, mN, eN, cN⟩ := IB.out b
                          have HE1 := Lib.hid (cN.out Hp.out S2 v hbk)
                          have HI2 := Lib.hid hI2
                          have HS2 := Lib.hid hS2
                          obtain ⟨ra0, rc0, hr0⟩ := Hq.out.cells
                          obtain ⟨m0, m1, m2, m3, n0, n1, n2, n3, ml⟩ := blk4 hr0
                          have hrne : r ≠ wr.heap.size := by
                            obtain ⟨ra, rc, hrb⟩ := Hq0.out.q
                            intro e
                            have h1 := hrb.1.blk
                            rw [e] at h1
                            have h2 := HX0.out
                            rw [h2] at h1
                            simp at h1
                          have hcase : (decide (0 ≤ S.cur) = false ∧ v = false) ∨ (decide (0 ≤ S.cur) = true ∧ v = true) := by
                            rw [← hv]
                            rcases HI.out.ok.cur with h | ⟨y, hy, h⟩
                            · left; rw [h]; exact ⟨rfl, rfl⟩
                            · right
                              have := (HI.out.ok.pts y hy).1
                              exact ⟨decide_eq_true (by omega), by simp; omega⟩
                          clear hbk hI2 hS2 hv o6 hr0 cN
                          rcases hcase with ⟨hc, rfl⟩ | ⟨hc, rfl⟩
                          all_goals
                            go_wp2_with fail
                            refine wp_region_chain 287 [0, 1, 3, 7, 15, 0, 32, 96, 224, 480, 1023] [(0, none), (1, none), (2, none), (3, none), (5, none), (6, none), (7, none), (8, none), (9, none), (4, some [5, 6, 7, 8, 9]), (10, none)] (by kernel_rfl) (by kernel_rfl) (by rfl) ?_; simp only [chain, Obs, List.getElem?_toArray, List.getElem?_cons_zero, List.getElem?_cons_succ]
                            go_wp2_with (first
                              | (with_reducible refine And.intro (by first | with_reducible exact True.intro | with_reducible rfl | go_simp) ?_)
                              | (go_at_fn FN; (with_reducible refine HE1.out.mono ?_)
                                 rintro e w4 ⟨rfl, F4, hp4, hf4, hs4⟩
                                 have hxx := heap_fr HX.out hf4 (fun h => by have := Hlt.out _ h; omega)
                                 have Hxx := Lib.hid hxx
                                 have Hq4 := Lib.hid (Hq.out.fr hf4 (fun k h1 h2 => Hd.out k (.inl h2) h1) Hp.out.new)
                                 obtain ⟨ra1, rc1, hr1⟩ := Hq4.out.cells
                                 obtain ⟨k0, k1, k2, k3, y0, y1, y2, y3, kl⟩ := blk4 hr1
                                 have Hd5 := Lib.hid (fun k (h1 : F4 k ∨ k = p) (h2 : G5 k) => h1.elim (fun h1 => (hs4 k h1).elim (fun h => Hd.out k (.inl h) h2) (fun h => by have := Hq.out.lt k h2; omega)) (fun h1 => Hd.out k (.inr h1) h2) : ∀ k, F4 k ∨ k = p → ¬ G5 k)
                                 have hfS : Fr G5 w4 (w4.setCell ⟨r, 2, none⟩ (.int .i64 (-1))) := (Fr.refl G5 w4).setCell (p := ⟨r, 2, none⟩) (fun _ => by obtain ⟨a, c, _, e⟩ := Hq4.out.q; rw [e]; exact .inl rfl) _
                                 have hp5 := hp4.fr hfS (fun k h1 => Hd5.out k (.inl h1)) (Hd5.out p (.inr rfl)) Hq4.out.new
                                 have hq5 : RSt (w.alloc (.cells #[.int .i64 cur, .slice a n c] 24)) (w4.setCell ⟨r, 2, none⟩ (.int .i64 (-1))) G5 r tag S2 := by
                                   obtain ⟨a, c, h1, h2⟩ := Hq4.out.q
                                   rw [HS2.out]
                                   exact ⟨⟨a, c, h1.cur (-1), h2⟩, Hq4.out.new, Hq4.out.old.trans (hfS.below Hq4.out.old.size Hq4.out.new)⟩
                                 have hx5 := heap_fr Hxx.out hfS (fun h => by have := Hgt.out _ h; omega)
                                 have Hpq5 := Lib.hid (And.intro hp5 (And.intro hq5 hx5))
                                 clear hp4 hf4 hs4 hr1 hfS hp5 hq5 hx5 hxx m0 m1 m2 m3 n0 n1 n2 n3 ml))
                            refine NoPanic.normal ?_
                            go_wp2_with fail
                            clear k0 k1 k2 k3 y0 y1 y2 y3 kl
                            obtain ⟨w5, hw5⟩ : ∃ w5, w5 = w4.setCell ⟨r, 2, none⟩ (.int .i64 (-1)) := ⟨_, rfl⟩
                            rw [← hw5] at Hpq5 ⊢
                            have Hp5 := Lib.hid Hpq5.out.1
                            have Hq5 := Lib.hid Hpq5.out.2.1
                            have Hxx5 := Lib.hid Hpq5.out.2.2
                            clear hw5
                            obtain ⟨x0, x1, x2, x3, z0, z1, z2, z3, xl⟩ := blk4 Hxx5.out
                            obtain ⟨c0, c1, f0, f1, pl⟩ := blk2 Hp5.out.cell
                            have HFo := Lib.hid (fun W (hW : Below w5.heap.size w5 W) => cF.out (Hp5.out.below hW).q HI2.out.ok)
                            have hlen := HI2.out.ok.len
                            have HX5 := Lib.hid (heap_drew Hxx5.out)
                            have Hp6 := Lib.hid (Hp5.out.below (Below.refl _ _).drew)
                            have Hq6 := Lib.hid (Hq5.out.below (Below.refl _ _).drew)
                            refine wp_region_chain 287 [0, 1, 3, 7, 15, 31, 0, 127, 255, 511, 1023, 2047, 4095, 2047, 16383, 32767, 65535, 131071, 131071, 393215, 1048575, 131071, 131071, 4325375, 16777215, 33554431, 67108863] [(0, none), (1, none), (2, none), (3, none), (6, none), (4, some [6]), (5, some [6]), (7, some []), (8, some []), (9, none), (10, none), (11, none), (13, none), (12, some [13]), (14, none), (15, none), (16, none), (17, none), (18, none), (19, none), (21, none), (22, none), (23, none), (20, some [21, 22, 23]), (24, some []), (25, none), (26, none)] (by kernel_rfl) (by kernel_rfl) (by rfl) ?_; simp only [chain, Obs, List.getElem?_toArray, List.getElem?_cons_zero, List.getElem?_cons_succ]
                            go_wp2_with (first
                              | (with_reducible refine And.intro (by first | with_reducible exact True.intro | with_reducible rfl | go_simp) ?_)
                              | (go_at_fn FF; refine (HFo.out _ (Below.refl _ _).drew).mono ?_; rintro e w6 ⟨a6, k6, rfl, ho, hb6⟩; rw [List.length_map] at ho ⊢; have Hs6 := Lib.hid (Sl.of_own (l := S2.l.map (itOf S2.base)) It.len (by rw [List.length_map]; exact ho)); have Hp7 := Lib.hid (Hp6.out.below hb6); have Hq7 := Lib.hid (Hq6.out.below hb6); have HX6 := Lib.hid (heap_below HX5.out hb6); clear ho hb6)
                              | (go_at_call 10; refine (own_14 S2.cur (S2.l.map (itOf S2.base)) S2.l.length a6 k6 _ (List.length_map _) (by omega) Hs6.out).mono ?_; rintro e w7 ⟨a7, k7, rfl, ho, hb7⟩; rw [List.length_map] at ho ⊢; have Hs7 := Lib.hid (Sl.of_own (l := S2.l.map (itOf S2.base)) It.len (by rw [List.length_map]; exact ho)); have Hp8 := Lib.hid (Hp7.out.below hb7); have Hq8 := Lib.hid (Hq7.out.below hb7); have HX7 := Lib.hid (heap_below HX6.out hb7); obtain ⟨x0, x1, x2, x3, z0, z1, z2, z3, xl⟩ := blk4 HX7.out; clear ho hb7)
                              | (go_at_call 18; refine (rFormS Hq8.out HI2.out.ok).mono ?_; rintro e w8 ⟨a8, k8, rfl, ho, hb8⟩; rw [List.length_map] at ho ⊢; have Hs8 := Lib.hid (Sl.of_own (l := S2.l.map (itOf S2.base)) It.len (by rw [List.length_map]; exact ho)); have Hs78 := Lib.hid (Hs7.out.below hb8); have Hp9 := Lib.hid (Hp8.out.below hb8); have Hq9 := Lib.hid (Hq8.out.below hb8); have HX8 := Lib.hid (heap_below HX7.out hb8); obtain ⟨x0, x1, x2, x3, z0, z1, z2, z3, xl⟩ := blk4 HX8.out; clear ho hb8)
                              | (go_at_call 17; refine (rSame_any S2.cur S2.cur (S2.l.map (itOf S2.base)) (S2.l.map (itOf S2.base)) S2.l.length S2.l.length a7 a8 k7 k8 _ (List.length_map _) (List.length_map _) (by omega) (by omega) Hs78.out Hs8.out rfl).mono ?_; rintro e w9 ⟨rfl, hb9⟩; have Hp10 := Lib.hid (Hp9.out.below hb9); have Hq10 := Lib.hid (Hq9.out.below hb9); have HX9 := Lib.hid (heap_below HX8.out hb9); obtain ⟨x0, x1, x2, x3, z0, z1, z2, z3, xl⟩ := blk4 HX9.out; clear hb9)
                              | (go_at_call 19; refine (PolTag Hp10.out.pm).mono ?_; rintro e w10 ⟨rfl, rfl⟩)
                              | (go_at_call 20; refine (PolHeld Hp10.out.pm HT.out x.lag rfl).mono ?_; rintro e w10 ⟨rfl, rfl⟩)
                              | (go_at_call 21; refine (rHeld_any tag x.lag _ HT.out (Hlag.out)).mono ?_; rw [← heldT_r HT.out]; rintro e w10 ⟨rfl, rfl⟩))
                            refine NoPanic.normal ?_
                            go_wp2_with fail
                            go_roundw
                            case rel => exact ⟨i + 1, hlt, by go_num, F4, G5, S2, Hp10.out, Hq10.out, Hd5.out, HI2.out⟩
                            case measure => simp [intOf]; omega
                        case neg =>
                          as_aux_lemma =>
                          have Hp := Hp0
                          have Hq := Hq0
                          have HX := HX0
                          have b0 : (x.op == 0) = false := by simp; omega
                          have b1 : (x.op == 1) = false := by simp; omega
                          have b2 : (x.op == 2) = false := by simp; omega
                          have b3 : (x.op == 3) = false := by simp; omega
                          have b4 : (x.op == 4) = false := by simp; omega
                          have b5 : (x.op == 5) = false := by simp; omega
                          have b6 : (x.op == 6) = false := by simp; omega
                          obtain ⟨S1, v1, k1, hv1⟩ : ∃ S1 v k, pickT tag S = (S1, v, k) := ⟨_, _, _, rfl⟩
                          obtain ⟨S2, v2, k2, hv2⟩ : ∃ S2 v k, chargeR S1 = (S2, v, k) := ⟨_, _, _, rfl⟩
                          have hI2 := PlayI.run HT.out hi200 HI.out
                          rw [hv1, hv2] at hI2
                          have hI1 := PlayI.pickT HT.out hi200 HI.out
                          rw [hv1] at hI1
                          have HE1 := Lib.hid (PolRunT Hp.out HT.out HI.out.ok hv1 hv2)
                          have HE2 := Lib.hid (fun W G (hW : RSt (w.alloc (.cells #[.int .i64 cur, .slice a n c] 24)) W G r tag S) => rPickS_T HT.out hW HI.out.ok HI.out.far (by omega) hv1)
                          have HI2 := Lib.hid hI2
                          have HI1 := Lib.hid hI1
                          have HE3 := Lib.hid (fun W G (hW : RSt (w.alloc (.cells #[.int .i64 cur, .slice a n c] 24)) W G r tag S1) => rChargeS hW HI1.out.ok HI1.out.day hv2)
                          have hno := pickT_no HT.out HI.out.ok hv1 hv2
                          clear hv1 hv2 hI2 hI1 o0 o1 o2 o3 o4 o5 o6
                          cases k1 with
                          | true =>
                            clear hno
                            go_wp2_with (first
                              | (go_at_call 16; (with_reducible refine HE1.out.mono ?_)
                                 rintro e w4 ⟨rfl, F4, hp4, hf4, hs4⟩
                                 have hxx := heap_fr HX.out hf4 (fun h => by have := Hlt.out _ h; omega)
                                 obtain ⟨x0, x1, x2, x3, z0, z1, z2, z3, xl⟩ := blk4 hxx
                                 have Hxx := Lib.hid hxx
                                 have Hp4 := Lib.hid hp4
                                 have Hq4 := Lib.hid (Hq.out.fr hf4 (fun k h1 h2 => Hd.out k (.inl h2) h1) Hp.out.new)
                                 have Hd4 := Lib.hid (fun k (h1 : F4 k ∨ k = p) (h2 : G k) => h1.elim (fun h1 => (hs4 k h1).elim (fun h => Hd.out k (.inl h) h2) (fun h => by have := Hq.out.lt k h2; omega)) (fun h1 => Hd.out k (.inr h1) h2) : ∀ k, F4 k ∨ k = p → ¬ G k)
                                 clear hp4 hf4 hs4 hxx
                                )
                              | (go_at_call 14; (with_reducible refine (HE2.out _ _ Hq4.out).mono ?_)
                                 rintro e w7 ⟨rfl, G7, hq7, hf7, hs7⟩
                                 have hxx := heap_fr Hxx.out hf7 (fun h => by have := Hgt.out _ h; omega)
                                 have Hq7 := Lib.hid hq7
                                 have Hp7 := Lib.hid (Hp4.out.fr hf7 (fun k h1 => Hd4.out k (.inl h1)) (Hd4.out p (.inr rfl)) Hq4.out.new)
                                 have Hd7 := Lib.hid (fun k (h1 : F4 k ∨ k = p) (h2 : G7 k) => (hs7 k h2).elim (fun h => Hd4.out k h1 h) (fun h => h1.elim (fun h1 => by have := Hp4.out.lt k h1; omega) (fun h1 => by have := Hp4.out.plt; omega)) : ∀ k, F4 k ∨ k = p → ¬ G7 k)
                                 have hg7 : ¬ G7 wr.heap.size := fun h => (hs7 _ h).elim (fun h => by have := Hgt.out _ h; omega) (fun h => by have := (Array.getElem?_eq_some_iff.1 Hxx.out).1; omega)
                                 have Hg7 := Lib.hid hg7
                                 have Hxx7 := Lib.hid hxx
                                 clear hq7 hf7 hs7 hxx hg7)
                              | (go_at_call 15; (with_reducible refine (HE3.out _ _ Hq7.out).mono ?_)
                                 rintro e w5 ⟨rfl, G5, hq5, hf5, hs5⟩
                                 have hxx := heap_fr Hxx7.out hf5 Hg7.out
                                 have Hq5 := Lib.hid hq5
                                 have Hp5 := Lib.hid (Hp7.out.fr hf5 (fun k h1 => Hd7.out k (.inl h1)) (Hd7.out p (.inr rfl)) Hq7.out.new)
                                 have Hd5 := Lib.hid (fun k (h1 : F4 k ∨ k = p) (h2 : G5 k) => (hs5 k h2).elim (fun h => Hd7.out k h1 h) (fun h => h1.elim (fun h1 => by have := Hp7.out.lt k h1; omega) (fun h1 => by have := Hp7.out.plt; omega)) : ∀ k, F4 k ∨ k = p → ¬ G5 k)
                                 have Hxx5 := Lib.hid hxx
                                 clear hq5 hf5 hs5 hxx))
                            obtain ⟨x0, x1, x2, x3, z0, z1, z2, z3, xl⟩ := blk4 Hxx5.out
                            obtain ⟨c0, c1, f0, f1, pl⟩ := blk2 Hp5.out.cell
                            have HFo := Lib.hid (fun W (hW : Below w5.heap.size w5 W) => cF.out (Hp5.out.below hW).q HI2.out.ok)
                            have hlen := HI2.out.ok.len
                            have HX5 := Lib.hid (heap_drew Hxx5.out)
                            have Hp6 := Lib.hid (Hp5.out.below (Below.refl _ _).drew)
                            have Hq6 := Lib.hid (Hq5.out.below (Below.refl _ _).drew)
                            refine wp_region_chain 287 [0, 1, 3, 7, 15, 31, 0, 127, 255, 511, 1023, 2047, 4095, 2047, 16383, 32767, 65535, 131071, 131071, 393215, 1048575, 131071, 131071, 4325375, 16777215, 33554431, 67108863] [(0, none), (1, none), (2, none), (3, none), (6, none), (4, some [6]), (5, some [6]), (7, some []), (8, some []), (9, none), (10, none), (11, none), (13, none), (12, some [13]), (14, none), (15, none), (16, none), (17, none), (18, none), (19, none), (21, none), (22, none), (23, none), (20, some [21, 22, 23]), (24, some []), (25, none), (26, none)] (by kernel_rfl) (by kernel_rfl) (by rfl) ?_; simp only [chain, Obs, List.getElem?_toArray, List.getElem?_cons_zero, List.getElem?_cons_succ]
                            go_wp2_with (first
                              | (with_reducible refine And.intro (by first | with_reducible exact True.intro | with_reducible rfl | go_simp) ?_)
                              | (go_at_fn FF; refine (HFo.out _ (Below.refl _ _).drew).mono ?_; rintro e w6 ⟨a6, k6, rfl, ho, hb6⟩; rw [List.length_map] at ho ⊢; have Hs6 := Lib.hid (Sl.of_own (l := S2.l.map (itOf S2.base)) It.len (by rw [List.length_map]; exact ho)); have Hp7 := Lib.hid (Hp6.out.below hb6); have Hq7 := Lib.hid (Hq6.out.below hb6); have HX6 := Lib.hid (heap_below HX5.out hb6); clear ho hb6)
                              | (go_at_call 10; refine (own_14 S2.cur (S2.l.map (itOf S2.base)) S2.l.length a6 k6 _ (List.length_map _) (by omega) Hs6.out).mono ?_; rintro e w7 ⟨a7, k7, rfl, ho, hb7⟩; rw [List.length_map] at ho ⊢; have Hs7 := Lib.hid (Sl.of_own (l := S2.l.map (itOf S2.base)) It.len (by rw [List.length_map]; exact ho)); have Hp8 := Lib.hid (Hp7.out.below hb7); have Hq8 := Lib.hid (Hq7.out.below hb7); have HX7 := Lib.hid (heap_below HX6.out hb7); obtain ⟨x0, x1, x2, x3, z0, z1, z2, z3, xl⟩ := blk4 HX7.out; clear ho hb7)
                              | (go_at_call 18; refine (rFormS Hq8.out HI2.out.ok).mono ?_; rintro e w8 ⟨a8, k8, rfl, ho, hb8⟩; rw [List.length_map] at ho ⊢; have Hs8 := Lib.hid (Sl.of_own (l := S2.l.map (itOf S2.base)) It.len (by rw [List.length_map]; exact ho)); have Hs78 := Lib.hid (Hs7.out.below hb8); have Hp9 := Lib.hid (Hp8.out.below hb8); have Hq9 := Lib.hid (Hq8.out.below hb8); have HX8 := Lib.hid (heap_below HX7.out hb8); obtain ⟨x0, x1, x2, x3, z0, z1, z2, z3, xl⟩ := blk4 HX8.out; clear ho hb8)
                              | (go_at_call 17; refine (rSame_any S2.cur S2.cur (S2.l.map (itOf S2.base)) (S2.l.map (itOf S2.base)) S2.l.length S2.l.length a7 a8 k7 k8 _ (List.length_map _) (List.length_map _) (by omega) (by omega) Hs78.out Hs8.out rfl).mono ?_; rintro e w9 ⟨rfl, hb9⟩; have Hp10 := Lib.hid (Hp9.out.below hb9); have Hq10 := Lib.hid (Hq9.out.below hb9); have HX9 := Lib.hid (heap_below HX8.out hb9); obtain ⟨x0, x1, x2, x3, z0, z1, z2, z3, xl⟩ := blk4 HX9.out; clear hb9)
                              | (go_at_call 19; refine (PolTag Hp10.out.pm).mono ?_; rintro e w10 ⟨rfl, rfl⟩)
                              | (go_at_call 20; refine (PolHeld Hp10.out.pm HT.out x.lag rfl).mono ?_; rintro e w10 ⟨rfl, rfl⟩)
                              | (go_at_call 21; refine (rHeld_any tag x.lag _ HT.out (Hlag.out)).mono ?_; rw [← heldT_r HT.out]; rintro e w10 ⟨rfl, rfl⟩))
                            refine NoPanic.normal ?_
                            go_wp2_with fail
                            go_roundw
                            case rel => exact ⟨i + 1, hlt, by go_num, F4, G5, S2, Hp10.out, Hq10.out, Hd5.out, HI2.out⟩
                            case measure => simp [intOf]; omega
                          | false =>
                            obtain ⟨rfl, rfl, rfl⟩ := hno rfl
                            go_wp2_with (first
                              | (go_at_call 16; (with_reducible refine HE1.out.mono ?_)
                                 rintro e w4 ⟨rfl, F4, hp4, hf4, hs4⟩
                                 have hxx := heap_fr HX.out hf4 (fun h => by have := Hlt.out _ h; omega)
                                 obtain ⟨x0, x1, x2, x3, z0, z1, z2, z3, xl⟩ := blk4 hxx
                                 have Hxx := Lib.hid hxx
                                 have Hp4 := Lib.hid hp4
                                 have Hq4 := Lib.hid (Hq.out.fr hf4 (fun k h1 h2 => Hd.out k (.inl h2) h1) Hp.out.new)
                                 have Hd4 := Lib.hid (fun k (h1 : F4 k ∨ k = p) (h2 : G k) => h1.elim (fun h1 => (hs4 k h1).elim (fun h => Hd.out k (.inl h) h2) (fun h => by have := Hq.out.lt k h2; omega)) (fun h1 => Hd.out k (.inr h1) h2) : ∀ k, F4 k ∨ k = p → ¬ G k)
                                 clear hp4 hf4 hs4 hxx
                                )
                              | (go_at_call 14; (with_reducible refine (HE2.out _ _ Hq4.out).mono ?_)
                                 rintro e w5 ⟨rfl, G5, hq5, hf5, hs5⟩
                                 have hxx := heap_fr Hxx.out hf5 (fun h => by have := Hgt.out _ h; omega)
                                 have Hq5 := Lib.hid hq5
                                 have Hp5 := Lib.hid (Hp4.out.fr hf5 (fun k h1 => Hd4.out k (.inl h1)) (Hd4.out p (.inr rfl)) Hq4.out.new)
                                 have Hd5 := Lib.hid (fun k (h1 : F4 k ∨ k = p) (h2 : G5 k) => (hs5 k h2).elim (fun h => Hd4.out k h1 h) (fun h => h1.elim (fun h1 => by have := Hp4.out.lt k h1; omega) (fun h1 => by have := Hp4.out.plt; omega)) : ∀ k, F4 k ∨ k = p → ¬ G5 k)
                                 have Hxx5 := Lib.hid hxx
                                 clear hq5 hf5 hs5 hxx
                                ))
                            obtain ⟨x0, x1, x2, x3, z0, z1, z2, z3, xl⟩ := blk4 Hxx5.out
                            obtain ⟨c0, c1, f0, f1, pl⟩ := blk2 Hp5.out.cell
                            have HFo := Lib.hid (fun W (hW : Below w5.heap.size w5 W) => cF.out (Hp5.out.below hW).q HI2.out.ok)
                            have hlen := HI2.out.ok.len
                            have HX5 := Lib.hid (heap_drew Hxx5.out)
                            have Hp6 := Lib.hid (Hp5.out.below (Below.refl _ _).drew)
                            have Hq6 := Lib.hid (Hq5.out.below (Below.refl _ _).drew)
                            refine wp_region_chain 287 [0, 1, 3, 7, 15, 31, 0, 127, 255, 511, 1023, 2047, 4095, 2047, 16383, 32767, 65535, 131071, 131071, 393215, 1048575, 131071, 131071, 4325375, 16777215, 33554431, 67108863] [(0, none), (1, none), (2, none), (3, none), (6, none), (4, some [6]), (5, some [6]), (7, some []), (8, some []), (9, none), (10, none), (11, none), (13, none), (12, some [13]), (14, none), (15, none), (16, none), (17, none), (18, none), (19, none), (21, none), (22, none), (23, none), (20, some [21, 22, 23]), (24, some []), (25, none), (26, none)] (by kernel_rfl) (by kernel_rfl) (by rfl) ?_; simp only [chain, Obs, List.getElem?_toArray, List.getElem?_cons_zero, List.getElem?_cons_succ]
                            go_wp2_with (first
                              | (with_reducible refine And.intro (by first | with_reducible exact True.intro | with_reducible rfl | go_simp) ?_)
                              | (go_at_fn FF; refine (HFo.out _ (Below.refl _ _).drew).mono ?_; rintro e w6 ⟨a6, k6, rfl, ho, hb6⟩; rw [List.length_map] at ho ⊢; have Hs6 := Lib.hid (Sl.of_own (l := S2.l.map (itOf S2.base)) It.len (by rw [List.length_map]; exact ho)); have Hp7 := Lib.hid (Hp6.out.below hb6); have Hq7 := Lib.hid (Hq6.out.below hb6); have HX6 := Lib.hid (heap_below HX5.out hb6); clear ho hb6)
                              | (go_at_call 10; refine (own_14 S2.cur (S2.l.map (itOf S2.base)) S2.l.length a6 k6 _ (List.length_map _) (by omega) Hs6.out).mono ?_; rintro e w7 ⟨a7, k7, rfl, ho, hb7⟩; rw [List.length_map] at ho ⊢; have Hs7 := Lib.hid (Sl.of_own (l := S2.l.map (itOf S2.base)) It.len (by rw [List.length_map]; exact ho)); have Hp8 := Lib.hid (Hp7.out.below hb7); have Hq8 := Lib.hid (Hq7.out.below hb7); have HX7 := Lib.hid (heap_below HX6.out hb7); obtain ⟨x0, x1, x2, x3, z0, z1, z2, z3, xl⟩ := blk4 HX7.out; clear ho hb7)
                              | (go_at_call 18; refine (rFormS Hq8.out HI2.out.ok).mono ?_; rintro e w8 ⟨a8, k8, rfl, ho, hb8⟩; rw [List.length_map] at ho ⊢; have Hs8 := Lib.hid (Sl.of_own (l := S2.l.map (itOf S2.base)) It.len (by rw [List.length_map]; exact ho)); have Hs78 := Lib.hid (Hs7.out.below hb8); have Hp9 := Lib.hid (Hp8.out.below hb8); have Hq9 := Lib.hid (Hq8.out.below hb8); have HX8 := Lib.hid (heap_below HX7.out hb8); obtain ⟨x0, x1, x2, x3, z0, z1, z2, z3, xl⟩ := blk4 HX8.out; clear ho hb8)
                              | (go_at_call 17; refine (rSame_any S2.cur S2.cur (S2.l.map (itOf S2.base)) (S2.l.map (itOf S2.base)) S2.l.length S2.l.length a7 a8 k7 k8 _ (List.length_map _) (List.length_map _) (by omega) (by omega) Hs78.out Hs8.out rfl).mono ?_; rintro e w9 ⟨rfl, hb9⟩; have Hp10 := Lib.hid (Hp9.out.below hb9); have Hq10 := Lib.hid (Hq9.out.below hb9); have HX9 := Lib.hid (heap_below HX8.out hb9); obtain ⟨x0, x1, x2, x3, z0, z1, z2, z3, xl⟩ := blk4 HX9.out; clear hb9)
                              | (go_at_call 19; refine (PolTag Hp10.out.pm).mono ?_; rintro e w10 ⟨rfl, rfl⟩)
                              | (go_at_call 20; refine (PolHeld Hp10.out.pm HT.out x.lag rfl).mono ?_; rintro e w10 ⟨rfl, rfl⟩)
                              | (go_at_call 21; refine (rHeld_any tag x.lag _ HT.out (Hlag.out)).mono ?_; rw [← heldT_r HT.out]; rintro e w10 ⟨rfl, rfl⟩))
                            refine NoPanic.normal ?_
                            go_wp2_with fail
                            go_roundw
                            case rel => exact ⟨i + 1, hlt, by go_num, F4, G5, S2, Hp10.out, Hq10.out, Hd5.out, HI2.out⟩
                            case measure => simp [intOf]; omega
end Go.Proofs.YtfijedmdfkelnaaGreat
