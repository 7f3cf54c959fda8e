/- The walk of SysHolds. -/
import Derived.Test.YthdilellcaebfaaGreatSHp
import Derived.Test.YthdilellcaebfaaGreatSzY
namespace Go.Proofs.YthdilellcaebfaaGreat
open Go.RowKit Go.Shelf
set_option linter.unusedVariables false
set_option linter.unusedSimpArgs false

set_option maxHeartbeats 6400000 in
set_option maxRecDepth 100000 in
theorem sysHolds_walk (l1 : List Int) (n1 : Nat) (a1 : Option Addr) (c1 : Nat) (q p : Int) (l2 : List Int) (n2 : Nat) (a2 : Option Addr) (c2 : Nat) (n : Int) (w : World)
    (hn1 : l1.length = n1) (hm1 : n1 ≤ maxLen) (hs1 : Sl int1 1 w a1 l1) (hq : I63 q) (hp : I63 p) (hn2 : l2.length = n2) (hm2 : n2 ≤ maxLen) (hs2 : Sl int1 1 w a2 l2) (hn : I63 n) :
    Calls Tryz.prog 5 #[.slice a1 n1 c1, .int .i64 q, .int .i64 p, .slice a2 n2 c2, .int .i64 n] w fun e w' => e = .returned (.bool true) ∧ Below w.heap.size w w' := by
  have HA := Lib.hid (fun (W : World) => awake23 W)
  have HN := Lib.hid (fun (W : World) (hs : Sl int1 1 W a1 l1) => YNew l1 n1 hn1 a1 c1 W hs)
  have Hn1 := Lib.hid hn1; have Hn2 := Lib.hid hn2
  have HS1 := Lib.hid hs1; have HS2 := Lib.hid hs2
  clear hn1 hs1 hn2 hs2 hq hp hn
  by_cases b1 : (n1 : Int) < 1
  · skip
    go_enter Tryz.func5, Tryz.ntmps5
    go_wp2_with (first
      | (go_at_call 8; refine (HA.out _).mono ?_; rintro e w1 ⟨rfl, hb1⟩; have Hb1 := Lib.hid hb1; clear hb1)
      )
    go_ret
    exact ⟨rfl, Hb1.out⟩
  by_cases b2 : (6 : Int) < n1
  · skip
    go_enter Tryz.func5, Tryz.ntmps5
    go_wp2_with (first
      | (go_at_call 8; refine (HA.out _).mono ?_; rintro e w1 ⟨rfl, hb1⟩; have Hb1 := Lib.hid hb1; clear hb1)
      )
    go_ret
    exact ⟨rfl, Hb1.out⟩
  by_cases b3 : (10 : Int) < n2
  · skip
    go_enter Tryz.func5, Tryz.ntmps5
    go_wp2_with (first
      | (go_at_call 8; refine (HA.out _).mono ?_; rintro e w1 ⟨rfl, hb1⟩; have Hb1 := Lib.hid hb1; clear hb1)
      )
    go_ret
    exact ⟨rfl, Hb1.out⟩
  by_cases b4 : n < 0
  · skip
    go_enter Tryz.func5, Tryz.ntmps5
    go_wp2_with (first
      | (go_at_call 8; refine (HA.out _).mono ?_; rintro e w1 ⟨rfl, hb1⟩; have Hb1 := Lib.hid hb1; clear hb1)
      )
    go_ret
    exact ⟨rfl, Hb1.out⟩
  by_cases b5 : 150 < n
  · skip
    go_enter Tryz.func5, Tryz.ntmps5
    go_wp2_with (first
      | (go_at_call 8; refine (HA.out _).mono ?_; rintro e w1 ⟨rfl, hb1⟩; have Hb1 := Lib.hid hb1; clear hb1)
      )
    go_ret
    exact ⟨rfl, Hb1.out⟩
  by_cases b6 : q < 1
  · skip
    go_enter Tryz.func5, Tryz.ntmps5
    go_wp2_with (first
      | (go_at_call 8; refine (HA.out _).mono ?_; rintro e w1 ⟨rfl, hb1⟩; have Hb1 := Lib.hid hb1; clear hb1)
      )
    go_ret
    exact ⟨rfl, Hb1.out⟩
  by_cases b7 : 200 < q
  · skip
    go_enter Tryz.func5, Tryz.ntmps5
    go_wp2_with (first
      | (go_at_call 8; refine (HA.out _).mono ?_; rintro e w1 ⟨rfl, hb1⟩; have Hb1 := Lib.hid hb1; clear hb1)
      )
    go_ret
    exact ⟨rfl, Hb1.out⟩
  by_cases b8 : p < 1
  · skip
    go_enter Tryz.func5, Tryz.ntmps5
    go_wp2_with (first
      | (go_at_call 8; refine (HA.out _).mono ?_; rintro e w1 ⟨rfl, hb1⟩; have Hb1 := Lib.hid hb1; clear hb1)
      )
    go_ret
    exact ⟨rfl, Hb1.out⟩
  by_cases b9 : 200 < p
  · skip
    go_enter Tryz.func5, Tryz.ntmps5
    go_wp2_with (first
      | (go_at_call 8; refine (HA.out _).mono ?_; rintro e w1 ⟨rfl, hb1⟩; have Hb1 := Lib.hid hb1; clear hb1)
      )
    go_ret
    exact ⟨rfl, Hb1.out⟩
  by_cases hg : newGood l1
  · replace HN := Lib.hid (fun (W : World) (hs : Sl int1 1 W a1 l1) => (HN.out W hs).mono (fun e w' h => h.resolve_right (fun h => h.1 hg)))
    have hqb : QB q p 0 0 := by unfold QB; omega
    obtain ⟨s0, hgs, hq0, hcl⟩ := group_new l1 q p hqb
    have HG := Lib.hid (fun (W w0 : World) (ow : Nat → Option Own) (L : Lay) (hW : SysIn w0 W ow L (SysS.new l1)) => YGroup hW (SysOk.new hg) 0 q p)
    rw [hgs] at HG
    go_enter Tryz.func5, Tryz.ntmps5
    go_wp2_with (first
      | (go_at_call 8; refine (HA.out _).mono ?_; rintro e w1 ⟨rfl, hb1⟩; have Hb1 := Lib.hid hb1; clear hb1)
      | (go_at_call 9; refine (HN.out _ (HS1.out.below Hb1.out)).mono ?_; rintro e w2 ⟨-, ow, L, rfl, h2, hmn⟩
         have H2 := Lib.hid h2; have Hmn := Lib.hid hmn; clear h2 hmn)
      | (go_at_call 18; refine (HG.out _ _ _ _ H2.out).mono ?_; rintro e w3 ⟨rfl, ow3, h3, hf3, ho3⟩
         have H3 := Lib.hid h3; clear h3 hf3 ho3))
    have hn6 : 1 ≤ n1 ∧ n1 ≤ 6 := by omega
    rw [mask_val hn6.2]
    have hM16 : 0 ≤ (2 ^ n1 - 1 : Int) ∧ (2 ^ n1 - 1 : Int) < 65536 := mask_16 hn6.2
    generalize (2 ^ n1 - 1 : Int) = M at *
    have HM16 := Lib.hid hM16
    have hok0 : SysOk 0 s0 := by have := (SysOk.new hg).group 0 q p; rw [hgs] at this; exact this
    have HOk0 := Lib.hid hok0
    have HQ0 := Lib.hid hq0
    have HQb := Lib.hid hqb
    rw [Hn1.out] at hcl
    have HCl := Lib.hid hcl
    clear hM16 hg hok0 hq0 hgs hqb hcl
    go_loopw [16] (fun ix wr => ∃ (k : Nat) (ow' : Nat → Option Own) (L' : Lay) (s : SysS), k ≤ n2 ∧ ix = .int .i64 k ∧ L'.b = L.b ∧ L'.mn ≤ k ∧ SysIn w1 wr ow' L' s ∧ SysOk (3 * k) s ∧ HQ q p 0 0 s ∧ s.cores.length = n1) (fun ix _ => n2 - (intOf ix).toNat)
    case atStart =>
      exact ⟨0, ow3, L, s0, Nat.zero_le _, rfl, rfl, by rw [Hmn.out]; exact Nat.le_refl _, H3.out, HOk0.out, HQ0.out, HCl.out⟩
    case round =>
      obtain ⟨k, ow', L', s, hk, rfl, hLb, hmn, h, hok, hfr, hcl⟩ := hrel
      have hk0 : (0 : Int) ≤ k := by omega
      by_cases hlt : k < n2
      · have hkn : (k : Int) < n2 := by omega
        obtain ⟨x, hx⟩ : ∃ x, l2[k]? = some x := ⟨_, List.getElem?_eq_getElem (by rw [Hn2.out]; exact hlt)⟩
        obtain ⟨r, off, rfl, hr, hc⟩ := HS2.out (by intro h0; rw [h0] at hx; simp at hx)
        have hbw := Hb1.out.trans (h.old.mono Hb1.out.size)
        have e0 := (hbw.cell (p := ⟨r, off + k * 1 + 0, none⟩) hr).trans (hc k x hx 0 _ rfl)
        simp only [Nat.mul_one, Nat.add_zero] at e0
        have HSp := Lib.hid (YSpawn h hok (by omega) x M 1 HM16.out (by omega))
        have hok1 := hok.spawn x M 1 HM16.out
        rw [hLb] at HSp
        have HLb := Lib.hid hLb
        have HLm := Lib.hid hmn
        have hcl2 := spawn_len s x M 1
        rcases hfr.made HQb.out hok (by omega) x M with ⟨n1', n2'⟩ | ⟨n1', n2', n3'⟩
        · rw [n2'] at HSp
          have HOk := Lib.hid hok
          have HFr := Lib.hid hfr
          have HCl2 := Lib.hid hcl
          have hne : ¬ (s.spawn x M 1).2.2 = 0 := n1'
          generalize (s.spawn x M 1).2.2 = f at *
          generalize (s.spawn x M 1).2.1 = v at *
          clear h hok hfr hLb hmn hok1 n1' n2' hc hx hbw hcl2 hcl
          go_wp2_with (first
            | (go_at_call 10; refine HSp.out.mono ?_; rintro e w5 ⟨rfl, ow5, L5, hb5, hm5, h5, hf5, ho5⟩
               have H5 := Lib.hid h5; have Hb5 := Lib.hid hb5; have Hm5 := Lib.hid hm5
               clear h5 hf5 ho5 hb5 hm5))
          exact ⟨⟨k + 1, ow5, L5, s, hlt, by go_num, by rw [Hb5.out]; exact HLb.out, by have := Hm5.out; have := HLm.out; omega, H5.out, HOk.out.mono (by omega), HFr.out, HCl2.out⟩, by simp [intOf]; omega⟩
        · have hok2 := hok1.start (by omega) (s.spawn x M 1).2.1
          have HSt := Lib.hid (fun (W : World) (ow5 : Nat → Option Own) (L5 : Lay) (h5 : SysIn w1 W ow5 L5 (s.spawn x M 1).1) => YStart h5 hok1 (by omega) n2')
          have HOk2 := Lib.hid hok2
          have HFr := Lib.hid n3'
          have HCl2 := Lib.hid ((start_len (s.spawn x M 1).1 (s.spawn x M 1).2.1).trans (hcl2.trans hcl))
          rw [n1'] at HSp
          generalize (s.spawn x M 1).2.1 = v at *
          generalize (s.spawn x M 1).1 = s2 at *
          clear h hok hfr hLb hmn hok1 n1' n2' n3' hok2 hc hx hbw hcl2 hcl
          go_wp2_with (first
            | (go_at_call 10; refine HSp.out.mono ?_; rintro e w5 ⟨rfl, ow5, L5, hb5, hm5, h5, hf5, ho5⟩
               have HSq := Lib.hid (HSt.out _ _ _ h5)
               rw [hb5, HLb.out] at HSq
               have Hb5 := Lib.hid hb5; have Hm5 := Lib.hid hm5
               clear h5 hf5 ho5 hb5 hm5)
            | (go_at_call 11; refine HSq.out.mono ?_; rintro e w6 ⟨rfl, ow6, h6, hf6, ho6⟩
               have H6 := Lib.hid h6; clear h6 hf6 ho6))
          exact ⟨⟨k + 1, ow6, L5, _, hlt, by go_num, by rw [Hb5.out]; exact HLb.out, by have := Hm5.out; have := HLm.out; omega, H6.out, HOk2.out.mono (by omega), HFr.out, HCl2.out⟩, by simp [intOf]; omega⟩
      · obtain rfl : k = n2 := by omega
        have HLb := Lib.hid hLb
        have H4 := Lib.hid h
        have HOk := Lib.hid (hok.mono (show 3 * k ≤ 30 by omega))
        have HFr := Lib.hid hfr
        have HCl2 := Lib.hid hcl
        obtain ⟨m, rfl⟩ : ∃ m : Nat, n = m := ⟨n.toNat, by omega⟩
        clear h hok hfr hLb hcl
        go_wp2_with fail
        go_loopw [19, 20] (fun ux ix wr => ∃ (j : Nat) (u f : Int) (ow' : Nat → Option Own) (s : SysS), j ≤ m ∧ ux = .int .i64 u ∧ ix = .int .i64 j ∧ SysIn w1 wr ow' L' s ∧ SysOk (30 + 260 * j) s ∧ HQ q p u f s ∧ QB q p u f ∧ s.cores.length = n1) (fun _ ix _ => m - (intOf ix).toNat)
        case atStart => exact ⟨0, 0, 0, ow', s, Nat.zero_le _, rfl, rfl, H4.out, HOk.out, HFr.out, HQb.out, HCl2.out⟩
        case round =>
          obtain ⟨j, u, f, ow2, s2, hj, rfl, rfl, h, hok, hq, hb, hcl⟩ := hrel
          have hj0 : (0 : Int) ≤ j := by omega
          by_cases hlt2 : j < m
          · have hjn : (j : Int) < m := by omega
            have hrem : Int.tmod (j : Int) n1 = ((j % n1 : Nat) : Int) := by rw [Int.tmod_eq_emod_of_nonneg (by omega)]; rfl
            have hcj : 0 ≤ ((j % n1 : Nat) : Int) ∧ ((j % n1 : Nat) : Int) < s2.cores.length := by
              have := Nat.mod_lt j (show 0 < n1 by omega)
              omega
            have HR := Lib.hid (YRun h hok (by omega) ((j % n1 : Nat) : Int))
            rw [HLb.out] at HR
            obtain ⟨r0, rr⟩ := hq.run hok (by omega) hb hcj
            rw [r0] at HR
            have hok3 := hok.run (by omega) ((j % n1 : Nat) : Int)
            have hcl3 := (run_len s2 ((j % n1 : Nat) : Int)).trans hcl
            have hqb := hb
            unfold QB at hqb
            obtain ⟨t1, t2, t3, t4, t5, t6, t7, t8⟩ := hqb
            generalize hcc : ((j % n1 : Nat) : Int) = cc at *
            have HOk3 := Lib.hid hok3
            have HCl3 := Lib.hid hcl3
            have hj7 : Int.tmod (j : Int) 7 = (j : Int) % 7 := by rw [Int.tmod_eq_emod_of_nonneg (by omega)]
            rcases rr with ⟨hneg, hq3⟩ | ⟨hpos, hu, hq3⟩
            · have hng : ¬ 0 ≤ (s2.run cc).2.1 := by omega
              generalize (s2.run cc).2.1 = v at *
              generalize (s2.run cc).1 = s3 at *
              have hb3 := hb
              have HA3 := Lib.hid (fun (W : World) (ow3 : Nat → Option Own) (hW : SysIn w1 W ow3 L' s3) => YAccount hW 1 (hok3.g16))
              rw [show hasG s3.ups 1 = true by rw [hq3.ups]; decide, if_pos rfl, show s3.acc (Int.toNat 1) = ⟨q, p, q - u, f⟩ by unfold SysS.acc; rw [hq3.grps]; rfl, HLb.out] at HA3
              simp only [Acn.enc] at HA3
              have HQ3 := Lib.hid hq3
              have Hb3 := Lib.hid hb3
              by_cases h7 : (j : Int) % 7 = 6
              · have HTk := Lib.hid (fun (W : World) (ow3 : Nat → Option Own) (hW : SysIn w1 W ow3 L' s3) => YTick hW hok3 (by omega) (n := 1) (by unfold I63; omega))
                obtain ⟨k0, k1, k2, k3⟩ := hq3.tick hb3
                have hok4 := hok3.tick (by omega) 1
                have HOk4 := Lib.hid hok4
                have HCl4 := Lib.hid ((tick_len s3 1).trans hcl3)
                rw [k0, HLb.out] at HTk
                have HA4 := Lib.hid (fun (W : World) (ow3 : Nat → Option Own) (hW : SysIn w1 W ow3 L' (s3.tick 1).1) => YAccount hW 1 (hok4.g16))
                rw [show hasG (s3.tick 1).1.ups 1 = true by rw [k1.ups]; decide, if_pos rfl, show (s3.tick 1).1.acc (Int.toNat 1) = ⟨q, p, _, _⟩ by unfold SysS.acc; rw [k1.grps]; rfl, HLb.out] at HA4
                simp only [Acn.enc] at HA4
                have htm : Int.tmod (f + 1) p = (f + 1) % p := by rw [Int.tmod_eq_emod_of_nonneg (by omega)]
                generalize (s3.tick 1).1 = s4 at *
                by_cases hpf : p - f ≤ 1
                · rw [if_pos hpf] at k1 k2 HA4
                  rw [k3.2 hpf] at k1 k2 HA4 htm
                  have HQ4 := Lib.hid k1
                  have HB4 := Lib.hid k2
                  clear k0 k1 k2 k3 hok4 hpf
                  clear h hok hq hb hcl hok3 hcl3 r0 hq3 hcj hb3
                  go_wp2_with (first
                    | (go_at_call 12; refine HR.out.mono ?_; rintro e w5 ⟨rfl, ow5, h5, hf5, ho5⟩; have H5 := Lib.hid h5; clear h5 hf5 ho5)
                    | (go_at_call 19; refine (HA3.out _ _ H5.out).mono ?_; rintro e w6 ⟨rfl, hb6⟩; have h6 := fun o => H5.out.below (hb6.alloc hb6.size o); have H6 := Lib.hid h6; clear h6)
                    | (go_at_call 20; refine (HTk.out _ _ (H6.out _)).mono ?_; rintro e w7 ⟨rfl, ow7, h7w, hf7, ho7⟩; have H7 := Lib.hid h7w; clear h7w hf7 ho7)
                    | (go_at_call 19; refine (HA4.out _ _ H7.out).mono ?_; rintro e w8 ⟨rfl, hb8⟩; have h8 := fun o => H7.out.below ((hb8.alloc hb8.size o).drew); have H8 := Lib.hid h8; clear h8))
                  refine wp_region_chain 168 [0, 1, 0, 4, 0, 28, 63] [(0, none), (1, none), (2, none), (3, none), (4, none), (5, none), (6, none)] (by kernel_rfl) (by kernel_rfl) (by rfl) ?_; simp only [chain, Obs, List.getElem?_toArray, List.getElem?_cons_zero, List.getElem?_cons_succ]
                  go_wp2_with (with_reducible refine And.intro (by first | with_reducible exact True.intro | with_reducible rfl | go_simp) ?_)
                  refine NoPanic.normal ?_
                  go_wp2_with fail
                  exact ⟨⟨j + 1, 0, 0, ow7, _, hlt2, rfl, by go_num, H8.out _, HOk4.out.mono (by omega), HQ4.out, HB4.out, HCl4.out⟩, by simp [intOf]; omega⟩
                · rw [if_neg hpf] at k1 k2 HA4
                  have hf4 : ¬ (f + 1) % p = 0 := fun e => hpf (k3.1 e)
                  generalize (f + 1) % p = f4 at *
                  have HQ4 := Lib.hid k1
                  have HB4 := Lib.hid k2
                  clear k0 k1 k2 k3 hok4 hpf
                  clear h hok hq hb hcl hok3 hcl3 r0 hq3 hcj hb3
                  go_wp2_with (first
                    | (go_at_call 12; refine HR.out.mono ?_; rintro e w5 ⟨rfl, ow5, h5, hf5, ho5⟩; have H5 := Lib.hid h5; clear h5 hf5 ho5)
                    | (go_at_call 19; refine (HA3.out _ _ H5.out).mono ?_; rintro e w6 ⟨rfl, hb6⟩; have h6 := fun o => H5.out.below (hb6.alloc hb6.size o); have H6 := Lib.hid h6; clear h6)
                    | (go_at_call 20; refine (HTk.out _ _ (H6.out _)).mono ?_; rintro e w7 ⟨rfl, ow7, h7w, hf7, ho7⟩; have H7 := Lib.hid h7w; clear h7w hf7 ho7)
                    | (go_at_call 19; refine (HA4.out _ _ H7.out).mono ?_; rintro e w8 ⟨rfl, hb8⟩; have h8 := fun o => H7.out.below ((hb8.alloc hb8.size o).drew); have H8 := Lib.hid h8; clear h8))
                  refine wp_region_chain 168 [0, 1, 0, 4, 0, 28, 63] [(0, none), (1, none), (2, none), (3, none), (4, none), (5, none), (6, none)] (by kernel_rfl) (by kernel_rfl) (by rfl) ?_; simp only [chain, Obs, List.getElem?_toArray, List.getElem?_cons_zero, List.getElem?_cons_succ]
                  go_wp2_with (with_reducible refine And.intro (by first | with_reducible exact True.intro | with_reducible rfl | go_simp) ?_)
                  refine NoPanic.normal ?_
                  go_wp2_with fail
                  exact ⟨⟨j + 1, u, f4, ow7, _, hlt2, rfl, by go_num, H8.out _, HOk4.out.mono (by omega), HQ4.out, HB4.out, HCl4.out⟩, by simp [intOf]; omega⟩
              · clear h hok hq hb hcl hok3 hcl3 r0 hq3 hcj hb3
                go_wp2_with (first
                  | (go_at_call 12; refine HR.out.mono ?_; rintro e w5 ⟨rfl, ow5, h5, hf5, ho5⟩; have H5 := Lib.hid h5; clear h5 hf5 ho5)
                  | (go_at_call 19; refine (HA3.out _ _ H5.out).mono ?_; rintro e w6 ⟨rfl, hb6⟩; have h6 := fun o => H5.out.below (hb6.alloc hb6.size o); have H6 := Lib.hid h6; clear h6)
                  )
                exact ⟨⟨j + 1, u, f, ow5, s3, hlt2, rfl, by go_num, H6.out _, HOk3.out.mono (by omega), HQ3.out, Hb3.out, HCl3.out⟩, by simp [intOf]; omega⟩
            · have hb3 : QB q p (u + 1) f := by unfold QB at hb ⊢; omega
              generalize (s2.run cc).2.1 = v at *
              generalize (s2.run cc).1 = s3 at *
              have HA3 := Lib.hid (fun (W : World) (ow3 : Nat → Option Own) (hW : SysIn w1 W ow3 L' s3) => YAccount hW 1 (hok3.g16))
              rw [show hasG s3.ups 1 = true by rw [hq3.ups]; decide, if_pos rfl, show s3.acc (Int.toNat 1) = ⟨q, p, q - (u + 1), f⟩ by unfold SysS.acc; rw [hq3.grps]; rfl, HLb.out] at HA3
              simp only [Acn.enc] at HA3
              have HQ3 := Lib.hid hq3
              have Hb3 := Lib.hid hb3
              by_cases h7 : (j : Int) % 7 = 6
              · have HTk := Lib.hid (fun (W : World) (ow3 : Nat → Option Own) (hW : SysIn w1 W ow3 L' s3) => YTick hW hok3 (by omega) (n := 1) (by unfold I63; omega))
                obtain ⟨k0, k1, k2, k3⟩ := hq3.tick hb3
                have hok4 := hok3.tick (by omega) 1
                have HOk4 := Lib.hid hok4
                have HCl4 := Lib.hid ((tick_len s3 1).trans hcl3)
                rw [k0, HLb.out] at HTk
                have HA4 := Lib.hid (fun (W : World) (ow3 : Nat → Option Own) (hW : SysIn w1 W ow3 L' (s3.tick 1).1) => YAccount hW 1 (hok4.g16))
                rw [show hasG (s3.tick 1).1.ups 1 = true by rw [k1.ups]; decide, if_pos rfl, show (s3.tick 1).1.acc (Int.toNat 1) = ⟨q, p, _, _⟩ by unfold SysS.acc; rw [k1.grps]; rfl, HLb.out] at HA4
                simp only [Acn.enc] at HA4
                have htm : Int.tmod (f + 1) p = (f + 1) % p := by rw [Int.tmod_eq_emod_of_nonneg (by omega)]
                generalize (s3.tick 1).1 = s4 at *
                by_cases hpf : p - f ≤ 1
                · rw [if_pos hpf] at k1 k2 HA4
                  rw [k3.2 hpf] at k1 k2 HA4 htm
                  have HQ4 := Lib.hid k1
                  have HB4 := Lib.hid k2
                  clear k0 k1 k2 k3 hok4 hpf
                  clear h hok hq hb hcl hok3 hcl3 r0 hq3 hcj hb3
                  go_wp2_with (first
                    | (go_at_call 12; refine HR.out.mono ?_; rintro e w5 ⟨rfl, ow5, h5, hf5, ho5⟩; have H5 := Lib.hid h5; clear h5 hf5 ho5)
                    | (go_at_call 19; refine (HA3.out _ _ H5.out).mono ?_; rintro e w6 ⟨rfl, hb6⟩; have h6 := fun o => H5.out.below (hb6.alloc hb6.size o); have H6 := Lib.hid h6; clear h6)
                    | (go_at_call 20; refine (HTk.out _ _ (H6.out _)).mono ?_; rintro e w7 ⟨rfl, ow7, h7w, hf7, ho7⟩; have H7 := Lib.hid h7w; clear h7w hf7 ho7)
                    | (go_at_call 19; refine (HA4.out _ _ H7.out).mono ?_; rintro e w8 ⟨rfl, hb8⟩; have h8 := fun o => H7.out.below ((hb8.alloc hb8.size o).drew); have H8 := Lib.hid h8; clear h8))
                  refine wp_region_chain 168 [0, 1, 0, 4, 0, 28, 63] [(0, none), (1, none), (2, none), (3, none), (4, none), (5, none), (6, none)] (by kernel_rfl) (by kernel_rfl) (by rfl) ?_; simp only [chain, Obs, List.getElem?_toArray, List.getElem?_cons_zero, List.getElem?_cons_succ]
                  go_wp2_with (with_reducible refine And.intro (by first | with_reducible exact True.intro | with_reducible rfl | go_simp) ?_)
                  refine NoPanic.normal ?_
                  go_wp2_with fail
                  exact ⟨⟨j + 1, 0, 0, ow7, _, hlt2, rfl, by go_num, H8.out _, HOk4.out.mono (by omega), HQ4.out, HB4.out, HCl4.out⟩, by simp [intOf]; omega⟩
                · rw [if_neg hpf] at k1 k2 HA4
                  have hf4 : ¬ (f + 1) % p = 0 := fun e => hpf (k3.1 e)
                  generalize (f + 1) % p = f4 at *
                  have HQ4 := Lib.hid k1
                  have HB4 := Lib.hid k2
                  clear k0 k1 k2 k3 hok4 hpf
                  clear h hok hq hb hcl hok3 hcl3 r0 hq3 hcj hb3
                  go_wp2_with (first
                    | (go_at_call 12; refine HR.out.mono ?_; rintro e w5 ⟨rfl, ow5, h5, hf5, ho5⟩; have H5 := Lib.hid h5; clear h5 hf5 ho5)
                    | (go_at_call 19; refine (HA3.out _ _ H5.out).mono ?_; rintro e w6 ⟨rfl, hb6⟩; have h6 := fun o => H5.out.below (hb6.alloc hb6.size o); have H6 := Lib.hid h6; clear h6)
                    | (go_at_call 20; refine (HTk.out _ _ (H6.out _)).mono ?_; rintro e w7 ⟨rfl, ow7, h7w, hf7, ho7⟩; have H7 := Lib.hid h7w; clear h7w hf7 ho7)
                    | (go_at_call 19; refine (HA4.out _ _ H7.out).mono ?_; rintro e w8 ⟨rfl, hb8⟩; have h8 := fun o => H7.out.below ((hb8.alloc hb8.size o).drew); have H8 := Lib.hid h8; clear h8))
                  refine wp_region_chain 168 [0, 1, 0, 4, 0, 28, 63] [(0, none), (1, none), (2, none), (3, none), (4, none), (5, none), (6, none)] (by kernel_rfl) (by kernel_rfl) (by rfl) ?_; simp only [chain, Obs, List.getElem?_toArray, List.getElem?_cons_zero, List.getElem?_cons_succ]
                  go_wp2_with (with_reducible refine And.intro (by first | with_reducible exact True.intro | with_reducible rfl | go_simp) ?_)
                  refine NoPanic.normal ?_
                  go_wp2_with fail
                  exact ⟨⟨j + 1, (u + 1), f4, ow7, _, hlt2, rfl, by go_num, H8.out _, HOk4.out.mono (by omega), HQ4.out, HB4.out, HCl4.out⟩, by simp [intOf]; omega⟩
              · clear h hok hq hb hcl hok3 hcl3 r0 hq3 hcj hb3
                go_wp2_with (first
                  | (go_at_call 12; refine HR.out.mono ?_; rintro e w5 ⟨rfl, ow5, h5, hf5, ho5⟩; have H5 := Lib.hid h5; clear h5 hf5 ho5)
                  | (go_at_call 19; refine (HA3.out _ _ H5.out).mono ?_; rintro e w6 ⟨rfl, hb6⟩; have h6 := fun o => H5.out.below (hb6.alloc hb6.size o); have H6 := Lib.hid h6; clear h6)
                  )
                exact ⟨⟨j + 1, (u + 1), f, ow5, s3, hlt2, rfl, by go_num, H6.out _, HOk3.out.mono (by omega), HQ3.out, Hb3.out, HCl3.out⟩, by simp [intOf]; omega⟩
          · obtain rfl : j = m := by omega
            have H5 := Lib.hid h
            clear h hok hq hb
            go_wp2_with fail
            go_ret
            exact ⟨rfl, Hb1.out.trans (H5.out.old.mono Hb1.out.size)⟩
  · replace HN := Lib.hid (fun (W : World) (hs : Sl int1 1 W a1 l1) => (HN.out W hs).mono (fun e w' h => h.resolve_left (fun h => hg h.1)))
    go_enter Tryz.func5, Tryz.ntmps5
    go_wp2_with (first
      | (go_at_call 8; refine (HA.out _).mono ?_; rintro e w1 ⟨rfl, hb1⟩; have Hb1 := Lib.hid hb1; clear hb1)
      | (go_at_call 9; refine (HN.out _ (HS1.out.below Hb1.out)).mono ?_; rintro e w2 ⟨-, rfl, hb2⟩; have Hb2 := Lib.hid hb2; clear hb2))
    go_ret
    exact ⟨rfl, Hb1.out.trans (Hb2.out.mono Hb1.out.size)⟩
end Go.Proofs.YthdilellcaebfaaGreat
