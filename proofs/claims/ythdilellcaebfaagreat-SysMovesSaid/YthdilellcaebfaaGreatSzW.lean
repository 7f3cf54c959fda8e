/- The walk of SysMoves. -/
import Derived.Test.YthdilellcaebfaaGreatSzX
namespace Go.Proofs.YthdilellcaebfaaGreat
open Go.RowKit Go.Shelf
set_option linter.unusedVariables false
set_option linter.unusedSimpArgs false

set_option maxHeartbeats 6400000 in
set_option maxRecDepth 100000 in
theorem sysMoves_walk (l1 : List Int) (n1 : Nat) (a1 : Option Addr) (c1 : Nat) (l2 : List Int) (n2 : Nat) (a2 : Option Addr) (c2 : Nat) (l3 : List Int) (n3 : Nat) (a3 : Option Addr) (c3 : Nat) (id d : Int) (w : World)
    (hn1 : l1.length = n1) (hm1 : n1 ≤ maxLen) (hs1 : Sl int1 1 w a1 l1) (hn2 : l2.length = n2) (hm2 : n2 ≤ maxLen) (hs2 : Sl int1 1 w a2 l2) (hn3 : l3.length = n3) (hm3 : n3 ≤ maxLen) (hs3 : Sl int1 1 w a3 l3) (hi : I63 id) (hd : I63 d) :
    Calls Tryz.prog 3 #[.slice a1 n1 c1, .slice a2 n2 c2, .slice a3 n3 c3, .int .i64 id, .int .i64 d] w fun e w' => e = .returned (.bool true) ∧ Below w.heap.size w w' := by
  have HA := Lib.hid (fun (W : World) => awake23 W)
  have HN := Lib.hid (fun (W : World) (hs : Sl int1 1 W a1 l1) => YNew l1 n1 hn1 a1 c1 W hs)
  have Hn1 := Lib.hid hn1; have Hn2 := Lib.hid hn2; have Hn3 := Lib.hid hn3
  have HS1 := Lib.hid hs1; have HS2 := Lib.hid hs2; have HS3 := Lib.hid hs3
  have HI := Lib.hid hi; have HD := Lib.hid hd
  clear hn1 hs1 hn2 hs2 hn3 hs3 hi hd
  by_cases b1 : (n1 : Int) < 2
  · skip
    go_enter Tryz.func3, Tryz.ntmps3
    go_wp2_with (first
      | (go_at_call 8; refine (HA.out _).mono ?_; rintro e w1 ⟨rfl, hb1⟩; have Hb1 := Lib.hid hb1; clear hb1)
      )
    go_ret
    exact ⟨rfl, Hb1.out⟩
  by_cases b2 : (6 : Int) < n1
  · skip
    go_enter Tryz.func3, Tryz.ntmps3
    go_wp2_with (first
      | (go_at_call 8; refine (HA.out _).mono ?_; rintro e w1 ⟨rfl, hb1⟩; have Hb1 := Lib.hid hb1; clear hb1)
      )
    go_ret
    exact ⟨rfl, Hb1.out⟩
  by_cases b3 : (12 : Int) < n2
  · skip
    go_enter Tryz.func3, Tryz.ntmps3
    go_wp2_with (first
      | (go_at_call 8; refine (HA.out _).mono ?_; rintro e w1 ⟨rfl, hb1⟩; have Hb1 := Lib.hid hb1; clear hb1)
      )
    go_ret
    exact ⟨rfl, Hb1.out⟩
  by_cases b4 : (60 : Int) < n3
  · skip
    go_enter Tryz.func3, Tryz.ntmps3
    go_wp2_with (first
      | (go_at_call 8; refine (HA.out _).mono ?_; rintro e w1 ⟨rfl, hb1⟩; have Hb1 := Lib.hid hb1; clear hb1)
      )
    go_ret
    exact ⟨rfl, Hb1.out⟩
  by_cases hg : newGood l1
  · replace HN := Lib.hid (fun (W : World) (hs : Sl int1 1 W a1 l1) => (HN.out W hs).mono (fun e w' h => h.resolve_right (fun h => h.1 hg)))
    go_enter Tryz.func3, Tryz.ntmps3
    go_wp2_with (first
      | (go_at_call 8; refine (HA.out _).mono ?_; rintro e w1 ⟨rfl, hb1⟩; have Hb1 := Lib.hid hb1; clear hb1)
      | (go_at_call 9; refine (HN.out _ (HS1.out.below Hb1.out)).mono ?_; rintro e w2 ⟨-, ow, L, rfl, h2, hmn⟩
         have H2 := Lib.hid h2; have Hmn := Lib.hid hmn; clear h2 hmn))
    have hn6 : 1 ≤ n1 ∧ n1 ≤ 6 := by omega
    rw [mask_val hn6.2]
    have hM16 : 0 ≤ (2 ^ n1 - 1 : Int) ∧ (2 ^ n1 - 1 : Int) < 65536 := mask_16 hn6.2
    generalize hM : (2 ^ n1 - 1 : Int) = M at *
    have HM := Lib.hid hM
    have HM16 := Lib.hid hM16
    have HG := Lib.hid hg
    clear hM hM16 hg
    have hB := H2.out.old
    have HB0 := Lib.hid hB
    clear hB
    go_loopw [14] (fun ix wr => ∃ (k : Nat) (ow' : Nat → Option Own) (L' : Lay) (s : SysS), k ≤ n2 ∧ ix = .int .i64 k ∧ L'.b = L.b ∧ L'.mn ≤ k ∧ SysIn w1 wr ow' L' s ∧ SysOk (3 * k) s ∧ Free M n1 s) (fun ix _ => n2 - (intOf ix).toNat)
    case atStart =>
      exact ⟨0, ow, L, SysS.new l1, Nat.zero_le _, rfl, rfl, by rw [Hmn.out]; exact Nat.le_refl _, H2.out, SysOk.new HG.out, by have := Free.new l1 M; rw [Hn1.out] at this; exact this⟩
    case round =>
      obtain ⟨k, ow', L', s, hk, rfl, hLb, hmn, h, hok, hfr⟩ := hrel
      have hk0 : (0 : Int) ≤ k := by omega
      by_cases hlt : k < n2
      · have hkn : (k : Int) < n2 := by omega
        obtain ⟨x, hx⟩ : ∃ x, l2[k]? = some x := ⟨_, List.getElem?_eq_getElem (by rw [Hn2.out]; exact hlt)⟩
        obtain ⟨r, off, rfl, hr, hc⟩ := HS2.out (by intro h0; rw [h0] at hx; simp at hx)
        have hbw := Hb1.out.trans (h.old.mono Hb1.out.size)
        have e0 := (hbw.cell (p := ⟨r, off + k * 1 + 0, none⟩) hr).trans (hc k x hx 0 _ rfl)
        simp only [Nat.mul_one, Nat.add_zero] at e0
        have HSp := Lib.hid (YSpawn h hok (by omega) x M 0 HM16.out (by omega))
        have hok1 := hok.spawn x M 0 HM16.out
        rw [hLb] at HSp
        have HLb := Lib.hid hLb
        have HLm := Lib.hid hmn
        rcases hfr.made hok (by omega) x with ⟨n1', n2'⟩ | ⟨n1', n2', n3'⟩
        · rw [n2'] at HSp
          have HOk := Lib.hid hok
          have HFr := Lib.hid hfr
          have hne : ¬ (s.spawn x M 0).2.2 = 0 := n1'
          generalize (s.spawn x M 0).2.2 = f at *
          generalize (s.spawn x M 0).2.1 = v at *
          clear h hok hfr hLb hmn hok1 n1' n2' hc hx hbw
          go_wp2_with (first
            | (go_at_call 10; refine HSp.out.mono ?_; rintro e w5 ⟨rfl, ow5, L5, hb5, hm5, h5, hf5, ho5⟩
               have H5 := Lib.hid h5; have Hb5 := Lib.hid hb5; have Hm5 := Lib.hid hm5
               clear h5 hf5 ho5 hb5 hm5))
          exact ⟨⟨k + 1, ow5, L5, s, hlt, by go_num, by rw [Hb5.out]; exact HLb.out, by have := Hm5.out; have := HLm.out; omega, H5.out, HOk.out.mono (by omega), HFr.out⟩, by simp [intOf]; omega⟩
        · have hok2 := hok1.start (by omega) (s.spawn x M 0).2.1
          have HSt := Lib.hid (fun (W : World) (ow5 : Nat → Option Own) (L5 : Lay) (h5 : SysIn w1 W ow5 L5 (s.spawn x M 0).1) => YStart h5 hok1 (by omega) n2')
          have HOk2 := Lib.hid hok2
          have HFr := Lib.hid n3'
          rw [n1'] at HSp
          generalize (s.spawn x M 0).2.1 = v at *
          generalize (s.spawn x M 0).1 = s2 at *
          clear h hok hfr hLb hmn hok1 n1' n2' n3' hok2 hc hx hbw
          go_wp2_with (first
            | (go_at_call 10; refine HSp.out.mono ?_; rintro e w5 ⟨rfl, ow5, L5, hb5, hm5, h5, hf5, ho5⟩
               have HSq := Lib.hid (HSt.out _ _ _ h5)
               rw [hb5, HLb.out] at HSq
               have Hb5 := Lib.hid hb5; have Hm5 := Lib.hid hm5
               clear h5 hf5 ho5 hb5 hm5)
            | (go_at_call 11; refine HSq.out.mono ?_; rintro e w6 ⟨rfl, ow6, h6, hf6, ho6⟩
               have H6 := Lib.hid h6; clear h6 hf6 ho6))
          exact ⟨⟨k + 1, ow6, L5, _, hlt, by go_num, by rw [Hb5.out]; exact HLb.out, by have := Hm5.out; have := HLm.out; omega, H6.out, HOk2.out.mono (by omega), HFr.out⟩, by simp [intOf]; omega⟩
      · obtain rfl : k = n2 := by omega
        have HLb := Lib.hid hLb
        have H3 := Lib.hid h
        have HOk := Lib.hid (hok.mono (show 3 * k ≤ 36 by omega))
        have HFr := Lib.hid hfr
        clear h hok hfr hLb
        go_wp2_with fail
        go_loopw [17] (fun ix wr => ∃ (k : Nat) (ow' : Nat → Option Own) (s : SysS), k ≤ n3 ∧ ix = .int .i64 k ∧ SysIn w1 wr ow' L' s ∧ SysOk (36 + 130 * k) s ∧ Free M n1 s) (fun ix _ => n3 - (intOf ix).toNat)
        case atStart => exact ⟨0, ow', s, Nat.zero_le _, rfl, H3.out, HOk.out, HFr.out⟩
        case round =>
          obtain ⟨j, ow2, s2, hj, rfl, h, hok, hfr⟩ := hrel
          have hj0 : (0 : Int) ≤ j := by omega
          by_cases hlt2 : j < n3
          · have hjn : (j : Int) < n3 := by omega
            obtain ⟨x, hx⟩ : ∃ x, l3[j]? = some x := ⟨_, List.getElem?_eq_getElem (by rw [Hn3.out]; exact hlt2)⟩
            obtain ⟨r, off, rfl, hr, hc⟩ := HS3.out (by intro h0; rw [h0] at hx; simp at hx)
            have hbw := Hb1.out.trans (h.old.mono Hb1.out.size)
            have e0 := (hbw.cell (p := ⟨r, off + j * 1 + 0, none⟩) hr).trans (hc j x hx 0 _ rfl)
            simp only [Nat.mul_one, Nat.add_zero] at e0
            have HR := Lib.hid (YRun h hok (by omega) x)
            rw [HLb.out] at HR
            have HOk2 := Lib.hid (hok.run (by omega) x)
            have HFr2 := Lib.hid (hfr.run x)
            generalize (s2.run x).2 = v at *
            generalize (s2.run x).1 = s3 at *
            clear h hok hfr hc hx hbw
            go_wp2_with (first
              | (go_at_call 12; refine HR.out.mono ?_; rintro e w6 ⟨rfl, ow6, h6, hf6, ho6⟩; have H6 := Lib.hid h6; clear h6 hf6 ho6))
            exact ⟨⟨j + 1, ow6, s3, hlt2, by go_num, H6.out, HOk2.out.mono (by omega), HFr2.out⟩, by simp [intOf]; omega⟩
          · obtain rfl : j = n3 := by omega
            have H4 := Lib.hid h
            have hT : 36 + 130 * j ≤ 9000000 := by omega
            have HUn := Lib.hid (show ∀ b, wr.heap.size ≤ b → ow2 b = none from fun b hb => by
              rcases Option.eq_none_or_eq_some (ow2 b) with e | ⟨o, e⟩
              · exact e
              · have := (h.lt _ _ e).2; omega)
            have HT := Lib.hid hT
            have HOk2 := Lib.hid hok
            have HFr2 := Lib.hid hfr
            generalize 36 + 130 * j = T at *
            clear h hok hfr hT
            cases hf : s2.find id with
            | none =>
              have e1 : s2.move id d = (s2, 2) := by unfold SysS.move; rw [hf]
              have HT1 := Lib.hid (fun (W : World) (ow3 : Nat → Option Own) (hW : SysIn w1 W ow3 L' s2) => YTask_none hW HI.out hf)
              have HMv := Lib.hid (fun (W : World) (ow3 : Nat → Option Own) (hW : SysIn w1 W ow3 L' s2) => YMove hW HOk2.out (by have := HT.out; omega) (d := d) HI.out)
              rw [e1] at HMv
              rw [HLb.out] at HT1 HMv
              simp only [noTask] at HT1
              clear hf e1
              have HT2 := HT1
              go_wp2_with (first
                | (go_at_call 13; refine (HT1.out _ _ H4.out).mono ?_; rintro e w6 ⟨rfl, hb6⟩
                   have h6 := fun o => H4.out.below (hb6.alloc hb6.size o)
                   have hMq := fun o => HMv.out _ _ (h6 o)
                   have Hb6 := Lib.hid hb6; have HMq := Lib.hid hMq; clear h6 hb6 hMq)
                | (go_at_call 14; refine (HMq.out _).mono ?_; rintro e w7 ⟨rfl, ow7, h7, hf7, ho7⟩
                   have H7 := Lib.hid h7
                   skip
                   clear h7 hf7 ho7)
                | (go_at_call 13; refine (HT2.out _ _ H7.out).mono ?_; rintro e w8 ⟨rfl, hb8⟩
                   have HB8 := Lib.hid hb8
                   skip
                   clear hb8)
                )
              go_ret
              have hz := (H7.out.below HB8.out).old
              exact ⟨rfl, (Hb1.out.trans (hz.mono Hb1.out.size)).alloc (by have := hz.size; have := Hb1.out.size; omega) _⟩
            | some t =>
              obtain ⟨-, hid, -⟩ := SysS.find_slot hf
              subst hid
              have HT1 := Lib.hid (fun (W : World) (ow3 : Nat → Option Own) (hW : SysIn w1 W ow3 L' s2) => YTask_some hW HOk2.out (by have := HT.out; omega) HI.out hf)
              have HMv := Lib.hid (fun (W : World) (ow3 : Nat → Option Own) (hW : SysIn w1 W ow3 L' s2) => YMove hW HOk2.out (by have := HT.out; omega) (d := d) HI.out)
              have hfr' : Free (2 ^ n1 - 1) n1 s2 := by rw [HM.out]; exact HFr2.out
              rw [HLb.out] at HT1 HMv
              by_cases hdr : 0 ≤ d ∧ d < n1
              · obtain ⟨t', g, m1, m2, m3, m4, m5⟩ := hfr'.moved hn6 HOk2.out HT.out hf hdr
                have HT2 := Lib.hid (fun (W : World) (ow3 : Nat → Option Own) (hW : SysIn w1 W ow3 L' (s2.move t.id d).1) => YTask_some hW (HOk2.out.move HT.out t.id d) (by have := HT.out; omega) HI.out m2)
                rw [m3, HLb.out] at HT2
                rw [m1] at HMv
                generalize s2.view t = u at HT1 m5
                simp only [taskV, Tk.enc] at HT1 HT2
                rw [m4] at HT2
                obtain ⟨hd0, hdn⟩ := hdr
                have hdn' : ¬ (n1 : Int) ≤ d := by omega
                have hd0' : ¬ d < 0 := by omega
                clear hf hfr' m1 m2 m3 m4
                generalize (s2.move t.id d).1 = s3 at *
                rcases m5 with rfl | ⟨m5, rfl⟩
                · go_wp2_with (first
                    | (go_at_call 13; refine (HT1.out _ _ H4.out).mono ?_; rintro e w6 ⟨rfl, hb6⟩
                       have h6 := fun o => H4.out.below (hb6.alloc hb6.size o)
                       have hMq := fun o => HMv.out _ _ (h6 o)
                       have Hb6 := Lib.hid hb6; have HMq := Lib.hid hMq; clear h6 hb6 hMq)
                    | (go_at_call 14; refine (HMq.out _).mono ?_; rintro e w7 ⟨rfl, ow7, h7, hf7, ho7⟩
                       have H7 := Lib.hid h7
                       have x7 := heap_fr (heap_new w6 _) hf7 (fun h => h (HUn.out _ Hb6.out.size)); have hs7 := hf7.size; have HX7 := Lib.hid x7; clear x7
                       clear h7 hf7 ho7)
                    | (go_at_call 13; refine (HT2.out _ _ H7.out).mono ?_; rintro e w8 ⟨rfl, hb8⟩
                       have HB8 := Lib.hid hb8
                       have x8 := heap_below HX7.out hb8; obtain ⟨⟨d0, d1, d2, d3, d4, d5, d6⟩, ⟨f0, f1, f2, f3, f4, f5, f6⟩, l8⟩ := blk7 x8; have hs8 := hb8.size; have hne8 : w6.heap.size ≠ w8.heap.size := (by omega); clear x8
                       clear hb8)
                    )
                  go_ret
                  have hz := (H7.out.below HB8.out).old
                  exact ⟨rfl, (Hb1.out.trans (hz.mono Hb1.out.size)).alloc (by have := hz.size; have := Hb1.out.size; omega) _⟩
                · have hne5 : ¬ (0 : Int) = u.lag := by omega
                  have hgt5 : u.lag < 0 := m5
                  clear m5
                  go_wp2_with (first
                    | (go_at_call 13; refine (HT1.out _ _ H4.out).mono ?_; rintro e w6 ⟨rfl, hb6⟩
                       have h6 := fun o => H4.out.below (hb6.alloc hb6.size o)
                       have hMq := fun o => HMv.out _ _ (h6 o)
                       have Hb6 := Lib.hid hb6; have HMq := Lib.hid hMq; clear h6 hb6 hMq)
                    | (go_at_call 14; refine (HMq.out _).mono ?_; rintro e w7 ⟨rfl, ow7, h7, hf7, ho7⟩
                       have H7 := Lib.hid h7
                       have x7 := heap_fr (heap_new w6 _) hf7 (fun h => h (HUn.out _ Hb6.out.size)); have hs7 := hf7.size; have HX7 := Lib.hid x7; clear x7
                       clear h7 hf7 ho7)
                    | (go_at_call 13; refine (HT2.out _ _ H7.out).mono ?_; rintro e w8 ⟨rfl, hb8⟩
                       have HB8 := Lib.hid hb8
                       have x8 := heap_below HX7.out hb8; obtain ⟨⟨d0, d1, d2, d3, d4, d5, d6⟩, ⟨f0, f1, f2, f3, f4, f5, f6⟩, l8⟩ := blk7 x8; have hs8 := hb8.size; have hne8 : w6.heap.size ≠ w8.heap.size := (by omega); clear x8
                       clear hb8)
                    )
                  go_ret
                  have hz := (H7.out.below HB8.out).old
                  exact ⟨rfl, (Hb1.out.trans (hz.mono Hb1.out.size)).alloc (by have := hz.size; have := Hb1.out.size; omega) _⟩
              · have e1 := hfr'.stays hn6 HOk2.out hf hdr
                have HT2 := HT1
                rw [e1] at HMv
                generalize s2.view t = u at HT1 HT2
                simp only [taskV, Tk.enc] at HT1 HT2
                clear hf hfr' e1
                by_cases hd0 : d < 0
                · go_wp2_with (first
                    | (go_at_call 13; refine (HT1.out _ _ H4.out).mono ?_; rintro e w6 ⟨rfl, hb6⟩
                       have h6 := fun o => H4.out.below (hb6.alloc hb6.size o)
                       have hMq := fun o => HMv.out _ _ (h6 o)
                       have Hb6 := Lib.hid hb6; have HMq := Lib.hid hMq; clear h6 hb6 hMq)
                    | (go_at_call 14; refine (HMq.out _).mono ?_; rintro e w7 ⟨rfl, ow7, h7, hf7, ho7⟩
                       have H7 := Lib.hid h7
                       have x7 := heap_fr (heap_new w6 _) hf7 (fun h => h (HUn.out _ Hb6.out.size)); have hs7 := hf7.size; have HX7 := Lib.hid x7; clear x7
                       clear h7 hf7 ho7)
                    | (go_at_call 13; refine (HT2.out _ _ H7.out).mono ?_; rintro e w8 ⟨rfl, hb8⟩
                       have HB8 := Lib.hid hb8
                       have x8 := heap_below HX7.out hb8; obtain ⟨⟨d0, d1, d2, d3, d4, d5, d6⟩, ⟨f0, f1, f2, f3, f4, f5, f6⟩, l8⟩ := blk7 x8; have hs8 := hb8.size; have hne8 : w6.heap.size ≠ w8.heap.size := (by omega); clear x8
                       clear hb8)
                    )
                  go_ret
                  have hz := (H7.out.below HB8.out).old
                  exact ⟨rfl, (Hb1.out.trans (hz.mono Hb1.out.size)).alloc (by have := hz.size; have := Hb1.out.size; omega) _⟩
                · have hdn : (n1 : Int) ≤ d := by omega
                  clear hdr
                  go_wp2_with (first
                    | (go_at_call 13; refine (HT1.out _ _ H4.out).mono ?_; rintro e w6 ⟨rfl, hb6⟩
                       have h6 := fun o => H4.out.below (hb6.alloc hb6.size o)
                       have hMq := fun o => HMv.out _ _ (h6 o)
                       have Hb6 := Lib.hid hb6; have HMq := Lib.hid hMq; clear h6 hb6 hMq)
                    | (go_at_call 14; refine (HMq.out _).mono ?_; rintro e w7 ⟨rfl, ow7, h7, hf7, ho7⟩
                       have H7 := Lib.hid h7
                       have x7 := heap_fr (heap_new w6 _) hf7 (fun h => h (HUn.out _ Hb6.out.size)); have hs7 := hf7.size; have HX7 := Lib.hid x7; clear x7
                       clear h7 hf7 ho7)
                    | (go_at_call 13; refine (HT2.out _ _ H7.out).mono ?_; rintro e w8 ⟨rfl, hb8⟩
                       have HB8 := Lib.hid hb8
                       have x8 := heap_below HX7.out hb8; obtain ⟨⟨d0, d1, d2, d3, d4, d5, d6⟩, ⟨f0, f1, f2, f3, f4, f5, f6⟩, l8⟩ := blk7 x8; have hs8 := hb8.size; have hne8 : w6.heap.size ≠ w8.heap.size := (by omega); clear x8
                       clear hb8)
                    )
                  go_ret
                  have hz := (H7.out.below HB8.out).old
                  exact ⟨rfl, (Hb1.out.trans (hz.mono Hb1.out.size)).alloc (by have := hz.size; have := Hb1.out.size; omega) _⟩
  · replace HN := Lib.hid (fun (W : World) (hs : Sl int1 1 W a1 l1) => (HN.out W hs).mono (fun e w' h => h.resolve_left (fun h => hg h.1)))
    go_enter Tryz.func3, Tryz.ntmps3
    go_wp2_with (first
      | (go_at_call 8; refine (HA.out _).mono ?_; rintro e w1 ⟨rfl, hb1⟩; have Hb1 := Lib.hid hb1; clear hb1)
      | (go_at_call 9; refine (HN.out _ (HS1.out.below Hb1.out)).mono ?_; rintro e w2 ⟨-, rfl, hb2⟩; have Hb2 := Lib.hid hb2; clear hb2))
    go_ret
    exact ⟨rfl, Hb1.out.trans (Hb2.out.mono Hb1.out.size)⟩
end Go.Proofs.YthdilellcaebfaaGreat
