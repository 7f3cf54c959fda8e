/- The walk of SwapWait. -/
import Derived.Test.YtlgkkolgdjgclaaGreatTwo
import Derived.Test.YtlgkkolgdjgclaaGreatMade
namespace Go.Proofs.YtlgkkolgdjgclaaGreat
open Go.RowKit Go.Shelf Go.Maps
set_option linter.unusedVariables false
set_option linter.unusedSimpArgs false

/-- One try, of the first core. -/
def zw (x : TryS) : SwS := ⟨[(0, x)], updP (fun _ => -1) 0 0⟩
section
variable {s : SysS} {x : TryS} {d : CoreS} {T : Nat}
theorem zw_open {tot : Int} (hl : 1 ≤ s.cores.length) (ht : TagOk tot) : SwS.new.openT s 0 tot = (zw (TryS.new tot 0), 0) := by
  unfold SwS.openT
  rw [if_pos (by omega), if_neg (by simp [SwS.opn, SwS.new]), if_pos ht]
  rfl
theorem zw_step (hd : s.cores[0]? = some d) : (zw x).step s 0 = (zw (x.step d).1, s.setC 0 (x.step d).2, (x.step d).1.stage, (x.step d).1.why) := by
  have hl := (List.getElem?_eq_some_iff.1 hd).1
  have hc : s.core 0 = d := core_get rfl hd
  unfold SwS.step
  rw [if_pos (by omega), if_neg (show ¬ (zw x).lst 0 < 0 by simp [zw, updP]), show (zw x).all[((zw x).lst 0).toNat]? = some (0, x) from rfl]
  simp only [hc]
  rfl
theorem zw_kn (hd : s.cores[0]? = some d) (hk : TryOk x) (hi : TryIn x d) : SwKn s (zw x) := by
  have hl := (List.getElem?_eq_some_iff.1 hd).1
  have h0 : ∀ (i c : Nat) y, (zw x).all[i]? = some (c, y) → i = 0 ∧ c = 0 ∧ y = x := fun i c y h => by
    cases i with
    | zero => simp [zw] at h; exact ⟨rfl, h.1.symm, h.2.symm⟩
    | succ i => simp [zw] at h
  refine ⟨⟨fun c => ?_, fun c => ?_, fun i c y hy _ => ?_, fun i c y hy => ?_⟩, fun i c y e hy he _ => ?_⟩
  · by_cases e : c = 0
    · subst e; exact .inr ⟨x, rfl, Int.le_refl _, by omega⟩
    · exact .inl (by simp [zw, updP, e])
  · by_cases e : c = 0
    · subst e; simp [zw, updP]
    · simp [zw, updP, e]
  · obtain ⟨rfl, rfl, rfl⟩ := h0 i c y hy; rfl
  · obtain ⟨rfl, rfl, rfl⟩ := h0 i c y hy; exact ⟨hk, hl⟩
  · obtain ⟨rfl, rfl, rfl⟩ := h0 i c y hy
    rw [hd] at he
    cases he
    exact hi
theorem fx_in {tag base : Int} (h0 : 0 ≤ d.age) {k : Nat} (hk : k < 5) : TryIn (fx tag base d k).1 d := by
  have hf := form_seed (formR d.q) base
  obtain rfl | rfl | rfl | rfl | rfl : k = 0 ∨ k = 1 ∨ k = 2 ∨ k = 3 ∨ k = 4 := by omega
  · exact ⟨h0, by simp [fx, TryS.new], by simp [fx, TryS.new]⟩
  · exact ⟨Int.le_refl _, by simp [fx, TryS.new], by simp [fx, TryS.new]⟩
  · exact ⟨Int.le_refl _, fun _ _ => rfl, by simp [fx, TryS.new]⟩
  · exact ⟨Int.le_refl _, by simp [fx, TryS.new], fun _ _ _ => hf⟩
  · exact ⟨Int.le_refl _, by simp [fx, TryS.new], fun _ _ _ => hf⟩
end
theorem bs1w (w : World) (a : Int) : (Instr.buildSlice 22 1 #[(0, .int .i64 a)]).run Tryz.prog w = .ok (.slice (some ⟨w.heap.size, 0, none⟩) 1 1) (w.alloc (.cells #[.int .i64 a] 3)) := by kernel_rfl
set_option maxHeartbeats 6400000 in
set_option maxRecDepth 100000 in
theorem swapWait_walk (tag : Int) (l2 : List Int) (n2 : Nat) (a2 : Option Addr) (c2 : Nat) (tot at' m : Int) (w : World)
    (hi0 : I63 tag) (hn2 : l2.length = n2) (hm2 : n2 ≤ maxLen) (hs2 : Sl int1 1 w a2 l2) (hi2 : I63 tot) (hi3 : I63 at') (hi4 : I63 m) :
    Calls Tryz.prog 7 #[.int .i64 tag, .slice a2 n2 c2, .int .i64 tot, .int .i64 at', .int .i64 m] w fun e w' => e = .returned (.bool true) ∧ Below w.heap.size w w' := by
  have HA := Lib.hid (fun (W : World) => awake24 W)
  have hbs := bs1w
  have HM := Lib.hid (fun (W : World) (h12 : n2 ≤ 12) (a1 : Option Addr) (c1 : Nat) (h1 : Sl int1 1 W a1 [tag]) (h2 : Sl int1 1 W a2 l2) => made24 [tag] 1 a1 c1 l2 n2 a2 c2 W rfl (by decide) h1 hn2 h12 h2)
  have HS2 := Lib.hid hs2
  clear hn2 hs2
  by_cases b3 : (10 : Int) < n2
  · skip
    go_enter Tryz.func7, Tryz.ntmps7
    go_wp2_with (first
      | (go_at_call 11; refine (HA.out _).mono ?_; rintro e w1 ⟨rfl, hb1⟩; have Hb1 := Lib.hid hb1; clear hb1)
      )
    go_ret
    exact ⟨rfl, Hb1.out⟩
  by_cases b4 : tot < 0
  · skip
    go_enter Tryz.func7, Tryz.ntmps7
    go_wp2_with (first
      | (go_at_call 11; refine (HA.out _).mono ?_; rintro e w1 ⟨rfl, hb1⟩; have Hb1 := Lib.hid hb1; clear hb1)
      )
    go_ret
    exact ⟨rfl, Hb1.out⟩
  by_cases b5 : (2 : Int) < tot
  · skip
    go_enter Tryz.func7, Tryz.ntmps7
    go_wp2_with (first
      | (go_at_call 11; refine (HA.out _).mono ?_; rintro e w1 ⟨rfl, hb1⟩; have Hb1 := Lib.hid hb1; clear hb1)
      )
    go_ret
    exact ⟨rfl, Hb1.out⟩
  by_cases b6 : at' < 0
  · skip
    go_enter Tryz.func7, Tryz.ntmps7
    go_wp2_with (first
      | (go_at_call 11; refine (HA.out _).mono ?_; rintro e w1 ⟨rfl, hb1⟩; have Hb1 := Lib.hid hb1; clear hb1)
      )
    go_ret
    exact ⟨rfl, Hb1.out⟩
  by_cases b7 : (4 : Int) < at'
  · skip
    go_enter Tryz.func7, Tryz.ntmps7
    go_wp2_with (first
      | (go_at_call 11; refine (HA.out _).mono ?_; rintro e w1 ⟨rfl, hb1⟩; have Hb1 := Lib.hid hb1; clear hb1)
      )
    go_ret
    exact ⟨rfl, Hb1.out⟩
  by_cases b8 : m < 0
  · skip
    go_enter Tryz.func7, Tryz.ntmps7
    go_wp2_with (first
      | (go_at_call 11; refine (HA.out _).mono ?_; rintro e w1 ⟨rfl, hb1⟩; have Hb1 := Lib.hid hb1; clear hb1)
      )
    go_ret
    exact ⟨rfl, Hb1.out⟩
  by_cases b9 : (60 : Int) < m
  · skip
    go_enter Tryz.func7, Tryz.ntmps7
    go_wp2_with (first
      | (go_at_call 11; refine (HA.out _).mono ?_; rintro e w1 ⟨rfl, hb1⟩; have Hb1 := Lib.hid hb1; clear hb1)
      )
    go_ret
    exact ⟨rfl, Hb1.out⟩
  have ht : TagOk tot := by unfold TagOk; omega
  obtain ⟨an, rfl⟩ : ∃ an : Nat, at' = an := ⟨at'.toNat, by omega⟩
  obtain ⟨mn, rfl⟩ : ∃ mn : Nat, m = mn := ⟨m.toNat, by omega⟩
  have HW1 := Lib.hid (fun (W : World) => sl1 W tag 3)
  by_cases hg : newGood [tag]
  · replace HM := Lib.hid (fun (W : World) a1 c1 (h1 : Sl int1 1 W a1 [tag]) (h2 : Sl int1 1 W a2 l2) => (HM.out W (by omega) a1 c1 h1 h2).mono (fun e w' h => h.resolve_right (fun h => h.1 hg)))
    clear hg
    go_enter Tryz.func7, Tryz.ntmps7
    go_wp2_with (first
      | (go_at_call 11; refine (HA.out _).mono ?_; rintro e w1 ⟨rfl, hb1⟩; have Hb1 := Lib.hid hb1; clear hb1)
      | (go_at_call 12
         first
         | (refine (HM.out _ _ _ (HW1.out _) ((((HS2.out.below Hb1.out).below ((Below.refl _ _).alloc (Nat.le_refl _) _)).below H2.out.sys.old).below ((Below.refl _ _).alloc (Nat.le_refl _) _))).mono ?_
            rintro e w3 ⟨-, ow2, L2, oz2, M2, s2, rfl, h3, hok2, hfr2, htg2, hmf2⟩
            obtain rfl : s2 = s := hmf2.trans HMf.out.symm
            have HT := Lib.hid (Two.of (H2.out.below ((Below.refl _ _).alloc (Nat.le_refl _) _)) h3)
            have hl1 : 0 ≤ (0 : Int) ∧ (0 : Int) < s2.cores.length := (by rw [HLen.out]; decide)
            have hop := SwOpenC HT.out.a (SwOk.new _) (by decide) (c := 0) (by unfold I63; decide) tot
            rw [zw_open (by rw [HLen.out]; decide) ht] at hop
            have HOp := Lib.hid hop
            obtain ⟨d, hd, hde, hdf⟩ := hok2.core hl1
            have HD := Lib.hid (show s2.cores[0]? = some d from hd); have HDf := Lib.hid hdf
            clear h3 hok2 hfr2 htg2 hmf2 hl1 hop hd hde hdf)
         | (refine (HM.out _ _ _ (HW1.out _) ((HS2.out.below Hb1.out).below ((Below.refl _ _).alloc (Nat.le_refl _) _))).mono ?_
            rintro e w2 ⟨-, ow, L, oz, M, s, rfl, h2, hok, hfr, htg, hmf⟩
            have H2 := Lib.hid h2; have HOk := Lib.hid hok; have HLen := Lib.hid hfr.len; have HMf := Lib.hid hmf
            clear h2 hok hfr htg hmf))
      | (go_at_call 21; refine HOp.out.mono ?_; rintro e w4 ⟨rfl, hs4⟩
         obtain ⟨ow4, oz4, M4, hb4, hT4⟩ := HT.out.fst hs4
         have HT4 := Lib.hid hT4; have HB4 := Lib.hid hb4; clear hT4 hb4 hs4))
    have ha4 : an ≤ 4 := by omega
    have hm60 : mn ≤ 60 := by omega
    have hgc := good_near HDf.out.q (by decide)
    have HGc := Lib.hid (show goodC d.tag (formR d.q) = true by unfold goodC; rw [hgc, Bool.and_true, decide_eq_true_eq]; have := HDf.out.tag; unfold TagOk at this; omega)
    clear hgc
    go_loopw [15] (fun ix wr => ∃ (k : Nat) (ow' : Nat → Option Own) (oz' : Nat → Option OwnW) (M' : SwL), k ≤ an ∧ ix = .int .i64 k ∧ M'.b = M.b ∧ Two (w1.alloc (.cells #[.int .i64 tag] 3)) wr ow' L s2 oz' M' (zw (fx tot 0 d k).1) ow2 L2 s2 oz2 M2 SwS.new) (fun ix _ => an - (intOf ix).toNat)
    case atStart => exact ⟨0, ow4, oz4, M4, Nat.zero_le _, rfl, HB4.out, HT4.out⟩
    case round =>
      obtain ⟨k, ow', oz', M', hk, rfl, hMb, hT⟩ := hrel
      have hk0 : (0 : Int) ≤ k := by omega
      by_cases hlt : k < an
      · have hkn : (k : Int) < an := by omega
        have hS := SwStep hT.a HOk.out (by decide) (zw_kn HD.out (fx_ok (d := d) ht (show 0 ≤ (0 : Int) ∧ (0 : Int) ≤ 1000000000 by decide) HGc.out (show k ≤ 5 by omega)) (fx_in HDf.out.age.1 (show k < 5 by omega))) (c := 0) (by unfold I63; decide)
        have hsp := fx_step (tag := tot) (base := 0) HGc.out (show k < 5 by omega)
        rw [fx_core (show k < 5 by omega)] at hsp
        rw [zw_step HD.out, hsp, fx_core (show k + 1 < 5 by omega), setC_self HD.out, hMb] at hS
        simp only at hS
        have HS := Lib.hid hS
        have HTk := Lib.hid hT
        have HMb := Lib.hid hMb
        generalize (fx tot 0 d (k + 1)).1.stage = v1 at *
        generalize (fx tot 0 d (k + 1)).1.why = v2 at *
        clear hS hT hMb hsp
        go_wp2_with (go_at_call 25; refine HS.out.mono ?_; rintro e w5 ⟨rfl, hs5⟩; obtain ⟨ow5, oz5, M5, hb5, hT5⟩ := HTk.out.fst hs5; have HT5 := Lib.hid hT5; have HB5 := Lib.hid hb5; clear hT5 hb5 hs5)
        exact ⟨⟨k + 1, ow5, oz5, M5, hlt, by go_num, HB5.out.trans HMb.out, HT5.out⟩, by simp [intOf]; omega⟩
      · obtain rfl : k = an := by omega
        have HTk := Lib.hid hT
        generalize zw (fx tot 0 d k).1 = z1 at *
        clear hT hMb
        go_wp2_with fail
        go_loopw [16] (fun ix wr => ∃ (j : Nat) (ow' : Nat → Option Own) (oz' : Nat → Option OwnW) (M' : SwL) (ow3 : Nat → Option Own) (oz3 : Nat → Option OwnW) (M3 : SwL) (s' : SysS), j ≤ mn ∧ ix = .int .i64 j ∧ Two (w1.alloc (.cells #[.int .i64 tag] 3)) wr ow' L s' oz' M' z1 ow3 L2 s' oz3 M3 SwS.new ∧ SysOk (36 + 130 * j) s') (fun ix _ => mn - (intOf ix).toNat)
        case atStart => exact ⟨0, ow', oz', M', ow2, oz2, M2, s2, Nat.zero_le _, rfl, HTk.out, HOk.out⟩
        case round =>
          obtain ⟨j, ow', oz', M', ow3, oz3, M3, s', hj, rfl, hT, hok⟩ := hrel
          have hj0 : (0 : Int) ≤ j := by omega
          by_cases hlj : j < mn
          · have hjn : (j : Int) < mn := by omega
            have HR1 := Lib.hid (YRun hT.a.sys hok (by omega) 0)
            have HOk2 := Lib.hid ((hok.run (by omega) 0).mono (show 36 + 130 * j + 130 ≤ 36 + 130 * (j + 1) by omega))
            have HTj := Lib.hid hT
            have HOk1 := Lib.hid hok
            obtain ⟨v1, hv1⟩ : ∃ v, (s'.run 0).2.1 = v := ⟨_, rfl⟩
            obtain ⟨v2, hv2⟩ : ∃ v, (s'.run 0).2.2 = v := ⟨_, rfl⟩
            rw [hv1, hv2] at HR1
            have HV1 := Lib.hid hv1; have HV2 := Lib.hid hv2
            clear hT hok hv1 hv2
            go_wp2_with (go_at_call 26
                         first
                         | (refine HR2.out.mono ?_; rintro e w6 ⟨rfl, hs6⟩
                            obtain ⟨ow6, oz6, M6, -, hT6⟩ := HT5.out.snd (HT5.out.b.sysSw hs6)
                            have HT6 := Lib.hid hT6; clear hT6 hs6)
                         | (refine HR1.out.mono ?_; rintro e w5 ⟨rfl, hs5⟩
                            obtain ⟨ow5, oz5, M5, -, hT5⟩ := HTj.out.fst (HTj.out.a.sysSw hs5)
                            have HT5 := Lib.hid hT5
                            have hR2 := YRun hT5.b.sys HOk1.out (by omega) 0
                            rw [HV1.out, HV2.out] at hR2
                            have HR2 := Lib.hid hR2
                            clear hT5 hs5 hR2))
            exact ⟨⟨j + 1, ow5, oz5, M5, ow6, oz6, M6, _, hlj, by go_num, HT6.out, HOk2.out⟩, by simp [intOf]; omega⟩
          · obtain rfl : j = mn := by omega
            have HB := Lib.hid hT.a.sys.old
            clear hT hok
            go_wp2_with fail
            go_ret
            have hb1 := (Hb1.out.alloc Hb1.out.size (.cells #[.int .i64 tag] 3))
            exact ⟨rfl, hb1.trans (HB.out.mono hb1.size)⟩
  · replace HM := Lib.hid (fun (W : World) a1 c1 (h1 : Sl int1 1 W a1 [tag]) (h2 : Sl int1 1 W a2 l2) => (HM.out W (by omega) a1 c1 h1 h2).mono (fun e w' h => h.resolve_left (fun h => hg h.1)))
    go_enter Tryz.func7, Tryz.ntmps7
    go_wp2_with (first
      | (go_at_call 11; refine (HA.out _).mono ?_; rintro e w1 ⟨rfl, hb1⟩; have Hb1 := Lib.hid hb1; clear hb1)
      | (go_at_call 12
         first
         | (refine (HM.out _ _ _ (HW1.out _) ((((HS2.out.below Hb1.out).below ((Below.refl _ _).alloc (Nat.le_refl _) _)).below Hb2.out).below ((Below.refl _ _).alloc (Nat.le_refl _) _))).mono ?_
            rintro e w3 ⟨-, rfl, hb3⟩; have Hb3 := Lib.hid hb3; clear hb3)
         | (refine (HM.out _ _ _ (HW1.out _) ((HS2.out.below Hb1.out).below ((Below.refl _ _).alloc (Nat.le_refl _) _))).mono ?_
            rintro e w2 ⟨-, rfl, hb2⟩; have Hb2 := Lib.hid hb2; clear hb2)))
    go_ret
    have h1 := Hb1.out.alloc Hb1.out.size (.cells #[.int .i64 tag] 3)
    have h2 := h1.trans (Hb2.out.mono h1.size)
    have h3 := h2.alloc h2.size (.cells #[.int .i64 tag] 3)
    exact ⟨rfl, h3.trans (Hb3.out.mono h3.size)⟩
end Go.Proofs.YtlgkkolgdjgclaaGreat
