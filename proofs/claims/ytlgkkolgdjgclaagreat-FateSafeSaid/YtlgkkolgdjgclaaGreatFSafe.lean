/- The walk of FateSafe. -/
import Derived.Test.YtlgkkolgdjgclaaGreatFt
import Derived.Test.YtlgkkolgdjgclaaGreatMd26
namespace Go.Proofs.YtlgkkolgdjgclaaGreat
open Go.RowKit Go.Shelf Go.Maps
set_option linter.unusedVariables false
set_option linter.unusedSimpArgs false

theorem run_tag (d : CoreS) : d.run.1.tag = d.tag := by unfold CoreS.run; split; rfl; split <;> rfl
theorem tags_run {s : SysS} {m : Int} {n : Nat} (h : Free m n s) (c : Int) : (s.run c).1.tags = s.tags := by
  unfold SysS.run
  split
  · have h1 := h.setC c.toNat (s.core c).run.1
    have ht : (s.setC c.toNat (s.core c).run.1).tags = s.tags := tags_setC _ _ (fun d hd => by rw [run_tag, core_get rfl hd])
    simp only
    split
    · exact ht
    · simp only; rw [h1.useG, h1.holdL]; exact ht
  · rfl
theorem openT_len {z : SwS} {s : SysS} {c tag : Int} : (z.openT s c tag).1.all.length ≤ z.all.length + 1 := by
  unfold SwS.openT
  split
  · split
    · simp
    · split
      · simp [SwS.add]
      · simp
  · simp
theorem attT_len {z : SwS} {s : SysS} {c tag : Int} {l : List Bl} : (z.attT s c tag l).1.all.length ≤ z.all.length + 1 := by
  unfold SwS.attT
  split
  · simp only [SwS.set, List.length_modify]; exact openT_len
  · exact openT_len
set_option maxHeartbeats 6400000 in
set_option maxRecDepth 100000 in
theorem fateSafe_walk (tag : Int) (l2 : List Int) (n2 : Nat) (a2 : Option Addr) (c2 : Nat) (runs tot : Int) (l : List Bl) (n : Nat) (a : Option Addr) (c : Nat) (w : World)
    (hi0 : I63 tag) (hn2 : l2.length = n2) (hm2 : n2 ≤ maxLen) (hs2 : Sl int1 1 w a2 l2) (hi2 : I63 runs) (hi3 : I63 tot) (hn : l.length = n) (hm : n ≤ maxLen) (hs : Sl Bl.enc 4 w a l) (hB : ∀ b ∈ l, Byte b.y) :
    Calls Tryz.prog 10 #[.int .i64 tag, .slice a2 n2 c2, .int .i64 runs, .int .i64 tot, .slice a n c] w fun e w' => e = .returned (.bool true) ∧ Below w.heap.size w w' := by
  have HA := Lib.hid (fun (W : World) => awake26 W)
  have HM := Lib.hid (fun (W : World) (h12 : n2 ≤ 12) (h2 : Sl int1 1 W a2 l2) => made26 tag l2 n2 a2 c2 W hn2 h12 h2)
  have HS2 := Lib.hid hs2
  have HS := Lib.hid hs
  have HB := Lib.hid hB
  clear hn2 hs2 hs hB
  by_cases b3 : (12 : Int) < n2
  · skip
    go_enter Tryz.func10, Tryz.ntmps10
    go_wp2_with (first
      | (go_at_call 17; refine (HA.out _).mono ?_; rintro e w1 ⟨rfl, hb1⟩; have Hb1 := Lib.hid hb1; clear hb1)
      )
    go_ret
    exact ⟨rfl, Hb1.out⟩
  by_cases b4 : runs < 0
  · skip
    go_enter Tryz.func10, Tryz.ntmps10
    go_wp2_with (first
      | (go_at_call 17; refine (HA.out _).mono ?_; rintro e w1 ⟨rfl, hb1⟩; have Hb1 := Lib.hid hb1; clear hb1)
      )
    go_ret
    exact ⟨rfl, Hb1.out⟩
  by_cases b5 : (100 : Int) < runs
  · skip
    go_enter Tryz.func10, Tryz.ntmps10
    go_wp2_with (first
      | (go_at_call 17; refine (HA.out _).mono ?_; rintro e w1 ⟨rfl, hb1⟩; have Hb1 := Lib.hid hb1; clear hb1)
      )
    go_ret
    exact ⟨rfl, Hb1.out⟩
  by_cases b6 : (12 : Int) < n
  · skip
    go_enter Tryz.func10, Tryz.ntmps10
    go_wp2_with (first
      | (go_at_call 17; refine (HA.out _).mono ?_; rintro e w1 ⟨rfl, hb1⟩; have Hb1 := Lib.hid hb1; clear hb1)
      )
    go_ret
    exact ⟨rfl, Hb1.out⟩
  by_cases hg : newGood [tag]
  · replace HM := Lib.hid (fun (W : World) (h2 : Sl int1 1 W a2 l2) => (HM.out W (by omega) h2).mono (fun e w' h => h.resolve_right (fun h => h.1 hg)))
    clear hg
    obtain ⟨rn, rfl⟩ : ∃ rn : Nat, runs = rn := ⟨runs.toNat, by omega⟩
    have hr100 : rn ≤ 100 := by omega
    go_enter Tryz.func10, Tryz.ntmps10
    go_wp2_with (first
      | (go_at_call 17; refine (HA.out _).mono ?_; rintro e w1 ⟨rfl, hb1⟩; have Hb1 := Lib.hid hb1; clear hb1)
      | (go_at_call 18; refine (HM.out _ (HS2.out.below Hb1.out)).mono ?_
         rintro e w2 ⟨-, ow, L, oz, M, s, rfl, h2, hok, hfr, htg, -⟩
         have H2 := Lib.hid h2; have HOk := Lib.hid hok; have HFr := Lib.hid hfr; have HTg := Lib.hid htg
         clear h2 hok hfr htg))
    go_loopw [13] (fun ix wr => ∃ (k : Nat) (ow' : Nat → Option Own) (oz' : Nat → Option OwnW) (M' : SwL) (s' : SysS), k ≤ rn ∧ ix = .int .i64 k ∧ M'.b = M.b ∧ SwIn w1 wr ow' L s' oz' M' SwS.new ∧ SysOk (36 + 130 * k) s' ∧ Free 1 1 s' ∧ s'.tags = [tag]) (fun ix _ => rn - (intOf ix).toNat)
    case atStart => exact ⟨0, ow, oz, M, s, Nat.zero_le _, rfl, rfl, H2.out, HOk.out, HFr.out, HTg.out⟩
    case round =>
      obtain ⟨k, ow', oz', M', s', hk, rfl, hMb, h, hok, hfr, htg⟩ := hrel
      have hk0 : (0 : Int) ≤ k := by omega
      by_cases hlt : k < rn
      · have hkn : (k : Int) < rn := by omega
        have HR := Lib.hid (YRun h.sys hok (by omega) 0)
        have HOk2 := Lib.hid ((hok.run (by omega) 0).mono (show 36 + 130 * k + 130 ≤ 36 + 130 * (k + 1) by omega))
        have HFr2 := Lib.hid (hfr.run 0)
        have HTg2 := Lib.hid ((tags_run hfr 0).trans htg)
        have HH := Lib.hid h
        have HMb := Lib.hid hMb
        clear h hok hfr htg hMb
        go_wp2_with (go_at_call 26; refine HR.out.mono ?_; rintro e w5 ⟨rfl, hs5⟩
                     obtain ⟨ow5, oz5, M5, hb5, -, h5, -, -⟩ := HH.out.sysSw hs5
                     have H5 := Lib.hid h5; have HB5 := Lib.hid hb5; clear h5 hs5 hb5)
        exact ⟨⟨k + 1, ow5, oz5, M5, _, hlt, by go_num, HB5.out.trans HMb.out, H5.out, HOk2.out, HFr2.out, HTg2.out⟩, by simp [intOf]; omega⟩
      · obtain rfl : k = rn := by omega
        have hl1 : s'.cores.length = 1 := hfr.len
        have hin : 0 ≤ (0 : Int) ∧ (0 : Int) < s'.cores.length := by rw [hl1]; decide
        obtain ⟨d, hd, hde, hdf⟩ := hok.core hin
        have hd0 : s'.cores[0]? = some d := hd
        obtain ⟨bl, F, p, q, r, hbl, hcst, how⟩ := h.sys.cor 0 d hd0
        have hdt : d.tag = tag := by
          have h1 : s'.tags[0]? = some d.tag := by simp [SysS.tags, hd0]
          rw [htg] at h1
          simpa using h1.symm
        have HC := Lib.hid (YCore h.sys hin (bl := bl) hbl)
        have HF := Lib.hid (CorForm hcst hdf.tag (hdf.q.ok (by omega)))
        have HAg := Lib.hid (fun (W : World) (hW : Below wr.heap.size wr W) => CorAge (hcst.below hW))
        have HH := Lib.hid h
        have HOk2 := Lib.hid hok
        have HMb := Lib.hid hMb
        have HBl := Lib.hid hbl
        have HD0 := Lib.hid hd0
        have HDf := Lib.hid hdf
        have HDt := Lib.hid hdt
        have HL1 := Lib.hid hl1
        have HLn := Lib.hid hdf.q.len
        clear h hok hfr htg hMb hbl hd0 hd hde hdf hdt hl1 hin hcst how
        go_wp2_with (first
          | (go_at_call 14; refine HC.out.mono ?_; rintro e w3 ⟨rfl, rfl⟩)
          | (go_at_call 19; refine HF.out.mono ?_; rintro e w4 ⟨a4, c4, rfl, ho4, hb4⟩; have Hb4 := Lib.hid hb4; have HO4 := Lib.hid ho4; clear ho4)
          | (go_at_call 31; refine (HAg.out _ hb4).mono ?_; rintro e w5 ⟨rfl, rfl⟩))
        go_at_call 20
        have hbW := Hb4.out.alloc Hb4.out.size (.cells #[.int .i64 d.q.cur, .slice a4 d.q.l.length c4] 41)
        have hwr := HH.out.sys.old
        have hn12 : n ≤ 12 := by omega
        have hA := SwAttempt (HH.out.below hbW) (SwKx.new _) HOk2.out (by omega) (by decide) (c := 0) (by unfold I63; decide) tot l n a c hn (by omega) (((HS.out.below Hb1.out).below hwr).below hbW) (fun hne p hp => by
          obtain ⟨r1, o1, e1, hr1, -⟩ := HS.out hne
          rw [e1] at hp
          cases hp
          exact HH.out.older (Nat.lt_of_lt_of_le hr1 Hb1.out.size)) HB.out
        rw [HMb.out] at hA
        have hfs := fate_safe (tag := tot) HOk2.out (by omega) (by omega) HL1.out HD0.out HB.out
        obtain ⟨d5, hd5, hfm, hag, hdf5, hcase⟩ := hfs
        have hlen5 : (SwS.new.attT s' 0 tot l).1.all.length ≤ 1000000 := Nat.le_trans (attT_len (z := SwS.new)) (by decide)
        generalize (SwS.new.attT s' 0 tot l).1 = z5 at *
        generalize (SwS.new.attT s' 0 tot l).2.1 = s5 at *
        generalize hr5 : (SwS.new.attT s' 0 tot l).2.2 = r5 at *
        have hsz4 := Hb4.out.size
        have hfree : ∀ k, wr.heap.size ≤ k → ¬ (ow' k ≠ none ∨ oz' k ≠ none) := fun k hk e => by
          have := HH.out.free hk
          rcases e with e | e
          · exact e this.1
          · exact e this.2
        have hlt4 := HO4.out.lt
        have HS4 := Lib.hid (Sl.of_own It.len HO4.out)
        refine hA.mono ?_
        rintro e w5 ⟨rfl, ow5, oz5, M5, hMb5, -, h5, hf5, -⟩
        have hX5 := heap_fr (heap_new w4 (.cells #[.int .i64 d.q.cur, .slice a4 d.q.l.length c4] 41)) hf5 (hfree _ hsz4)
        obtain ⟨x0, x1, xz0, xz1, xlt⟩ := blk2 hX5
        have hS5 : Sl It.enc 3 w5 a4 (d.q.l.map (itOf d.q.base)) := (HS4.out.below ((Below.refl _ _).alloc (Nat.le_refl _) _)).fr hf5 (fun p hp => hfree _ (hlt4 p.block (by rw [hp]; rfl)).1)
        obtain ⟨bl5, F5, p5, q5, rr5, hbl5, hcst5, how5⟩ := h5.sys.cor 0 d5 hd5
        obtain rfl : bl5 = bl := by
          have := HBl.out
          rw [hbl5] at this
          cases this; rfl
        have e1 : d5.q.cur = d.q.cur := congrArg Fm.cur hfm
        have e2 : d5.q.l.map (itOf d5.q.base) = d.q.l.map (itOf d.q.base) := congrArg Fm.l hfm
        have hFm := fun (W : World) (hW : Below w5.heap.size w5 W) => CorForm (hcst5.below hW) hdf5.tag (hdf5.q.ok (by omega))
        rw [e1, e2] at hFm
        have HF5 := Lib.hid hFm
        have HAg5 := Lib.hid (fun (W : World) (hW : Below w5.heap.size w5 W) => CorAge (hcst5.below hW))
        have HTg5 := Lib.hid (fun (W : World) (hW : Below w5.heap.size w5 W) => CorTag (hcst5.below hW))
        rw [hag] at HAg5
        have hCn := SwCounts h5 hlen5
        rw [hMb5, HMb.out] at hCn
        have HB5 := Lib.hid h5.sys.old
        have HS5 := Lib.hid hS5
        have HX5 := Lib.hid hX5
        have HCn := Lib.hid hCn
        have hbd := (Below.refl w5.heap.size w5).drew
        clear hA hd5 hfm hdf5 hlen5 hlt4 h5 hf5 hX5 hbl5 hcst5 how5 hFm hCn hS5 hMb5 hfree hwr hbW e1 e2
        rcases hcase with ⟨k1, k2, k3, k4, k5⟩ | ⟨k1, k2, k3, k4, k5⟩ | ⟨k1, er, ker, k2, k3, k4, k5⟩
        · subst k2
          rw [k3, HDt.out] at HTg5
          rw [k4, k5] at HCn
          by_cases t1 : tot < 0
          · skip
            go_wp2_with (go_at_call 16; refine HCn.out.mono ?_; rintro e w6 ⟨rfl, rfl⟩)
            refine wp_region_chain 162 [0, 1, 0, 7, 15, 31, 63, 127, 63, 511, 1023, 2047, 4095, 4095, 12287, 32767, 65535] [(0, none), (2, none), (1, some [2]), (3, some []), (4, none), (5, none), (6, none), (8, none), (7, some [8]), (9, none), (10, none), (11, none), (12, none), (13, none), (14, none), (15, none), (16, none)] (by kernel_rfl) (by kernel_rfl) (by rfl) ?_; simp only [chain, Obs, List.getElem?_toArray, List.getElem?_cons_zero, List.getElem?_cons_succ]
            go_wp2_with (first
              | (with_reducible refine And.intro (by first | with_reducible exact True.intro | with_reducible rfl | go_simp) ?_)
              | (go_at_call 19; refine (HF5.out _ hbd).mono ?_; rintro e w7 ⟨a7, c7, rfl, ho7, hb7⟩
                 have hbd7 := hbd.trans (hb7.mono (Nat.le_refl _))
                 obtain ⟨x0, x1, xz0, xz1, xlt⟩ := blk2 (heap_below HX5.out hbd7)
                 have HS7 := Lib.hid (Sl.of_own It.len ho7)
                 clear ho7 hb7)
              | (go_at_call 30; refine (SameF_any d.q.cur d.q.cur (d.q.l.map (itOf d.q.base)) (d.q.l.map (itOf d.q.base)) _ _ a7 a4 c7 c4 _ (by simp) (by simp) (by have := HLn.out; simp; omega) (by have := HLn.out; omega) HS7.out (HS5.out.below hbd7) (decide_eq_true rfl)).mono ?_; rintro e w8 ⟨rfl, hb8⟩
                 have hbd8 := hbd7.trans (hb8.mono hbd7.size))
              | (go_at_call 31; refine (HAg5.out _ (by first | exact hbd8 | exact hbd8.drew)).mono ?_; rintro e w9 ⟨rfl, rfl⟩))
            refine NoPanic.normal ?_
            go_wp2_with (go_at_call 15; refine (HTg5.out _ (by first | exact hbd8 | exact hbd8.drew)).mono ?_; rintro e w9 ⟨rfl, rfl⟩)
            go_ret
            have hfin := (Hb1.out.trans (HB5.out.mono Hb1.out.size)).trans (hbd8.mono (by have := HB5.out.size; have := Hb1.out.size; omega))
            first
              | exact ⟨rfl, hfin⟩
              | exact ⟨rfl, hfin.drew⟩
          · have t2 : 2 < tot := by unfold TagOk at k1; omega
            go_wp2_with (go_at_call 16; refine HCn.out.mono ?_; rintro e w6 ⟨rfl, rfl⟩)
            refine wp_region_chain 162 [0, 1, 0, 7, 15, 31, 63, 127, 63, 511, 1023, 2047, 4095, 4095, 12287, 32767, 65535] [(0, none), (2, none), (1, some [2]), (3, some []), (4, none), (5, none), (6, none), (8, none), (7, some [8]), (9, none), (10, none), (11, none), (12, none), (13, none), (14, none), (15, none), (16, none)] (by kernel_rfl) (by kernel_rfl) (by rfl) ?_; simp only [chain, Obs, List.getElem?_toArray, List.getElem?_cons_zero, List.getElem?_cons_succ]
            go_wp2_with (first
              | (with_reducible refine And.intro (by first | with_reducible exact True.intro | with_reducible rfl | go_simp) ?_)
              | (go_at_call 19; refine (HF5.out _ hbd).mono ?_; rintro e w7 ⟨a7, c7, rfl, ho7, hb7⟩
                 have hbd7 := hbd.trans (hb7.mono (Nat.le_refl _))
                 obtain ⟨x0, x1, xz0, xz1, xlt⟩ := blk2 (heap_below HX5.out hbd7)
                 have HS7 := Lib.hid (Sl.of_own It.len ho7)
                 clear ho7 hb7)
              | (go_at_call 30; refine (SameF_any d.q.cur d.q.cur (d.q.l.map (itOf d.q.base)) (d.q.l.map (itOf d.q.base)) _ _ a7 a4 c7 c4 _ (by simp) (by simp) (by have := HLn.out; simp; omega) (by have := HLn.out; omega) HS7.out (HS5.out.below hbd7) (decide_eq_true rfl)).mono ?_; rintro e w8 ⟨rfl, hb8⟩
                 have hbd8 := hbd7.trans (hb8.mono hbd7.size))
              | (go_at_call 31; refine (HAg5.out _ (by first | exact hbd8 | exact hbd8.drew)).mono ?_; rintro e w9 ⟨rfl, rfl⟩))
            refine NoPanic.normal ?_
            go_wp2_with (go_at_call 15; refine (HTg5.out _ (by first | exact hbd8 | exact hbd8.drew)).mono ?_; rintro e w9 ⟨rfl, rfl⟩)
            go_ret
            have hfin := (Hb1.out.trans (HB5.out.mono Hb1.out.size)).trans (hbd8.mono (by have := HB5.out.size; have := Hb1.out.size; omega))
            first
              | exact ⟨rfl, hfin⟩
              | exact ⟨rfl, hfin.drew⟩
        · subst k2
          have t1 : 0 ≤ tot := by unfold TagOk at k1; omega
          have t2 : tot ≤ 2 := by unfold TagOk at k1; omega
          rw [k3] at HTg5
          rw [k4, k5] at HCn
          go_wp2_with (go_at_call 16; refine HCn.out.mono ?_; rintro e w6 ⟨rfl, rfl⟩)
          refine wp_region_chain 162 [0, 1, 0, 7, 15, 31, 63, 127, 63, 511, 1023, 2047, 4095, 4095, 12287, 32767, 65535] [(0, none), (2, none), (1, some [2]), (3, some []), (4, none), (5, none), (6, none), (8, none), (7, some [8]), (9, none), (10, none), (11, none), (12, none), (13, none), (14, none), (15, none), (16, none)] (by kernel_rfl) (by kernel_rfl) (by rfl) ?_; simp only [chain, Obs, List.getElem?_toArray, List.getElem?_cons_zero, List.getElem?_cons_succ]
          go_wp2_with (first
            | (with_reducible refine And.intro (by first | with_reducible exact True.intro | with_reducible rfl | go_simp) ?_)
            | (go_at_call 19; refine (HF5.out _ hbd).mono ?_; rintro e w7 ⟨a7, c7, rfl, ho7, hb7⟩
               have hbd7 := hbd.trans (hb7.mono (Nat.le_refl _))
               obtain ⟨x0, x1, xz0, xz1, xlt⟩ := blk2 (heap_below HX5.out hbd7)
               have HS7 := Lib.hid (Sl.of_own It.len ho7)
               clear ho7 hb7)
            | (go_at_call 30; refine (SameF_any d.q.cur d.q.cur (d.q.l.map (itOf d.q.base)) (d.q.l.map (itOf d.q.base)) _ _ a7 a4 c7 c4 _ (by simp) (by simp) (by have := HLn.out; simp; omega) (by have := HLn.out; omega) HS7.out (HS5.out.below hbd7) (decide_eq_true rfl)).mono ?_; rintro e w8 ⟨rfl, hb8⟩
               have hbd8 := hbd7.trans (hb8.mono hbd7.size))
            | (go_at_call 31; refine (HAg5.out _ (by first | exact hbd8 | exact hbd8.drew)).mono ?_; rintro e w9 ⟨rfl, rfl⟩))
          refine NoPanic.normal ?_
          go_wp2_with (go_at_call 15; refine (HTg5.out _ (by first | exact hbd8 | exact hbd8.drew)).mono ?_; rintro e w9 ⟨rfl, rfl⟩)
          go_ret
          have hfin := (Hb1.out.trans (HB5.out.mono Hb1.out.size)).trans (hbd8.mono (by have := HB5.out.size; have := Hb1.out.size; omega))
          first
            | exact ⟨rfl, hfin⟩
            | exact ⟨rfl, hfin.drew⟩
        · subst k2
          have t1 : 0 ≤ tot := by unfold TagOk at k1; omega
          have t2 : tot ≤ 2 := by unfold TagOk at k1; omega
          rw [k3, HDt.out] at HTg5
          rw [k4, k5] at HCn
          rcases ker with rfl | rfl | rfl | rfl | rfl
          · skip
            go_wp2_with (go_at_call 16; refine HCn.out.mono ?_; rintro e w6 ⟨rfl, rfl⟩)
            refine wp_region_chain 162 [0, 1, 0, 7, 15, 31, 63, 127, 63, 511, 1023, 2047, 4095, 4095, 12287, 32767, 65535] [(0, none), (2, none), (1, some [2]), (3, some []), (4, none), (5, none), (6, none), (8, none), (7, some [8]), (9, none), (10, none), (11, none), (12, none), (13, none), (14, none), (15, none), (16, none)] (by kernel_rfl) (by kernel_rfl) (by rfl) ?_; simp only [chain, Obs, List.getElem?_toArray, List.getElem?_cons_zero, List.getElem?_cons_succ]
            go_wp2_with (first
              | (with_reducible refine And.intro (by first | with_reducible exact True.intro | with_reducible rfl | go_simp) ?_)
              | (go_at_call 19; refine (HF5.out _ hbd).mono ?_; rintro e w7 ⟨a7, c7, rfl, ho7, hb7⟩
                 have hbd7 := hbd.trans (hb7.mono (Nat.le_refl _))
                 obtain ⟨x0, x1, xz0, xz1, xlt⟩ := blk2 (heap_below HX5.out hbd7)
                 have HS7 := Lib.hid (Sl.of_own It.len ho7)
                 clear ho7 hb7)
              | (go_at_call 30; refine (SameF_any d.q.cur d.q.cur (d.q.l.map (itOf d.q.base)) (d.q.l.map (itOf d.q.base)) _ _ a7 a4 c7 c4 _ (by simp) (by simp) (by have := HLn.out; simp; omega) (by have := HLn.out; omega) HS7.out (HS5.out.below hbd7) (decide_eq_true rfl)).mono ?_; rintro e w8 ⟨rfl, hb8⟩
                 have hbd8 := hbd7.trans (hb8.mono hbd7.size))
              | (go_at_call 31; refine (HAg5.out _ (by first | exact hbd8 | exact hbd8.drew)).mono ?_; rintro e w9 ⟨rfl, rfl⟩))
            refine NoPanic.normal ?_
            go_wp2_with (go_at_call 15; refine (HTg5.out _ (by first | exact hbd8 | exact hbd8.drew)).mono ?_; rintro e w9 ⟨rfl, rfl⟩)
            go_ret
            have hfin := (Hb1.out.trans (HB5.out.mono Hb1.out.size)).trans (hbd8.mono (by have := HB5.out.size; have := Hb1.out.size; omega))
            first
              | exact ⟨rfl, hfin⟩
              | exact ⟨rfl, hfin.drew⟩
          · skip
            go_wp2_with (go_at_call 16; refine HCn.out.mono ?_; rintro e w6 ⟨rfl, rfl⟩)
            refine wp_region_chain 162 [0, 1, 0, 7, 15, 31, 63, 127, 63, 511, 1023, 2047, 4095, 4095, 12287, 32767, 65535] [(0, none), (2, none), (1, some [2]), (3, some []), (4, none), (5, none), (6, none), (8, none), (7, some [8]), (9, none), (10, none), (11, none), (12, none), (13, none), (14, none), (15, none), (16, none)] (by kernel_rfl) (by kernel_rfl) (by rfl) ?_; simp only [chain, Obs, List.getElem?_toArray, List.getElem?_cons_zero, List.getElem?_cons_succ]
            go_wp2_with (first
              | (with_reducible refine And.intro (by first | with_reducible exact True.intro | with_reducible rfl | go_simp) ?_)
              | (go_at_call 19; refine (HF5.out _ hbd).mono ?_; rintro e w7 ⟨a7, c7, rfl, ho7, hb7⟩
                 have hbd7 := hbd.trans (hb7.mono (Nat.le_refl _))
                 obtain ⟨x0, x1, xz0, xz1, xlt⟩ := blk2 (heap_below HX5.out hbd7)
                 have HS7 := Lib.hid (Sl.of_own It.len ho7)
                 clear ho7 hb7)
              | (go_at_call 30; refine (SameF_any d.q.cur d.q.cur (d.q.l.map (itOf d.q.base)) (d.q.l.map (itOf d.q.base)) _ _ a7 a4 c7 c4 _ (by simp) (by simp) (by have := HLn.out; simp; omega) (by have := HLn.out; omega) HS7.out (HS5.out.below hbd7) (decide_eq_true rfl)).mono ?_; rintro e w8 ⟨rfl, hb8⟩
                 have hbd8 := hbd7.trans (hb8.mono hbd7.size))
              | (go_at_call 31; refine (HAg5.out _ (by first | exact hbd8 | exact hbd8.drew)).mono ?_; rintro e w9 ⟨rfl, rfl⟩))
            refine NoPanic.normal ?_
            go_wp2_with (go_at_call 15; refine (HTg5.out _ (by first | exact hbd8 | exact hbd8.drew)).mono ?_; rintro e w9 ⟨rfl, rfl⟩)
            go_ret
            have hfin := (Hb1.out.trans (HB5.out.mono Hb1.out.size)).trans (hbd8.mono (by have := HB5.out.size; have := Hb1.out.size; omega))
            first
              | exact ⟨rfl, hfin⟩
              | exact ⟨rfl, hfin.drew⟩
          · skip
            go_wp2_with (go_at_call 16; refine HCn.out.mono ?_; rintro e w6 ⟨rfl, rfl⟩)
            refine wp_region_chain 162 [0, 1, 0, 7, 15, 31, 63, 127, 63, 511, 1023, 2047, 4095, 4095, 12287, 32767, 65535] [(0, none), (2, none), (1, some [2]), (3, some []), (4, none), (5, none), (6, none), (8, none), (7, some [8]), (9, none), (10, none), (11, none), (12, none), (13, none), (14, none), (15, none), (16, none)] (by kernel_rfl) (by kernel_rfl) (by rfl) ?_; simp only [chain, Obs, List.getElem?_toArray, List.getElem?_cons_zero, List.getElem?_cons_succ]
            go_wp2_with (first
              | (with_reducible refine And.intro (by first | with_reducible exact True.intro | with_reducible rfl | go_simp) ?_)
              | (go_at_call 19; refine (HF5.out _ hbd).mono ?_; rintro e w7 ⟨a7, c7, rfl, ho7, hb7⟩
                 have hbd7 := hbd.trans (hb7.mono (Nat.le_refl _))
                 obtain ⟨x0, x1, xz0, xz1, xlt⟩ := blk2 (heap_below HX5.out hbd7)
                 have HS7 := Lib.hid (Sl.of_own It.len ho7)
                 clear ho7 hb7)
              | (go_at_call 30; refine (SameF_any d.q.cur d.q.cur (d.q.l.map (itOf d.q.base)) (d.q.l.map (itOf d.q.base)) _ _ a7 a4 c7 c4 _ (by simp) (by simp) (by have := HLn.out; simp; omega) (by have := HLn.out; omega) HS7.out (HS5.out.below hbd7) (decide_eq_true rfl)).mono ?_; rintro e w8 ⟨rfl, hb8⟩
                 have hbd8 := hbd7.trans (hb8.mono hbd7.size))
              | (go_at_call 31; refine (HAg5.out _ (by first | exact hbd8 | exact hbd8.drew)).mono ?_; rintro e w9 ⟨rfl, rfl⟩))
            refine NoPanic.normal ?_
            go_wp2_with (go_at_call 15; refine (HTg5.out _ (by first | exact hbd8 | exact hbd8.drew)).mono ?_; rintro e w9 ⟨rfl, rfl⟩)
            go_ret
            have hfin := (Hb1.out.trans (HB5.out.mono Hb1.out.size)).trans (hbd8.mono (by have := HB5.out.size; have := Hb1.out.size; omega))
            first
              | exact ⟨rfl, hfin⟩
              | exact ⟨rfl, hfin.drew⟩
          · skip
            go_wp2_with (go_at_call 16; refine HCn.out.mono ?_; rintro e w6 ⟨rfl, rfl⟩)
            refine wp_region_chain 162 [0, 1, 0, 7, 15, 31, 63, 127, 63, 511, 1023, 2047, 4095, 4095, 12287, 32767, 65535] [(0, none), (2, none), (1, some [2]), (3, some []), (4, none), (5, none), (6, none), (8, none), (7, some [8]), (9, none), (10, none), (11, none), (12, none), (13, none), (14, none), (15, none), (16, none)] (by kernel_rfl) (by kernel_rfl) (by rfl) ?_; simp only [chain, Obs, List.getElem?_toArray, List.getElem?_cons_zero, List.getElem?_cons_succ]
            go_wp2_with (first
              | (with_reducible refine And.intro (by first | with_reducible exact True.intro | with_reducible rfl | go_simp) ?_)
              | (go_at_call 19; refine (HF5.out _ hbd).mono ?_; rintro e w7 ⟨a7, c7, rfl, ho7, hb7⟩
                 have hbd7 := hbd.trans (hb7.mono (Nat.le_refl _))
                 obtain ⟨x0, x1, xz0, xz1, xlt⟩ := blk2 (heap_below HX5.out hbd7)
                 have HS7 := Lib.hid (Sl.of_own It.len ho7)
                 clear ho7 hb7)
              | (go_at_call 30; refine (SameF_any d.q.cur d.q.cur (d.q.l.map (itOf d.q.base)) (d.q.l.map (itOf d.q.base)) _ _ a7 a4 c7 c4 _ (by simp) (by simp) (by have := HLn.out; simp; omega) (by have := HLn.out; omega) HS7.out (HS5.out.below hbd7) (decide_eq_true rfl)).mono ?_; rintro e w8 ⟨rfl, hb8⟩
                 have hbd8 := hbd7.trans (hb8.mono hbd7.size))
              | (go_at_call 31; refine (HAg5.out _ (by first | exact hbd8 | exact hbd8.drew)).mono ?_; rintro e w9 ⟨rfl, rfl⟩))
            refine NoPanic.normal ?_
            go_wp2_with (go_at_call 15; refine (HTg5.out _ (by first | exact hbd8 | exact hbd8.drew)).mono ?_; rintro e w9 ⟨rfl, rfl⟩)
            go_ret
            have hfin := (Hb1.out.trans (HB5.out.mono Hb1.out.size)).trans (hbd8.mono (by have := HB5.out.size; have := Hb1.out.size; omega))
            first
              | exact ⟨rfl, hfin⟩
              | exact ⟨rfl, hfin.drew⟩
          · skip
            go_wp2_with (go_at_call 16; refine HCn.out.mono ?_; rintro e w6 ⟨rfl, rfl⟩)
            refine wp_region_chain 162 [0, 1, 0, 7, 15, 31, 63, 127, 63, 511, 1023, 2047, 4095, 4095, 12287, 32767, 65535] [(0, none), (2, none), (1, some [2]), (3, some []), (4, none), (5, none), (6, none), (8, none), (7, some [8]), (9, none), (10, none), (11, none), (12, none), (13, none), (14, none), (15, none), (16, none)] (by kernel_rfl) (by kernel_rfl) (by rfl) ?_; simp only [chain, Obs, List.getElem?_toArray, List.getElem?_cons_zero, List.getElem?_cons_succ]
            go_wp2_with (first
              | (with_reducible refine And.intro (by first | with_reducible exact True.intro | with_reducible rfl | go_simp) ?_)
              | (go_at_call 19; refine (HF5.out _ hbd).mono ?_; rintro e w7 ⟨a7, c7, rfl, ho7, hb7⟩
                 have hbd7 := hbd.trans (hb7.mono (Nat.le_refl _))
                 obtain ⟨x0, x1, xz0, xz1, xlt⟩ := blk2 (heap_below HX5.out hbd7)
                 have HS7 := Lib.hid (Sl.of_own It.len ho7)
                 clear ho7 hb7)
              | (go_at_call 30; refine (SameF_any d.q.cur d.q.cur (d.q.l.map (itOf d.q.base)) (d.q.l.map (itOf d.q.base)) _ _ a7 a4 c7 c4 _ (by simp) (by simp) (by have := HLn.out; simp; omega) (by have := HLn.out; omega) HS7.out (HS5.out.below hbd7) (decide_eq_true rfl)).mono ?_; rintro e w8 ⟨rfl, hb8⟩
                 have hbd8 := hbd7.trans (hb8.mono hbd7.size))
              | (go_at_call 31; refine (HAg5.out _ (by first | exact hbd8 | exact hbd8.drew)).mono ?_; rintro e w9 ⟨rfl, rfl⟩))
            refine NoPanic.normal ?_
            go_wp2_with (go_at_call 15; refine (HTg5.out _ (by first | exact hbd8 | exact hbd8.drew)).mono ?_; rintro e w9 ⟨rfl, rfl⟩)
            go_ret
            have hfin := (Hb1.out.trans (HB5.out.mono Hb1.out.size)).trans (hbd8.mono (by have := HB5.out.size; have := Hb1.out.size; omega))
            first
              | exact ⟨rfl, hfin⟩
              | exact ⟨rfl, hfin.drew⟩
  · replace HM := Lib.hid (fun (W : World) (h2 : Sl int1 1 W a2 l2) => (HM.out W (by omega) h2).mono (fun e w' h => h.resolve_left (fun h => hg h.1)))
    go_enter Tryz.func10, Tryz.ntmps10
    go_wp2_with (first
      | (go_at_call 17; refine (HA.out _).mono ?_; rintro e w1 ⟨rfl, hb1⟩; have Hb1 := Lib.hid hb1; clear hb1)
      | (go_at_call 18; refine (HM.out _ (HS2.out.below Hb1.out)).mono ?_; rintro e w2 ⟨-, rfl, hb2⟩; have Hb2 := Lib.hid hb2; clear hb2))
    go_ret
    exact ⟨rfl, Hb1.out.trans (Hb2.out.mono Hb1.out.size)⟩
end Go.Proofs.YtlgkkolgdjgclaaGreat
