/- PolicyLeaves walked. -/
import Derived.Test.YtfijedmdfkelnaaPif
import Derived.Test.YtfijedmdfkelnaaLaw14
import Derived.Test.YtfijedmdfkelnaaLeavesM
import Derived.Test.YtfijedmdfkelnaaFind
import Derived.Test.YtfijedmdfkelnaaArg
namespace Go.Proofs.Ytfijedmdfkelnaa
open Go.RowKit
set_option linter.unusedVariables false
set_option linter.unusedSimpArgs false

set_option maxHeartbeats 6400000 in
set_option maxRecDepth 100000 in
theorem PolicyLeaves_walk (tag cur : Int) (l : List It) (n : Nat) (a : Option Addr) (c : Nat) (id : Int) (w : World) (htag : I64 tag) (hn : l.length = n) (hm : n ≤ maxLen) (hs : Sl It.enc 3 w a l) (hid : I64 id) :
    Calls Try.prog 3 #[.int .i64 tag, .agg #[.int .i64 cur, .slice a n c], .int .i64 id] w fun e w' => e = .returned (.bool true) ∧ Below w.heap.size w w' := by
  have hb0 := (Below.refl w.heap.size w).alloc (Nat.le_refl _) (.cells #[.int .i64 cur, .slice a n c] 24)
  have X0 := Lib.hid (heap_new w (.cells #[.int .i64 cur, .slice a n c] 24))
  have HS := Lib.hid (hs.below hb0)
  have Hn := Lib.hid hn
  have Hb0 := Lib.hid hb0
  unfold maxLen at hm
  clear hs hn hb0
  by_cases h1 : (n : Int) < 2
  · go_enter Try.func3, Try.ntmps3
    go_wp2_with (first
      | (go_at_call 7; refine (awake14 _).mono ?_; rintro e w1 ⟨rfl, hb⟩; have hc := Lib.hid hb; obtain ⟨g0, g1, y0, y1, gl⟩ := blk2 (heap_below X0.out hb); clear hb)
      )
    go_ret
    exact ⟨rfl, Hb0.out.trans (hc.out.mono (by simp))⟩
  · by_cases h2 : (64 : Int) < n
    · go_enter Try.func3, Try.ntmps3
      go_wp2_with (first
        | (go_at_call 7; refine (awake14 _).mono ?_; rintro e w1 ⟨rfl, hb⟩; have hc := Lib.hid hb; obtain ⟨g0, g1, y0, y1, gl⟩ := blk2 (heap_below X0.out hb); clear hb)
        )
      go_ret
      exact ⟨rfl, Hb0.out.trans (hc.out.mono (by simp))⟩
    · cases hg : goodF ⟨cur, l⟩ with
      | false =>
        have Hg := Lib.hid hg
        clear hg
        go_enter Try.func3, Try.ntmps3
        go_wp2_with (first
          | (go_at_call 7; refine (awake14 _).mono ?_; rintro e w1 ⟨rfl, hb⟩; have hc := Lib.hid hb; obtain ⟨g0, g1, y0, y1, gl⟩ := blk2 (heap_below X0.out hb); clear hb)
          | (go_at_call 8; refine (GoodF_any cur l n a c _ Hn.out (by omega) (HS.out.below hc.out) Hg.out).mono ?_; rintro e w2 ⟨rfl, hb⟩; have hc := Lib.hid (hc.out.trans (hb.mono hc.out.size)); obtain ⟨g0, g1, y0, y1, gl⟩ := blk2 (heap_below X0.out hc.out); clear hb)
          )
        go_ret
        exact ⟨rfl, Hb0.out.trans (hc.out.mono (by simp))⟩
      | true =>
        have Hg := Lib.hid hg
        by_cases ht : TagOk tag
        case neg =>
          have HP := Lib.hid (fun W (hW : Below (w.alloc (.cells #[.int .i64 cur, .slice a n c] 24)).heap.size (w.alloc (.cells #[.int .i64 cur, .slice a n c] 24)) W) => PolSeed_err tag ⟨cur, l⟩ n a c 0 W Hn.out (by omega) (HS.out.below hW) fun h => ht h.1)
          clear hg ht
          rcases fi_cases (isIt id) l with ⟨hf, _⟩ | ⟨j, x, hf, _, hx, _, _⟩
          · have HF := Lib.hid hf
            clear hf
            go_enter Try.func3, Try.ntmps3
            go_wp2_with (first
              | (go_at_call 7; refine (awake14 _).mono ?_; rintro e w1 ⟨rfl, hb⟩; have hc := Lib.hid hb; obtain ⟨g0, g1, y0, y1, gl⟩ := blk2 (heap_below X0.out hb); clear hb)
              | (go_at_call 8; refine (GoodF_any cur l n a c _ Hn.out (by omega) (HS.out.below hc.out) Hg.out).mono ?_; rintro e w2 ⟨rfl, hb⟩; have hc := Lib.hid (hc.out.trans (hb.mono hc.out.size)); obtain ⟨g0, g1, y0, y1, gl⟩ := blk2 (heap_below X0.out hc.out); clear hb)
              | (go_at_call 9; refine (HP.out _ hc.out).mono ?_; rintro e w3 ⟨rfl, hb⟩; have hc := Lib.hid (hc.out.trans (hb.mono hc.out.size)); obtain ⟨g0, g1, y0, y1, gl⟩ := blk2 (heap_below X0.out hc.out); clear hb)
              | (go_at_call 10; refine (FindF_none cur id l n a c _ Hn.out (by omega) (HS.out.below hc.out) HF.out).mono ?_; rintro e w4 ⟨rfl, hb⟩; have hc := Lib.hid (hc.out.trans (hb.mono hc.out.size)); clear hb))
            go_ret
            exact ⟨rfl, (Hb0.out.trans (hc.out.mono (by simp))).alloc (by have := hc.out.size; simp at this; omega) _⟩
          · have HF := Lib.hid hf
            have Hx := Lib.hid hx
            clear hf hx
            go_enter Try.func3, Try.ntmps3
            go_wp2_with (first
              | (go_at_call 7; refine (awake14 _).mono ?_; rintro e w1 ⟨rfl, hb⟩; have hc := Lib.hid hb; obtain ⟨g0, g1, y0, y1, gl⟩ := blk2 (heap_below X0.out hb); clear hb)
              | (go_at_call 8; refine (GoodF_any cur l n a c _ Hn.out (by omega) (HS.out.below hc.out) Hg.out).mono ?_; rintro e w2 ⟨rfl, hb⟩; have hc := Lib.hid (hc.out.trans (hb.mono hc.out.size)); obtain ⟨g0, g1, y0, y1, gl⟩ := blk2 (heap_below X0.out hc.out); clear hb)
              | (go_at_call 9; refine (HP.out _ hc.out).mono ?_; rintro e w3 ⟨rfl, hb⟩; have hc := Lib.hid (hc.out.trans (hb.mono hc.out.size)); obtain ⟨g0, g1, y0, y1, gl⟩ := blk2 (heap_below X0.out hc.out); clear hb)
              | (go_at_call 10; refine (FindF_some cur id l n a c _ Hn.out (by omega) (HS.out.below hc.out) j x HF.out Hx.out).mono ?_; rintro e w4 ⟨rfl, hb⟩; have hc := Lib.hid (hc.out.trans (hb.mono hc.out.size)); clear hb))
            go_ret
            exact ⟨rfl, (Hb0.out.trans (hc.out.mono (by simp))).alloc (by have := hc.out.size; simp at this; omega) _⟩
        case pos =>
          have HP := Lib.hid (fun W (hW : Below (w.alloc (.cells #[.int .i64 cur, .slice a n c] 24)).heap.size (w.alloc (.cells #[.int .i64 cur, .slice a n c] 24)) W) => PolSeed_ok tag ⟨cur, l⟩ n a c 0 W Hn.out (HS.out.below hW) ht (by decide) hg)
          rcases fi_cases (isIt id) l with ⟨hf, _⟩ | ⟨j, x, hf, _, hx, hxid, _⟩
          · have HF := Lib.hid hf
            clear hf hg ht
            go_enter Try.func3, Try.ntmps3
            go_wp2_with (first
              | (go_at_call 7; refine (awake14 _).mono ?_; rintro e w1 ⟨rfl, hb⟩; have hc := Lib.hid hb; obtain ⟨g0, g1, y0, y1, gl⟩ := blk2 (heap_below X0.out hb); clear hb)
              | (go_at_call 8; refine (GoodF_any cur l n a c _ Hn.out (by omega) (HS.out.below hc.out) Hg.out).mono ?_; rintro e w2 ⟨rfl, hb⟩; have hc := Lib.hid (hc.out.trans (hb.mono hc.out.size)); obtain ⟨g0, g1, y0, y1, gl⟩ := blk2 (heap_below X0.out hc.out); clear hb)
              | (go_at_call 9; refine (HP.out _ hc.out).mono ?_; rintro e w3 ⟨p, F, rfl, _, _, hb⟩; have hc := Lib.hid (hc.out.trans (hb.mono hc.out.size)); obtain ⟨g0, g1, y0, y1, gl⟩ := blk2 (heap_below X0.out hc.out); clear hb)
              | (go_at_call 10; refine (FindF_none cur id l n a c _ Hn.out (by omega) (HS.out.below hc.out) HF.out).mono ?_; rintro e w4 ⟨rfl, hb⟩; have hc := Lib.hid (hc.out.trans (hb.mono hc.out.size)); clear hb))
            go_ret
            exact ⟨rfl, (Hb0.out.trans (hc.out.mono (by simp))).alloc (by have := hc.out.size; simp at this; omega) _⟩
          · obtain ⟨S1, S2, hI⟩ := leavesI hg (by rw [show (⟨cur, l⟩ : Fm).l.length = n from Hn.out]; omega) hx (show x.id = id by simpa [isIt] using hxid)
            have hk0 : OkS 0 (seedR ⟨cur, l⟩ 0) := OkS.seed (by decide) (by decide) hg
            obtain ⟨x1, t1, hL1⟩ : ∃ x1 t1, S1.l.map (itOf S1.base) = x1 :: t1 := by
              have h3 := hI.len1
              rw [show (⟨cur, l⟩ : Fm).l.length = n from Hn.out] at h3
              cases h4 : S1.l.map (itOf S1.base) with
              | nil => have h5 := congrArg List.length h4; rw [List.length_map] at h5; simp at h5; rw [h5] at h3; simp at h3; omega
              | cons x1 t1 => exact ⟨x1, t1, rfl⟩
            have hfr := front_ge hI.lags1 hL1
            obtain ⟨z, hz⟩ : ∃ z, bestF t1 x1 = z := ⟨_, rfl⟩
            rw [hz] at hfr
            obtain ⟨jz, zz, hfz, hzz, hzl⟩ := hI.find
            have hl1 : (x1 :: t1).length = S1.l.length := by rw [← hL1, List.length_map]
            have hlen1 : S1.l.length ≤ 64 := hI.ok1.len
            have hlen2 : S2.l.length = S1.l.length + 1 := hI.len2
            have hlen2b : S2.l.length ≤ 64 := hI.ok2.len
            have hgood2 : goodF ⟨S2.cur, S2.l.map (itOf S2.base)⟩ = true := good_of_lags hI.ok2 hI.lags2
            have IL := Lib.hid (fun (b : Nat) => ifLeave tag ht b)
            have IF := Lib.hid (fun (b : Nat) => ifForm tag ht b)
            have IP := Lib.hid (fun (b : Nat) => ifPut tag ht b)
            have HI := Lib.hid hI
            have HK0 := Lib.hid hk0
            have HL1 := Lib.hid hL1
            have Hl1 := Lib.hid hl1
            have Hz := Lib.hid hz
            have HF := Lib.hid hf
            have Hx := Lib.hid hx
            have Hfz := Lib.hid hfz
            have Hzz := Lib.hid hzz
            have Hg2 := Lib.hid hgood2
            have Hlen2 := Lib.hid hlen2
            clear hg ht hI hk0 hL1 hz hf hx hxid hfz hzz hgood2 hl1 hlen2
            go_enter Try.func3, Try.ntmps3
            go_wp2_with (first
              | (go_at_call 7; refine (awake14 _).mono ?_; rintro e w1 ⟨rfl, hb⟩; have hc := Lib.hid hb; obtain ⟨g0, g1, y0, y1, gl⟩ := blk2 (heap_below X0.out hb); clear hb)
              | (go_at_call 8; refine (GoodF_any cur l n a c _ Hn.out (by omega) (HS.out.below hc.out) Hg.out).mono ?_; rintro e w2 ⟨rfl, hb⟩; have hc := Lib.hid (hc.out.trans (hb.mono hc.out.size)); obtain ⟨g0, g1, y0, y1, gl⟩ := blk2 (heap_below X0.out hc.out); clear hb)
              | (go_at_call 9; refine (HP.out _ hc.out).mono ?_; go_loud (rintro e w3 hnp); obtain ⟨p, b, F, rfl, hp, _, hb⟩ := hnp.st hc.out
                 obtain ⟨FL, mL, eL, cL⟩ := IL.out b
                 obtain ⟨FF, mF, eF, cF⟩ := IF.out b
                 obtain ⟨FP, mP, eP, cP⟩ := IP.out b
                 obtain ⟨c0, c1, f0, f1, pl⟩ := blk2 hp.cell
                 obtain ⟨g0, g1, y0, y1, gl⟩ := blk2 (heap_below X0.out hp.old)
                 have Hp := Lib.hid hp
                 clear hp hnp hb)
              | (go_at_call 10; first
                | ((with_reducible refine (FindF_some cur id l n a c _ Hn.out (by omega) (HS.out.below Hp.out.old) j x HF.out Hx.out).mono ?_); rintro e w4 ⟨rfl, hb⟩
                   have Hp4 := Lib.hid (Hp.out.below hb)
                   have Hlt4 := Lib.hid Hp4.out.lt
                   have Hp4a := Lib.hid (Hp4.out.below ((Below.refl _ _).alloc (Nat.le_refl _) (.cells #[.int .i64 x.id, .int .i64 x.w, .int .i64 x.lag] 32)))
                   have X9 := Lib.hid (heap_new w4 (.cells #[.int .i64 x.id, .int .i64 x.w, .int .i64 x.lag] 32))
                   obtain ⟨c0, c1, f0, f1, pl⟩ := blk2 Hp4.out.cell
                   have hp4n : p ≠ w4.heap.size := (by omega)
                   clear hb))
              | (go_at_fn FL; refine (cL.out Hp4a.out HK0.out id S1 x.lag 0 HI.out.leave).mono ?_; rintro e w5 ⟨rfl, F5, hp5, hf5, hs5⟩
                 have X9b := Lib.hid (heap_fr X9.out hf5 (fun h => by have := Hlt4.out _ h; omega))
                 obtain ⟨c0, c1, f0, f1, pl⟩ := blk2 hp5.cell
                 obtain ⟨d0, d1, d2, v0, v1, v2, dl⟩ := blk3 X9b.out
                 have Hp5 := Lib.hid hp5
                 have H95 := Lib.hid (fun h => (hs5 w4.heap.size h).elim (fun h => by have := Hlt4.out _ h; omega) (fun h => by simp at h; omega) : ¬ F5 w4.heap.size)
                 clear hp5 hf5 hs5)
              | (go_at_fn FF; first
                | ((with_reducible refine (cF.out Hp5.out.q HI.out.ok1).mono ?_); rw [HL1.out]; rintro e w6 ⟨a6, k6, rfl, ho, hb⟩; rw [Hl1.out] at ho ⊢
                   have Hs6 := Lib.hid (Sl.of_own (l := x1 :: t1) It.len (by rw [Hl1.out]; exact ho))
                   have Hp6 := Lib.hid (Hp5.out.below hb)
                   have X9c := Lib.hid (heap_below X9b.out hb)
                   clear ho hb)
                | ((with_reducible refine (cF.out Hp7a.out.q HI.out.ok1).mono ?_); rw [HL1.out]; rintro e w8 ⟨a8, k8, rfl, ho, hb⟩; rw [Hl1.out] at ho ⊢
                   have Hp8 := Lib.hid (Hp7a.out.below hb)
                   have X9e := Lib.hid (heap_below X9d.out hb)
                   have Hlt8 := Lib.hid Hp8.out.lt
                   have Hp8a := Lib.hid ((Hp8.out.below ((Below.refl _ _).alloc (Nat.le_refl _) (.cells #[.int .i64 S1.cur, .slice a8 S1.l.length k8] 24))).below (Below.refl _ _).drew)
                   have X15 := Lib.hid (heap_drew (heap_new w8 (.cells #[.int .i64 S1.cur, .slice a8 S1.l.length k8] 24)))
                   obtain ⟨c0, c1, f0, f1, pl⟩ := blk2 Hp8.out.cell
                   obtain ⟨d0, d1, d2, v0, v1, v2, dl⟩ := blk3 X9e.out
                   have hp8n : p ≠ w8.heap.size := (by omega)
                   have hd8n : w4.heap.size ≠ w8.heap.size := (by omega)
                   clear ho hb))
              | (go_at_call 11; refine (FrontF_some S1.cur x1 t1 S1.l.length a6 k6 _ Hl1.out (by omega) Hs6.out z Hz.out).mono ?_; rintro e w7 ⟨rfl, hb⟩
                 have Hp7 := Lib.hid (Hp6.out.below hb)
                 have Hp7a := Lib.hid (Hp7.out.below ((Below.refl _ _).alloc (Nat.le_refl _) (.cells #[.int .i64 z.id, .int .i64 z.w, .int .i64 z.lag] 32)))
                 have X9d := Lib.hid (heap_alloc (heap_below X9c.out hb) (.cells #[.int .i64 z.id, .int .i64 z.w, .int .i64 z.lag] 32))
                 obtain ⟨c0, c1, f0, f1, pl⟩ := blk2 Hp7.out.cell
                 have hp7n : p ≠ w7.heap.size := (by omega)
                 clear hb))
            refine wp_region_chain 134 [0, 1, 3, 7, 0, 0, 32, 0, 255, 511] [(0, none), (1, none), (2, none), (3, none), (4, none), (5, none), (6, none), (7, none), (8, some []), (9, none)] (by kernel_rfl) (by kernel_rfl) (by rfl) ?_; simp only [chain, Obs, List.getElem?_toArray, List.getElem?_cons_zero, List.getElem?_cons_succ]
            go_wp2_with (first
              | (with_reducible refine And.intro (by first | with_reducible exact True.intro | with_reducible rfl | go_simp) ?_)
              | (go_at_fn FP; refine (cP.out Hp8a.out HI.out.ok1 (by decide) id x.w x.lag 0 HI.out.may).mono ?_; rw [HI.out.put]; rintro e w10 ⟨rfl, F10, hp10, hf10, hs10⟩
                 have X15b := Lib.hid (heap_fr X15.out hf10 (fun h => by have := Hlt8.out _ h; omega))
                 obtain ⟨c0, c1, f0, f1, pl⟩ := blk2 hp10.cell
                 have Hp10 := Lib.hid hp10
                 clear hp10 hf10 hs10))
            refine NoPanic.normal ?_
            have hw : IntKind.i64.wrap ((S1.l.length : Int) + 1) = (S1.l.length : Int) + 1 := IntWalk.i64_in _ (by omega)
            have hlz : (S2.l.length : Int) = (S1.l.length : Int) + 1 := by have := Hlen2.out; omega
            go_wp2_with (first
              | (go_at_fn FF; refine (cF.out Hp10.out.q HI.out.ok2).mono ?_; rintro e w11 ⟨a11, k11, rfl, ho, hb⟩; rw [List.length_map] at ho ⊢
                 have Hs11 := Lib.hid ((Sl.of_own It.len (by rw [List.length_map]; exact ho) : Sl It.enc 3 w11 a11 (S2.l.map (itOf S2.base))).below ((Below.refl _ _).alloc (Nat.le_refl _) (.cells #[.int .i64 S2.cur, .slice a11 S2.l.length k11] 24)))
                 have Hp11a := Lib.hid ((Hp10.out.below hb).below ((Below.refl _ _).alloc (Nat.le_refl _) (.cells #[.int .i64 S2.cur, .slice a11 S2.l.length k11] 24)))
                 have X16a := Lib.hid (heap_new w11 (.cells #[.int .i64 S2.cur, .slice a11 S2.l.length k11] 24))
                 have X15c := Lib.hid (heap_alloc (heap_below X15b.out hb) (.cells #[.int .i64 S2.cur, .slice a11 S2.l.length k11] 24))
                 clear ho hb)
              | (go_at_call 10; refine (FindF_some S2.cur id (S2.l.map (itOf S2.base)) S2.l.length a11 k11 _ (List.length_map _) (by omega) Hs11.out jz zz Hfz.out Hzz.out).mono ?_; rintro e w12 ⟨rfl, hb⟩
                 have Hp12 := Lib.hid ((Hp11a.out.below hb).below ((Below.refl _ _).alloc (Nat.le_refl _) (.cells #[.int .i64 zz.id, .int .i64 zz.w, .int .i64 x.lag] 32)))
                 have X16 := Lib.hid (heap_below X16a.out hb)
                 have X15d := Lib.hid (heap_below X15c.out hb)
                 obtain ⟨u0, u1, _, _, ul⟩ := blk2 X16.out
                 obtain ⟨t0, t1', _, _, tl⟩ := blk2 X15d.out
                 have hu12 : w11.heap.size ≠ w12.heap.size := (by omega)
                 have ht12 : w8.heap.size ≠ w12.heap.size := (by omega)
                 have Hs12 := Lib.hid ((Hs11.out.below hb).below ((Below.refl _ _).alloc (Nat.le_refl _) (.cells #[.int .i64 zz.id, .int .i64 zz.w, .int .i64 x.lag] 32)))
                 clear hb)
              | (go_at_call 8; refine (GoodF_any S2.cur (S2.l.map (itOf S2.base)) S2.l.length a11 k11 _ (List.length_map _) (by omega) Hs12.out Hg2.out).mono ?_; rintro e w13 ⟨rfl, hb⟩; have Hp13 := Lib.hid (Hp12.out.below hb); clear hb))
            go_ret
            exact ⟨rfl, Hb0.out.trans (Hp13.out.old.mono (by simp))⟩
end Go.Proofs.Ytfijedmdfkelnaa
