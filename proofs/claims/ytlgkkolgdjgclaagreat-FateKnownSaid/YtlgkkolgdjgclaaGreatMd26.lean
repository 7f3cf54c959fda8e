/- Law 26: the system that is made. -/
import Derived.Test.YtlgkkolgdjgclaaGreatFt
import Derived.Test.YtlgkkolgdjgclaaGreatMade
namespace Go.Proofs.YtlgkkolgdjgclaaGreat
open Go.RowKit Go.Shelf Go.Maps
set_option linter.unusedVariables false
set_option linter.unusedSimpArgs false

theorem bs1m (w : World) (a : Int) : (Instr.buildSlice 22 1 #[(0, .int .i64 a)]).run Tryz.prog w = .ok (.slice (some ⟨w.heap.size, 0, none⟩) 1 1) (w.alloc (.cells #[.int .i64 a] 3)) := by kernel_rfl
set_option maxHeartbeats 6400000 in
set_option maxRecDepth 100000 in
theorem made26 (tag : Int) (l2 : List Int) (n2 : Nat) (a2 : Option Addr) (c2 : Nat) (w : World) (hn2 : l2.length = n2) (h12 : n2 ≤ 12) (hs2 : Sl int1 1 w a2 l2) :
    Calls Tryz.prog 18 #[.int .i64 tag, .slice a2 n2 c2] w fun e w' => (newGood [tag] ∧ ∃ ow L oz M s, e = .returned (.tuple #[.pointer (some ⟨L.b, 0, none⟩), .pointer (some ⟨M.b, 0, none⟩)]) ∧ SwIn w w' ow L s oz M SwS.new ∧ SysOk 36 s ∧ Free 1 1 s ∧ s.tags = [tag] ∧ s = madeF 1 l2 (SysS.new [tag])) ∨ (¬ newGood [tag] ∧ e = .returned (.tuple #[.pointer none, .pointer none]) ∧ Below w.heap.size w w') := by
  have hbs := bs1m
  have HN := Lib.hid (fun (a : Option Addr) (c : Nat) (W : World) (hs : Sl int1 1 W a [tag]) => YNew [tag] 1 rfl a c W hs)
  have HO := Lib.hid (fun (a : Option Addr) (c : Nat) (W : World) (hs : Sl int1 1 W a [0]) => MOf [0] 1 rfl (by decide) a c W hs)
  rw [of0] at HO
  have Hn2 := Lib.hid hn2
  have HS2 := Lib.hid hs2
  clear hn2 hs2
  have hb0 := (Below.refl w.heap.size w).alloc (Nat.le_refl _) (.cells #[.int .i64 tag] 3)
  by_cases hg : newGood [tag]
  · refine Calls.mono ?_ (fun e w' h => .inl ⟨hg, h⟩)
    replace HN := Lib.hid (fun (a : Option Addr) (c : Nat) (W : World) (hs : Sl int1 1 W a [tag]) => (HN.out a c W hs).mono (fun e w' h => h.resolve_right (fun h => h.1 hg)))
    have HG := Lib.hid hg
    go_enter Tryz.func18, Tryz.ntmps18
    go_wp2_with (first
      | (go_at_call 32; refine (HN.out _ _ _ (sl1 w tag _)).mono ?_; rintro e w2 ⟨-, ow, L, rfl, h2, hmn⟩
         have H2 := Lib.hid (h2.base hb0); have Hmn := Lib.hid hmn; clear h2 hmn))
    clear hg
    go_loopw [8] (fun ix wr => ∃ (k : Nat) (ow' : Nat → Option Own) (L' : Lay) (s : SysS), k ≤ n2 ∧ ix = .int .i64 k ∧ L'.b = L.b ∧ L'.mn ≤ k ∧ SysIn w wr ow' L' s ∧ SysOk (3 * k) s ∧ Free 1 1 s ∧ s.tags = [tag] ∧ s = madeF 1 (l2.take k) (SysS.new [tag])) (fun ix _ => n2 - (intOf ix).toNat)
    case atStart =>
      exact ⟨0, ow, L, SysS.new [tag], Nat.zero_le _, rfl, rfl, by rw [Hmn.out]; exact Nat.le_refl _, H2.out, SysOk.new HG.out, Free.new [tag] 1, tags_new _, rfl⟩
    case round =>
      obtain ⟨k, ow', L', s, hk, rfl, hLb, hmn, h, hok, hfr, htg, hmf⟩ := hrel
      have hk0 : (0 : Int) ≤ k := by omega
      by_cases hlt : k < n2
      · have hkn : (k : Int) < n2 := by omega
        obtain ⟨x, hx⟩ : ∃ x, l2[k]? = some x := ⟨_, List.getElem?_eq_getElem (by rw [Hn2.out]; exact hlt)⟩
        obtain ⟨r, off, rfl, hr, hc⟩ := HS2.out (by intro h0; rw [h0] at hx; simp at hx)
        have hbw := h.old
        have hrw : r < wr.heap.size := Nat.lt_of_lt_of_le hr hbw.size
        have HTg := Lib.hid htg
        have hmx := madeF_succ (m := 1) (s := SysS.new [tag]) hx
        rw [← hmf] at hmx
        have e0 := (hbw.cell (p := ⟨r, off + k * 1 + 0, none⟩) hr).trans (hc k x hx 0 _ rfl)
        simp only [Nat.mul_one, Nat.add_zero] at e0
        have HSp := Lib.hid (fun (W : World) (hW : Below wr.heap.size wr W) => YSpawn (h.below hW) hok (by omega) x 1 0 (by decide) (by omega))
        have hok1 := hok.spawn x 1 0 (by decide)
        rw [hLb] at HSp
        have HLb := Lib.hid hLb
        have HLm := Lib.hid hmn
        rcases hfr.made hok (by omega) x with ⟨n1', n2'⟩ | ⟨n1', n2', n3'⟩
        · rw [n2'] at HSp
          have HOk := Lib.hid hok
          have HFr := Lib.hid hfr
          have HMx := Lib.hid (show s = madeF 1 (l2.take (k + 1)) (SysS.new [tag]) by rw [hmx]; unfold made1; rw [if_neg n1', n2'])
          have hne : ¬ (s.spawn x 1 0).2.2 = 0 := n1'
          generalize (s.spawn x 1 0).2.2 = f at *
          generalize (s.spawn x 1 0).2.1 = v at *
          clear h hok hfr htg hmf hmx hLb hmn hok1 n1' n2' hc hx hbw
          go_wp2_with fail
          refine wp_region_chain 54 [0, 0, 0, 6, 14, 0, 32, 127, 255, 511, 511, 1023, 4095] [(0, none), (1, none), (2, none), (3, none), (4, none), (5, some [0, 1, 2, 3, 4]), (6, some [0, 1, 2, 3, 4]), (7, some []), (8, none), (9, none), (10, none), (11, none), (12, none)] (by kernel_rfl) (by kernel_rfl) (by rfl) ?_; simp only [chain, Obs, List.getElem?_toArray, List.getElem?_cons_zero, List.getElem?_cons_succ]
          go_wp2_with (first
            | (go_at_call 39; refine (HO.out _ _ _ ((sl1 wr 0 _).below (Below.refl _ _).drew)).mono ?_; rintro e w3 ⟨rfl, hb3⟩
               have hb4 := ((Below.refl wr.heap.size wr).alloc (Nat.le_refl _) (.cells #[.int .i64 0] 3)).drew.trans (hb3.mono (by simp))
               have e1 := (hb4.cell (p := ⟨r, off + k, none⟩) hrw).trans e0)
            | (with_reducible refine And.intro (by first | with_reducible exact True.intro | with_reducible rfl | go_simp) ?_)
            | (go_at_call 33; refine (HSp.out _ (by first | exact hb4 | exact hb4.drew)).mono ?_; rintro e w5 ⟨rfl, ow5, L5, hb5, hm5, h5, hf5, ho5⟩
               have H5 := Lib.hid h5; have Hb5 := Lib.hid hb5; have Hm5 := Lib.hid hm5
               clear h5 hf5 ho5 hb5 hm5))
          refine NoPanic.normal ?_
          go_wp2_with fail
          exact ⟨⟨k + 1, ow5, L5, s, hlt, by go_num, by rw [Hb5.out]; exact HLb.out, by have := Hm5.out; have := HLm.out; omega, H5.out, HOk.out.mono (by omega), HFr.out, HTg.out, HMx.out⟩, by simp [intOf]; omega⟩
        · have hok2 := hok1.start (by omega) (s.spawn x 1 0).2.1
          have HSt := Lib.hid (fun (W : World) (ow5 : Nat → Option Own) (L5 : Lay) (h5 : SysIn w W ow5 L5 (s.spawn x 1 0).1) => YStart h5 hok1 (by omega) n2')
          have HOk2 := Lib.hid hok2
          have HFr := Lib.hid n3'
          have HMx := Lib.hid (show ((s.spawn x 1 0).1.start (s.spawn x 1 0).2.1).1 = madeF 1 (l2.take (k + 1)) (SysS.new [tag]) by rw [hmx]; unfold made1; rw [if_pos n1'])
          have HTg2 := Lib.hid ((tags_start (s := (s.spawn x 1 0).1) (s.spawn x 1 0).2.1).trans ((tags_spawn x 1 0).trans htg))
          rw [n1'] at HSp
          generalize (s.spawn x 1 0).2.1 = v at *
          generalize (s.spawn x 1 0).1 = s2 at *
          clear h hok hfr htg hmf hmx hLb hmn hok1 n1' n2' n3' hok2 hc hx hbw
          go_wp2_with fail
          refine wp_region_chain 54 [0, 0, 0, 6, 14, 0, 32, 127, 255, 511, 511, 1023, 4095] [(0, none), (1, none), (2, none), (3, none), (4, none), (5, some [0, 1, 2, 3, 4]), (6, some [0, 1, 2, 3, 4]), (7, some []), (8, none), (9, none), (10, none), (11, none), (12, none)] (by kernel_rfl) (by kernel_rfl) (by rfl) ?_; simp only [chain, Obs, List.getElem?_toArray, List.getElem?_cons_zero, List.getElem?_cons_succ]
          go_wp2_with (first
            | (go_at_call 39; refine (HO.out _ _ _ ((sl1 wr 0 _).below (Below.refl _ _).drew)).mono ?_; rintro e w3 ⟨rfl, hb3⟩
               have hb4 := ((Below.refl wr.heap.size wr).alloc (Nat.le_refl _) (.cells #[.int .i64 0] 3)).drew.trans (hb3.mono (by simp))
               have e1 := (hb4.cell (p := ⟨r, off + k, none⟩) hrw).trans e0)
            | (with_reducible refine And.intro (by first | with_reducible exact True.intro | with_reducible rfl | go_simp) ?_)
            | (go_at_call 33; refine (HSp.out _ (by first | exact hb4 | exact hb4.drew)).mono ?_; rintro e w5 ⟨rfl, ow5, L5, hb5, hm5, h5, hf5, ho5⟩
               have HSq := Lib.hid (HSt.out _ _ _ h5)
               rw [hb5, HLb.out] at HSq
               have Hb5 := Lib.hid hb5; have Hm5 := Lib.hid hm5
               clear h5 hf5 ho5 hb5 hm5))
          refine NoPanic.normal ?_
          go_wp2_with (first
            | (go_at_call 34; refine HSq.out.mono ?_; rintro e w6 ⟨rfl, ow6, h6, hf6, ho6⟩
               have H6 := Lib.hid h6; clear h6 hf6 ho6))
          exact ⟨⟨k + 1, ow6, L5, _, hlt, by go_num, by rw [Hb5.out]; exact HLb.out, by have := Hm5.out; have := HLm.out; omega, H6.out, HOk2.out.mono (by omega), HFr.out, HTg2.out, HMx.out⟩, by simp [intOf]; omega⟩
      · obtain rfl : k = n2 := by omega
        have HLb := Lib.hid hLb
        have HOk := Lib.hid (hok.mono (show 3 * k ≤ 36 by omega))
        have HFr := Lib.hid hfr
        have HTg := Lib.hid htg
        have HMf := Lib.hid (show s = madeF 1 l2 (SysS.new [tag]) by rw [hmf, ← Hn2.out, List.take_length])
        have HW := Lib.hid (SwNewC h)
        rw [hLb] at HW
        clear h hok hfr htg hmf hLb
        go_wp2_with (go_at_call 27; refine HW.out.mono ?_; rintro e w5 ⟨oz, M, rfl, hsw, -, -, -⟩; have HSw := Lib.hid hsw; clear hsw)
        go_ret2
        exact ⟨ow', L', oz, M, s, by rw [HLb.out]; rfl, HSw.out, HOk.out, HFr.out, HTg.out, HMf.out⟩
  · refine Calls.mono ?_ (fun e w' h => .inr ⟨hg, h⟩)
    replace HN := Lib.hid (fun (a : Option Addr) (c : Nat) (W : World) (hs : Sl int1 1 W a [tag]) => (HN.out a c W hs).mono (fun e w' h => h.resolve_left (fun h => hg h.1)))
    clear hg
    go_enter Tryz.func18, Tryz.ntmps18
    go_wp2_with (first
      | (go_at_call 32; refine (HN.out _ _ _ (sl1 w tag _)).mono ?_; rintro e w2 ⟨-, rfl, hb2⟩; have Hb2 := Lib.hid (hb0.trans (hb2.mono (by simp))); clear hb2))
    go_ret2
    exact ⟨rfl, Hb2.out⟩
/-- How a try ended, in a word. -/
def namedS (e : Int) : ByteArray := if e = 0 then ⟨#[100, 111, 110, 101]⟩ else if e = 12 then ⟨#[115, 116, 97, 108, 101]⟩ else if e = 13 then ⟨#[102, 111, 114, 99, 101, 100]⟩ else if e = 9 then ⟨#[115, 117, 109]⟩ else if e = 8 then ⟨#[102, 111, 114, 109]⟩ else if e = 10 then ⟨#[97, 103, 101]⟩ else if e = 11 then ⟨#[99, 104, 101, 99, 107]⟩ else if e = 1 then ⟨#[97, 114, 103]⟩ else ⟨#[111, 116, 104, 101, 114]⟩
set_option maxHeartbeats 800000 in
theorem FtNamed (e : Int) (w : World) : Calls Tryz.prog 24 #[.int .i64 e] w fun x w' => x = .returned (.string (namedS e)) ∧ w = w' := by
  by_cases h : e = 0
  · skip
    subst h
    go_enter Tryz.func24, Tryz.ntmps24
    go_wp2_with fail
    go_ret
    exact ⟨rfl, rfl⟩
  have h0 := h; clear h
  by_cases h : e = 12
  · skip
    subst h
    go_enter Tryz.func24, Tryz.ntmps24
    go_wp2_with fail
    go_ret
    exact ⟨rfl, rfl⟩
  have h1 := h; clear h
  by_cases h : e = 13
  · skip
    subst h
    go_enter Tryz.func24, Tryz.ntmps24
    go_wp2_with fail
    go_ret
    exact ⟨rfl, rfl⟩
  have h2 := h; clear h
  by_cases h : e = 9
  · skip
    subst h
    go_enter Tryz.func24, Tryz.ntmps24
    go_wp2_with fail
    go_ret
    exact ⟨rfl, rfl⟩
  have h3 := h; clear h
  by_cases h : e = 8
  · skip
    subst h
    go_enter Tryz.func24, Tryz.ntmps24
    go_wp2_with fail
    go_ret
    exact ⟨rfl, rfl⟩
  have h4 := h; clear h
  by_cases h : e = 10
  · skip
    subst h
    go_enter Tryz.func24, Tryz.ntmps24
    go_wp2_with fail
    go_ret
    exact ⟨rfl, rfl⟩
  have h5 := h; clear h
  by_cases h : e = 11
  · skip
    subst h
    go_enter Tryz.func24, Tryz.ntmps24
    go_wp2_with fail
    go_ret
    exact ⟨rfl, rfl⟩
  have h6 := h; clear h
  by_cases h : e = 1
  · skip
    subst h
    go_enter Tryz.func24, Tryz.ntmps24
    go_wp2_with fail
    go_ret
    exact ⟨rfl, rfl⟩
  have hn : namedS e = ⟨#[111, 116, 104, 101, 114]⟩ := by unfold namedS; rw [if_neg h0, if_neg h1, if_neg h2, if_neg h3, if_neg h4, if_neg h5, if_neg h6, if_neg h]
  rw [hn]
  clear hn
  go_enter Tryz.func24, Tryz.ntmps24
  go_wp2_with fail
  go_ret
  exact ⟨rfl, rfl⟩
theorem slB1 (w : World) (op st ix y : Int) (T : TypeId) : Sl Bl.enc 4 (w.alloc (.cells #[.int .i64 op, .int .i64 st, .int .i64 ix, .int .u8 y] T)) (some ⟨w.heap.size, 0, none⟩) [⟨op, st, ix, y⟩] := fun _ => by
  have hh := heap_new w (.cells #[.int .i64 op, .int .i64 st, .int .i64 ix, .int .u8 y] T)
  refine ⟨w.heap.size, 0, rfl, by simp, fun j z hj i u hi => ?_⟩
  have hj0 : j = 0 := by have := (List.getElem?_eq_some_iff.1 hj).1; simp at this; omega
  subst hj0
  simp at hj
  subst hj
  have hi4 : i < 4 := by have := (List.getElem?_eq_some_iff.1 hi).1; simpa [Bl.enc] using this
  obtain rfl | rfl | rfl | rfl : i = 0 ∨ i = 1 ∨ i = 2 ∨ i = 3 := by omega
  all_goals
    simp [Bl.enc] at hi
    subst hi
    simp only [Nat.zero_mul, Nat.zero_add, Nat.add_zero]
    unfold World.cell?
    rw [hh]
    rfl
theorem bsB1 (w : World) (op st ix y : Int) : (Instr.buildSlice 45 1 #[(0, .agg #[.int .i64 op, .int .i64 st, .int .i64 ix, .int .u8 y])]).run Tryz.prog w = .ok (.slice (some ⟨w.heap.size, 0, none⟩) 1 1) (w.alloc (.cells #[.int .i64 op, .int .i64 st, .int .i64 ix, .int .u8 y] 44)) := by kernel_rfl
theorem bs2m (w : World) (a b : Int) : (Instr.buildSlice 22 2 #[(0, .int .i64 a), (1, .int .i64 b)]).run Tryz.prog w = .ok (.slice (some ⟨w.heap.size, 0, none⟩) 2 2) (w.alloc (.cells #[.int .i64 a, .int .i64 b] 3)) := by kernel_rfl
set_option maxHeartbeats 3200000 in
set_option maxRecDepth 100000 in
theorem awake26 (w : World) : Calls Tryz.prog 17 #[] w fun e w' => e = .returned (.bool true) ∧ Below w.heap.size w w' := by
  have hbs := bs2m
  have hbB := bsB1
  have HN := Lib.hid (FtNamed 9)
  rw [show namedS 9 = ⟨#[115, 117, 109]⟩ from rfl] at HN
  have HM := Lib.hid (fun (W : World) (h2 : Sl int1 1 W (some ⟨w.heap.size, 0, none⟩) [1, 2]) => (made26 0 [1, 2] 2 (some ⟨w.heap.size, 0, none⟩) 2 W rfl (by decide) h2).mono (fun e w' h => h.resolve_right (fun h => h.1 good0)))
  go_enter Tryz.func17, Tryz.ntmps17
  go_wp2_with fail
  go_at_call 18
  refine (HM.out _ (slk w 1 2 _)).mono ?_
  rintro e w2 ⟨-, ow, L, oz, M, s, rfl, h2, hok, hfr, htg, -⟩
  have hl1 : s.cores.length = 1 := hfr.len
  have hin : 0 ≤ (0 : Int) ∧ (0 : Int) < s.cores.length := (by rw [hl1]; decide)
  obtain ⟨d, hd, hde, hdf⟩ := hok.core hin
  have hgc := good_core hdf (by decide)
  have htold := fate_sum_told (tag := 1) (base := 1000 * ((SwS.new.all.length : Nat) : Int)) (d := d) hgc (i := 3) (y := 1) (by unfold Byte; decide) (by decide) (by omega) (by decide)
  have HAt := Lib.hid (SwAttempt (h2.below ((Below.refl _ _).alloc (Nat.le_refl _) (.cells #[.int .i64 1, .int .i64 2, .int .i64 3, .int .u8 1] 44))) (SwKx.new _) hok (by decide) (by decide) (c := 0) (by unfold I63; decide) 1 [⟨1, 2, 3, 1⟩] 1 (some ⟨w2.heap.size, 0, none⟩) 1 rfl (by decide) (slB1 w2 1 2 3 1 _) (fun _ p hp => by cases hp; exact h2.free (Nat.le_refl _)) (fun b hb => by simp at hb; subst hb; unfold Byte; decide))
  rw [attT_is hin (EndZ.shut (EndZ.new 1) 0) (.inr (.inl rfl)), hde, htold.2, htold.1] at HAt
  have HB := Lib.hid h2.sys.old
  clear h2 hok hfr htg hin hd hde hdf htold hgc
  go_wp2_with (first
    | (go_at_call 20; refine HAt.out.mono ?_; rintro e w3 ⟨rfl, ow3, oz3, M3, -, -, h3, -, -⟩; have HB3 := Lib.hid h3.sys.old; clear h3)
    | (go_at_call 24; refine (HN.out _).mono ?_; rintro e w4 ⟨rfl, rfl⟩))
  go_ret
  have hb0 := (Below.refl w.heap.size w).alloc (Nat.le_refl _) (.cells #[.int .i64 1, .int .i64 2] 3)
  exact ⟨rfl, hb0.trans (HB3.out.mono hb0.size)⟩
end Go.Proofs.YtlgkkolgdjgclaaGreat
