/- The walk of FateAgain. -/
import Derived.Test.YtlgkkolgdjgclaaGreatFt
import Derived.Test.YtlgkkolgdjgclaaGreatMd26
namespace Go.Proofs.YtlgkkolgdjgclaaGreat
open Go.RowKit Go.Shelf Go.Maps
set_option linter.unusedVariables false
set_option linter.unusedSimpArgs false

/-- One attempt more. -/
theorem again_more {s : SysS} {z : SwS} {T m : Nat} {tag : Int} {l : List Bl} (hz : EndZ 1 m z) (hk : SysOk T s) (h1 : 1 ≤ T) (hT : T ≤ 10000000) (hl1 : s.cores.length = 1) (hm : m ≤ 1000) (ht : TagOk tag) (hl : ∀ b ∈ l, Byte b.y) :
    EndZ 1 (m + 1) (z.attT s 0 tag l).1 ∧ SysOk T (z.attT s 0 tag l).2.1 ∧ (z.attT s 0 tag l).2.1.cores.length = 1 := by
  have hin : 0 ≤ (0 : Int) ∧ (0 : Int) < s.cores.length := by rw [hl1]; decide
  have hb : 0 ≤ 1000 * (z.all.length : Int) ∧ 1000 * (z.all.length : Int) ≤ 1000000000 := by rw [hz.len]; omega
  obtain ⟨d, hd, hde, hdf⟩ := hk.core hin
  have hsy := att_sys (l := l) hk h1 hT hin ht hb hl
  obtain ⟨r1, r2⟩ := rounds_done (l := l) (d := d) ht hb hdf.age.1 hl (good_core hdf hT)
  rw [attT_is hin (hz.shut 0) ht]
  refine ⟨?_, hsy, by simp [SysS.setC, hl1]⟩
  rw [hde]
  have := hz.more (c := 0) (by decide) (x := TryS.new tag (1000 * (z.all.length : Int))) ⟨ht, hb, by simp [TryS.new], by simp [TryS.new], by simp [TryS.new], by simp [TryS.new]⟩ r1 (by rcases r2 with ⟨e, -⟩ | ⟨e, -⟩ <;> omega)
  rw [hz.len] at this ⊢
  exact this
/-- One that is left alone is done. -/
theorem again_done {s : SysS} {z : SwS} {T m : Nat} {tag : Int} (hz : EndZ 1 m z) (hk : SysOk T s) (hT : T ≤ 10000000) (hl1 : s.cores.length = 1) (ht : TagOk tag) :
    (z.attT s 0 tag []).2.2 = (true, 0) ∧ ∃ d, (z.attT s 0 tag []).2.1.cores[0]? = some d ∧ d.tag = tag := by
  have hin : 0 ≤ (0 : Int) ∧ (0 : Int) < s.cores.length := by rw [hl1]; decide
  obtain ⟨d, hd, hde, hdf⟩ := hk.core hin
  rw [attT_is hin (hz.shut 0) ht, hde, rounds_off (l := []) (good_core hdf hT) (fun b hb => by cases hb) (Nat.le_refl 5) rfl]
  refine ⟨by rw [(fx_stage (Nat.le_refl 5)).1, (fx_stage (Nat.le_refl 5)).2]; rfl, _, by simp only [SysS.setC, List.getElem?_set]; simp [hl1]; rfl, rfl⟩
set_option maxHeartbeats 6400000 in
set_option maxRecDepth 100000 in
theorem fateAgain_walk (tag : Int) (l2 : List Int) (n2 : Nat) (a2 : Option Addr) (c2 : Nat) (l : List Bl) (n : Nat) (a : Option Addr) (c : Nat) (tot : Int) (w : World)
    (hi0 : I63 tag) (hn2 : l2.length = n2) (hm2 : n2 ≤ maxLen) (hs2 : Sl int1 1 w a2 l2) (hn : l.length = n) (hm : n ≤ maxLen) (hs : Sl Bl.enc 4 w a l) (hB : ∀ b ∈ l, Byte b.y) (hi3 : I63 tot) :
    Calls Tryz.prog 6 #[.int .i64 tag, .slice a2 n2 c2, .slice a n c, .int .i64 tot] w fun e w' => e = .returned (.bool true) ∧ Below w.heap.size w w' := by
  have HA := Lib.hid (fun (W : World) => awake26 W)
  have HM := Lib.hid (fun (W : World) (h12 : n2 ≤ 12) (h2 : Sl int1 1 W a2 l2) => made26 tag l2 n2 a2 c2 W hn2 h12 h2)
  have HS2 := Lib.hid hs2
  have HS := Lib.hid hs
  have HB := Lib.hid hB
  have Hn := Lib.hid hn
  clear hn2 hs2 hs hB hn
  by_cases b3 : (10 : Int) < n2
  · skip
    go_enter Tryz.func6, Tryz.ntmps6
    go_wp2_with (first
      | (go_at_call 17; refine (HA.out _).mono ?_; rintro e w1 ⟨rfl, hb1⟩; have Hb1 := Lib.hid hb1; clear hb1)
      )
    go_ret
    exact ⟨rfl, Hb1.out⟩
  by_cases b4 : (10 : Int) < n
  · skip
    go_enter Tryz.func6, Tryz.ntmps6
    go_wp2_with (first
      | (go_at_call 17; refine (HA.out _).mono ?_; rintro e w1 ⟨rfl, hb1⟩; have Hb1 := Lib.hid hb1; clear hb1)
      )
    go_ret
    exact ⟨rfl, Hb1.out⟩
  by_cases b5 : tot < 0
  · skip
    go_enter Tryz.func6, Tryz.ntmps6
    go_wp2_with (first
      | (go_at_call 17; refine (HA.out _).mono ?_; rintro e w1 ⟨rfl, hb1⟩; have Hb1 := Lib.hid hb1; clear hb1)
      )
    go_ret
    exact ⟨rfl, Hb1.out⟩
  by_cases b6 : (2 : Int) < tot
  · skip
    go_enter Tryz.func6, Tryz.ntmps6
    go_wp2_with (first
      | (go_at_call 17; refine (HA.out _).mono ?_; rintro e w1 ⟨rfl, hb1⟩; have Hb1 := Lib.hid hb1; clear hb1)
      )
    go_ret
    exact ⟨rfl, Hb1.out⟩
  have ht : TagOk tot := by unfold TagOk; omega
  have hn10 : n ≤ 10 := by omega
  have hbB := bsB1
  by_cases hg : newGood [tag]
  · replace HM := Lib.hid (fun (W : World) (h2 : Sl int1 1 W a2 l2) => (HM.out W (by omega) h2).mono (fun e w' h => h.resolve_right (fun h => h.1 hg)))
    clear hg
    go_enter Tryz.func6, Tryz.ntmps6
    go_wp2_with (first
      | (go_at_call 17; refine (HA.out _).mono ?_; rintro e w1 ⟨rfl, hb1⟩; have Hb1 := Lib.hid hb1; clear hb1)
      | (go_at_call 18; refine (HM.out _ (HS2.out.below Hb1.out)).mono ?_
         rintro e w2 ⟨-, ow, L, oz, M, s, rfl, h2, hok, hfr, htg, -⟩
         have H2 := Lib.hid h2; have HOk := Lib.hid hok; have HL1 := Lib.hid hfr.len
         clear h2 hok hfr htg))
    go_loopw [11] (fun ix wr => ∃ (k : Nat) (ow' : Nat → Option Own) (oz' : Nat → Option OwnW) (M' : SwL) (s' : SysS) (z' : SwS), k ≤ n ∧ ix = .int .i64 k ∧ M'.b = M.b ∧ SwIn w1 wr ow' L s' oz' M' z' ∧ EndZ 1 k z' ∧ SysOk 36 s' ∧ s'.cores.length = 1) (fun ix _ => n - (intOf ix).toNat)
    case atStart => exact ⟨0, ow, oz, M, s, SwS.new, Nat.zero_le _, rfl, rfl, H2.out, EndZ.new 1, HOk.out, HL1.out⟩
    case round =>
      obtain ⟨k, ow', oz', M', s', z', hk, rfl, hMb, h, hz, hok, hl1⟩ := hrel
      have hk0 : (0 : Int) ≤ k := by omega
      by_cases hlt : k < n
      · have hkn : (k : Int) < n := by omega
        obtain ⟨b, hb⟩ : ∃ b, l[k]? = some b := ⟨_, List.getElem?_eq_getElem (by rw [Hn.out]; exact hlt)⟩
        have hbb : Byte b.y := HB.out b (List.mem_of_getElem? hb)
        obtain ⟨r, off, rfl, hr, hcr⟩ := HS.out (by intro h0; rw [h0] at hb; simp at hb)
        have how := Hb1.out.trans (h.sys.old.mono Hb1.out.size)
        have e0 := (how.cell (p := ⟨r, off + k * 4 + 0, none⟩) hr).trans (hcr k b hb 0 _ rfl)
        have e1 := (how.cell (p := ⟨r, off + k * 4 + 1, none⟩) hr).trans (hcr k b hb 1 _ rfl)
        have e2 := (how.cell (p := ⟨r, off + k * 4 + 2, none⟩) hr).trans (hcr k b hb 2 _ rfl)
        have e3 := (how.cell (p := ⟨r, off + k * 4 + 3, none⟩) hr).trans (hcr k b hb 3 _ rfl)
        simp only [Nat.add_zero] at e0
        have htk : TagOk ((k : Int) % 3) := by unfold TagOk; omega
        have hA := SwAttempt (h.below ((Below.refl _ _).alloc (Nat.le_refl _) (.cells #[.int .i64 b.op, .int .i64 b.st, .int .i64 b.ix, .int .u8 b.y] 44))) (hz.kx hl1) hok (by decide) (by rw [hz.len]; omega) (c := 0) (by unfold I63; decide) ((k : Int) % 3) [b] 1 (some ⟨wr.heap.size, 0, none⟩) 1 rfl (by decide) (slB1 wr b.op b.st b.ix b.y _) (fun _ p hp => by cases hp; exact h.free (Nat.le_refl _)) (fun c hc => by simp at hc; subst hc; exact hbb)
        rw [hMb] at hA
        have hmo := again_more (l := [b]) hz hok (by decide) (by decide) hl1 (by omega) htk (fun c hc => by simp at hc; subst hc; exact hbb)
        have HAt := Lib.hid hA
        have HMo := Lib.hid hmo
        have HMb := Lib.hid hMb
        generalize z'.attT s' 0 ((k : Int) % 3) [b] = R at *
        clear h hz hok hl1 hMb hA hmo hb hcr hbb
        go_wp2_with (go_at_call 20; refine HAt.out.mono ?_; rintro e w5 ⟨rfl, ow5, oz5, M5, hb5, -, h5, -, -⟩; have H5 := Lib.hid h5; have HB5 := Lib.hid hb5; clear h5 hb5)
        exact ⟨⟨k + 1, ow5, oz5, M5, _, _, hlt, by go_num, HB5.out.trans HMb.out, H5.out, HMo.out.1, HMo.out.2.1, HMo.out.2.2⟩, by simp [intOf]; omega⟩
      · obtain rfl : k = n := by omega
        have hA := SwAttempt h (hz.kx hl1) hok (by decide) (by rw [hz.len]; omega) (c := 0) (by unfold I63; decide) tot [] 0 none 0 rfl (by decide) (fun h => absurd rfl h) (fun h => absurd rfl h) (fun c hc => by cases hc)
        rw [hMb] at hA
        have hmo := again_more (l := []) hz hok (by decide) (by decide) hl1 (by omega) ht (fun c hc => by cases hc)
        obtain ⟨hdn, d, hd, hdt⟩ := again_done hz hok (by decide) hl1 ht
        rw [hdn] at hA
        have HAt := Lib.hid hA
        have HMo := Lib.hid hmo
        have HMb := Lib.hid hMb
        have HD := Lib.hid hd
        have HDt := Lib.hid hdt
        generalize (z'.attT s' 0 tot []).1 = z5 at *
        generalize (z'.attT s' 0 tot []).2.1 = s5 at *
        clear h hz hok hl1 hMb hA hmo hdn hd hdt
        go_wp2_with (first
          | (go_at_call 20; refine HAt.out.mono ?_; rintro e w5 ⟨rfl, ow5, oz5, M5, hb5, -, h5, -, -⟩
             obtain ⟨bl, F, p, q, r, hbl, hcst, how⟩ := h5.sys.cor 0 d HD.out
             have HC := Lib.hid (YCore h5.sys (c := 0) (by rw [HMo.out.2.2]; decide) (bl := bl) hbl)
             have HT := Lib.hid (CorTag hcst)
             have hcn := SwCounts h5 (by rw [HMo.out.1.len]; omega)
             rw [hb5, HMb.out] at hcn
             have HCn := Lib.hid hcn
             have HB5 := Lib.hid h5.sys.old
             clear h5 hb5 hbl hcst how hcn)
          | (go_at_call 14; refine HC.out.mono ?_; rintro e w6 ⟨rfl, rfl⟩)
          | (go_at_call 16; refine HCn.out.mono ?_; rintro e w6 ⟨rfl, rfl⟩)
          | (go_at_call 15; refine HT.out.mono ?_; rintro e w6 ⟨rfl, rfl⟩))
        go_ret
        have hcn := HMo.out.1.cnt
        have hw : wrap64 ((cntT z5.all 5 : Int) + (cntT z5.all 6 : Int)) = (k : Int) + 1 := by rw [IntWalk.wrap64_in _ (by omega)]; omega
        exact ⟨ret_bool (by rw [hw]; simp), Hb1.out.trans (HB5.out.mono Hb1.out.size)⟩
  · replace HM := Lib.hid (fun (W : World) (h2 : Sl int1 1 W a2 l2) => (HM.out W (by omega) h2).mono (fun e w' h => h.resolve_left (fun h => hg h.1)))
    go_enter Tryz.func6, Tryz.ntmps6
    go_wp2_with (first
      | (go_at_call 17; refine (HA.out _).mono ?_; rintro e w1 ⟨rfl, hb1⟩; have Hb1 := Lib.hid hb1; clear hb1)
      | (go_at_call 18; refine (HM.out _ (HS2.out.below Hb1.out)).mono ?_; rintro e w2 ⟨-, rfl, hb2⟩; have Hb2 := Lib.hid hb2; clear hb2))
    go_ret
    exact ⟨rfl, Hb1.out.trans (Hb2.out.mono Hb1.out.size)⟩
end Go.Proofs.YtlgkkolgdjgclaaGreat
