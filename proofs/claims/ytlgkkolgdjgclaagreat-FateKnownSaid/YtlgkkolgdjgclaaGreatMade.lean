/- Law 24: the system that is made. -/
import Derived.Test.YtlgkkolgdjgclaaGreatSw1
namespace Go.Proofs.YtlgkkolgdjgclaaGreat
open Go.RowKit Go.Shelf Go.Maps
set_option linter.unusedVariables false
set_option linter.unusedSimpArgs false

section
variable {s : SysS}
def SysS.tags (s : SysS) : List Int := s.cores.map CoreS.tag
theorem tags_new (l : List Int) : (SysS.new l).tags = l := by
  unfold SysS.tags SysS.new
  simp only [List.map_map]
  exact List.map_id'' (fun _ => rfl) l
theorem tags_spawn (x m g : Int) : (s.spawn x m g).1.tags = s.tags := by
  unfold SysS.spawn
  split
  · split
    · split
      · split <;> rfl
      · rfl
    · rfl
  · rfl
theorem tags_setC (i : Nat) (c : CoreS) (h : ∀ d, s.cores[i]? = some d → c.tag = d.tag) : (s.setC i c).tags = s.tags := by
  unfold SysS.tags SysS.setC
  simp only
  refine List.ext_getElem? fun j => ?_
  simp only [List.getElem?_map, List.getElem?_set]
  by_cases e : i = j
  · subst e
    rw [if_pos rfl]
    cases hq : s.cores[i]? with
    | none =>
      have : ¬ i < s.cores.length := fun h => by rw [List.getElem?_eq_getElem h] at hq; cases hq
      rw [if_neg this]
    | some d =>
      rw [if_pos (List.getElem?_eq_some_iff.1 hq).1]
      simp [h d hq]
  · rw [if_neg e]
theorem core_get {i : Nat} {d : CoreS} {c : Int} (hc : c.toNat = i) (hd : s.cores[i]? = some d) : s.core c = d := by
  unfold SysS.core
  rw [hc, List.getD_eq_getElem?_getD, hd]; rfl
theorem tags_start (id : Int) : (s.start id).1.tags = s.tags := by
  unfold SysS.start
  split
  · rfl
  · split
    · unfold SysS.enterT
      split
      · rfl
      · refine (show ∀ t, SysS.tags ((SysS.setC _ _ _).setT t) = SysS.tags (SysS.setC _ _ _) from fun _ => rfl) _ |>.trans ?_
        refine tags_setC _ _ (fun d hd => ?_)
        rw [core_get rfl hd]
        unfold CoreS.enter
        rw [done_tag]
    · rfl
end
/-- Spawned and started, one behind the other. -/
def made1 (m : Int) (s : SysS) (x : Int) : SysS := if (s.spawn x m 0).2.2 = 0 then ((s.spawn x m 0).1.start (s.spawn x m 0).2.1).1 else (s.spawn x m 0).1
def madeF (m : Int) (l : List Int) (s : SysS) : SysS := l.foldl (made1 m) s
theorem madeF_succ {m : Int} {l : List Int} {s : SysS} {k : Nat} {x : Int} (hx : l[k]? = some x) : madeF m (l.take (k + 1)) s = made1 m (madeF m (l.take k) s) x := by
  obtain ⟨hk, e⟩ := List.getElem?_eq_some_iff.1 hx
  unfold madeF
  rw [List.take_succ_eq_append_getElem hk, List.foldl_append, e]
  rfl
set_option maxHeartbeats 6400000 in
set_option maxRecDepth 100000 in
theorem made24 (l1 : List Int) (n1 : Nat) (a1 : Option Addr) (c1 : Nat) (l2 : List Int) (n2 : Nat) (a2 : Option Addr) (c2 : Nat) (w : World) (hn1 : l1.length = n1) (h6 : n1 ≤ 6) (hs1 : Sl int1 1 w a1 l1) (hn2 : l2.length = n2) (h12 : n2 ≤ 12) (hs2 : Sl int1 1 w a2 l2) :
    Calls Tryz.prog 12 #[.slice a1 n1 c1, .slice a2 n2 c2] w fun e w' => (newGood l1 ∧ ∃ ow L oz M s, e = .returned (.tuple #[.pointer (some ⟨L.b, 0, none⟩), .pointer (some ⟨M.b, 0, none⟩)]) ∧ SwIn w w' ow L s oz M SwS.new ∧ SysOk 36 s ∧ Free (2 ^ n1 - 1) n1 s ∧ s.tags = l1 ∧ s = madeF (2 ^ n1 - 1) l2 (SysS.new l1)) ∨ (¬ newGood l1 ∧ e = .returned (.tuple #[.pointer none, .pointer none]) ∧ Below w.heap.size w w') := by
  have HN := Lib.hid (YNew l1 n1 hn1 a1 c1 w hs1)
  have Hn1 := Lib.hid hn1; have Hn2 := Lib.hid hn2
  have HS1 := Lib.hid hs1; have HS2 := Lib.hid hs2
  clear hn1 hs1 hn2 hs2
  by_cases hg : newGood l1
  · refine Calls.mono ?_ (fun e w' h => .inl ⟨hg, h⟩)
    replace HN := Lib.hid (HN.out.mono (fun e w' h => h.resolve_right (fun h => h.1 hg)))
    have hn6 : 1 ≤ n1 ∧ n1 ≤ 6 := ⟨by rw [← Hn1.out]; exact hg.1, h6⟩
    have hmv := mask_val hn6.2
    have hM16 : 0 ≤ (2 ^ n1 - 1 : Int) ∧ (2 ^ n1 - 1 : Int) < 65536 := mask_16 hn6.2
    have HG := Lib.hid hg
    go_enter Tryz.func12, Tryz.ntmps12
    go_wp2_with (first
      | (go_at_call 32; refine HN.out.mono ?_; rintro e w2 ⟨-, ow, L, rfl, h2, hmn⟩
         have H2 := Lib.hid h2; have Hmn := Lib.hid hmn; clear h2 hmn))
    generalize hM : (2 ^ n1 - 1 : Int) = Mk at *
    have HM16 := Lib.hid hM16
    have HMv := Lib.hid hmv
    have HMe := Lib.hid hM
    clear hM hM16 hg
    go_loopw [9] (fun ix wr => ∃ (k : Nat) (ow' : Nat → Option Own) (L' : Lay) (s : SysS), k ≤ n2 ∧ ix = .int .i64 k ∧ L'.b = L.b ∧ L'.mn ≤ k ∧ SysIn w wr ow' L' s ∧ SysOk (3 * k) s ∧ Free Mk n1 s ∧ s.tags = l1 ∧ s = madeF Mk (l2.take k) (SysS.new l1)) (fun ix _ => n2 - (intOf ix).toNat)
    case atStart =>
      exact ⟨0, ow, L, SysS.new l1, Nat.zero_le _, rfl, rfl, by rw [Hmn.out]; exact Nat.le_refl _, H2.out, SysOk.new HG.out, by have := Free.new l1 Mk; rw [Hn1.out] at this; exact this, tags_new l1, rfl⟩
    case round =>
      obtain ⟨k, ow', L', s, hk, rfl, hLb, hmn, h, hok, hfr, htg, hmf⟩ := hrel
      have hk0 : (0 : Int) ≤ k := by omega
      by_cases hlt : k < n2
      · have hkn : (k : Int) < n2 := by omega
        obtain ⟨x, hx⟩ : ∃ x, l2[k]? = some x := ⟨_, List.getElem?_eq_getElem (by rw [Hn2.out]; exact hlt)⟩
        obtain ⟨r, off, rfl, hr, hc⟩ := HS2.out (by intro h0; rw [h0] at hx; simp at hx)
        have hbw := h.old
        have HTg := Lib.hid htg
        have hmx := madeF_succ (m := Mk) (s := SysS.new l1) hx
        rw [← hmf] at hmx
        have e0 := (hbw.cell (p := ⟨r, off + k * 1 + 0, none⟩) hr).trans (hc k x hx 0 _ rfl)
        simp only [Nat.mul_one, Nat.add_zero] at e0
        have HSp := Lib.hid (YSpawn h hok (by omega) x Mk 0 HM16.out (by omega))
        have hok1 := hok.spawn x Mk 0 HM16.out
        rw [hLb] at HSp
        have HLb := Lib.hid hLb
        have HLm := Lib.hid hmn
        rcases hfr.made hok (by omega) x with ⟨n1', n2'⟩ | ⟨n1', n2', n3'⟩
        · rw [n2'] at HSp
          have HOk := Lib.hid hok
          have HFr := Lib.hid hfr
          have HMx := Lib.hid (show s = madeF Mk (l2.take (k + 1)) (SysS.new l1) by rw [hmx]; unfold made1; rw [if_neg n1', n2'])
          have hne : ¬ (s.spawn x Mk 0).2.2 = 0 := n1'
          generalize (s.spawn x Mk 0).2.2 = f at *
          generalize (s.spawn x Mk 0).2.1 = v at *
          clear h hok hfr htg hmf hmx hLb hmn hok1 n1' n2' hc hx hbw
          go_wp2_with (first
            | (go_at_call 33; refine HSp.out.mono ?_; rintro e w5 ⟨rfl, ow5, L5, hb5, hm5, h5, hf5, ho5⟩
               have H5 := Lib.hid h5; have Hb5 := Lib.hid hb5; have Hm5 := Lib.hid hm5
               clear h5 hf5 ho5 hb5 hm5))
          exact ⟨⟨k + 1, ow5, L5, s, hlt, by go_num, by rw [Hb5.out]; exact HLb.out, by have := Hm5.out; have := HLm.out; omega, H5.out, HOk.out.mono (by omega), HFr.out, HTg.out, HMx.out⟩, by simp [intOf]; omega⟩
        · have hok2 := hok1.start (by omega) (s.spawn x Mk 0).2.1
          have HSt := Lib.hid (fun (W : World) (ow5 : Nat → Option Own) (L5 : Lay) (h5 : SysIn w W ow5 L5 (s.spawn x Mk 0).1) => YStart h5 hok1 (by omega) n2')
          have HOk2 := Lib.hid hok2
          have HFr := Lib.hid n3'
          have HMx := Lib.hid (show ((s.spawn x Mk 0).1.start (s.spawn x Mk 0).2.1).1 = madeF Mk (l2.take (k + 1)) (SysS.new l1) by rw [hmx]; unfold made1; rw [if_pos n1'])
          have HTg2 := Lib.hid ((tags_start (s := (s.spawn x Mk 0).1) (s.spawn x Mk 0).2.1).trans ((tags_spawn x Mk 0).trans htg))
          rw [n1'] at HSp
          generalize (s.spawn x Mk 0).2.1 = v at *
          generalize (s.spawn x Mk 0).1 = s2 at *
          clear h hok hfr htg hmf hmx hLb hmn hok1 n1' n2' n3' hok2 hc hx hbw
          go_wp2_with (first
            | (go_at_call 33; refine HSp.out.mono ?_; rintro e w5 ⟨rfl, ow5, L5, hb5, hm5, h5, hf5, ho5⟩
               have HSq := Lib.hid (HSt.out _ _ _ h5)
               rw [hb5, HLb.out] at HSq
               have Hb5 := Lib.hid hb5; have Hm5 := Lib.hid hm5
               clear h5 hf5 ho5 hb5 hm5)
            | (go_at_call 34; refine HSq.out.mono ?_; rintro e w6 ⟨rfl, ow6, h6, hf6, ho6⟩
               have H6 := Lib.hid h6; clear h6 hf6 ho6))
          exact ⟨⟨k + 1, ow6, L5, _, hlt, by go_num, by rw [Hb5.out]; exact HLb.out, by have := Hm5.out; have := HLm.out; omega, H6.out, HOk2.out.mono (by omega), HFr.out, HTg2.out, HMx.out⟩, by simp [intOf]; omega⟩
      · obtain rfl : k = n2 := by omega
        have HLb := Lib.hid hLb
        have HOk := Lib.hid (hok.mono (show 3 * k ≤ 36 by omega))
        have HFr := Lib.hid hfr
        have HTg := Lib.hid htg
        have HMf := Lib.hid (show s = madeF Mk l2 (SysS.new l1) by rw [hmf, ← Hn2.out, List.take_length])
        have HW := Lib.hid (SwNewC h)
        rw [hLb] at HW
        clear h hok hfr htg hmf hLb
        go_wp2_with (go_at_call 27; refine HW.out.mono ?_; rintro e w5 ⟨oz, M, rfl, hsw, -, -, -⟩; have HSw := Lib.hid hsw; clear hsw)
        go_ret2
        exact ⟨ow', L', oz, M, s, by rw [HLb.out]; rfl, HSw.out, HOk.out, by rw [HMe.out]; exact HFr.out, HTg.out, by rw [HMe.out]; exact HMf.out⟩
  · refine Calls.mono ?_ (fun e w' h => .inr ⟨hg, h⟩)
    replace HN := Lib.hid (HN.out.mono (fun e w' h => h.resolve_left (fun h => hg h.1)))
    clear hg
    go_enter Tryz.func12, Tryz.ntmps12
    go_wp2_with (first
      | (go_at_call 32; refine HN.out.mono ?_; rintro e w2 ⟨-, rfl, hb2⟩; have Hb2 := Lib.hid hb2; clear hb2))
    go_ret2
    exact ⟨rfl, Hb2.out⟩
theorem allT_new {s : SysS} {z : SwS} {c tag : Int} (hin : 0 ≤ c ∧ c < s.cores.length) (ho : z.opn c = false) (ht : TagOk tag) : z.allT s c tag = ((z.add c.toNat (TryS.new tag (1000 * (z.all.length : Int)))).set z.all.length (fx tag (1000 * (z.all.length : Int)) (s.core c) 5).1, s.setC c.toNat (fx tag (1000 * (z.all.length : Int)) (s.core c) 5).2, true, 0) := by
  have eo : z.openT s c tag = (z.add c.toNat (TryS.new tag (1000 * (z.all.length : Int))), 0) := by unfold SwS.openT; rw [if_pos hin, if_neg (by rw [ho]; simp), if_pos ht]
  unfold SwS.allT; rw [eo, if_pos rfl]
theorem SwOk.new (n : Nat) : SwOk n SwS.new := ⟨fun c => .inl (by simp [SwS.new]), fun c => by simp [SwS.new], fun i c x hx => by simp [SwS.new] at hx, fun i c x hx => by simp [SwS.new] at hx⟩
theorem slk (w : World) (x y : Int) (T : TypeId) : Sl int1 1 (w.alloc (.cells #[.int .i64 x, .int .i64 y] T)) (some ⟨w.heap.size, 0, none⟩) [x, y] := fun _ => by
  have hh := heap_new w (.cells #[.int .i64 x, .int .i64 y] T)
  refine ⟨w.heap.size, 0, rfl, by simp, fun j z hj i u hi => ?_⟩
  have hj2 : j < 2 := by have := (List.getElem?_eq_some_iff.1 hj).1; simpa using this
  have hi0 : i = 0 := by have := (List.getElem?_eq_some_iff.1 hi).1; simp [int1] at this; omega
  subst hi0
  simp [int1] at hi
  subst hi
  obtain rfl | rfl : j = 0 ∨ j = 1 := by omega
  · simp at hj; subst hj
    show (w.alloc (.cells #[.int .i64 x, .int .i64 y] T)).cell? ⟨w.heap.size, 0, none⟩ = _
    unfold World.cell?; rw [hh]; rfl
  · simp at hj; subst hj
    show (w.alloc (.cells #[.int .i64 x, .int .i64 y] T)).cell? ⟨w.heap.size, 1, none⟩ = _
    unfold World.cell?; rw [hh]; rfl
theorem bs2' (w : World) (a b : Int) : (Instr.buildSlice 22 2 #[(0, .int .i64 a), (1, .int .i64 b)]).run Tryz.prog w = .ok (.slice (some ⟨w.heap.size, 0, none⟩) 2 2) (w.alloc (.cells #[.int .i64 a, .int .i64 b] 3)) := by kernel_rfl
set_option maxHeartbeats 3200000 in
set_option maxRecDepth 100000 in
theorem awake24 (w : World) : Calls Tryz.prog 11 #[] w fun e w' => e = .returned (.bool true) ∧ Below w.heap.size w w' := by
  have hbs := bs2'
  have HM := Lib.hid (fun (W : World) (h1 : Sl int1 1 W (some ⟨w.heap.size, 0, none⟩) [0]) (h2 : Sl int1 1 W (some ⟨w.heap.size + 1, 0, none⟩) [1, 2]) => (made24 [0] 1 (some ⟨w.heap.size, 0, none⟩) 1 [1, 2] 2 (some ⟨w.heap.size + 1, 0, none⟩) 2 W rfl (by decide) h1 rfl (by decide) h2).mono (fun e w' h => h.resolve_right (fun h => h.1 good0)))
  go_enter Tryz.func11, Tryz.ntmps11
  go_wp2_with (first
    | (go_at_call 12; refine (HM.out _ ((sl1 w 0 _).below ((Below.refl _ _).alloc (Nat.le_refl _) _)) (by have := slk (w.alloc (.cells #[.int .i64 0] 3)) 1 2 3; rw [show (w.alloc (.cells #[.int .i64 0] 3)).heap.size = w.heap.size + 1 by simp] at this; exact this)).mono ?_
       rintro e w2 ⟨-, ow, L, oz, M, s, rfl, h2, hok, hfr, htg, -⟩
       have hl1 : s.cores.length = 1 := hfr.len
       have hin : 0 ≤ (0 : Int) ∧ (0 : Int) < s.cores.length := (by rw [hl1]; decide)
       obtain ⟨d, hd, hde, hdf⟩ := hok.core hin
       have HA := SwAll h2 (SwOk.new _) hok (by decide) (by decide) (c := 0) (by unfold I63; decide) 1
       rw [allT_new hin rfl (.inr (.inl rfl)), hde] at HA
       have HAl := Lib.hid HA
       have HB := Lib.hid h2.sys.old
       have hcor : ((s.setC (0 : Int).toNat (fx 1 (1000 * (SwS.new.all.length : Int)) d 5).2).cores[0]?) = some (fx 1 (1000 * (SwS.new.all.length : Int)) d 5).2 := (by
         simp only [SysS.setC, List.getElem?_set]
         simp [hl1])
       have hlc : 0 ≤ (0 : Int) ∧ (0 : Int) < (s.setC (0 : Int).toNat (fx 1 (1000 * (SwS.new.all.length : Int)) d 5).2).cores.length := (by simp [SysS.setC, hl1])
       have HCo := Lib.hid hcor
       have HLc := Lib.hid hlc
       clear h2 hok hfr htg hin hd hde hdf HA hcor hlc)
    | (go_at_call 13; refine HAl.out.mono ?_
       rintro e w3 ⟨rfl, ow3, oz3, M3, -, -, h3, -, -⟩
       obtain ⟨bl, F, p, q, r, hbl, hcst, how⟩ := h3.sys.cor 0 _ HCo.out
       have HC := Lib.hid (YCore h3.sys HLc.out (bl := bl) hbl)
       have HT := Lib.hid (CorTag hcst)
       have HB3 := Lib.hid h3.sys.old
       clear h3 hbl hcst how)
    | (go_at_call 14; refine HC.out.mono ?_; rintro e w4 ⟨rfl, rfl⟩)
    | (go_at_call 15; refine HT.out.mono ?_; rintro e w4 ⟨rfl, rfl⟩))
  go_ret
  have hb0 := ((Below.refl w.heap.size w).alloc (Nat.le_refl _) (.cells #[.int .i64 0] 3)).alloc (by simp) (.cells #[.int .i64 1, .int .i64 2] 3)
  exact ⟨rfl, hb0.trans (HB3.out.mono (by simp; omega))⟩
end Go.Proofs.YtlgkkolgdjgclaaGreat
