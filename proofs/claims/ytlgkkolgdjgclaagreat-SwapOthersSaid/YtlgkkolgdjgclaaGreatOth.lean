/- The walk of SwapOthers. -/
import Derived.Test.YtlgkkolgdjgclaaGreatMade
namespace Go.Proofs.YtlgkkolgdjgclaaGreat
open Go.RowKit Go.Shelf Go.Maps
set_option linter.unusedVariables false
set_option linter.unusedSimpArgs false

/-- All tries were of core c, and are done. -/
structure DoneZ (c : Nat) (m : Nat) (z : SwS) : Prop where
  len : z.all.length = m
  all : ∀ (i c' : Nat) x, z.all[i]? = some (c', x) → c' = c ∧ x.stage = 5 ∧ TryOk x
  lst : ∀ j, z.lst j < 0 ∨ (j = c ∧ (z.lst j).toNat < m)
  low : ∀ j, -1 ≤ z.lst j
section
variable {c m n : Nat} {z : SwS}
theorem DoneZ.new (c : Nat) : DoneZ c 0 SwS.new := ⟨rfl, fun i c x hx => by simp [SwS.new] at hx, fun j => .inl (by simp [SwS.new]), fun j => by simp [SwS.new]⟩
theorem DoneZ.ok (h : DoneZ c m z) (hc : c < n) : SwOk n z := by
  refine ⟨fun j => ?_, h.low, fun i c' x hx h5 => ?_, fun i c' x hx => ?_⟩
  · rcases h.lst j with e | ⟨e, e2⟩
    · exact .inl e
    · subst e
      obtain ⟨p, hp⟩ : ∃ p, z.all[(z.lst c).toNat]? = some p := ⟨_, List.getElem?_eq_getElem (by rw [h.len]; exact e2)⟩
      obtain ⟨c', x⟩ := p
      obtain ⟨rfl, -, -⟩ := h.all _ _ _ hp
      exact .inr ⟨x, by rw [Int.toNat_natCast]; exact hp, by omega, by omega⟩
  · have := (h.all i c' x hx).2.1; omega
  · obtain ⟨rfl, -, a⟩ := h.all i c' x hx
    exact ⟨a, hc⟩
theorem DoneZ.shut (h : DoneZ c m z) (j : Int) : z.opn j = false := by
  unfold SwS.opn
  split
  · rfl
  · cases hq : z.all[(z.lst j).toNat]? with
    | none => rfl
    | some p =>
      obtain ⟨c', x⟩ := p
      have := (h.all _ _ _ hq).2.1
      simp only
      exact decide_eq_false (by omega)
theorem DoneZ.more (h : DoneZ c m z) {x0 x : TryS} (h5 : x.stage = 5) (hok : TryOk x) : DoneZ c (m + 1) ((z.add c x0).set m x) := by
  have hl := h.len
  refine ⟨by simp [SwS.add, SwS.set, hl], fun i c' y hy => ?_, fun j => ?_, fun j => ?_⟩
  · simp only [SwS.set, SwS.add, List.getElem?_modify] at hy
    by_cases e : m = i
    · subst e
      rw [List.getElem?_append_right (by omega)] at hy
      simp [hl] at hy
      obtain ⟨rfl, rfl⟩ := hy
      exact ⟨rfl, h5, hok⟩
    · have hi : i < z.all.length := by
        by_cases e2 : i < z.all.length
        · exact e2
        · rw [List.getElem?_eq_none (by simp; omega)] at hy; simp at hy
      rw [List.getElem?_append_left hi] at hy
      cases hq : z.all[i]? with
      | none => rw [hq] at hy; simp at hy
      | some p =>
        rw [hq] at hy
        simp [e] at hy
        subst hy
        exact h.all i c' y hq
  · simp only [SwS.set, SwS.add, updP]
    by_cases e : j = (c : Int)
    · rw [if_pos e]; exact .inr ⟨e, by omega⟩
    · rw [if_neg e]
      rcases h.lst j with e2 | ⟨e2, -⟩
      · exact .inl e2
      · exact absurd e2 e
  · simp only [SwS.set, SwS.add, updP]
    split
    · omega
    · exact h.low j
theorem DoneZ.cnt (h : DoneZ c m z) : cntT z.all 5 = m ∧ cntT z.all 6 = 0 := by
  have h5 : ∀ p ∈ z.all, p.2.stage = 5 := fun p hp => by
    obtain ⟨i, hi⟩ := List.getElem?_of_mem hp
    obtain ⟨c', x⟩ := p
    exact (h.all i c' x hi).2.1
  constructor
  · unfold cntT
    rw [List.filter_eq_self.2 (fun p hp => by simp [h5 p hp]), h.len]
  · unfold cntT
    rw [List.length_eq_zero_iff, List.filter_eq_nil_iff]
    intro p hp
    rw [h5 p hp]; decide
end
/-- But for core c, the tags are as they were. -/
def TagsBut (c : Nat) (s : SysS) (l : List Int) : Prop := s.cores.length = l.length ∧ ∀ j, j ≠ c → ∀ d, s.cores[j]? = some d → l[j]? = some d.tag
theorem TagsBut.init {s : SysS} {l : List Int} (h : s.tags = l) (c : Nat) : TagsBut c s l := by
  subst h
  refine ⟨by simp [SysS.tags], fun j _ d hd => ?_⟩
  simp [SysS.tags, hd]
theorem TagsBut.setC {s : SysS} {l : List Int} {c : Nat} (h : TagsBut c s l) (d : CoreS) : TagsBut c (s.setC c d) l := by
  refine ⟨by simp [SysS.setC, h.1], fun j hj e he => ?_⟩
  simp only [SysS.setC, List.getElem?_set, if_neg (fun e2 : c = j => hj e2.symm)] at he
  exact h.2 j hj e he
theorem allT_bad {s : SysS} {z : SwS} {c tag : Int} (hin : 0 ≤ c ∧ c < s.cores.length) (ho : z.opn c = false) (ht : ¬ TagOk tag) : z.allT s c tag = (z, s, false, 1) := by
  have eo : z.openT s c tag = (z, 1) := by unfold SwS.openT; rw [if_pos hin, if_neg (by rw [ho]; simp), if_neg ht]
  unfold SwS.allT; rw [eo]; exact if_neg (show ¬ (1 : Int) = 0 by decide)
theorem sys_swapped {T : Nat} {s : SysS} (h : SysOk T s) (h1 : 1 ≤ T) (hT : T ≤ 10000000) {c : Int} (hin : 0 ≤ c ∧ c < s.cores.length) {tag base : Int} (ht : TagOk tag) (hb : 0 ≤ base ∧ base ≤ 1000000000) : SysOk T (s.setC c.toNat (fx tag base (s.core c) 5).2) := by
  obtain ⟨d, hd, hde, hdf⟩ := h.core hin
  rw [hde]
  exact h.change hd ht (seed_near hdf.q h1 hb) (form_seed _ _)
set_option maxHeartbeats 6400000 in
set_option maxRecDepth 100000 in
theorem swapOthers_walk (l1 : List Int) (n1 : Nat) (a1 : Option Addr) (c1 : Nat) (l2 : List Int) (n2 : Nat) (a2 : Option Addr) (c2 : Nat) (c : Int) (l3 : List Int) (n3 : Nat) (a3 : Option Addr) (c3 : Nat) (w : World)
    (hn1 : l1.length = n1) (hm1 : n1 ≤ maxLen) (hs1 : Sl int1 1 w a1 l1) (hn2 : l2.length = n2) (hm2 : n2 ≤ maxLen) (hs2 : Sl int1 1 w a2 l2) (hc : I63 c) (hn3 : l3.length = n3) (hm3 : n3 ≤ maxLen) (hs3 : Sl int1 1 w a3 l3) :
    Calls Tryz.prog 3 #[.slice a1 n1 c1, .slice a2 n2 c2, .int .i64 c, .slice a3 n3 c3] w fun e w' => e = .returned (.bool true) ∧ Below w.heap.size w w' := by
  have HA := Lib.hid (fun (W : World) => awake24 W)
  have HM := Lib.hid (fun (W : World) (h6 : n1 ≤ 6) (h12 : n2 ≤ 12) (h1 : Sl int1 1 W a1 l1) (h2 : Sl int1 1 W a2 l2) => made24 l1 n1 a1 c1 l2 n2 a2 c2 W hn1 h6 h1 hn2 h12 h2)
  have Hn1 := Lib.hid hn1; have Hn3 := Lib.hid hn3
  have HS1 := Lib.hid hs1; have HS2 := Lib.hid hs2; have HS3 := Lib.hid hs3
  have HC63 := Lib.hid hc
  clear hn1 hs1 hn2 hs2 hn3 hs3 hc
  by_cases b1 : (n1 : Int) < 2
  · skip
    go_enter Tryz.func3, Tryz.ntmps3
    go_wp2_with (first
      | (go_at_call 11; refine (HA.out _).mono ?_; rintro e w1 ⟨rfl, hb1⟩; have Hb1 := Lib.hid hb1; clear hb1)
      )
    go_ret
    exact ⟨rfl, Hb1.out⟩
  by_cases b2 : (6 : Int) < n1
  · skip
    go_enter Tryz.func3, Tryz.ntmps3
    go_wp2_with (first
      | (go_at_call 11; refine (HA.out _).mono ?_; rintro e w1 ⟨rfl, hb1⟩; have Hb1 := Lib.hid hb1; clear hb1)
      )
    go_ret
    exact ⟨rfl, Hb1.out⟩
  by_cases b3 : (10 : Int) < n2
  · skip
    go_enter Tryz.func3, Tryz.ntmps3
    go_wp2_with (first
      | (go_at_call 11; refine (HA.out _).mono ?_; rintro e w1 ⟨rfl, hb1⟩; have Hb1 := Lib.hid hb1; clear hb1)
      )
    go_ret
    exact ⟨rfl, Hb1.out⟩
  by_cases b4 : c < 0
  · skip
    go_enter Tryz.func3, Tryz.ntmps3
    go_wp2_with (first
      | (go_at_call 11; refine (HA.out _).mono ?_; rintro e w1 ⟨rfl, hb1⟩; have Hb1 := Lib.hid hb1; clear hb1)
      )
    go_ret
    exact ⟨rfl, Hb1.out⟩
  by_cases b5 : (n1 : Int) ≤ c
  · skip
    go_enter Tryz.func3, Tryz.ntmps3
    go_wp2_with (first
      | (go_at_call 11; refine (HA.out _).mono ?_; rintro e w1 ⟨rfl, hb1⟩; have Hb1 := Lib.hid hb1; clear hb1)
      )
    go_ret
    exact ⟨rfl, Hb1.out⟩
  by_cases b6 : (20 : Int) < n3
  · skip
    go_enter Tryz.func3, Tryz.ntmps3
    go_wp2_with (first
      | (go_at_call 11; refine (HA.out _).mono ?_; rintro e w1 ⟨rfl, hb1⟩; have Hb1 := Lib.hid hb1; clear hb1)
      )
    go_ret
    exact ⟨rfl, Hb1.out⟩
  by_cases hg : newGood l1
  · replace HM := Lib.hid (fun (W : World) (h1 : Sl int1 1 W a1 l1) (h2 : Sl int1 1 W a2 l2) => (HM.out W (by omega) (by omega) h1 h2).mono (fun e w' h => h.resolve_right (fun h => h.1 hg)))
    obtain ⟨k, rfl⟩ : ∃ k : Nat, c = k := ⟨c.toNat, by omega⟩
    go_enter Tryz.func3, Tryz.ntmps3
    go_wp2_with (first
      | (go_at_call 11; refine (HA.out _).mono ?_; rintro e w1 ⟨rfl, hb1⟩; have Hb1 := Lib.hid hb1; clear hb1)
      | (go_at_call 12; refine (HM.out _ (HS1.out.below Hb1.out) (HS2.out.below Hb1.out)).mono ?_
         rintro e w2 ⟨-, ow, L, oz, M, s, rfl, h2, hok, hfr, htg⟩
         have H2 := Lib.hid h2; have HOk := Lib.hid hok; have HLen := Lib.hid hfr.len; have HTg := Lib.hid htg
         clear h2 hok hfr htg))
    have hk1 : k < n1 := by omega
    clear hg
    go_loopw [11, 12] (fun dx ix wr => ∃ (j m : Nat) (ow' : Nat → Option Own) (oz' : Nat → Option OwnW) (M' : SwL) (s' : SysS) (z' : SwS), j ≤ n3 ∧ m ≤ j ∧ dx = .int .i64 m ∧ ix = .int .i64 j ∧ M'.b = M.b ∧ SwIn w1 wr ow' L s' oz' M' z' ∧ SysOk 36 s' ∧ DoneZ k m z' ∧ TagsBut k s' l1) (fun _ ix _ => n3 - (intOf ix).toNat)
    case atStart => exact ⟨0, 0, ow, oz, M, s, SwS.new, Nat.zero_le _, Nat.le_refl _, rfl, rfl, rfl, H2.out, HOk.out, DoneZ.new k, TagsBut.init HTg.out k⟩
    case round =>
      obtain ⟨j, m, ow2, oz2, M2, s2, z2, hj, hmj, rfl, rfl, hMb, h, hok, hdz, htb⟩ := hrel
      have hj0 : (0 : Int) ≤ j := by omega
      have hcl : s2.cores.length = n1 := htb.1.trans Hn1.out
      have hin : 0 ≤ (k : Int) ∧ (k : Int) < s2.cores.length := by rw [hcl]; omega
      by_cases hlt : j < n3
      · have hjn : (j : Int) < n3 := by omega
        obtain ⟨x, hx⟩ : ∃ x, l3[j]? = some x := ⟨_, List.getElem?_eq_getElem (by rw [Hn3.out]; exact hlt)⟩
        obtain ⟨r, off, rfl, hr, hcr⟩ := HS3.out (by intro h0; rw [h0] at hx; simp at hx)
        have hr1 : r < w1.heap.size := Nat.lt_of_lt_of_le hr Hb1.out.size
        have E0 := Lib.hid (fun (W : World) (hW : Below w1.heap.size w1 W) => ((Hb1.out.trans (hW.mono Hb1.out.size)).cell (p := ⟨r, off + j * 1 + 0, none⟩) hr).trans (hcr j x hx 0 _ rfl))
        simp only [Nat.mul_one, Nat.add_zero] at E0
        have e0 := E0.out _ h.sys.old
        have HAl := Lib.hid (SwAll h (hdz.ok (by omega)) hok (by decide) (by rw [hdz.len]; omega) HC63.out x)
        rw [hMb] at HAl
        have HMb := Lib.hid hMb
        by_cases ht : TagOk x
        · rw [allT_new hin (hdz.shut k) ht, hdz.len, Int.toNat_natCast] at HAl
          have hx0 : 0 ≤ x := by unfold TagOk at ht; omega
          have hx2 : x ≤ 2 := by unfold TagOk at ht; omega
          obtain ⟨d, hd, hde, hdf⟩ := hok.core hin
          have hgc : goodC d.tag (formR d.q) = true := by unfold goodC; rw [good_near hdf.q (by decide), Bool.and_true, decide_eq_true_eq]; have := hdf.tag; unfold TagOk at this; omega
          have hb1 : 0 ≤ 1000 * (m : Int) ∧ 1000 * (m : Int) ≤ 1000000000 := by omega
          have HOk2 := Lib.hid (sys_swapped hok (by decide) (by decide) hin ht hb1)
          have HDz := Lib.hid (hdz.more (x0 := TryS.new x (1000 * (m : Int))) (fx_stage (tag := x) (base := 1000 * (m : Int)) (d := s2.core k) (Nat.le_refl 5)).1 (fx_ok ht hb1 (by rw [hde]; exact hgc) (Nat.le_refl 5)))
          have HTb := Lib.hid (htb.setC (fx x (1000 * (m : Int)) (s2.core k) 5).2)
          rw [Int.toNat_natCast] at HOk2
          generalize s2.setC k (fx x (1000 * (m : Int)) (s2.core k) 5).2 = s3 at *
          generalize (z2.add k (TryS.new x (1000 * (m : Int)))).set m (fx x (1000 * (m : Int)) (s2.core k) 5).1 = z3 at *
          clear h hok hdz htb hMb hin ht hd hde hdf hgc hb1 hcr hx hcl
          go_wp2_with (first
            | (go_at_call 13; refine HAl.out.mono ?_; rintro e w5 ⟨rfl, ow5, oz5, M5, a1, -, a3, -, -⟩
               have e0 := E0.out _ a3.sys.old
               have H5 := Lib.hid a3; have Hb5 := Lib.hid a1; clear a1 a3))
          exact ⟨⟨j + 1, m + 1, ow5, oz5, M5, s3, z3, hlt, by omega, by go_num, by go_num, Hb5.out.trans HMb.out, H5.out, HOk2.out, HDz.out, HTb.out⟩, by simp [intOf]; omega⟩
        · rw [allT_bad hin (hdz.shut k) ht] at HAl
          have HOk2 := Lib.hid hok
          have HDz := Lib.hid hdz
          have HTb := Lib.hid htb
          by_cases hx0 : 0 ≤ x
          · have hx2 : ¬ x ≤ 2 := by unfold TagOk at ht; omega
            clear h hok hdz htb hMb hin ht hcr hx hcl
            go_wp2_with (first
              | (go_at_call 13; refine HAl.out.mono ?_; rintro e w5 ⟨rfl, ow5, oz5, M5, a1, -, a3, -, -⟩
                 have e0 := E0.out _ a3.sys.old
                 have H5 := Lib.hid a3; have Hb5 := Lib.hid a1; clear a1 a3))
            exact ⟨⟨j + 1, m, ow5, oz5, M5, s2, z2, hlt, by omega, rfl, by go_num, Hb5.out.trans HMb.out, H5.out, HOk2.out, HDz.out, HTb.out⟩, by simp [intOf]; omega⟩
          · clear h hok hdz htb hMb hin ht hcr hx hcl
            go_wp2_with (first
              | (go_at_call 13; refine HAl.out.mono ?_; rintro e w5 ⟨rfl, ow5, oz5, M5, a1, -, a3, -, -⟩
                 have e0 := E0.out _ a3.sys.old
                 have H5 := Lib.hid a3; have Hb5 := Lib.hid a1; clear a1 a3))
            exact ⟨⟨j + 1, m, ow5, oz5, M5, s2, z2, hlt, by omega, rfl, by go_num, Hb5.out.trans HMb.out, H5.out, HOk2.out, HDz.out, HTb.out⟩, by simp [intOf]; omega⟩
      · obtain rfl : j = n3 := by omega
        have H4 := Lib.hid h
        have HDz := Lib.hid hdz
        have HTb := Lib.hid htb
        have HMb := Lib.hid hMb
        have Hcl := Lib.hid hcl
        clear h hok hdz htb hMb hin hcl
        go_wp2_with fail
        go_loopw [15] (fun ix wr => ∃ i : Nat, i ≤ n1 ∧ ix = .int .i64 i ∧ SwIn w1 wr ow2 L s2 oz2 M2 z2) (fun ix _ => n1 - (intOf ix).toNat)
        case atStart => exact ⟨0, Nat.zero_le _, rfl, H4.out⟩
        case round =>
          obtain ⟨i, hi, rfl, h⟩ := hrel
          have hi0 : (0 : Int) ≤ i := by omega
          by_cases hli : i < n1
          · have hin1 : (i : Int) < n1 := by omega
            have hic : 0 ≤ (i : Int) ∧ (i : Int) < s2.cores.length := by rw [Hcl.out]; omega
            obtain ⟨d, hd⟩ : ∃ d, s2.cores[i]? = some d := ⟨_, List.getElem?_eq_getElem (by rw [Hcl.out]; exact hli)⟩
            obtain ⟨bl, F, p, q, r, hbl, hcst, how⟩ := h.sys.cor i d hd
            have HC := Lib.hid (YCore h.sys hic (bl := bl) (by rw [Int.toNat_natCast]; exact hbl))
            have hwd := (Below.refl wr.heap.size wr).drew
            have HT := Lib.hid (CorTag (hcst.below hwd))
            obtain ⟨x, hx⟩ : ∃ x, l1[i]? = some x := ⟨_, List.getElem?_eq_getElem (by rw [Hn1.out]; exact hli)⟩
            obtain ⟨r1, off, rfl, hr, hcr⟩ := HS1.out (by intro h0; rw [h0] at hx; simp at hx)
            have e0 := ((Hb1.out.trans (h.sys.old.mono Hb1.out.size)).cell (p := ⟨r1, off + i * 1 + 0, none⟩) hr).trans (hcr i x hx 0 _ rfl)
            simp only [Nat.mul_one, Nat.add_zero] at e0
            have HH := Lib.hid h
            by_cases hik : i = k
            · subst hik
              clear h hd hbl hcst how hx hcr
              go_wp2_with (go_at_call 14; refine HC.out.mono ?_; rintro e w5 ⟨rfl, rfl⟩)
              refine wp_region_chain 143 [0, 1, 3, 7, 7, 31, 63, 127, 255, 127, 127, 1663, 3711, 8191, 16383, 32767] [(0, none), (1, none), (2, none), (3, none), (4, none), (5, none), (6, none), (7, none), (9, none), (10, none), (11, none), (12, none), (8, some [9, 10, 11, 12]), (13, none), (14, none), (15, none)] (by kernel_rfl) (by kernel_rfl) (by rfl) ?_; simp only [chain, Obs, List.getElem?_toArray, List.getElem?_cons_zero, List.getElem?_cons_succ]
              go_wp2_with (with_reducible refine And.intro (by first | with_reducible exact True.intro | with_reducible rfl | go_simp) ?_)
              refine NoPanic.normal ?_
              go_wp2_with fail
              exact ⟨⟨i + 1, hli, by go_num, HH.out.below hwd⟩, by simp [intOf]; omega⟩
            · have htx := HTb.out.2 i hik d hd
              rw [hx] at htx
              simp only [Option.some.injEq] at htx
              subst htx
              have hne : ¬ (i : Int) = k := by omega
              clear h hd hbl hcst how hx hcr
              go_wp2_with (go_at_call 14; refine HC.out.mono ?_; rintro e w5 ⟨rfl, rfl⟩)
              refine wp_region_chain 143 [0, 1, 3, 7, 7, 31, 63, 127, 255, 127, 127, 1663, 3711, 8191, 16383, 32767] [(0, none), (1, none), (2, none), (3, none), (4, none), (5, none), (6, none), (7, none), (9, none), (10, none), (11, none), (12, none), (8, some [9, 10, 11, 12]), (13, none), (14, none), (15, none)] (by kernel_rfl) (by kernel_rfl) (by rfl) ?_; simp only [chain, Obs, List.getElem?_toArray, List.getElem?_cons_zero, List.getElem?_cons_succ]
              go_wp2_with (first
                | (with_reducible refine And.intro (by first | with_reducible exact True.intro | with_reducible rfl | go_simp) ?_)
                | (go_at_call 15; refine HT.out.mono ?_; rintro e w5 ⟨rfl, rfl⟩))
              refine NoPanic.normal ?_
              go_wp2_with fail
              exact ⟨⟨i + 1, hli, by go_num, HH.out.below hwd⟩, by simp [intOf]; omega⟩
          · obtain rfl : i = n1 := by omega
            have HCn := Lib.hid (SwCounts h (by rw [HDz.out.len]; omega))
            rw [HMb.out, HDz.out.cnt.1, HDz.out.cnt.2] at HCn
            have HB := Lib.hid h.sys.old
            clear h
            go_wp2_with (go_at_call 16; refine HCn.out.mono ?_; rintro e w5 ⟨rfl, rfl⟩)
            go_ret
            exact ⟨rfl, Hb1.out.trans (HB.out.mono Hb1.out.size)⟩
  · replace HM := Lib.hid (fun (W : World) (h1 : Sl int1 1 W a1 l1) (h2 : Sl int1 1 W a2 l2) => (HM.out W (by omega) (by omega) h1 h2).mono (fun e w' h => h.resolve_left (fun h => hg h.1)))
    go_enter Tryz.func3, Tryz.ntmps3
    go_wp2_with (first
      | (go_at_call 11; refine (HA.out _).mono ?_; rintro e w1 ⟨rfl, hb1⟩; have Hb1 := Lib.hid hb1; clear hb1)
      | (go_at_call 12; refine (HM.out _ (HS1.out.below Hb1.out) (HS2.out.below Hb1.out)).mono ?_; rintro e w2 ⟨-, rfl, hb2⟩; have Hb2 := Lib.hid hb2; clear hb2))
    go_ret
    exact ⟨rfl, Hb1.out.trans (Hb2.out.mono Hb1.out.size)⟩
end Go.Proofs.YtlgkkolgdjgclaaGreat
