/- Package elder: any version made the last one; read. -/
import Derived.Test.YtpdfkomhgeckcaaGreatByE
namespace Go.Proofs.YtpdfkomhgeckcaaGreat
open Go.RowKit
set_option linter.unusedVariables false
set_option linter.unusedSimpArgs false

/-- What Up leaves. -/
def UpPost (R : List Int × Int) (w : World) (e : Ending) (w' : World) : Prop :=
  ∃ a' c', e = .returned (.tuple #[.slice a' R.1.length c', .int .i64 R.2]) ∧ Sl encU 1 w' a' R.1 ∧ R.1.length ≤ c' ∧ Below w.heap.size w w'

/-- A first number that tells how many items there are. -/
theorem fits_cnt {lags : Bool} {l : List Int} {n : Nat} (hn : l.length = n) (hB : ∀ x ∈ l, Byte x) (h : fitsE lags l) : ∃ cnt : Nat, n = 1 + sizeE lags * cnt ∧ l[0]? = some (cnt : Int) ∧ (l.getD 0 0).toNat = cnt := by
  have h0 : l[0]? = some (l.getD 0 0) := by rw [List.getD_eq_getElem?_getD, List.getElem?_eq_getElem (by have := h.1; omega)]; rfl
  have b0 := hB _ (List.mem_of_getElem? h0)
  unfold Byte at b0
  obtain ⟨cnt, hc⟩ := Int.eq_ofNat_of_zero_le b0.1
  have h2 := h.2
  rw [hc] at h2 h0 ⊢
  refine ⟨cnt, ?_, h0, Int.toNat_natCast _⟩
  have h1 := h.1
  have e : ((sizeE lags * cnt : Nat) : Int) = (sizeE lags : Int) * (cnt : Int) := Int.natCast_mul _ _
  generalize sizeE lags * cnt = q at *
  omega

set_option maxHeartbeats 2400000 in
set_option maxRecDepth 100000 in
theorem Up_any (l : List Int) (n : Nat) (a : Option Addr) (c : Nat) (w : World) (hn : l.length = n) (hl : n ≤ 1000000) (hc : n ≤ c) (hB : ∀ x ∈ l, Byte x) (hs : Sl encU 1 w a l) {R : List Int × Int} (hR : upB l = R) :
    Calls Tryz.prog 47 #[.slice a n c] w (UpPost R w) := by
  have HO := Lib.hid (Open_any l n a c w hn (by omega) hc hB hs)
  have hBx := openB_byte hB
  have hxl : (openB l).1.length ≤ n := by
    unfold openB
    cases hg : sealG l with
    | none => simp
    | some y =>
      have : y.length ≤ n := by
        unfold sealG at hg
        split at hg
        · cases hg; rw [List.length_take]; omega
        · cases hg
      simp only
      split
      · simp only [List.length_drop]; omega
      · simp
  unfold upB at hR
  have HG := Lib.hid (fun W (h : Below w.heap.size w W) => Get_any l n a c W hn (by omega) hc hB (hs.below h) (R := getB l) rfl)
  have HCl := Lib.hid (fun W (h : Below w.heap.size w W) => SlClone_any l n a c W hn (by omega) (hs.below h))
  generalize hx : (openB l).1 = x at *
  generalize hv : (openB l).2.1 = v at *
  generalize her : (openB l).2.2 = er at *
  have Hn := Lib.hid hn
  clear hs hB hn hx hv her
  by_cases h1 : er = 0
  case neg =>
    rw [if_pos h1] at hR
    subst hR
    have h1b : (er != 0) = true := by simpa using h1
    clear hBx h1 HG HCl
    go_enter Tryz.func47, Tryz.ntmps47
    go_wp2_with (go_at_call 59; refine HO.out.mono ?_; rintro e w1 ⟨a1, c1, rfl, hs1, hc1, hbe⟩)
    all_goals go_ret2
    all_goals exact ⟨none, 0, rfl, Sl.nil, Nat.le_refl _, hbe⟩
  case pos =>
    subst h1
    rw [if_neg (by simp)] at hR
    by_cases h3 : v = 3
    case pos =>
      subst h3
      rw [if_pos rfl] at hR
      by_cases hg : (getB l).2.2 = 0
      case neg =>
        rw [if_pos hg] at hR
        subst hR
        have hgb : ((getB l).2.2 != 0) = true := by simpa using hg
        clear hg
        generalize getB l = G at *
        obtain ⟨g1, g2, g3⟩ := G
        clear hBx HCl
        go_enter Tryz.func47, Tryz.ntmps47
        go_wp2_with (first
          | (go_at_call 59; refine HO.out.mono ?_; rintro e w1 ⟨a1, c1, rfl, hs1, hc1, hb1⟩)
          | (go_at_call 48; refine (HG.out _ hb1).mono ?_; rintro e w2 ⟨fa, fc, rfl, hs2, hb2⟩; have hbe := ((hb1.trans (hb2.mono hb1.size)).alloc (Nat.le_trans hb1.size hb2.size) (.cells #[.int .i64 g2.cur, .slice fa g2.l.length fc] 24))))
        all_goals go_ret2
        all_goals exact ⟨none, 0, rfl, Sl.nil, Nat.le_refl _, hbe⟩
      case pos =>
        rw [if_neg (by simpa using hg)] at hR
        subst hR
        generalize getB l = G at *
        obtain ⟨g1, g2, g3⟩ := G
        simp only at hg
        subst hg
        clear hBx
        go_enter Tryz.func47, Tryz.ntmps47
        go_wp2_with (first
          | (go_at_call 59; refine HO.out.mono ?_; rintro e w1 ⟨a1, c1, rfl, hs1, hc1, hb1⟩)
          | (go_at_call 48; refine (HG.out _ hb1).mono ?_; rintro e w2 ⟨fa, fc, rfl, hs2, hb2⟩; have hbe := ((hb1.trans (hb2.mono hb1.size)).alloc (Nat.le_trans hb1.size hb2.size) (.cells #[.int .i64 g2.cur, .slice fa g2.l.length fc] 24)))
          | (go_at_call 60; refine (HCl.out _ hbe).mono ?_; rintro e w3 ⟨a3, c3, rfl, ho3, hb3⟩; have Ho3 := Lib.hid ho3; clear ho3))
        go_ret2
        exact ⟨a3, c3, by rw [Hn.out]; rfl, own_sl Ho3.out, by rw [Hn.out]; exact own_cap Ho3.out, hbe.trans (hb3.mono hbe.size)⟩
    case neg =>
      rw [if_neg h3] at hR
      have h3b : (v == 3) = false := by simpa using h3
      by_cases h12 : v ≠ 1 ∧ v ≠ 2
      case pos =>
        rw [if_pos h12] at hR
        subst hR
        have hv1 : (v != 1) = true := by simpa using h12.1
        have hv2 : (v != 2) = true := by simpa using h12.2
        clear hBx HG HCl h12 h3
        go_enter Tryz.func47, Tryz.ntmps47
        go_wp2_with (go_at_call 59; refine HO.out.mono ?_; rintro e w1 ⟨a1, c1, rfl, hs1, hc1, hbe⟩)
        all_goals go_ret2
        all_goals exact ⟨none, 0, rfl, Sl.nil, Nat.le_refl _, hbe⟩
      case neg =>
        rw [if_neg h12] at hR
        clear HG HCl
        have hv : v = 1 ∨ v = 2 := by omega
        clear h12 h3 h3b
        rcases hv with rfl | rfl
        · -- version 1
          have eT : elderT 1 x = (false, x.drop 1, -1) := rfl
          have eF : elderF 1 x = ⟨-1, itemsE false ((x.drop 1).getD 0 0).toNat ((x.drop 1).drop 1)⟩ := rfl
          rw [eT, eF] at hR
          simp only at hR
          obtain ⟨m, hm⟩ : ∃ m, x.length = m := ⟨_, rfl⟩
          rw [hm] at HO
          by_cases hok : 1 ≤ m
          case neg =>
            have hno : ¬ elderOk 1 x := fun h => hok (by rw [← hm]; exact h.1)
            rw [if_pos hno] at hR
            subst hR
            have hok2 : ¬ (1 : Int) ≤ m := by omega
            clear hno hok hBx hm hxl eT eF
            go_enter Tryz.func47, Tryz.ntmps47
            go_wp2_with (go_at_call 59; refine HO.out.mono ?_; rintro e w1 ⟨a1, c1, rfl, hs1, hc1, hb1⟩; have hbe := hb1.alloc hb1.size (.cells #[.int .i64 (-1), .slice none 0 0] 24))
            all_goals go_ret2
            all_goals exact ⟨none, 0, rfl, Sl.nil, Nat.le_refl _, hbe⟩
          case pos =>
            have hyes : elderOk 1 x := ⟨by rw [hm]; exact hok, fun h => by omega⟩
            rw [if_neg (by simpa using hyes)] at hR
            have hok2 : (1 : Int) ≤ m := by omega
            obtain ⟨x0, hx0⟩ : ∃ z, x.getD 0 0 = z := ⟨_, rfl⟩
            have h0 : x[0]? = some x0 := by rw [← hx0, List.getD_eq_getElem?_getD, List.getElem?_eq_getElem (by omega)]; rfl
            have b0 := hBx x0 (List.mem_of_getElem? h0)
            unfold Byte at b0
            obtain ⟨rest, hrest⟩ : ∃ rest, x.drop 1 = rest := ⟨_, rfl⟩
            have hrl : rest.length = m - 1 := by rw [← hrest, List.length_drop, hm]
            have hBr : ∀ z ∈ rest, Byte z := fun z hz => hBx z (by rw [← hrest] at hz; exact List.mem_of_mem_drop hz)
            rw [hx0, hrest] at hR
            have H0 := Lib.hid h0
            have Hm := Lib.hid hm
            have Hrest := Lib.hid hrest
            have hmx : m ≤ 1000000 := by omega
            by_cases hfit : fitsE false rest
            case neg =>
              rw [if_pos hfit] at hR
              subst hR
              have Hrl := Lib.hid hrl
              have IN := Lib.hid (fun W A C (h : Sl encU 1 W A rest) => Items_no rest false (m - 1) A C W hrl (by omega) hBr h hfit)
              clear hyes hok hBx hm hxl eT eF h0 hrest hfit hBr hrl hx0
              go_enter Tryz.func47, Tryz.ntmps47
              go_wp2_with (go_at_call 59; refine HO.out.mono ?_; rintro e w1 ⟨a1, c1, rfl, hs1, hc1, hb1⟩; obtain ⟨r, off, rfl, hr, hcc⟩ := hs1 (by intro h; have := Hm.out; rw [h] at this; simp at this; omega); have f0 := hcc 0 _ H0.out 0 _ rfl; simp only [Nat.zero_mul, Nat.add_zero] at f0; have HX1 := Lib.hid hs1; clear hcc hs1)
              refine wp_region_chain 95 [0, 1, 3, 7, 0, 16, 15, 127] [(0, none), (1, none), (2, none), (3, none), (4, none), (5, none), (6, none), (7, none)] (by kernel_rfl) (by kernel_rfl) (by rfl) ?_; simp only [chain, Obs, List.getElem?_toArray, List.getElem?_cons_zero, List.getElem?_cons_succ]
              go_wp2_with (with_reducible refine And.intro (by first | with_reducible exact True.intro | with_reducible rfl | go_simp) ?_)
              · have hS0 : Sl encU 1 w1 (some ⟨r, off, none⟩) rest := by
                  obtain rfl : rest = [] := List.eq_nil_of_length_eq_zero (by rw [Hrl.out]; omega)
                  exact Sl.nil
                refine NoPanic.normal ?_
                have hF := heap_new w1 (.cells #[.int .i64 (-1), .slice none 0 0] 24)
                have hbW := (hb1.alloc hb1.size (.cells #[.int .i64 (-1), .slice none 0 0] 24)).drew
                have hSW : Sl encU 1 (w1.alloc (.cells #[.int .i64 (-1), .slice none 0 0] 24)).drew _ rest := hS0.below ((Below.refl _ _).alloc (Nat.le_refl _) _).drew
                have HF := Lib.hid hF
                have HSW := Lib.hid hSW
                clear hF hSW hS0
                go_wp2_with (go_at_call 62; refine (IN.out _ _ _ HSW.out).mono ?_; rintro e w3 ⟨rfl, hb3⟩; have hF3 := heap_below (w := (w1.alloc (.cells #[.int .i64 (-1), .slice none 0 0] 24)).drew) HF.out hb3; obtain ⟨g0, g1, y0, y1, gl⟩ := blk2 hF3; clear hF3)
                have hbe := (hbW.trans (hb3.mono hbW.size)).setCell (p := ⟨w1.heap.size, 1, none⟩) hb1.size (.slice none 0 0)
                all_goals go_ret2
                all_goals exact ⟨none, 0, rfl, Sl.nil, Nat.le_refl _, hbe⟩
              · have hS0 : Sl encU 1 w1 (some ⟨r, off + 1, none⟩) rest := by rw [← Hrest.out]; exact HX1.out.dropV 1
                refine NoPanic.normal ?_
                have hF := heap_new w1 (.cells #[.int .i64 (-1), .slice none 0 0] 24)
                have hbW := (hb1.alloc hb1.size (.cells #[.int .i64 (-1), .slice none 0 0] 24)).drew
                have hSW : Sl encU 1 (w1.alloc (.cells #[.int .i64 (-1), .slice none 0 0] 24)).drew _ rest := hS0.below ((Below.refl _ _).alloc (Nat.le_refl _) _).drew
                have HF := Lib.hid hF
                have HSW := Lib.hid hSW
                clear hF hSW hS0
                go_wp2_with (go_at_call 62; refine (IN.out _ _ _ HSW.out).mono ?_; rintro e w3 ⟨rfl, hb3⟩; have hF3 := heap_below (w := (w1.alloc (.cells #[.int .i64 (-1), .slice none 0 0] 24)).drew) HF.out hb3; obtain ⟨g0, g1, y0, y1, gl⟩ := blk2 hF3; clear hF3)
                have hbe := (hbW.trans (hb3.mono hbW.size)).setCell (p := ⟨w1.heap.size, 1, none⟩) hb1.size (.slice none 0 0)
                all_goals go_ret2
                all_goals exact ⟨none, 0, rfl, Sl.nil, Nat.le_refl _, hbe⟩
            case pos =>
              rw [if_neg (by simpa using hfit)] at hR
              obtain ⟨cnt, hcn, hr0, hct⟩ := fits_cnt hrl hBr hfit
              rw [hct] at hR
              have hcn2 : m - 1 = 1 + 3 * cnt := hcn
              have IY := Lib.hid (fun W A C (hC : m - 1 ≤ C) (h : Sl encU 1 W A rest) => Items_yes0 rest (m - 1) cnt A C W hrl (by omega) hC hBr h hcn2 hr0)
              obtain ⟨L, hL⟩ : ∃ L, itemsE false cnt (rest.drop 1) = L := ⟨_, rfl⟩
              have hLl : L.length = cnt := by rw [← hL]; exact itemsE_length _ _ _
              rw [hL] at hR IY
              have hcm : cnt ≤ 1000000 := by omega
              have Hcn := Lib.hid hcn2
              by_cases hgd : goodC x0 ⟨-1, L⟩ = true
              · rw [if_pos hgd] at hR
                have HPut := Lib.hid (fun W A C (h : Sl It.enc 3 W A L) => CodePut_ok x0 (-1) L cnt A C W hLl h hgd)
                have HR := Lib.hid hR
                clear hyes hok hBx hm hxl eT eF h0 hrest hfit hBr hrl hx0 hcn hr0 hct hL hgd hR hcn2
                go_enter Tryz.func47, Tryz.ntmps47
                go_wp2_with (go_at_call 59; refine HO.out.mono ?_; rintro e w1 ⟨a1, c1, rfl, hs1, hc1, hb1⟩; obtain ⟨r, off, rfl, hr, hcc⟩ := hs1 (by intro h; have := Hm.out; rw [h] at this; simp at this; omega); have f0 := hcc 0 _ H0.out 0 _ rfl; simp only [Nat.zero_mul, Nat.add_zero] at f0; have HX1 := Lib.hid hs1; clear hcc hs1)
                refine wp_region_chain 95 [0, 1, 3, 7, 0, 16, 15, 127] [(0, none), (1, none), (2, none), (3, none), (4, none), (5, none), (6, none), (7, none)] (by kernel_rfl) (by kernel_rfl) (by rfl) ?_; simp only [chain, Obs, List.getElem?_toArray, List.getElem?_cons_zero, List.getElem?_cons_succ]
                go_wp2_with (with_reducible refine And.intro (by first | with_reducible exact True.intro | with_reducible rfl | go_simp) ?_)
                · exact absurd Hcn.out (by omega)
                · have hS0 : Sl encU 1 w1 (some ⟨r, off + 1, none⟩) rest := by rw [← Hrest.out]; exact HX1.out.dropV 1
                  refine NoPanic.normal ?_
                  have hF := heap_new w1 (.cells #[.int .i64 (-1), .slice none 0 0] 24)
                  have hbW := (hb1.alloc hb1.size (.cells #[.int .i64 (-1), .slice none 0 0] 24)).drew
                  have hSW : Sl encU 1 (w1.alloc (.cells #[.int .i64 (-1), .slice none 0 0] 24)).drew _ rest := hS0.below ((Below.refl _ _).alloc (Nat.le_refl _) _).drew
                  have HF := Lib.hid hF
                  have HSW := Lib.hid hSW
                  clear hF hSW hS0
                  go_wp2_with (first
                    | (go_at_call 62; refine (IY.out _ _ _ (by omega) HSW.out).mono ?_; rintro e w3 ⟨fa, fc, rfl, ho3, hb3⟩; have hF3 := heap_below (w := (w1.alloc (.cells #[.int .i64 (-1), .slice none 0 0] 24)).drew) HF.out hb3; obtain ⟨g0, g1, y0, y1, gl⟩ := blk2 hF3; have hnF : (Value.slice fa cnt fc).ownBlock ≠ some w1.heap.size := (fun e => by have := (ho3.lt _ e).1; simp at this; omega); have HI3 := Lib.hid (Sl.of_own (n := cnt) (c := fc) It.len (by rw [hLl]; exact own_set (u := .slice fa cnt fc) (i := 1) ho3 hnF)); have hb4 := Lib.hid ((hbW.trans (hb3.mono hbW.size)).setCell (p := ⟨w1.heap.size, 1, none⟩) hb1.size (.slice fa cnt fc)); clear hF3 ho3)
                    | (go_at_call 32; refine (HPut.out _ _ _ HI3.out).mono ?_; rintro e w7 ⟨a7, k7, rfl, ho7, hb7⟩; have Ho7 := Lib.hid ho7; clear ho7))
                  go_ret2
                  rw [← HR.out]
                  exact ⟨a7, k7, rfl, own_sl Ho7.out, own_cap Ho7.out, hb4.out.trans (hb7.mono hb4.out.size)⟩
              · rw [if_neg hgd] at hR
                subst hR
                have hgf : goodC x0 ⟨-1, L⟩ = false := by simpa using hgd
                have HPut := Lib.hid (fun W A C (h : Sl It.enc 3 W A L) => CodePut_err x0 (-1) L cnt A C W hLl (by omega) h hgf)
                clear hyes hok hBx hm hxl eT eF h0 hrest hfit hBr hrl hx0 hcn hr0 hct hL hgd hgf hcn2
                go_enter Tryz.func47, Tryz.ntmps47
                go_wp2_with (go_at_call 59; refine HO.out.mono ?_; rintro e w1 ⟨a1, c1, rfl, hs1, hc1, hb1⟩; obtain ⟨r, off, rfl, hr, hcc⟩ := hs1 (by intro h; have := Hm.out; rw [h] at this; simp at this; omega); have f0 := hcc 0 _ H0.out 0 _ rfl; simp only [Nat.zero_mul, Nat.add_zero] at f0; have HX1 := Lib.hid hs1; clear hcc hs1)
                refine wp_region_chain 95 [0, 1, 3, 7, 0, 16, 15, 127] [(0, none), (1, none), (2, none), (3, none), (4, none), (5, none), (6, none), (7, none)] (by kernel_rfl) (by kernel_rfl) (by rfl) ?_; simp only [chain, Obs, List.getElem?_toArray, List.getElem?_cons_zero, List.getElem?_cons_succ]
                go_wp2_with (with_reducible refine And.intro (by first | with_reducible exact True.intro | with_reducible rfl | go_simp) ?_)
                · exact absurd Hcn.out (by omega)
                · have hS0 : Sl encU 1 w1 (some ⟨r, off + 1, none⟩) rest := by rw [← Hrest.out]; exact HX1.out.dropV 1
                  refine NoPanic.normal ?_
                  have hF := heap_new w1 (.cells #[.int .i64 (-1), .slice none 0 0] 24)
                  have hbW := (hb1.alloc hb1.size (.cells #[.int .i64 (-1), .slice none 0 0] 24)).drew
                  have hSW : Sl encU 1 (w1.alloc (.cells #[.int .i64 (-1), .slice none 0 0] 24)).drew _ rest := hS0.below ((Below.refl _ _).alloc (Nat.le_refl _) _).drew
                  have HF := Lib.hid hF
                  have HSW := Lib.hid hSW
                  clear hF hSW hS0
                  go_wp2_with (first
                    | (go_at_call 62; refine (IY.out _ _ _ (by omega) HSW.out).mono ?_; rintro e w3 ⟨fa, fc, rfl, ho3, hb3⟩; have hF3 := heap_below (w := (w1.alloc (.cells #[.int .i64 (-1), .slice none 0 0] 24)).drew) HF.out hb3; obtain ⟨g0, g1, y0, y1, gl⟩ := blk2 hF3; have hnF : (Value.slice fa cnt fc).ownBlock ≠ some w1.heap.size := (fun e => by have := (ho3.lt _ e).1; simp at this; omega); have HI3 := Lib.hid (Sl.of_own (n := cnt) (c := fc) It.len (by rw [hLl]; exact own_set (u := .slice fa cnt fc) (i := 1) ho3 hnF)); have hb4 := Lib.hid ((hbW.trans (hb3.mono hbW.size)).setCell (p := ⟨w1.heap.size, 1, none⟩) hb1.size (.slice fa cnt fc)); clear hF3 ho3)
                    | (go_at_call 32; refine (HPut.out _ _ _ HI3.out).mono ?_; rintro e w7 ⟨rfl, hb7⟩))
                  go_ret2
                  exact ⟨none, 0, rfl, Sl.nil, Nat.le_refl _, hb4.out.trans (hb7.mono hb4.out.size)⟩
        · -- version 2
          have eT : elderT 2 x = (true, (x.drop 1).drop 2, readB ((x.drop 1).take 2) - 1) := by unfold elderT; rw [if_pos rfl]
          have eF : elderF 2 x = ⟨readB ((x.drop 1).take 2) - 1, itemsE true (((x.drop 1).drop 2).getD 0 0).toNat (((x.drop 1).drop 2).drop 1)⟩ := by unfold elderF; rw [eT]
          rw [eT, eF] at hR
          simp only at hR
          obtain ⟨m, hm⟩ : ∃ m, x.length = m := ⟨_, rfl⟩
          rw [hm] at HO
          by_cases hok : 3 ≤ m
          case neg =>
            have hno : ¬ elderOk 2 x := fun h => hok (by rw [← hm]; exact h.2 rfl)
            rw [if_pos hno] at hR
            subst hR
            have hok3 : ¬ (3 : Int) ≤ m := by omega
            have hd3 : decide ((3 : Int) ≤ m) = false := decide_eq_false hok3
            by_cases hok1 : 1 ≤ m
            · have hok2 : (1 : Int) ≤ m := by omega
              clear hno hok hBx hm hxl eT eF
              go_enter Tryz.func47, Tryz.ntmps47
              go_wp2_with (go_at_call 59; refine HO.out.mono ?_; rintro e w1 ⟨a1, c1, rfl, hs1, hc1, hb1⟩; have hbe := hb1.alloc hb1.size (.cells #[.int .i64 (-1), .slice none 0 0] 24))
              all_goals go_ret2
              all_goals exact ⟨none, 0, rfl, Sl.nil, Nat.le_refl _, hbe⟩
            · have hok2 : ¬ (1 : Int) ≤ m := by omega
              clear hno hok hBx hm hxl eT eF
              go_enter Tryz.func47, Tryz.ntmps47
              go_wp2_with (go_at_call 59; refine HO.out.mono ?_; rintro e w1 ⟨a1, c1, rfl, hs1, hc1, hb1⟩; have hbe := hb1.alloc hb1.size (.cells #[.int .i64 (-1), .slice none 0 0] 24))
              all_goals go_ret2
              all_goals exact ⟨none, 0, rfl, Sl.nil, Nat.le_refl _, hbe⟩
          case pos =>
            have hyes : elderOk 2 x := ⟨by rw [hm]; omega, fun h => by rw [hm]; exact hok⟩
            rw [if_neg (by simpa using hyes)] at hR
            have hok2 : (1 : Int) ≤ m := by omega
            have hok3 : (3 : Int) ≤ m := by omega
            obtain ⟨x0, hx0⟩ : ∃ z, x.getD 0 0 = z := ⟨_, rfl⟩
            have h0 : x[0]? = some x0 := by rw [← hx0, List.getD_eq_getElem?_getD, List.getElem?_eq_getElem (by omega)]; rfl
            have b0 := hBx x0 (List.mem_of_getElem? h0)
            unfold Byte at b0
            obtain ⟨rest, hrest⟩ : ∃ rest, (x.drop 1).drop 2 = rest := ⟨_, rfl⟩
            obtain ⟨cu, hcu⟩ : ∃ cu, readB ((x.drop 1).take 2) = cu := ⟨_, rfl⟩
            have hcb := read_bound (l := (x.drop 1).take 2) (fun y hy => hBx y (List.mem_of_mem_drop (List.mem_of_mem_take hy))) (by rw [List.length_take]; omega)
            have hl2 : ((x.drop 1).take 2).length = 2 := by rw [List.length_take, List.length_drop]; omega
            rw [hl2, hcu, show (256 : Int) ^ 2 = 65536 from by decide] at hcb
            have hcb0 := hcb.1
            have hcb1 := hcb.2
            have hrl : rest.length = m - 1 - 2 := by rw [← hrest, List.length_drop, List.length_drop, hm]
            have hBr : ∀ z ∈ rest, Byte z := fun z hz => hBx z (by rw [← hrest] at hz; exact List.mem_of_mem_drop (List.mem_of_mem_drop hz))
            rw [hx0, hrest, hcu] at hR
            have RQ := Lib.hid (fun W A C (hC : m - 1 ≤ C) (h : Sl encU 1 W A (x.drop 1)) => Read2 (x.drop 1) (m - 1) A C W (by rw [List.length_drop, hm]) (by omega) hC (fun y hy => hBx y (List.mem_of_mem_drop hy)) h (by omega))
            unfold ReadPost at RQ
            have H0 := Lib.hid h0
            have Hm := Lib.hid hm
            have Hcu := Lib.hid hcu
            have Hrest := Lib.hid hrest
            have hmx : m ≤ 1000000 := by omega
            by_cases hfit : fitsE true rest
            case neg =>
              rw [if_pos hfit] at hR
              subst hR
              have IN := Lib.hid (fun W A C (h : Sl encU 1 W A rest) => Items_no rest true (m - 1 - 2) A C W hrl (by omega) hBr h hfit)
              clear hyes hok hBx hm hxl eT eF h0 hrest hfit hBr hrl hx0 hcu hcb hl2
              go_enter Tryz.func47, Tryz.ntmps47
              go_wp2_with (go_at_call 59; refine HO.out.mono ?_; rintro e w1 ⟨a1, c1, rfl, hs1, hc1, hb1⟩; obtain ⟨r, off, rfl, hr, hcc⟩ := hs1 (by intro h; have := Hm.out; rw [h] at this; simp at this; omega); have f0 := hcc 0 _ H0.out 0 _ rfl; simp only [Nat.zero_mul, Nat.add_zero] at f0; have hc1n : ¬ c1 = 1 := (by omega); have HX1 := Lib.hid hs1; clear hcc hs1)
              refine wp_region_chain 95 [0, 1, 3, 7, 0, 16, 15, 127] [(0, none), (1, none), (2, none), (3, none), (4, none), (5, none), (6, none), (7, none)] (by kernel_rfl) (by kernel_rfl) (by rfl) ?_; simp only [chain, Obs, List.getElem?_toArray, List.getElem?_cons_zero, List.getElem?_cons_succ]
              go_wp2_with (with_reducible refine And.intro (by first | with_reducible exact True.intro | with_reducible rfl | go_simp) ?_)
              refine NoPanic.normal ?_
              have hF := heap_new w1 (.cells #[.int .i64 (-1), .slice none 0 0] 24)
              have hbW := (hb1.alloc hb1.size (.cells #[.int .i64 (-1), .slice none 0 0] 24)).drew
              have hbX := ((Below.refl w1.heap.size w1).alloc (Nat.le_refl _) (.cells #[.int .i64 (-1), .slice none 0 0] 24)).drew
              have HF := Lib.hid hF
              have HSW := Lib.hid ((HX1.out.dropV 1).below hbX)
              have HXr := Lib.hid ((HX1.out.dropV 1).cutU (c1 - 1) 2 (by rw [List.length_drop, Hm.out]; omega))
              rw [Hrest.out] at HXr
              clear hF
              go_wp2_with (first
                | (go_at_call 61; refine (RQ.out _ _ _ (by omega) HSW.out).mono ?_; rintro e w2 ⟨rfl, hb2⟩; have hF2 := heap_below (w := (w1.alloc (.cells #[.int .i64 (-1), .slice none 0 0] 24)).drew) HF.out hb2; obtain ⟨g0, g1, y0, y1, gl⟩ := blk2 hF2; have HF2 := Lib.hid (heap_set (i := 0) hF2 (.int .i64 (cu - 1))); have hbY := Lib.hid ((hbX.trans (hb2.mono hbX.size)).setCell (p := ⟨w1.heap.size, 0, none⟩) (Nat.le_refl _) (.int .i64 (cu - 1))); have hbZ := Lib.hid ((hbW.trans (hb2.mono hbW.size)).setCell (p := ⟨w1.heap.size, 0, none⟩) hb1.size (.int .i64 (cu - 1))); have HSr := Lib.hid (HXr.out.below hbY.out); rw [Hcu.out]; clear hF2)
                | (go_at_call 62; refine (IN.out _ _ _ HSr.out).mono ?_; rintro e w3 ⟨rfl, hb3⟩; have hF3 := heap_below HF2.out hb3; obtain ⟨g0, g1, y0, y1, gl⟩ := blk2 hF3; have hbe := (hbZ.out.trans (hb3.mono hbZ.out.size)).setCell (p := ⟨w1.heap.size, 1, none⟩) hb1.size (.slice none 0 0); clear hF3))
              all_goals go_ret2
              all_goals exact ⟨none, 0, rfl, Sl.nil, Nat.le_refl _, hbe⟩
            case pos =>
              rw [if_neg (by simpa using hfit)] at hR
              obtain ⟨cnt, hcn, hr0, hct⟩ := fits_cnt hrl hBr hfit
              rw [hct] at hR
              have hcn2 : m - 1 - 2 = 1 + 7 * cnt := hcn
              have IY := Lib.hid (fun W A C (hC : m - 1 - 2 ≤ C) (h : Sl encU 1 W A rest) => Items_yes rest (m - 1 - 2) cnt A C W hrl (by omega) hC hBr h hcn2 hr0)
              obtain ⟨L, hL⟩ : ∃ L, itemsE true cnt (rest.drop 1) = L := ⟨_, rfl⟩
              have hLl : L.length = cnt := by rw [← hL]; exact itemsE_length _ _ _
              rw [hL] at hR IY
              have hcm : cnt ≤ 1000000 := by omega
              have Hcn := Lib.hid hcn2
              by_cases hgd : goodC x0 ⟨cu - 1, L⟩ = true
              · rw [if_pos hgd] at hR
                have HPut := Lib.hid (fun W A C (h : Sl It.enc 3 W A L) => CodePut_ok x0 (cu - 1) L cnt A C W hLl h hgd)
                have HR := Lib.hid hR
                clear hyes hok hBx hm hxl eT eF h0 hrest hfit hBr hrl hx0 hcn hr0 hct hL hgd hR hcn2 hcu hcb hl2
                go_enter Tryz.func47, Tryz.ntmps47
                go_wp2_with (go_at_call 59; refine HO.out.mono ?_; rintro e w1 ⟨a1, c1, rfl, hs1, hc1, hb1⟩; obtain ⟨r, off, rfl, hr, hcc⟩ := hs1 (by intro h; have := Hm.out; rw [h] at this; simp at this; omega); have f0 := hcc 0 _ H0.out 0 _ rfl; simp only [Nat.zero_mul, Nat.add_zero] at f0; have hc1n : ¬ c1 = 1 := (by omega); have HX1 := Lib.hid hs1; clear hcc hs1)
                refine wp_region_chain 95 [0, 1, 3, 7, 0, 16, 15, 127] [(0, none), (1, none), (2, none), (3, none), (4, none), (5, none), (6, none), (7, none)] (by kernel_rfl) (by kernel_rfl) (by rfl) ?_; simp only [chain, Obs, List.getElem?_toArray, List.getElem?_cons_zero, List.getElem?_cons_succ]
                go_wp2_with (with_reducible refine And.intro (by first | with_reducible exact True.intro | with_reducible rfl | go_simp) ?_)
                refine NoPanic.normal ?_
                have hF := heap_new w1 (.cells #[.int .i64 (-1), .slice none 0 0] 24)
                have hbW := (hb1.alloc hb1.size (.cells #[.int .i64 (-1), .slice none 0 0] 24)).drew
                have hbX := ((Below.refl w1.heap.size w1).alloc (Nat.le_refl _) (.cells #[.int .i64 (-1), .slice none 0 0] 24)).drew
                have HF := Lib.hid hF
                have HSW := Lib.hid ((HX1.out.dropV 1).below hbX)
                have HXr := Lib.hid ((HX1.out.dropV 1).cutU (c1 - 1) 2 (by rw [List.length_drop, Hm.out]; omega))
                rw [Hrest.out] at HXr
                clear hF
                go_wp2_with (first
                  | (go_at_call 61; refine (RQ.out _ _ _ (by omega) HSW.out).mono ?_; rintro e w2 ⟨rfl, hb2⟩; have hF2 := heap_below (w := (w1.alloc (.cells #[.int .i64 (-1), .slice none 0 0] 24)).drew) HF.out hb2; obtain ⟨g0, g1, y0, y1, gl⟩ := blk2 hF2; have HF2 := Lib.hid (heap_set (i := 0) hF2 (.int .i64 (cu - 1))); have hbY := Lib.hid ((hbX.trans (hb2.mono hbX.size)).setCell (p := ⟨w1.heap.size, 0, none⟩) (Nat.le_refl _) (.int .i64 (cu - 1))); have hbZ := Lib.hid ((hbW.trans (hb2.mono hbW.size)).setCell (p := ⟨w1.heap.size, 0, none⟩) hb1.size (.int .i64 (cu - 1))); have HSr := Lib.hid (HXr.out.below hbY.out); rw [Hcu.out]; clear hF2)
                  | (go_at_call 62; refine (IY.out _ _ _ (by omega) HSr.out).mono ?_; rintro e w3 ⟨fa, fc, rfl, ho3, hb3⟩; have hF3 := heap_below HF2.out hb3; obtain ⟨g0, g1, y0, y1, gl⟩ := blk2 hF3; have hnF : (Value.slice fa cnt fc).ownBlock ≠ some w1.heap.size := (fun e => by have := (ho3.lt _ e).1; have := hbY.out.size; have := (Array.getElem?_eq_some_iff.1 HF2.out).1; omega); have HI3 := Lib.hid (Sl.of_own (n := cnt) (c := fc) It.len (by rw [hLl]; exact own_set (u := .slice fa cnt fc) (i := 1) ho3 hnF)); have hb4 := Lib.hid ((hbZ.out.trans (hb3.mono hbZ.out.size)).setCell (p := ⟨w1.heap.size, 1, none⟩) hb1.size (.slice fa cnt fc)); clear hF3 ho3)
                  | (go_at_call 32; refine (HPut.out _ _ _ HI3.out).mono ?_; rintro e w7 ⟨a7, k7, rfl, ho7, hb7⟩; have Ho7 := Lib.hid ho7; clear ho7))
                go_ret2
                rw [← HR.out]
                exact ⟨a7, k7, rfl, own_sl Ho7.out, own_cap Ho7.out, hb4.out.trans (hb7.mono hb4.out.size)⟩
              · rw [if_neg hgd] at hR
                subst hR
                have hgf : goodC x0 ⟨cu - 1, L⟩ = false := by simpa using hgd
                have HPut := Lib.hid (fun W A C (h : Sl It.enc 3 W A L) => CodePut_err x0 (cu - 1) L cnt A C W hLl (by omega) h hgf)
                clear hyes hok hBx hm hxl eT eF h0 hrest hfit hBr hrl hx0 hcn hr0 hct hL hgd hgf hcn2 hcu hcb hl2
                go_enter Tryz.func47, Tryz.ntmps47
                go_wp2_with (go_at_call 59; refine HO.out.mono ?_; rintro e w1 ⟨a1, c1, rfl, hs1, hc1, hb1⟩; obtain ⟨r, off, rfl, hr, hcc⟩ := hs1 (by intro h; have := Hm.out; rw [h] at this; simp at this; omega); have f0 := hcc 0 _ H0.out 0 _ rfl; simp only [Nat.zero_mul, Nat.add_zero] at f0; have hc1n : ¬ c1 = 1 := (by omega); have HX1 := Lib.hid hs1; clear hcc hs1)
                refine wp_region_chain 95 [0, 1, 3, 7, 0, 16, 15, 127] [(0, none), (1, none), (2, none), (3, none), (4, none), (5, none), (6, none), (7, none)] (by kernel_rfl) (by kernel_rfl) (by rfl) ?_; simp only [chain, Obs, List.getElem?_toArray, List.getElem?_cons_zero, List.getElem?_cons_succ]
                go_wp2_with (with_reducible refine And.intro (by first | with_reducible exact True.intro | with_reducible rfl | go_simp) ?_)
                refine NoPanic.normal ?_
                have hF := heap_new w1 (.cells #[.int .i64 (-1), .slice none 0 0] 24)
                have hbW := (hb1.alloc hb1.size (.cells #[.int .i64 (-1), .slice none 0 0] 24)).drew
                have hbX := ((Below.refl w1.heap.size w1).alloc (Nat.le_refl _) (.cells #[.int .i64 (-1), .slice none 0 0] 24)).drew
                have HF := Lib.hid hF
                have HSW := Lib.hid ((HX1.out.dropV 1).below hbX)
                have HXr := Lib.hid ((HX1.out.dropV 1).cutU (c1 - 1) 2 (by rw [List.length_drop, Hm.out]; omega))
                rw [Hrest.out] at HXr
                clear hF
                go_wp2_with (first
                  | (go_at_call 61; refine (RQ.out _ _ _ (by omega) HSW.out).mono ?_; rintro e w2 ⟨rfl, hb2⟩; have hF2 := heap_below (w := (w1.alloc (.cells #[.int .i64 (-1), .slice none 0 0] 24)).drew) HF.out hb2; obtain ⟨g0, g1, y0, y1, gl⟩ := blk2 hF2; have HF2 := Lib.hid (heap_set (i := 0) hF2 (.int .i64 (cu - 1))); have hbY := Lib.hid ((hbX.trans (hb2.mono hbX.size)).setCell (p := ⟨w1.heap.size, 0, none⟩) (Nat.le_refl _) (.int .i64 (cu - 1))); have hbZ := Lib.hid ((hbW.trans (hb2.mono hbW.size)).setCell (p := ⟨w1.heap.size, 0, none⟩) hb1.size (.int .i64 (cu - 1))); have HSr := Lib.hid (HXr.out.below hbY.out); rw [Hcu.out]; clear hF2)
                  | (go_at_call 62; refine (IY.out _ _ _ (by omega) HSr.out).mono ?_; rintro e w3 ⟨fa, fc, rfl, ho3, hb3⟩; have hF3 := heap_below HF2.out hb3; obtain ⟨g0, g1, y0, y1, gl⟩ := blk2 hF3; have hnF : (Value.slice fa cnt fc).ownBlock ≠ some w1.heap.size := (fun e => by have := (ho3.lt _ e).1; have := hbY.out.size; have := (Array.getElem?_eq_some_iff.1 HF2.out).1; omega); have HI3 := Lib.hid (Sl.of_own (n := cnt) (c := fc) It.len (by rw [hLl]; exact own_set (u := .slice fa cnt fc) (i := 1) ho3 hnF)); have hb4 := Lib.hid ((hbZ.out.trans (hb3.mono hbZ.out.size)).setCell (p := ⟨w1.heap.size, 1, none⟩) hb1.size (.slice fa cnt fc)); clear hF3 ho3)
                  | (go_at_call 32; refine (HPut.out _ _ _ HI3.out).mono ?_; rintro e w7 ⟨rfl, hb7⟩))
                go_ret2
                exact ⟨none, 0, rfl, Sl.nil, Nat.le_refl _, hb4.out.trans (hb7.mono hb4.out.size)⟩

theorem putB_len {tag : Int} {f : Fm} (h : goodC tag f = true) : (putB tag f).length ≤ 1000 := by
  unfold goodC at h
  rw [Bool.and_eq_true, decide_eq_true_eq] at h
  have hp := (goodF_P h.2).1
  unfold putB formB
  rw [sealP_length]
  simp only [List.length_append, List.length_cons, List.length_nil, numB_length, flatB_length]
  omega
theorem upB_len {b : List Int} (hl : b.length ≤ 1000000) : (upB b).1.length ≤ 1000000 := by
  unfold upB
  split
  · simp
  · split
    · split
      · simp
      · exact hl
    · split
      · simp
      · split
        · simp
        · split
          · simp
          · split
            · rename_i h; have := putB_len h; simp only; omega
            · simp

set_option maxHeartbeats 1600000 in
set_option maxRecDepth 100000 in
theorem ElderRead (l : List Int) (n : Nat) (a : Option Addr) (c : Nat) (w : World) (hn : l.length = n) (hl : n ≤ 1000000) (hc : n ≤ c) (hB : ∀ x ∈ l, Byte x) (hs : Sl encU 1 w a l) {R : Int × Fm × Int} (hR : readE l = R) :
    Calls Tryz.prog 33 #[.slice a n c] w (GetPost R w) := by
  have hU := Up_any l n a c (w.alloc (.cells #[.int .i64 0, .slice none 0 0] 24)) hn hl hc hB (hs.below ((Below.refl _ _).alloc (Nat.le_refl _) _)) (R := upB l) rfl
  have hT := heap_new w (.cells #[.int .i64 0, .slice none 0 0] 24)
  unfold readE at hR
  by_cases h1 : (upB l).2 = 0
  case neg =>
    rw [if_pos h1] at hR
    subst hR
    generalize upB l = U at *
    obtain ⟨u, er⟩ := U
    have h1b : (er != 0) = true := by simpa using h1
    have HU := Lib.hid hU
    have HT := Lib.hid hT
    clear hU hT hs hB hn h1
    go_enter Tryz.func33, Tryz.ntmps33
    go_wp2_with (go_at_call 47; refine HU.out.mono ?_; rintro e w1 ⟨a1, c1, rfl, hs1, hc1, hb1⟩; have hh := heap_below HT.out hb1; obtain ⟨g0, g1, y0, y1, gl⟩ := blk2 hh; have Hh := Lib.hid hh; clear hh)
    refine bodyPost_ret (res_tct _ _ w.heap.size 24 #[.int .i64 0, .slice none 0 0] (0, 0) _ rfl rfl (heap_set (heap_set Hh.out _) _) Tryz.underlying24 rfl (by kernel_rfl)) rfl ⟨none, 0, rfl, World.ownsRow_nil _ _ _ _, ?_⟩
    exact ((((Below.refl _ _).alloc (Nat.le_refl _) _).trans (hb1.mono (by simp))).setCell (by simp) _).setCell (by simp) _
  case pos =>
    rw [if_neg (by simpa using h1)] at hR
    have hBu := upB_byte hB h1
    have hul := upB_len (b := l) (by omega)
    generalize upB l = U at *
    obtain ⟨u, er⟩ := U
    simp only at h1 hR hBu hul
    subst h1
    have HG := Lib.hid (fun W A C (hC : u.length ≤ C) (h : Sl encU 1 W A u) => Get_any u u.length A C W rfl (by omega) hC hBu h hR)
    have HU := Lib.hid hU
    have HT := Lib.hid hT
    clear hU hT hs hB hn hBu hul hR
    go_enter Tryz.func33, Tryz.ntmps33
    go_wp2_with (first
      | (go_at_call 47; refine HU.out.mono ?_; rintro e w1 ⟨a1, c1, rfl, hs1, hc1, hb1⟩; have hh := heap_below HT.out hb1; have Hh := Lib.hid hh; have Hs1 := Lib.hid hs1; clear hh hs1)
      | (go_at_call 48; refine (HG.out _ _ _ hc1 Hs1.out).mono ?_; rintro e w2 ⟨fa, fc, rfl, hs2, hb2⟩; have hh := heap_below Hh.out hb2; obtain ⟨g0, g1, y0, y1, gl⟩ := blk2 hh; have Hh2 := Lib.hid hh; have Hs2 := Lib.hid hs2; clear hh hs2))
    refine bodyPost_ret (res_tct _ _ w.heap.size 24 #[.int .i64 R.2.1.cur, .slice fa R.2.1.l.length fc] (0, 0) _ rfl rfl (heap_set (heap_set Hh2.out _) _) Tryz.underlying24 rfl (by kernel_rfl)) rfl ⟨fa, fc, rfl, ?_, ?_⟩
    · have hn2 : (Value.slice fa R.2.1.l.length fc).ownBlock ≠ some w.heap.size := fun e => by have := (Hs2.out.lt _ e).1; have := hb1.size; simp at this; omega
      exact own_base (own_set (own_set Hs2.out hn2) hn2) (by have := hb1.size; simp at this; omega)
    · exact ((((Below.refl _ _).alloc (Nat.le_refl _) _).trans ((hb1.mono (by simp)).trans (hb2.mono (by have := hb1.size; simp at this; omega)))).setCell (by simp) _).setCell (by simp) _
end Go.Proofs.YtpdfkomhgeckcaaGreat
