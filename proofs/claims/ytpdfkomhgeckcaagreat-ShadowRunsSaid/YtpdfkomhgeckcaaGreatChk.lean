/- Package check: nothing is wrong with a form that may be, nor with one that is as wanted. -/
import Derived.Test.YtpdfkomhgeckcaaGreatFind
import Derived.Test.YtpdfkomhgeckcaaGreatR
namespace Go.Proofs.YtpdfkomhgeckcaaGreat
open Go.RowKit
set_option linter.unusedVariables false
set_option linter.unusedSimpArgs false

theorem WeightGood (x : Int) (w : World) (h1 : 1 ≤ x) (h2 : x ≤ 20) : Calls Tryz.prog 49 #[.int .i64 x] w fun e w' => e = .returned (.bool true) ∧ w = w' := by
  go_enter Tryz.func49, Tryz.ntmps49
  go_wp2_with fail
  all_goals go_ret
  all_goals exact ⟨rfl, rfl⟩

/-- All so far owe. -/
def aheadTo (l : List It) (k : Nat) : Bool := decide (0 < l.length) && (l.take k).all fun x => decide (x.lag < 0)
theorem aheadTo_succ {l : List It} {k : Nat} {x : It} (hx : l[k]? = some x) : aheadTo l (k + 1) = (aheadTo l k && decide (x.lag < 0)) := by
  unfold aheadTo
  obtain ⟨h, rfl⟩ := List.getElem?_eq_some_iff.1 hx
  rw [List.take_succ_eq_append_getElem h, List.all_append]
  simp [Bool.and_assoc]
theorem aheadTo_all {l : List It} (h : l = [] ∨ ∃ x ∈ l, 0 ≤ x.lag) : aheadTo l l.length = false := by
  unfold aheadTo
  rcases h with rfl | ⟨x, hx, h0⟩
  · rfl
  · rw [List.take_length]
    have : (l.all fun x => decide (x.lag < 0)) = false := by
      rw [List.all_eq_false]
      exact ⟨x, hx, by simp; omega⟩
    rw [this, Bool.and_false]

theorem blk8 {w : World} {g : Nat} {a0 a1 a2 a3 a4 a5 a6 a7 : Value} {T : TypeId} (h : w.heap[g]? = some (.cells #[a0, a1, a2, a3, a4, a5, a6, a7] T (0, 0))) :
    (w.cell? ⟨g, 0, none⟩ = some a0 ∧ w.cell? ⟨g, 1, none⟩ = some a1 ∧ w.cell? ⟨g, 2, none⟩ = some a2 ∧ w.cell? ⟨g, 3, none⟩ = some a3) ∧ w.cell? ⟨g, 4, none⟩ = some a4 ∧ w.cell? ⟨g, 5, none⟩ = some a5 ∧ w.cell? ⟨g, 6, none⟩ = some a6 ∧ w.cell? ⟨g, 7, none⟩ = some a7 := by
  simp [World.cell?, h]

set_option maxHeartbeats 3200000 in
set_option maxRecDepth 100000 in
theorem ChkForm (cur : Int) (l : List It) (n : Nat) (a : Option Addr) (c : Nat) (w : World) (hn : l.length = n) (hs : Sl It.enc 3 w a l) (hg : GoodP ⟨cur, l⟩) :
    Calls Tryz.prog 34 #[.agg #[.int .i64 cur, .slice a n c]] w fun e w' => e = .returned (.slice none 0 0) ∧ Below w.heap.size w w' := by
  obtain ⟨h64, hcur, hmay, hasc, hsome⟩ := hg
  simp only at h64 hcur hmay hasc hsome
  rw [hn] at h64
  have HS := Lib.hid hs
  have Hn := Lib.hid hn
  have Hm := Lib.hid hmay
  have Ha := Lib.hid hasc
  have ha0 : (decide ((0 : Int) < n)) = aheadTo l 0 := by
    unfold aheadTo; simp; rw [hn]
  have HA0 := Lib.hid ha0
  have HA1 := Lib.hid (aheadTo_all hsome)
  have Hc := Lib.hid hcur
  have hbox := heap_new w (.cells #[.int .i64 cur, .slice a n c] 24)
  have HB := Lib.hid hbox
  clear hs hn hmay hasc ha0 hsome hcur hbox
  go_enter Tryz.func34, Tryz.ntmps34
  go_wp2_with fail
  have hz1 : (decide (0 < n)) = aheadTo l 0 := by rw [← HA0.out]; simp
  generalize decide (0 < n) = z0 at hz1 ⊢
  have HZ := Lib.hid hz1
  clear hz1 HA0
  go_loopw [3, 4, 18] (fun s t i wr => ∃ k : Nat, k ≤ n ∧ s = .slice none 0 0 ∧ t = .bool (aheadTo l k) ∧ i = .int .i64 k ∧ wr.heap[w.heap.size]? = some (.cells #[.int .i64 cur, .slice a n c] 24 (0, 0)) ∧ Below w.heap.size w wr) (fun _ _ i _ => n - (intOf i).toNat)
  case atStart => exact ⟨0, Nat.zero_le _, rfl, by rw [HZ.out], rfl, HB.out, (Below.refl _ _).alloc (Nat.le_refl _) _⟩
  case round =>
    obtain ⟨k, hk, rfl, rfl, rfl, hX, hb⟩ := hrel
    have hsz := hb.size
    obtain ⟨g0, g1, y0, y1, gl⟩ := blk2 hX
    have HX := Lib.hid hX
    clear hX
    by_cases hlt : k < n
    · obtain ⟨r, off, rfl, hr, hcc⟩ := HS.out (by intro h; have h1 := Hn.out; rw [h] at h1; simp at h1; omega)
      obtain ⟨x, hx⟩ : ∃ x, l[k]? = some x := ⟨_, List.getElem?_eq_getElem (by rw [Hn.out]; exact hlt)⟩
      have e0 := (hb.cell (p := ⟨r, off + k * 3 + 0, none⟩) hr).trans (hcc k x hx 0 _ rfl)
      have e1 := (hb.cell (p := ⟨r, off + k * 3 + 1, none⟩) hr).trans (hcc k x hx 1 _ rfl)
      have e2 := (hb.cell (p := ⟨r, off + k * 3 + 2, none⟩) hr).trans (hcc k x hx 2 _ rfl)
      simp only [Nat.add_zero] at e0
      have hxm := mayB_true (Hm.out x (List.mem_of_getElem? hx))
      have m1 : ¬ x.id < 0 := by omega
      have m2 : ¬ 1073741824 < x.id := by omega
      have m3 : 1 ≤ x.w := by omega
      have m4 : x.w ≤ 20 := by omega
      have m5 : ¬ x.lag < -1125899906842624 := by omega
      have m6 : ¬ 1125899906842624 < x.lag := by omega
      have d1 : decide (x.id < 0) = false := decide_eq_false m1
      have d2 : decide (1073741824 < x.id) = false := decide_eq_false m2
      have d5 : decide (x.lag < -1125899906842624) = false := decide_eq_false m5
      have d6 : decide (1125899906842624 < x.lag) = false := decide_eq_false m6
      have hrw : r ≠ wr.heap.size := by omega
      have HI := Lib.hid (heap_new wr (.cells #[.int .i64 x.id, .int .i64 x.w, .int .i64 x.lag] 68))
      have HAn := Lib.hid (aheadTo_succ hx)
      cases k with
      | zero =>
        simp only [Nat.zero_mul, Nat.add_zero] at e0 e1 e2
        clear hcc hx hxm
        go_wp2_with fail
        refine wp_region_chain 123 [0, 1, 3, 7, 15, 31, 63, 127, 255, 0, 512, 1551, 3599, 7695, 3599, 19983, 3599, 69135, 200207, 511503, 1035791, 2084367, 4193807, 8388111, 16776719, 0, 33554432, 100666895, 234884623, 503320079, 0, 1073741824, 3221225472, 7751077391, 16341011983, 33520881167, 67880619535, 136600096271, 274039049743, 549755813887, 1099511627775, 0] [(0, none), (1, none), (2, none), (3, none), (4, none), (5, none), (6, none), (7, none), (8, none), (9, none), (10, none), (11, none), (12, none), (13, none), (14, none), (15, none), (16, none), (17, none), (18, none), (19, none), (20, none), (21, none), (22, none), (23, none), (24, none), (25, none), (26, none), (30, none), (31, none), (32, none), (41, none), (27, some [4, 5, 6, 7, 8, 12, 13, 14, 15, 16, 17, 18, 19, 20, 21, 22, 23, 24, 30, 31, 32, 41]), (28, none), (29, none), (33, none), (34, none), (35, none), (36, none), (37, none), (38, none), (39, some [41]), (40, none)] (by kernel_rfl) (by kernel_rfl) (by rfl) ?_; simp only [chain, Obs, List.getElem?_toArray, List.getElem?_cons_zero, List.getElem?_cons_succ]
        go_wp2_with (first
          | (with_reducible refine And.intro (by first | with_reducible exact True.intro | with_reducible rfl | go_simp) ?_)
          | (go_at_call 49; refine (WeightGood _ _ m3 m4).mono ?_; rintro e w3 ⟨rfl, rfl⟩))
        refine NoPanic.normal ?_
        have hI2 := heap_alloc HI.out (.cells #[.int .i64 1, .bool false, .int .i64 2, .bool false, .int .i64 3, .bool false, .int .i64 4, .bool false] 103)
        have hV2 : ((wr.alloc (.cells #[.int .i64 x.id, .int .i64 x.w, .int .i64 x.lag] 68)).alloc (.cells #[.int .i64 1, .bool false, .int .i64 2, .bool false, .int .i64 3, .bool false, .int .i64 4, .bool false] 103)).heap[wr.heap.size + 1]? = some (.cells #[.int .i64 1, .bool false, .int .i64 2, .bool false, .int .i64 3, .bool false, .int .i64 4, .bool false] 103) := heap_at (by simp) _
        have hb2 := ((hb.alloc hsz (.cells #[.int .i64 x.id, .int .i64 x.w, .int .i64 x.lag] 68)).alloc (by simp; omega) (.cells #[.int .i64 1, .bool false, .int .i64 2, .bool false, .int .i64 3, .bool false, .int .i64 4, .bool false] 103)).drew
        have hX2 := heap_alloc (heap_alloc HX.out (.cells #[.int .i64 x.id, .int .i64 x.w, .int .i64 x.lag] 68)) (.cells #[.int .i64 1, .bool false, .int .i64 2, .bool false, .int .i64 3, .bool false, .int .i64 4, .bool false] 103)
        have HI2 := Lib.hid hI2
        have HV2 := Lib.hid hV2
        have HX2 := Lib.hid hX2
        have HB2 := Lib.hid hb2
        clear hI2 hV2 hb2 hX2
        go_wp2_with fail
        go_loopw [3, 64] (fun s i w3 => ∃ j' : Nat, j' ≤ 4 ∧ s = .slice none 0 0 ∧ i = .int .i64 j' ∧ w3.heap[wr.heap.size]? = some (.cells #[.int .i64 x.id, .int .i64 x.w, .int .i64 x.lag] 68 (0, 0)) ∧ w3.heap[wr.heap.size + 1]? = some (.cells #[.int .i64 1, .bool false, .int .i64 2, .bool false, .int .i64 3, .bool false, .int .i64 4, .bool false] 103 (0, 0)) ∧ w3.heap[w.heap.size]? = some (.cells #[.int .i64 cur, .slice (some ⟨r, off, none⟩) n c] 24 (0, 0)) ∧ Below w.heap.size w w3) (fun _ i _ => 4 - (intOf i).toNat)
        case atStart => exact ⟨0, by omega, rfl, rfl, HI2.out, HV2.out, HX2.out, HB2.out⟩
        case round =>
          obtain ⟨j', hj', rfl, rfl, hI3, hV3, hX3, hb3⟩ := hrel
          have hs3 := hb3.size
          obtain ⟨p0, p1, p2, q0, q1, q2, pl⟩ := blk3 hI3
          obtain ⟨⟨v0, v1, v2, v3⟩, v4, v5, v6, v7⟩ := blk8 hV3
          have hvl := (Array.getElem?_eq_some_iff.1 hV3).1
          have KI := Lib.hid hI3
          have KV := Lib.hid hV3
          have KX := Lib.hid hX3
          clear hI3 hV3 hX3
          by_cases hj4 : j' < 4
          · have hcs : j' = 0 ∨ j' = 1 ∨ j' = 2 ∨ j' = 3 := by omega
            rcases hcs with rfl | rfl | rfl | rfl
            all_goals go_wp2_with fail
            all_goals go_roundw
            all_goals first
              | exact ⟨1, by omega, rfl, rfl, heap_alloc KI.out _, heap_alloc KV.out _, heap_alloc KX.out _, hb3.alloc hs3 _⟩
              | exact ⟨2, by omega, rfl, rfl, heap_alloc KI.out _, heap_alloc KV.out _, heap_alloc KX.out _, hb3.alloc hs3 _⟩
              | exact ⟨3, by omega, rfl, rfl, heap_alloc KI.out _, heap_alloc KV.out _, heap_alloc KX.out _, hb3.alloc hs3 _⟩
              | exact ⟨4, by omega, rfl, rfl, heap_alloc KI.out _, heap_alloc KV.out _, heap_alloc KX.out _, hb3.alloc hs3 _⟩
              | (simp [intOf]; try omega)
          · obtain rfl : j' = 4 := by omega
            have HAo := HAn.out
            generalize aheadTo l 0 = p at HAo ⊢
            by_cases hlg : x.lag < 0
            · rw [decide_eq_true hlg, Bool.and_true] at HAo
              cases p
              all_goals go_wp2_with fail
              all_goals go_roundw
              all_goals first
                | (refine ⟨0 + 1, by omega, rfl, by rw [HAo], by go_num, KX.out, hb3⟩)
                | (simp [intOf]; try omega)
            · rw [decide_eq_false hlg, Bool.and_false] at HAo
              have dlg : decide (x.lag < 0) = false := decide_eq_false hlg
              cases p
              all_goals go_wp2_with fail
              all_goals go_roundw
              all_goals first
                | (refine ⟨0 + 1, by omega, rfl, by rw [HAo], by go_num, KX.out, hb3⟩)
                | (simp [intOf]; try omega)
      | succ j =>
        obtain ⟨y, hy⟩ : ∃ y, l[j]? = some y := ⟨_, List.getElem?_eq_getElem (by rw [Hn.out]; omega)⟩
        have f0 := (hb.cell (p := ⟨r, off + j * 3 + 0, none⟩) hr).trans (hcc j y hy 0 _ rfl)
        simp only [Nat.add_zero] at f0
        have m7 : ¬ x.id ≤ y.id := by
          have h1 := List.getElem?_eq_some_iff.1 hx
          have h2 := List.getElem?_eq_some_iff.1 hy
          have := List.pairwise_iff_getElem.1 Ha.out j (j + 1) h2.1 h1.1 (by omega)
          rw [h1.2, h2.2] at this
          omega
        have hrl : r < wr.heap.size := by omega
        have hnj : ¬ n ≤ j := by omega
        have hwj : IntKind.i64.wrap (j : Int) = j := by simp [IntKind.wrap, IntKind.bits, IntKind.signed]; omega
        have f1 : (wr.alloc (.cells #[.int .i64 x.id, .int .i64 x.w, .int .i64 x.lag] 68)).cell? ⟨r, off + j * 3, none⟩ = some (.int .i64 y.id) := by rw [World.cell?_alloc_past _ _ _ hrl]; exact f0
        have d7 : decide (x.id ≤ y.id) = false := decide_eq_false m7
        clear hcc hx hxm hy
        go_wp2_with fail
        refine wp_region_chain 123 [0, 1, 3, 7, 15, 31, 63, 127, 255, 0, 512, 1551, 3599, 7695, 3599, 19983, 3599, 69135, 200207, 511503, 1035791, 2084367, 4193807, 8388111, 16776719, 0, 33554432, 100666895, 234884623, 503320079, 0, 1073741824, 3221225472, 7751077391, 16341011983, 33520881167, 67880619535, 136600096271, 274039049743, 549755813887, 1099511627775, 0] [(0, none), (1, none), (2, none), (3, none), (4, none), (5, none), (6, none), (7, none), (8, none), (9, none), (10, none), (11, none), (12, none), (13, none), (14, none), (15, none), (16, none), (17, none), (18, none), (19, none), (20, none), (21, none), (22, none), (23, none), (24, none), (25, none), (26, none), (30, none), (31, none), (32, none), (41, none), (27, some [4, 5, 6, 7, 8, 12, 13, 14, 15, 16, 17, 18, 19, 20, 21, 22, 23, 24, 30, 31, 32, 41]), (28, none), (29, none), (33, none), (34, none), (35, none), (36, none), (37, none), (38, none), (39, some [41]), (40, none)] (by kernel_rfl) (by kernel_rfl) (by rfl) ?_; simp only [chain, Obs, List.getElem?_toArray, List.getElem?_cons_zero, List.getElem?_cons_succ]
        go_wp2_with (first
          | (with_reducible refine And.intro (by first | with_reducible exact True.intro | with_reducible rfl | go_simp) ?_)
          | (go_at_call 49; refine (WeightGood _ _ m3 m4).mono ?_; rintro e w3 ⟨rfl, rfl⟩))
        refine NoPanic.normal ?_
        have hI2 := heap_alloc HI.out (.cells #[.int .i64 1, .bool false, .int .i64 2, .bool false, .int .i64 3, .bool false, .int .i64 4, .bool false] 103)
        have hV2 : ((wr.alloc (.cells #[.int .i64 x.id, .int .i64 x.w, .int .i64 x.lag] 68)).alloc (.cells #[.int .i64 1, .bool false, .int .i64 2, .bool false, .int .i64 3, .bool false, .int .i64 4, .bool false] 103)).heap[wr.heap.size + 1]? = some (.cells #[.int .i64 1, .bool false, .int .i64 2, .bool false, .int .i64 3, .bool false, .int .i64 4, .bool false] 103) := heap_at (by simp) _
        have hb2 := ((hb.alloc hsz (.cells #[.int .i64 x.id, .int .i64 x.w, .int .i64 x.lag] 68)).alloc (by simp; omega) (.cells #[.int .i64 1, .bool false, .int .i64 2, .bool false, .int .i64 3, .bool false, .int .i64 4, .bool false] 103)).drew
        have hX2 := heap_alloc (heap_alloc HX.out (.cells #[.int .i64 x.id, .int .i64 x.w, .int .i64 x.lag] 68)) (.cells #[.int .i64 1, .bool false, .int .i64 2, .bool false, .int .i64 3, .bool false, .int .i64 4, .bool false] 103)
        have HI2 := Lib.hid hI2
        have HV2 := Lib.hid hV2
        have HX2 := Lib.hid hX2
        have HB2 := Lib.hid hb2
        clear hI2 hV2 hb2 hX2
        go_wp2_with fail
        go_loopw [3, 64] (fun s i w3 => ∃ j' : Nat, j' ≤ 4 ∧ s = .slice none 0 0 ∧ i = .int .i64 j' ∧ w3.heap[wr.heap.size]? = some (.cells #[.int .i64 x.id, .int .i64 x.w, .int .i64 x.lag] 68 (0, 0)) ∧ w3.heap[wr.heap.size + 1]? = some (.cells #[.int .i64 1, .bool false, .int .i64 2, .bool false, .int .i64 3, .bool false, .int .i64 4, .bool false] 103 (0, 0)) ∧ w3.heap[w.heap.size]? = some (.cells #[.int .i64 cur, .slice (some ⟨r, off, none⟩) n c] 24 (0, 0)) ∧ Below w.heap.size w w3) (fun _ i _ => 4 - (intOf i).toNat)
        case atStart => exact ⟨0, by omega, rfl, rfl, HI2.out, HV2.out, HX2.out, HB2.out⟩
        case round =>
          obtain ⟨j', hj', rfl, rfl, hI3, hV3, hX3, hb3⟩ := hrel
          have hs3 := hb3.size
          obtain ⟨p0, p1, p2, q0, q1, q2, pl⟩ := blk3 hI3
          obtain ⟨⟨v0, v1, v2, v3⟩, v4, v5, v6, v7⟩ := blk8 hV3
          have hvl := (Array.getElem?_eq_some_iff.1 hV3).1
          have KI := Lib.hid hI3
          have KV := Lib.hid hV3
          have KX := Lib.hid hX3
          clear hI3 hV3 hX3
          by_cases hj4 : j' < 4
          · have hcs : j' = 0 ∨ j' = 1 ∨ j' = 2 ∨ j' = 3 := by omega
            rcases hcs with rfl | rfl | rfl | rfl
            all_goals go_wp2_with fail
            all_goals go_roundw
            all_goals first
              | exact ⟨1, by omega, rfl, rfl, heap_alloc KI.out _, heap_alloc KV.out _, heap_alloc KX.out _, hb3.alloc hs3 _⟩
              | exact ⟨2, by omega, rfl, rfl, heap_alloc KI.out _, heap_alloc KV.out _, heap_alloc KX.out _, hb3.alloc hs3 _⟩
              | exact ⟨3, by omega, rfl, rfl, heap_alloc KI.out _, heap_alloc KV.out _, heap_alloc KX.out _, hb3.alloc hs3 _⟩
              | exact ⟨4, by omega, rfl, rfl, heap_alloc KI.out _, heap_alloc KV.out _, heap_alloc KX.out _, hb3.alloc hs3 _⟩
              | (simp [intOf]; try omega)
          · obtain rfl : j' = 4 := by omega
            have HAo := HAn.out
            generalize aheadTo l (j + 1) = p at HAo ⊢
            by_cases hlg : x.lag < 0
            · rw [decide_eq_true hlg, Bool.and_true] at HAo
              cases p
              all_goals go_wp2_with fail
              all_goals go_roundw
              all_goals first
                | (refine ⟨(j + 1) + 1, by omega, rfl, by rw [HAo], by go_num, KX.out, hb3⟩)
                | (simp [intOf]; try omega)
            · rw [decide_eq_false hlg, Bool.and_false] at HAo
              have dlg : decide (x.lag < 0) = false := decide_eq_false hlg
              cases p
              all_goals go_wp2_with fail
              all_goals go_roundw
              all_goals first
                | (refine ⟨(j + 1) + 1, by omega, rfl, by rw [HAo], by go_num, KX.out, hb3⟩)
                | (simp [intOf]; try omega)
    · obtain rfl : k = n := by omega
      have ha1 : aheadTo l k = false := by have := HA1.out; rw [Hn.out] at this; exact this
      rw [ha1]
      have h64i : ¬ (64 : Int) < k := by omega
      rcases Hc.out with hc | ⟨x, hx, hc⟩
      · subst hc
        have hfi : fi (isIt (-1)) l = -1 := fi_neg fun y hy => by
          have := mayB_true (Hm.out y hy)
          simp [isIt]; omega
        have HF := Lib.hid (FindF_none (-1) (-1) l k a c wr Hn.out (by omega) (HS.out.below hb) hfi)
        clear hfi
        go_wp2_with (go_at_call 35; refine HF.out.mono ?_; rintro e w3 ⟨rfl, hb3⟩; have hX3 := heap_below HX.out hb3; obtain ⟨g0, g1, y0, y1, gl⟩ := blk2 hX3; have hbz := hb.trans (hb3.mono hsz); clear hX3)
        go_ret
        exact ⟨rfl, hbz.alloc hbz.size _⟩
      · obtain ⟨j, hj⟩ := List.mem_iff_getElem?.1 hx
        rcases fi_cases (isIt cur) l with ⟨h1, h2⟩ | ⟨j2, z, h1, _, h3, _, _⟩
        · exact absurd (h2 x hx) (by simp [isIt, hc])
        · have HF := Lib.hid (FindF_some cur cur l k a c wr Hn.out (by omega) (HS.out.below hb) j2 z h1 h3)
          clear hx hc hj h1 h3
          go_wp2_with (go_at_call 35; refine HF.out.mono ?_; rintro e w3 ⟨rfl, hb3⟩; have hX3 := heap_below HX.out hb3; obtain ⟨g0, g1, y0, y1, gl⟩ := blk2 hX3; have hbz := hb.trans (hb3.mono hsz); clear hX3)
          go_ret
          exact ⟨rfl, hbz.alloc hbz.size _⟩
end Go.Proofs.YtpdfkomhgeckcaaGreat
