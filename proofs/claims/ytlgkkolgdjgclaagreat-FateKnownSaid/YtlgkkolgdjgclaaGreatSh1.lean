/- Package check: nothing is wrong with a form that may be, nor with one that is as wanted. -/
import Derived.Test.YtlgkkolgdjgclaaGreatFind
import Derived.Test.YtlgkkolgdjgclaaGreatR
import Derived.Test.YtlgkkolgdjgclaaGreatByt
import Derived.Test.YtlgkkolgdjgclaaGreatCor
namespace Go.Proofs.YtlgkkolgdjgclaaGreat
open Go.RowKit
set_option linter.unusedVariables false
set_option linter.unusedSimpArgs false

theorem WeightGood (x : Int) (w : World) (h1 : 1 ≤ x) (h2 : x ≤ 20) : Calls Tryz.prog 53 #[.int .i64 x] w fun e w' => e = .returned (.bool true) ∧ w = w' := by
  go_enter Tryz.func53, Tryz.ntmps53
  go_wp2_with fail
  all_goals go_ret
  all_goals exact ⟨rfl, rfl⟩

/-- All so far owe. -/
def aheadTo (l : List It) (k : Nat) : Bool := decide (0 < l.length) && (l.take k).all fun x => decide (x.lag < 0)
theorem aheadTo_succ {l : List It} {k : Nat} {x : It} (hx : l[k]? = some x) : aheadTo l (k + 1) = (aheadTo l k && decide (x.lag < 0)) := by
  unfold aheadTo
  obtain ⟨h, rfl⟩ := List.getElem?_eq_some_iff.1 hx
  rw [List.take_succ_eq_append_getElem h, List.all_append]
  simp [Bool.and_assoc]
theorem aheadTo_all {l : List It} (h : l = [] ∨ ∃ x ∈ l, 0 ≤ x.lag) : aheadTo l l.length = false := by
  unfold aheadTo
  rcases h with rfl | ⟨x, hx, h0⟩
  · rfl
  · rw [List.take_length]
    have : (l.all fun x => decide (x.lag < 0)) = false := by
      rw [List.all_eq_false]
      exact ⟨x, hx, by simp; omega⟩
    rw [this, Bool.and_false]

theorem blk8 {w : World} {g : Nat} {a0 a1 a2 a3 a4 a5 a6 a7 : Value} {T : TypeId} (h : w.heap[g]? = some (.cells #[a0, a1, a2, a3, a4, a5, a6, a7] T (0, 0))) :
    (w.cell? ⟨g, 0, none⟩ = some a0 ∧ w.cell? ⟨g, 1, none⟩ = some a1 ∧ w.cell? ⟨g, 2, none⟩ = some a2 ∧ w.cell? ⟨g, 3, none⟩ = some a3) ∧ w.cell? ⟨g, 4, none⟩ = some a4 ∧ w.cell? ⟨g, 5, none⟩ = some a5 ∧ w.cell? ⟨g, 6, none⟩ = some a6 ∧ w.cell? ⟨g, 7, none⟩ = some a7 := by
  simp [World.cell?, h]

set_option maxHeartbeats 3200000 in
set_option maxRecDepth 100000 in
theorem ChkForm (cur : Int) (l : List It) (n : Nat) (a : Option Addr) (c : Nat) (w : World) (hn : l.length = n) (hs : Sl It.enc 3 w a l) (hg : GoodP ⟨cur, l⟩) :
    Calls Tryz.prog 120 #[.agg #[.int .i64 cur, .slice a n c]] w fun e w' => e = .returned (.slice none 0 0) ∧ Below w.heap.size w w' := by
  obtain ⟨h64, hcur, hmay, hasc, hsome⟩ := hg
  simp only at h64 hcur hmay hasc hsome
  rw [hn] at h64
  have HS := Lib.hid hs
  have Hn := Lib.hid hn
  have Hm := Lib.hid hmay
  have Ha := Lib.hid hasc
  have ha0 : (decide ((0 : Int) < n)) = aheadTo l 0 := by
    unfold aheadTo; simp; rw [hn]
  have HA0 := Lib.hid ha0
  have HA1 := Lib.hid (aheadTo_all hsome)
  have Hc := Lib.hid hcur
  have hbox := heap_new w (.cells #[.int .i64 cur, .slice a n c] 41)
  have HB := Lib.hid hbox
  clear hs hn hmay hasc ha0 hsome hcur hbox
  go_enter Tryz.func120, Tryz.ntmps120
  go_wp2_with fail
  have hz1 : (decide (0 < n)) = aheadTo l 0 := by rw [← HA0.out]; simp
  generalize decide (0 < n) = z0 at hz1 ⊢
  have HZ := Lib.hid hz1
  clear hz1 HA0
  go_loopw [3, 4, 18] (fun s t i wr => ∃ k : Nat, k ≤ n ∧ s = .slice none 0 0 ∧ t = .bool (aheadTo l k) ∧ i = .int .i64 k ∧ wr.heap[w.heap.size]? = some (.cells #[.int .i64 cur, .slice a n c] 41 (0, 0)) ∧ Below w.heap.size w wr) (fun _ _ i _ => n - (intOf i).toNat)
  case atStart => exact ⟨0, Nat.zero_le _, rfl, by rw [HZ.out], rfl, HB.out, (Below.refl _ _).alloc (Nat.le_refl _) _⟩
  case round =>
    obtain ⟨k, hk, rfl, rfl, rfl, hX, hb⟩ := hrel
    have hsz := hb.size
    obtain ⟨g0, g1, y0, y1, gl⟩ := blk2 hX
    have HX := Lib.hid hX
    clear hX
    by_cases hlt : k < n
    · obtain ⟨r, off, rfl, hr, hcc⟩ := HS.out (by intro h; have h1 := Hn.out; rw [h] at h1; simp at h1; omega)
      obtain ⟨x, hx⟩ : ∃ x, l[k]? = some x := ⟨_, List.getElem?_eq_getElem (by rw [Hn.out]; exact hlt)⟩
      have e0 := (hb.cell (p := ⟨r, off + k * 3 + 0, none⟩) hr).trans (hcc k x hx 0 _ rfl)
      have e1 := (hb.cell (p := ⟨r, off + k * 3 + 1, none⟩) hr).trans (hcc k x hx 1 _ rfl)
      have e2 := (hb.cell (p := ⟨r, off + k * 3 + 2, none⟩) hr).trans (hcc k x hx 2 _ rfl)
      simp only [Nat.add_zero] at e0
      have hxm := mayB_true (Hm.out x (List.mem_of_getElem? hx))
      have m1 : ¬ x.id < 0 := by omega
      have m2 : ¬ 1073741824 < x.id := by omega
      have m3 : 1 ≤ x.w := by omega
      have m4 : x.w ≤ 20 := by omega
      have m5 : ¬ x.lag < -1125899906842624 := by omega
      have m6 : ¬ 1125899906842624 < x.lag := by omega
      have d1 : decide (x.id < 0) = false := decide_eq_false m1
      have d2 : decide (1073741824 < x.id) = false := decide_eq_false m2
      have d5 : decide (x.lag < -1125899906842624) = false := decide_eq_false m5
      have d6 : decide (1125899906842624 < x.lag) = false := decide_eq_false m6
      have hrw : r ≠ wr.heap.size := by omega
      have HI := Lib.hid (heap_new wr (.cells #[.int .i64 x.id, .int .i64 x.w, .int .i64 x.lag] 119))
      have HAn := Lib.hid (aheadTo_succ hx)
      cases k with
      | zero =>
        simp only [Nat.zero_mul, Nat.add_zero] at e0 e1 e2
        clear hcc hx hxm
        go_wp2_with fail
        refine wp_region_chain 123 [0, 1, 3, 7, 15, 31, 63, 127, 255, 0, 512, 1551, 3599, 7695, 3599, 19983, 3599, 69135, 200207, 511503, 1035791, 2084367, 4193807, 8388111, 16776719, 0, 33554432, 100666895, 234884623, 503320079, 0, 1073741824, 3221225472, 7751077391, 16341011983, 33520881167, 67880619535, 136600096271, 274039049743, 549755813887, 1099511627775, 0] [(0, none), (1, none), (2, none), (3, none), (4, none), (5, none), (6, none), (7, none), (8, none), (9, none), (10, none), (11, none), (12, none), (13, none), (14, none), (15, none), (16, none), (17, none), (18, none), (19, none), (20, none), (21, none), (22, none), (23, none), (24, none), (25, none), (26, none), (30, none), (31, none), (32, none), (41, none), (27, some [4, 5, 6, 7, 8, 12, 13, 14, 15, 16, 17, 18, 19, 20, 21, 22, 23, 24, 30, 31, 32, 41]), (28, none), (29, none), (33, none), (34, none), (35, none), (36, none), (37, none), (38, none), (39, some [41]), (40, none)] (by kernel_rfl) (by kernel_rfl) (by rfl) ?_; simp only [chain, Obs, List.getElem?_toArray, List.getElem?_cons_zero, List.getElem?_cons_succ]
        go_wp2_with (first
          | (with_reducible refine And.intro (by first | with_reducible exact True.intro | with_reducible rfl | go_simp) ?_)
          | (go_at_call 53; refine (WeightGood _ _ m3 m4).mono ?_; rintro e w3 ⟨rfl, rfl⟩))
        refine NoPanic.normal ?_
        have hI2 := heap_alloc HI.out (.cells #[.int .i64 1, .bool false, .int .i64 2, .bool false, .int .i64 3, .bool false, .int .i64 4, .bool false] 236)
        have hV2 : ((wr.alloc (.cells #[.int .i64 x.id, .int .i64 x.w, .int .i64 x.lag] 119)).alloc (.cells #[.int .i64 1, .bool false, .int .i64 2, .bool false, .int .i64 3, .bool false, .int .i64 4, .bool false] 236)).heap[wr.heap.size + 1]? = some (.cells #[.int .i64 1, .bool false, .int .i64 2, .bool false, .int .i64 3, .bool false, .int .i64 4, .bool false] 236) := heap_at (by simp) _
        have hb2 := ((hb.alloc hsz (.cells #[.int .i64 x.id, .int .i64 x.w, .int .i64 x.lag] 119)).alloc (by simp; omega) (.cells #[.int .i64 1, .bool false, .int .i64 2, .bool false, .int .i64 3, .bool false, .int .i64 4, .bool false] 236)).drew
        have hX2 := heap_alloc (heap_alloc HX.out (.cells #[.int .i64 x.id, .int .i64 x.w, .int .i64 x.lag] 119)) (.cells #[.int .i64 1, .bool false, .int .i64 2, .bool false, .int .i64 3, .bool false, .int .i64 4, .bool false] 236)
        have HI2 := Lib.hid hI2
        have HV2 := Lib.hid hV2
        have HX2 := Lib.hid hX2
        have HB2 := Lib.hid hb2
        clear hI2 hV2 hb2 hX2
        go_wp2_with fail
        go_loopw [3, 64] (fun s i w3 => ∃ j' : Nat, j' ≤ 4 ∧ s = .slice none 0 0 ∧ i = .int .i64 j' ∧ w3.heap[wr.heap.size]? = some (.cells #[.int .i64 x.id, .int .i64 x.w, .int .i64 x.lag] 119 (0, 0)) ∧ w3.heap[wr.heap.size + 1]? = some (.cells #[.int .i64 1, .bool false, .int .i64 2, .bool false, .int .i64 3, .bool false, .int .i64 4, .bool false] 236 (0, 0)) ∧ w3.heap[w.heap.size]? = some (.cells #[.int .i64 cur, .slice (some ⟨r, off, none⟩) n c] 41 (0, 0)) ∧ Below w.heap.size w w3) (fun _ i _ => 4 - (intOf i).toNat)
        case atStart => exact ⟨0, by omega, rfl, rfl, HI2.out, HV2.out, HX2.out, HB2.out⟩
        case round =>
          obtain ⟨j', hj', rfl, rfl, hI3, hV3, hX3, hb3⟩ := hrel
          have hs3 := hb3.size
          obtain ⟨p0, p1, p2, q0, q1, q2, pl⟩ := blk3 hI3
          obtain ⟨⟨v0, v1, v2, v3⟩, v4, v5, v6, v7⟩ := blk8 hV3
          have hvl := (Array.getElem?_eq_some_iff.1 hV3).1
          have KI := Lib.hid hI3
          have KV := Lib.hid hV3
          have KX := Lib.hid hX3
          clear hI3 hV3 hX3
          by_cases hj4 : j' < 4
          · have hcs : j' = 0 ∨ j' = 1 ∨ j' = 2 ∨ j' = 3 := by omega
            rcases hcs with rfl | rfl | rfl | rfl
            all_goals go_wp2_with fail
            all_goals go_roundw
            all_goals first
              | exact ⟨1, by omega, rfl, rfl, heap_alloc KI.out _, heap_alloc KV.out _, heap_alloc KX.out _, hb3.alloc hs3 _⟩
              | exact ⟨2, by omega, rfl, rfl, heap_alloc KI.out _, heap_alloc KV.out _, heap_alloc KX.out _, hb3.alloc hs3 _⟩
              | exact ⟨3, by omega, rfl, rfl, heap_alloc KI.out _, heap_alloc KV.out _, heap_alloc KX.out _, hb3.alloc hs3 _⟩
              | exact ⟨4, by omega, rfl, rfl, heap_alloc KI.out _, heap_alloc KV.out _, heap_alloc KX.out _, hb3.alloc hs3 _⟩
              | (simp [intOf]; try omega)
          · obtain rfl : j' = 4 := by omega
            have HAo := HAn.out
            generalize aheadTo l 0 = p at HAo ⊢
            by_cases hlg : x.lag < 0
            · rw [decide_eq_true hlg, Bool.and_true] at HAo
              cases p
              all_goals go_wp2_with fail
              all_goals go_roundw
              all_goals first
                | (refine ⟨0 + 1, by omega, rfl, by rw [HAo], by go_num, KX.out, hb3⟩)
                | (simp [intOf]; try omega)
            · rw [decide_eq_false hlg, Bool.and_false] at HAo
              have dlg : decide (x.lag < 0) = false := decide_eq_false hlg
              cases p
              all_goals go_wp2_with fail
              all_goals go_roundw
              all_goals first
                | (refine ⟨0 + 1, by omega, rfl, by rw [HAo], by go_num, KX.out, hb3⟩)
                | (simp [intOf]; try omega)
      | succ j =>
        obtain ⟨y, hy⟩ : ∃ y, l[j]? = some y := ⟨_, List.getElem?_eq_getElem (by rw [Hn.out]; omega)⟩
        have f0 := (hb.cell (p := ⟨r, off + j * 3 + 0, none⟩) hr).trans (hcc j y hy 0 _ rfl)
        simp only [Nat.add_zero] at f0
        have m7 : ¬ x.id ≤ y.id := by
          have h1 := List.getElem?_eq_some_iff.1 hx
          have h2 := List.getElem?_eq_some_iff.1 hy
          have := List.pairwise_iff_getElem.1 Ha.out j (j + 1) h2.1 h1.1 (by omega)
          rw [h1.2, h2.2] at this
          omega
        have hrl : r < wr.heap.size := by omega
        have hnj : ¬ n ≤ j := by omega
        have hwj : IntKind.i64.wrap (j : Int) = j := by simp [IntKind.wrap, IntKind.bits, IntKind.signed]; omega
        have f1 : (wr.alloc (.cells #[.int .i64 x.id, .int .i64 x.w, .int .i64 x.lag] 119)).cell? ⟨r, off + j * 3, none⟩ = some (.int .i64 y.id) := by rw [World.cell?_alloc_past _ _ _ hrl]; exact f0
        have d7 : decide (x.id ≤ y.id) = false := decide_eq_false m7
        clear hcc hx hxm hy
        go_wp2_with fail
        refine wp_region_chain 123 [0, 1, 3, 7, 15, 31, 63, 127, 255, 0, 512, 1551, 3599, 7695, 3599, 19983, 3599, 69135, 200207, 511503, 1035791, 2084367, 4193807, 8388111, 16776719, 0, 33554432, 100666895, 234884623, 503320079, 0, 1073741824, 3221225472, 7751077391, 16341011983, 33520881167, 67880619535, 136600096271, 274039049743, 549755813887, 1099511627775, 0] [(0, none), (1, none), (2, none), (3, none), (4, none), (5, none), (6, none), (7, none), (8, none), (9, none), (10, none), (11, none), (12, none), (13, none), (14, none), (15, none), (16, none), (17, none), (18, none), (19, none), (20, none), (21, none), (22, none), (23, none), (24, none), (25, none), (26, none), (30, none), (31, none), (32, none), (41, none), (27, some [4, 5, 6, 7, 8, 12, 13, 14, 15, 16, 17, 18, 19, 20, 21, 22, 23, 24, 30, 31, 32, 41]), (28, none), (29, none), (33, none), (34, none), (35, none), (36, none), (37, none), (38, none), (39, some [41]), (40, none)] (by kernel_rfl) (by kernel_rfl) (by rfl) ?_; simp only [chain, Obs, List.getElem?_toArray, List.getElem?_cons_zero, List.getElem?_cons_succ]
        go_wp2_with (first
          | (with_reducible refine And.intro (by first | with_reducible exact True.intro | with_reducible rfl | go_simp) ?_)
          | (go_at_call 53; refine (WeightGood _ _ m3 m4).mono ?_; rintro e w3 ⟨rfl, rfl⟩))
        refine NoPanic.normal ?_
        have hI2 := heap_alloc HI.out (.cells #[.int .i64 1, .bool false, .int .i64 2, .bool false, .int .i64 3, .bool false, .int .i64 4, .bool false] 236)
        have hV2 : ((wr.alloc (.cells #[.int .i64 x.id, .int .i64 x.w, .int .i64 x.lag] 119)).alloc (.cells #[.int .i64 1, .bool false, .int .i64 2, .bool false, .int .i64 3, .bool false, .int .i64 4, .bool false] 236)).heap[wr.heap.size + 1]? = some (.cells #[.int .i64 1, .bool false, .int .i64 2, .bool false, .int .i64 3, .bool false, .int .i64 4, .bool false] 236) := heap_at (by simp) _
        have hb2 := ((hb.alloc hsz (.cells #[.int .i64 x.id, .int .i64 x.w, .int .i64 x.lag] 119)).alloc (by simp; omega) (.cells #[.int .i64 1, .bool false, .int .i64 2, .bool false, .int .i64 3, .bool false, .int .i64 4, .bool false] 236)).drew
        have hX2 := heap_alloc (heap_alloc HX.out (.cells #[.int .i64 x.id, .int .i64 x.w, .int .i64 x.lag] 119)) (.cells #[.int .i64 1, .bool false, .int .i64 2, .bool false, .int .i64 3, .bool false, .int .i64 4, .bool false] 236)
        have HI2 := Lib.hid hI2
        have HV2 := Lib.hid hV2
        have HX2 := Lib.hid hX2
        have HB2 := Lib.hid hb2
        clear hI2 hV2 hb2 hX2
        go_wp2_with fail
        go_loopw [3, 64] (fun s i w3 => ∃ j' : Nat, j' ≤ 4 ∧ s = .slice none 0 0 ∧ i = .int .i64 j' ∧ w3.heap[wr.heap.size]? = some (.cells #[.int .i64 x.id, .int .i64 x.w, .int .i64 x.lag] 119 (0, 0)) ∧ w3.heap[wr.heap.size + 1]? = some (.cells #[.int .i64 1, .bool false, .int .i64 2, .bool false, .int .i64 3, .bool false, .int .i64 4, .bool false] 236 (0, 0)) ∧ w3.heap[w.heap.size]? = some (.cells #[.int .i64 cur, .slice (some ⟨r, off, none⟩) n c] 41 (0, 0)) ∧ Below w.heap.size w w3) (fun _ i _ => 4 - (intOf i).toNat)
        case atStart => exact ⟨0, by omega, rfl, rfl, HI2.out, HV2.out, HX2.out, HB2.out⟩
        case round =>
          obtain ⟨j', hj', rfl, rfl, hI3, hV3, hX3, hb3⟩ := hrel
          have hs3 := hb3.size
          obtain ⟨p0, p1, p2, q0, q1, q2, pl⟩ := blk3 hI3
          obtain ⟨⟨v0, v1, v2, v3⟩, v4, v5, v6, v7⟩ := blk8 hV3
          have hvl := (Array.getElem?_eq_some_iff.1 hV3).1
          have KI := Lib.hid hI3
          have KV := Lib.hid hV3
          have KX := Lib.hid hX3
          clear hI3 hV3 hX3
          by_cases hj4 : j' < 4
          · have hcs : j' = 0 ∨ j' = 1 ∨ j' = 2 ∨ j' = 3 := by omega
            rcases hcs with rfl | rfl | rfl | rfl
            all_goals go_wp2_with fail
            all_goals go_roundw
            all_goals first
              | exact ⟨1, by omega, rfl, rfl, heap_alloc KI.out _, heap_alloc KV.out _, heap_alloc KX.out _, hb3.alloc hs3 _⟩
              | exact ⟨2, by omega, rfl, rfl, heap_alloc KI.out _, heap_alloc KV.out _, heap_alloc KX.out _, hb3.alloc hs3 _⟩
              | exact ⟨3, by omega, rfl, rfl, heap_alloc KI.out _, heap_alloc KV.out _, heap_alloc KX.out _, hb3.alloc hs3 _⟩
              | exact ⟨4, by omega, rfl, rfl, heap_alloc KI.out _, heap_alloc KV.out _, heap_alloc KX.out _, hb3.alloc hs3 _⟩
              | (simp [intOf]; try omega)
          · obtain rfl : j' = 4 := by omega
            have HAo := HAn.out
            generalize aheadTo l (j + 1) = p at HAo ⊢
            by_cases hlg : x.lag < 0
            · rw [decide_eq_true hlg, Bool.and_true] at HAo
              cases p
              all_goals go_wp2_with fail
              all_goals go_roundw
              all_goals first
                | (refine ⟨(j + 1) + 1, by omega, rfl, by rw [HAo], by go_num, KX.out, hb3⟩)
                | (simp [intOf]; try omega)
            · rw [decide_eq_false hlg, Bool.and_false] at HAo
              have dlg : decide (x.lag < 0) = false := decide_eq_false hlg
              cases p
              all_goals go_wp2_with fail
              all_goals go_roundw
              all_goals first
                | (refine ⟨(j + 1) + 1, by omega, rfl, by rw [HAo], by go_num, KX.out, hb3⟩)
                | (simp [intOf]; try omega)
    · obtain rfl : k = n := by omega
      have ha1 : aheadTo l k = false := by have := HA1.out; rw [Hn.out] at this; exact this
      rw [ha1]
      have h64i : ¬ (64 : Int) < k := by omega
      rcases Hc.out with hc | ⟨x, hx, hc⟩
      · subst hc
        have hfi : fi (isIt (-1)) l = -1 := fi_neg fun y hy => by
          have := mayB_true (Hm.out y hy)
          simp [isIt]; omega
        have HF := Lib.hid (FindF_none (-1) (-1) l k a c wr Hn.out (by omega) (HS.out.below hb) hfi)
        clear hfi
        go_wp2_with (go_at_call 121; refine HF.out.mono ?_; rintro e w3 ⟨rfl, hb3⟩; have hX3 := heap_below HX.out hb3; obtain ⟨g0, g1, y0, y1, gl⟩ := blk2 hX3; have hbz := hb.trans (hb3.mono hsz); clear hX3)
        go_ret
        exact ⟨rfl, hbz.alloc hbz.size _⟩
      · obtain ⟨j, hj⟩ := List.mem_iff_getElem?.1 hx
        rcases fi_cases (isIt cur) l with ⟨h1, h2⟩ | ⟨j2, z, h1, _, h3, _, _⟩
        · exact absurd (h2 x hx) (by simp [isIt, hc])
        · have HF := Lib.hid (FindF_some cur cur l k a c wr Hn.out (by omega) (HS.out.below hb) j2 z h1 h3)
          clear hx hc hj h1 h3
          go_wp2_with (go_at_call 121; refine HF.out.mono ?_; rintro e w3 ⟨rfl, hb3⟩; have hX3 := heap_below HX.out hb3; obtain ⟨g0, g1, y0, y1, gl⟩ := blk2 hX3; have hbz := hb.trans (hb3.mono hsz); clear hX3)
          go_ret
          exact ⟨rfl, hbz.alloc hbz.size _⟩
end Go.Proofs.YtlgkkolgdjgclaaGreat
/- Package check: a form as wanted has no faults. -/
namespace Go.Proofs.YtlgkkolgdjgclaaGreat
open Go.RowKit
set_option linter.unusedVariables false
set_option linter.unusedSimpArgs false

theorem fi_asc {l : List It} (h : l.Pairwise fun a b => a.id < b.id) {k : Nat} {x : It} (hx : l[k]? = some x) : fi (isIt x.id) l = k := by
  refine fi_at hx (by simp [isIt]) fun i hi y hy => ?_
  have h1 := List.getElem?_eq_some_iff.1 hx
  have h2 := List.getElem?_eq_some_iff.1 hy
  have := List.pairwise_iff_getElem.1 h i k h2.1 h1.1 hi
  rw [h2.2, h1.2] at this
  simp [isIt]; omega

set_option maxHeartbeats 800000 in
theorem ClipNil (w : World) : Calls Tryz.prog 122 #[.slice none 0 0] w fun e w' => e = .returned (.slice none 0 0) ∧ w = w' := by
  go_enter Tryz.func122, Tryz.ntmps122
  go_wp2_with fail
  go_ret
  exact ⟨rfl, rfl⟩

set_option maxHeartbeats 3200000 in
set_option maxRecDepth 100000 in
theorem FaultsSame (cur : Int) (l : List It) (n : Nat) (a a2 : Option Addr) (c c2 : Nat) (w : World) (hn : l.length = n) (hs : Sl It.enc 3 w a l) (hs2 : Sl It.enc 3 w a2 l) (hg : GoodP ⟨cur, l⟩) :
    Calls Tryz.prog 100 #[.agg #[.int .i64 cur, .slice a n c], .agg #[.int .i64 cur, .slice a2 n c2]] w fun e w' => e = .returned (.slice none 0 0) ∧ Below w.heap.size w w' := by
  have hb0 := ((Below.refl w.heap.size w).alloc (Nat.le_refl _) (.cells #[.int .i64 cur, .slice a n c] 41)).alloc (by simp) (.cells #[.int .i64 cur, .slice a2 n c2] 41)
  have HF := Lib.hid (ChkForm cur l n a c _ hn (hs.below hb0) hg)
  have h64 : n ≤ 64 := by have := hg.1; simp only at this; omega
  have Ha := Lib.hid (hg.2.2.2.1 : l.Pairwise fun a b => a.id < b.id)
  have HS := Lib.hid hs
  have HS2 := Lib.hid hs2
  have Hn := Lib.hid hn
  have hB1 := heap_alloc (heap_new w (.cells #[.int .i64 cur, .slice a n c] 41)) (.cells #[.int .i64 cur, .slice a2 n c2] 41)
  have hB2 : ((w.alloc (.cells #[.int .i64 cur, .slice a n c] 41)).alloc (.cells #[.int .i64 cur, .slice a2 n c2] 41)).heap[w.heap.size + 1]? = some (.cells #[.int .i64 cur, .slice a2 n c2] 41) := heap_at (by simp) _
  have HB1 := Lib.hid hB1
  have HB2 := Lib.hid hB2
  have HB0 := Lib.hid hb0
  clear hs hs2 hn hg hB1 hB2 hb0
  go_enter Tryz.func100, Tryz.ntmps100
  go_wp2_with (go_at_call 120; refine HF.out.mono ?_; rintro e w1 ⟨rfl, hb1⟩; have hX1 := heap_below HB1.out hb1; have hX2 := heap_below HB2.out hb1; obtain ⟨g0, g1, y0, y1, gl⟩ := blk2 hX1; obtain ⟨q0, q1, z0, z1, ql⟩ := blk2 hX2; have HX1 := Lib.hid hX1; have HX2 := Lib.hid hX2; have hbw := Lib.hid (HB0.out.trans (hb1.mono HB0.out.size)); clear hX1 hX2)
  go_loopw [5, 23] (fun s i wr => ∃ k : Nat, k ≤ n ∧ s = .slice none 0 0 ∧ i = .int .i64 k ∧ wr.heap[w.heap.size]? = some (.cells #[.int .i64 cur, .slice a n c] 41 (0, 0)) ∧ wr.heap[w.heap.size + 1]? = some (.cells #[.int .i64 cur, .slice a2 n c2] 41 (0, 0)) ∧ Below w.heap.size w wr) (fun _ i _ => n - (intOf i).toNat)
  case atStart => exact ⟨0, Nat.zero_le _, rfl, rfl, HX1.out, HX2.out, hbw.out⟩
  case round =>
    obtain ⟨k, hk, rfl, rfl, hX1, hX2, hb⟩ := hrel
    have hsz := hb.size
    obtain ⟨g0, g1, y0, y1, gl⟩ := blk2 hX1
    obtain ⟨q0, q1, z0, z1, ql⟩ := blk2 hX2
    have HY1 := Lib.hid hX1
    have HY2 := Lib.hid hX2
    clear hX1 hX2
    by_cases hlt : k < n
    · have hlt0 := hlt
      obtain ⟨r, off, rfl, hr, hcc⟩ := HS2.out (by intro h; have h1 := Hn.out; rw [h] at h1; simp at h1; omega)
      obtain ⟨x, hx⟩ : ∃ x, l[k]? = some x := ⟨_, List.getElem?_eq_getElem (by rw [Hn.out]; exact hlt)⟩
      have e0 := (hb.cell (p := ⟨r, off + k * 3 + 0, none⟩) hr).trans (hcc k x hx 0 _ rfl)
      have e1 := (hb.cell (p := ⟨r, off + k * 3 + 1, none⟩) hr).trans (hcc k x hx 1 _ rfl)
      have e2 := (hb.cell (p := ⟨r, off + k * 3 + 2, none⟩) hr).trans (hcc k x hx 2 _ rfl)
      simp only [Nat.add_zero] at e0
      have hfi := fi_asc Ha.out hx
      have HFi := Lib.hid (fun W (h : Below w.heap.size w W) => FindF_some cur x.id l n a c W Hn.out (by omega) (HS.out.below h) k x hfi hx)
      have hI := heap_new wr (.cells #[.int .i64 x.id, .int .i64 x.w, .int .i64 x.lag] 119)
      have HI := Lib.hid hI
      have hbI := hb.alloc hsz (.cells #[.int .i64 x.id, .int .i64 x.w, .int .i64 x.lag] 119)
      have w1w : (x.w != x.w) = false := by simp
      clear hcc hx hfi hI
      go_wp2_with (go_at_call 121; refine (HFi.out _ hbI).mono ?_; rintro e w3 ⟨rfl, hb3⟩; have hI3 := heap_below HI.out hb3; obtain ⟨p0, p1, p2, u0, u1, u2, pl⟩ := blk3 hI3; have hZ1 := Lib.hid (heap_below (heap_alloc HY1.out _) hb3); have hZ2 := Lib.hid (heap_below (heap_alloc HY2.out _) hb3); have hbJ := Lib.hid (hbI.trans (hb3.mono hbI.size)); clear hI3)
      go_roundw
      case rel => exact ⟨k + 1, by omega, rfl, by go_num, heap_alloc hZ1.out _, heap_alloc hZ2.out _, hbJ.out.alloc hbJ.out.size _⟩
      case measure => simp [intOf]; omega
    · have hkn : n = k := by omega
      subst hkn
      go_wp2_with fail
      go_loopw [5, 68] (fun s i wr => ∃ k : Nat, k ≤ n ∧ s = .slice none 0 0 ∧ i = .int .i64 k ∧ wr.heap[w.heap.size]? = some (.cells #[.int .i64 cur, .slice a n c] 41 (0, 0)) ∧ wr.heap[w.heap.size + 1]? = some (.cells #[.int .i64 cur, .slice a2 n c2] 41 (0, 0)) ∧ Below w.heap.size w wr) (fun _ i _ => n - (intOf i).toNat)
      case atStart => exact ⟨0, Nat.zero_le _, rfl, rfl, HY1.out, HY2.out, hb⟩
      case round =>
        obtain ⟨k, hk, rfl, rfl, hX1, hX2, hb⟩ := hrel
        have hsz := hb.size
        obtain ⟨g0, g1, y0, y1, gl⟩ := blk2 hX1
        obtain ⟨q0, q1, z0, z1, ql⟩ := blk2 hX2
        have HZ1 := Lib.hid hX1
        have HZ2 := Lib.hid hX2
        clear hX1 hX2
        by_cases hlt : k < l.length
        · have hlt : k < n := by rw [← Hn.out]; exact hlt
          obtain ⟨r, off, rfl, hr, hcc⟩ := HS.out (by intro h; have h1 := Hn.out; rw [h] at h1; simp at h1; omega)
          obtain ⟨x, hx⟩ : ∃ x, l[k]? = some x := ⟨_, List.getElem?_eq_getElem (by rw [Hn.out]; exact hlt)⟩
          have e0 := (hb.cell (p := ⟨r, off + k * 3 + 0, none⟩) hr).trans (hcc k x hx 0 _ rfl)
          have e1 := (hb.cell (p := ⟨r, off + k * 3 + 1, none⟩) hr).trans (hcc k x hx 1 _ rfl)
          have e2 := (hb.cell (p := ⟨r, off + k * 3 + 2, none⟩) hr).trans (hcc k x hx 2 _ rfl)
          simp only [Nat.add_zero] at e0
          have hfi := fi_asc Ha.out hx
          have HFi := Lib.hid (fun W (h : Below w.heap.size w W) => FindF_some cur x.id l n a2 c2 W Hn.out (by omega) (HS2.out.below h) k x hfi hx)
          have hI := heap_new wr (.cells #[.int .i64 x.id, .int .i64 x.w, .int .i64 x.lag] 119)
          have hbI := hb.alloc hsz (.cells #[.int .i64 x.id, .int .i64 x.w, .int .i64 x.lag] 119)
          have HI := Lib.hid hI
          clear hcc hx hfi hI
          go_wp2_with (go_at_call 121; refine (HFi.out _ hbI).mono ?_; rintro e w3 ⟨rfl, hb3⟩; have hZ1 := Lib.hid (heap_below (heap_alloc HZ1.out _) hb3); have hZ2 := Lib.hid (heap_below (heap_alloc HZ2.out _) hb3); have hbJ := Lib.hid (hbI.trans (hb3.mono hbI.size)))
          go_roundw
          case rel => first
            | exact ⟨k + 1, by omega, rfl, by go_num, hZ1.out, hZ2.out, hbJ.out⟩
            | exact ⟨k + 1, by omega, rfl, by go_num, heap_alloc hZ1.out _, heap_alloc hZ2.out _, hbJ.out.alloc hbJ.out.size _⟩
          case measure => simp [intOf]; omega
        · have hkn : n = k := by have := Hn.out; omega
          subst hkn
          go_wp2_with (go_at_call 122; refine (ClipNil _).mono ?_; rintro e w9 ⟨rfl, rfl⟩)
          go_ret
          exact ⟨rfl, hb⟩
end Go.Proofs.YtlgkkolgdjgclaaGreat
/- Package check: Faults of any form that may be, against any other one. -/
namespace Go.Proofs.YtlgkkolgdjgclaaGreat
open Go.RowKit
set_option linter.unusedVariables false
set_option linter.unusedSimpArgs false

/-- A fault: its kind, whose it is. -/
structure Ft where
  kind : Int
  id : Int
deriving DecidableEq, Inhabited
def Ft.enc (x : Ft) : List Value := [.int .i64 x.kind, .int .i64 x.id]
theorem Ft.len (x : Ft) : x.enc.length = 2 := rfl

/-- What of an item that is wanted is not as wanted. -/
def fl1 (l : List It) (x : It) : List Ft :=
  if fi (isIt x.id) l = -1 then [⟨8, x.id⟩]
  else (if (l.getD (fi (isIt x.id) l).toNat ⟨0, 0, 0⟩).w = x.w then [] else [⟨10, x.id⟩]) ++ (if (l.getD (fi (isIt x.id) l).toNat ⟨0, 0, 0⟩).lag = x.lag then [] else [⟨11, x.id⟩])
def fl2 (l : List It) (x : It) : List Ft := if fi (isIt x.id) l = -1 then [⟨9, x.id⟩] else []
def faultsM (c1 : Int) (l1 : List It) (c2 : Int) (l2 : List It) : List Ft :=
  l2.flatMap (fl1 l1) ++ l1.flatMap (fl2 l2) ++ (if c1 = c2 then [] else [⟨12, c1⟩])
theorem fl1_none {l : List It} {x : It} (h : fi (isIt x.id) l = -1) : fl1 l x = [⟨8, x.id⟩] := if_pos h
theorem fl1_some {l : List It} {x y : It} {j : Nat} (h : fi (isIt x.id) l = j) (hy : l[j]? = some y) : fl1 l x = (if y.w = x.w then [] else [⟨10, x.id⟩]) ++ (if y.lag = x.lag then [] else [⟨11, x.id⟩]) := by
  unfold fl1
  rw [h, if_neg (by omega), Int.toNat_natCast, List.getD_eq_getElem?_getD, hy]
  rfl
theorem fl2_none {l : List It} {x : It} (h : fi (isIt x.id) l = -1) : fl2 l x = [⟨9, x.id⟩] := if_pos h
theorem fl2_some {l : List It} {x : It} {j : Nat} (h : fi (isIt x.id) l = j) : fl2 l x = [] := if_neg (by omega)
theorem fi_or {α : Type} (p : α → Bool) (l : List α) : fi p l = -1 ∨ ∃ (j : Nat) (x : α), fi p l = j ∧ l[j]? = some x := (fi_cases p l).imp (·.1) fun ⟨j, x, h, _, hx, _⟩ => ⟨j, x, h, hx⟩
theorem fl1_len (l : List It) (x : It) : (fl1 l x).length ≤ 2 := by
  unfold fl1
  split
  · simp
  · split <;> split <;> simp
theorem fl2_len (l : List It) (x : It) : (fl2 l x).length ≤ 1 := by
  unfold fl2
  split <;> simp
theorem take_flat {α β : Type} (f : α → List β) (l : List α) {k : Nat} {x : α} (hx : l[k]? = some x) : (l.take (k + 1)).flatMap f = (l.take k).flatMap f ++ f x := by
  rw [List.take_succ_eq_append_getElem (List.getElem?_eq_some_iff.1 hx).1, (List.getElem?_eq_some_iff.1 hx).2, List.flatMap_append]
  simp
theorem flat_len_le {α β : Type} (f : α → List β) (c : Nat) (hf : ∀ x, (f x).length ≤ c) : ∀ l : List α, (l.flatMap f).length ≤ c * l.length
  | [] => by simp
  | x :: l => by
    have h1 := hf x
    have h2 := flat_len_le f c hf l
    rw [List.flatMap_cons, List.length_append, List.length_cons, Nat.mul_add]
    omega

theorem ftInfo : (Tryz.prog.info? 208).map (fun i => (i.zero, i.size, i.bytes)) = some (some (.agg #[.int .i64 0, .int .i64 0]), 2, 16) := by kernel_rfl

set_option maxHeartbeats 800000 in
theorem ClipAny {B : Nat} {xs : List Value} (a : Option Addr) (n c : Nat) (w : World) (hn : n ≤ 1000) (h : w.ownsRow B 208 2 (.slice a n c) n xs) : Calls Tryz.prog 122 #[.slice a n c] w fun e w' => ∃ c', e = .returned (.slice a n c') ∧ w = w' := by
  have hc := own_cap h
  rcases h.2 with ⟨h0, rfl⟩ | ⟨g, cap, cur, h0, rest⟩
  · cases h0
    exact (ClipNil w).mono fun e w' h => ⟨0, h.1, h.2⟩
  · cases h0
    clear rest h
    go_enter Tryz.func122, Tryz.ntmps122
    go_wp2_with fail
    go_ret
    exact ⟨_, rfl, rfl⟩

set_option maxHeartbeats 3200000 in
set_option maxRecDepth 100000 in
theorem FaultsAny (c1 c2 : Int) (l1 l2 : List It) (n1 n2 : Nat) (a1 a2 : Option Addr) (k1 k2 : Nat) (w : World) (hn1 : l1.length = n1) (hn2 : l2.length = n2) (h2 : n2 ≤ 64) (hs1 : Sl It.enc 3 w a1 l1) (hs2 : Sl It.enc 3 w a2 l2) (hg : GoodP ⟨c1, l1⟩) :
    Calls Tryz.prog 100 #[.agg #[.int .i64 c1, .slice a1 n1 k1], .agg #[.int .i64 c2, .slice a2 n2 k2]] w fun e w' => ∃ fa fc, e = .returned (.slice fa (faultsM c1 l1 c2 l2).length fc) ∧ Sl Ft.enc 2 w' fa (faultsM c1 l1 c2 l2) ∧ Below w.heap.size w w' := by
  have hb0 := ((Below.refl w.heap.size w).alloc (Nat.le_refl _) (.cells #[.int .i64 c1, .slice a1 n1 k1] 41)).alloc (by simp) (.cells #[.int .i64 c2, .slice a2 n2 k2] 41)
  have HF := Lib.hid (ChkForm c1 l1 n1 a1 k1 _ hn1 (hs1.below hb0) hg)
  have h1 : n1 ≤ 64 := by have := hg.1; simp only at this; omega
  obtain ⟨i0, hi0, hz0, hz1, hz2⟩ := info_parts ftInfo
  have HS1 := Lib.hid hs1
  have HS2 := Lib.hid hs2
  have Hn1 := Lib.hid hn1
  have Hn2 := Lib.hid hn2
  have hB1 := heap_alloc (heap_new w (.cells #[.int .i64 c1, .slice a1 n1 k1] 41)) (.cells #[.int .i64 c2, .slice a2 n2 k2] 41)
  have hB2 : ((w.alloc (.cells #[.int .i64 c1, .slice a1 n1 k1] 41)).alloc (.cells #[.int .i64 c2, .slice a2 n2 k2] 41)).heap[w.heap.size + 1]? = some (.cells #[.int .i64 c2, .slice a2 n2 k2] 41) := heap_at (by simp) _
  have HB1 := Lib.hid hB1
  have HB2 := Lib.hid hB2
  have HB0 := Lib.hid hb0
  clear hs1 hs2 hn1 hn2 hg hB1 hB2 hb0
  go_enter Tryz.func100, Tryz.ntmps100
  go_wp2_with (go_at_call 120; refine HF.out.mono ?_; rintro e w1 ⟨rfl, hb1⟩; have hX1 := heap_below HB1.out hb1; have hX2 := heap_below HB2.out hb1; obtain ⟨g0, g1, y0, y1, gl⟩ := blk2 hX1; obtain ⟨q0, q1, z0, z1, ql⟩ := blk2 hX2; have HX1 := Lib.hid hX1; have HX2 := Lib.hid hX2; have hbw := Lib.hid (HB0.out.trans (hb1.mono HB0.out.size)); clear hX1 hX2)
  go_loopw [5, 23] (fun s i wr => ∃ (k m : Nat) (fa : Option Addr) (fc : Nat) (L : List Ft), k ≤ n2 ∧ s = .slice fa m fc ∧ i = .int .i64 k ∧ L = (l2.take k).flatMap (fl1 l1) ∧ m = L.length ∧ wr.ownsRow (w.heap.size + 2) 208 2 (.slice fa m fc) m (flat Ft.enc L) ∧
    wr.heap[w.heap.size]? = some (.cells #[.int .i64 c1, .slice a1 n1 k1] 41 (0, 0)) ∧ wr.heap[w.heap.size + 1]? = some (.cells #[.int .i64 c2, .slice a2 n2 k2] 41 (0, 0)) ∧ Below w.heap.size w wr
    ) (fun _ i _ => n2 - (intOf i).toNat)
  case atStart => exact ⟨0, 0, none, 0, [], Nat.zero_le _, rfl, rfl, rfl, rfl, World.ownsRow_nil _ _ _ _, HX1.out, HX2.out, hbw.out⟩
  case round =>
    obtain ⟨k, m, fa, fc, L, hk, rfl, rfl, hL, hm, hown, hX1, hX2, hb⟩ := hrel
    have hsz := hb.size
    have hmx : m ≤ 128 := by
      have h := flat_len_le (fl1 l1) 2 (fl1_len l1) (l2.take k)
      rw [List.length_take, ← hL] at h
      omega
    obtain ⟨g0, g1, y0, y1, gl⟩ := blk2 hX1
    obtain ⟨q0, q1, z0, z1, ql⟩ := blk2 hX2
    have HY1 := Lib.hid hX1
    have HY2 := Lib.hid hX2
    clear hX1 hX2
    by_cases hlt : k < n2
    · have hlt0 := hlt
      obtain ⟨r, off, rfl, hr, hcc⟩ := HS2.out (by intro h; have h1 := Hn2.out; rw [h] at h1; simp at h1; omega)
      obtain ⟨x, hx⟩ : ∃ x, l2[k]? = some x := ⟨_, List.getElem?_eq_getElem (by rw [Hn2.out]; exact hlt)⟩
      have e0 := (hb.cell (p := ⟨r, off + k * 3 + 0, none⟩) hr).trans (hcc k x hx 0 _ rfl)
      have e1 := (hb.cell (p := ⟨r, off + k * 3 + 1, none⟩) hr).trans (hcc k x hx 1 _ rfl)
      have e2 := (hb.cell (p := ⟨r, off + k * 3 + 2, none⟩) hr).trans (hcc k x hx 2 _ rfl)
      simp only [Nat.add_zero] at e0
      have hI := heap_new wr (.cells #[.int .i64 x.id, .int .i64 x.w, .int .i64 x.lag] 119)
      have HI := Lib.hid hI
      have hbI := hb.alloc hsz (.cells #[.int .i64 x.id, .int .i64 x.w, .int .i64 x.lag] 119)
      have HL1 := Lib.hid hL
      have Hm := Lib.hid hm
      have Ho := Lib.hid hown
      have Hlo := Lib.hid (fun q hq => hown.lt q hq)
      clear hcc hI hL hm hown
      rcases fi_or (isIt x.id) l1 with hfi | ⟨j, y, hfi, hy⟩
      · have HFi := Lib.hid (fun W (h : Below w.heap.size w W) => FindF_none c1 x.id l1 n1 a1 k1 W Hn1.out (by omega) (HS1.out.below h) hfi)
        have HR : Hid (L ++ [⟨8, x.id⟩] = (l2.take (k + 1)).flatMap (fl1 l1)) := Lib.hid (by rw [take_flat _ _ hx, ← HL1.out, fl1_none hfi])
        clear hx hfi
        go_wp2_with (first
          | (go_at_call 121; (refine (HFi.out _ hbI).mono ?_; rintro e w3 ⟨rfl, hb3⟩; have hI3 := heap_below HI.out hb3; obtain ⟨p0, p1, p2, u0, u1, u2, pl⟩ := blk3 hI3; have HI3 := Lib.hid hI3; have hz3 : wr.heap.size + 1 ≤ w3.heap.size := (by have := hb3.size; simp at this; omega); have hZ1 := Lib.hid (heap_below (heap_alloc HY1.out _) hb3); have hZ2 := Lib.hid (heap_below (heap_alloc HY2.out _) hb3); have hbJ := Lib.hid (hbI.trans (hb3.mono hbI.size)); have Ho3 := Lib.hid (own_below (Ho.out.alloc _) hb3); clear hI3))
          | (at_builtin; (refine wpList_append_lies _ (by rfl) _ _ _ (by rfl) (w.heap.size + 2) 208 i0 _ 2 16 Tryz.underlying160 hi0 hz0 hz1 hz2 rfl (by omega) (.slice fa m fc) m _ (by rfl) ((Ho3.out.alloc _).alloc _) ⟨w3.heap.size + 1, 0, none⟩ 1 1 [.int .i64 8, .int .i64 x.id] (by rfl) (by rfl) (World.news_of_block (cs := #[.int .i64 8, .int .i64 x.id]) (t := 208) (fr := (0, 0)) (heap_at (by simp) _)) (by simp [Value.oneCell']) (by omega) (by unfold maxLen; omega) (by omega) (by simp; omega) (w3.heap.size + 1 + 1) (by simp) ?_); intro g5 cap5 w5 hown5 hgrow hat hlt5; have hfr : Fr (fun q => (Value.slice fa m fc).ownBlock = some q) w3 w5 := ((((Fr.refl _ _).alloc _).alloc _).trans (Fr.of_grown hgrow) (fun _ _ h => h)); have hI5 := heap_fr HI3.out hfr (fun h => by have := (Hlo.out _ h).2; omega); obtain ⟨p3, p4, p5, u3, u4, u5, pl5⟩ := blk3 hI5; have hJ5 := heap_fr (heap_alloc (heap_new w3 (.cells #[.int .i64 0, .int .i64 0, .int .i64 0] 119)) (.cells #[.int .i64 8, .int .i64 x.id] 208)) (Fr.of_grown hgrow) (fun h => by have := (Hlo.out _ h).2; omega); obtain ⟨p6, p7, p8, u6, u7, u8, pl8⟩ := blk3 hJ5; have HZ1 := Lib.hid (heap_fr hZ1.out hfr (fun h => by have := (Hlo.out _ h).1; omega)); have HZ2 := Lib.hid (heap_fr hZ2.out hfr (fun h => by have := (Hlo.out _ h).1; omega)); have HB5 := Lib.hid (hbJ.out.trans (hfr.below (B := w.heap.size) hbJ.out.size (fun q hq => by have := (Hlo.out q hq).1; omega))); have Hown5 := Lib.hid hown5; have hz5 := hfr.size; have HI5 := Lib.hid hI5; have HJ5 := Lib.hid hJ5; have Hat := Lib.hid hat; clear hI5 hJ5 hfr hgrow hat hown5)
          )
        go_roundw
        case rel => exact ⟨k + 1, m + 1, _, _, L ++ [⟨8, x.id⟩], by omega, rfl, by go_num, HR.out, by rw [Hm.out]; simp, (by rw [flat_append]; exact Hown5.out), HZ1.out, HZ2.out, HB5.out⟩
        case measure => simp [intOf]; omega
      · by_cases hw : y.w = x.w
        · have hwb : (y.w != x.w) = false := by simp [hw]
          by_cases hl : y.lag = x.lag
          · have hlb : (y.lag != x.lag) = false := by simp [hl]
            have HR : Hid (L = (l2.take (k + 1)).flatMap (fl1 l1)) := Lib.hid (by rw [take_flat _ _ hx, ← HL1.out, fl1_some hfi hy, if_pos hw, if_pos hl]; simp)
            have HFi := Lib.hid (fun W (h : Below w.heap.size w W) => FindF_some c1 x.id l1 n1 a1 k1 W Hn1.out (by omega) (HS1.out.below h) j y hfi hy)
            clear hx hfi hy hw hl
            go_wp2_with (first
              | (go_at_call 121; (refine (HFi.out _ hbI).mono ?_; rintro e w3 ⟨rfl, hb3⟩; have hI3 := heap_below HI.out hb3; obtain ⟨p0, p1, p2, u0, u1, u2, pl⟩ := blk3 hI3; have HI3 := Lib.hid hI3; have hz3 : wr.heap.size + 1 ≤ w3.heap.size := (by have := hb3.size; simp at this; omega); have hZ1 := Lib.hid (heap_below (heap_alloc HY1.out _) hb3); have hZ2 := Lib.hid (heap_below (heap_alloc HY2.out _) hb3); have hbJ := Lib.hid (hbI.trans (hb3.mono hbI.size)); have Ho3 := Lib.hid (own_below (Ho.out.alloc _) hb3); clear hI3))
              )
            go_roundw
            case rel => exact ⟨k + 1, m, _, _, L, by omega, rfl, by go_num, HR.out, Hm.out, Ho3.out.alloc _, heap_alloc hZ1.out _, heap_alloc hZ2.out _, hbJ.out.alloc hbJ.out.size _⟩
            case measure => simp [intOf]; omega
          · have hlb : (y.lag != x.lag) = true := by simpa using hl
            have HR : Hid (L ++ [⟨11, x.id⟩] = (l2.take (k + 1)).flatMap (fl1 l1)) := Lib.hid (by rw [take_flat _ _ hx, ← HL1.out, fl1_some hfi hy, if_pos hw, if_neg hl]; simp)
            clear hw hl
            have HFi := Lib.hid (fun W (h : Below w.heap.size w W) => FindF_some c1 x.id l1 n1 a1 k1 W Hn1.out (by omega) (HS1.out.below h) j y hfi hy)
            clear hx hfi hy
            go_wp2_with (first
              | (go_at_call 121; (refine (HFi.out _ hbI).mono ?_; rintro e w3 ⟨rfl, hb3⟩; have hI3 := heap_below HI.out hb3; obtain ⟨p0, p1, p2, u0, u1, u2, pl⟩ := blk3 hI3; have HI3 := Lib.hid hI3; have hz3 : wr.heap.size + 1 ≤ w3.heap.size := (by have := hb3.size; simp at this; omega); have hZ1 := Lib.hid (heap_below (heap_alloc HY1.out _) hb3); have hZ2 := Lib.hid (heap_below (heap_alloc HY2.out _) hb3); have hbJ := Lib.hid (hbI.trans (hb3.mono hbI.size)); have Ho3 := Lib.hid (own_below (Ho.out.alloc _) hb3); clear hI3))
              | (at_builtin; (refine wpList_append_lies _ (by rfl) _ _ _ (by rfl) (w.heap.size + 2) 208 i0 _ 2 16 Tryz.underlying160 hi0 hz0 hz1 hz2 rfl (by omega) (.slice fa m fc) m _ (by rfl) ((Ho3.out.alloc _).alloc _) ⟨w3.heap.size + 1, 0, none⟩ 1 1 [.int .i64 11, .int .i64 x.id] (by rfl) (by rfl) (World.news_of_block (cs := #[.int .i64 11, .int .i64 x.id]) (t := 208) (fr := (0, 0)) (heap_at (by simp) _)) (by simp [Value.oneCell']) (by omega) (by unfold maxLen; omega) (by omega) (by simp; omega) (w3.heap.size + 1 + 1) (by simp) ?_); intro g5 cap5 w5 hown5 hgrow hat hlt5; have hfr : Fr (fun q => (Value.slice fa m fc).ownBlock = some q) w3 w5 := ((((Fr.refl _ _).alloc _).alloc _).trans (Fr.of_grown hgrow) (fun _ _ h => h)); have hI5 := heap_fr HI3.out hfr (fun h => by have := (Hlo.out _ h).2; omega); obtain ⟨p3, p4, p5, u3, u4, u5, pl5⟩ := blk3 hI5; have hJ5 := heap_fr (heap_alloc (heap_new w3 (.cells #[.int .i64 y.id, .int .i64 y.w, .int .i64 y.lag] 119)) (.cells #[.int .i64 11, .int .i64 x.id] 208)) (Fr.of_grown hgrow) (fun h => by have := (Hlo.out _ h).2; omega); obtain ⟨p6, p7, p8, u6, u7, u8, pl8⟩ := blk3 hJ5; have HZ1 := Lib.hid (heap_fr hZ1.out hfr (fun h => by have := (Hlo.out _ h).1; omega)); have HZ2 := Lib.hid (heap_fr hZ2.out hfr (fun h => by have := (Hlo.out _ h).1; omega)); have HB5 := Lib.hid (hbJ.out.trans (hfr.below (B := w.heap.size) hbJ.out.size (fun q hq => by have := (Hlo.out q hq).1; omega))); have Hown5 := Lib.hid hown5; have hz5 := hfr.size; have HI5 := Lib.hid hI5; have HJ5 := Lib.hid hJ5; have Hat := Lib.hid hat; clear hI5 hJ5 hfr hgrow hat hown5)
              )
            go_roundw
            case rel => exact ⟨k + 1, m + 1, _, _, L ++ [⟨11, x.id⟩], by omega, rfl, by go_num, HR.out, by rw [Hm.out]; simp, (by rw [flat_append]; exact Hown5.out), HZ1.out, HZ2.out, HB5.out⟩
            case measure => simp [intOf]; omega
        · have hwb : (y.w != x.w) = true := by simpa using hw
          by_cases hl : y.lag = x.lag
          · have hlb : (y.lag != x.lag) = false := by simp [hl]
            have HR : Hid (L ++ [⟨10, x.id⟩] = (l2.take (k + 1)).flatMap (fl1 l1)) := Lib.hid (by rw [take_flat _ _ hx, ← HL1.out, fl1_some hfi hy, if_neg hw, if_pos hl]; simp)
            clear hw hl
            have HFi := Lib.hid (fun W (h : Below w.heap.size w W) => FindF_some c1 x.id l1 n1 a1 k1 W Hn1.out (by omega) (HS1.out.below h) j y hfi hy)
            clear hx hfi hy
            go_wp2_with (first
              | (go_at_call 121; (refine (HFi.out _ hbI).mono ?_; rintro e w3 ⟨rfl, hb3⟩; have hI3 := heap_below HI.out hb3; obtain ⟨p0, p1, p2, u0, u1, u2, pl⟩ := blk3 hI3; have HI3 := Lib.hid hI3; have hz3 : wr.heap.size + 1 ≤ w3.heap.size := (by have := hb3.size; simp at this; omega); have hZ1 := Lib.hid (heap_below (heap_alloc HY1.out _) hb3); have hZ2 := Lib.hid (heap_below (heap_alloc HY2.out _) hb3); have hbJ := Lib.hid (hbI.trans (hb3.mono hbI.size)); have Ho3 := Lib.hid (own_below (Ho.out.alloc _) hb3); clear hI3))
              | (at_builtin; (refine wpList_append_lies _ (by rfl) _ _ _ (by rfl) (w.heap.size + 2) 208 i0 _ 2 16 Tryz.underlying160 hi0 hz0 hz1 hz2 rfl (by omega) (.slice fa m fc) m _ (by rfl) ((Ho3.out.alloc _).alloc _) ⟨w3.heap.size + 1, 0, none⟩ 1 1 [.int .i64 10, .int .i64 x.id] (by rfl) (by rfl) (World.news_of_block (cs := #[.int .i64 10, .int .i64 x.id]) (t := 208) (fr := (0, 0)) (heap_at (by simp) _)) (by simp [Value.oneCell']) (by omega) (by unfold maxLen; omega) (by omega) (by simp; omega) (w3.heap.size + 1 + 1) (by simp) ?_); intro g5 cap5 w5 hown5 hgrow hat hlt5; have hfr : Fr (fun q => (Value.slice fa m fc).ownBlock = some q) w3 w5 := ((((Fr.refl _ _).alloc _).alloc _).trans (Fr.of_grown hgrow) (fun _ _ h => h)); have hI5 := heap_fr HI3.out hfr (fun h => by have := (Hlo.out _ h).2; omega); obtain ⟨p3, p4, p5, u3, u4, u5, pl5⟩ := blk3 hI5; have hJ5 := heap_fr (heap_alloc (heap_new w3 (.cells #[.int .i64 y.id, .int .i64 y.w, .int .i64 y.lag] 119)) (.cells #[.int .i64 10, .int .i64 x.id] 208)) (Fr.of_grown hgrow) (fun h => by have := (Hlo.out _ h).2; omega); obtain ⟨p6, p7, p8, u6, u7, u8, pl8⟩ := blk3 hJ5; have HZ1 := Lib.hid (heap_fr hZ1.out hfr (fun h => by have := (Hlo.out _ h).1; omega)); have HZ2 := Lib.hid (heap_fr hZ2.out hfr (fun h => by have := (Hlo.out _ h).1; omega)); have HB5 := Lib.hid (hbJ.out.trans (hfr.below (B := w.heap.size) hbJ.out.size (fun q hq => by have := (Hlo.out q hq).1; omega))); have Hown5 := Lib.hid hown5; have hz5 := hfr.size; have HI5 := Lib.hid hI5; have HJ5 := Lib.hid hJ5; have Hat := Lib.hid hat; clear hI5 hJ5 hfr hgrow hat hown5)
              )
            go_roundw
            case rel => exact ⟨k + 1, m + 1, _, _, L ++ [⟨10, x.id⟩], by omega, rfl, by go_num, HR.out, by rw [Hm.out]; simp, (by rw [flat_append]; exact Hown5.out), HZ1.out, HZ2.out, HB5.out⟩
            case measure => simp [intOf]; omega
          · have hlb : (y.lag != x.lag) = true := by simpa using hl
            have HR : Hid (L ++ [⟨10, x.id⟩, ⟨11, x.id⟩] = (l2.take (k + 1)).flatMap (fl1 l1)) := Lib.hid (by rw [take_flat _ _ hx, ← HL1.out, fl1_some hfi hy, if_neg hw, if_neg hl]; simp)
            have HFi := Lib.hid (fun W (h : Below w.heap.size w W) => FindF_some c1 x.id l1 n1 a1 k1 W Hn1.out (by omega) (HS1.out.below h) j y hfi hy)
            clear hx hfi hy hw hl
            go_wp2_with (first
              | (go_at_call 121; (refine (HFi.out _ hbI).mono ?_; rintro e w3 ⟨rfl, hb3⟩; have hI3 := heap_below HI.out hb3; obtain ⟨p0, p1, p2, u0, u1, u2, pl⟩ := blk3 hI3; have HI3 := Lib.hid hI3; have hz3 : wr.heap.size + 1 ≤ w3.heap.size := (by have := hb3.size; simp at this; omega); have hZ1 := Lib.hid (heap_below (heap_alloc HY1.out _) hb3); have hZ2 := Lib.hid (heap_below (heap_alloc HY2.out _) hb3); have hbJ := Lib.hid (hbI.trans (hb3.mono hbI.size)); have Ho3 := Lib.hid (own_below (Ho.out.alloc _) hb3); clear hI3))
              | (at_builtin; (refine wpList_append_lies _ (by rfl) _ _ _ (by rfl) (w.heap.size + 2) 208 i0 _ 2 16 Tryz.underlying160 hi0 hz0 hz1 hz2 rfl (by omega) (.slice (some ⟨g5, 0, none⟩) (m + 1) cap5) (m + 1) _ (by rfl) (Hown5.out.alloc _) ⟨w5.heap.size, 0, none⟩ 1 1 [.int .i64 11, .int .i64 x.id] (by rfl) (by rfl) (World.news_of_block (cs := #[.int .i64 11, .int .i64 x.id]) (t := 208) (fr := (0, 0)) (heap_new _ _)) (by simp [Value.oneCell']) (by omega) (by unfold maxLen; omega) (by omega) (by simp; omega) (w5.heap.size + 1) (by simp) ?_); intro g6 cap6 w6 hown6 hgrow hat6 hlt6; have hfr : Fr (fun q => (Value.slice (some ⟨g5, 0, none⟩) (m + 1) cap5).ownBlock = some q) w5 w6 := (((Fr.refl _ _).alloc _).trans (Fr.of_grown hgrow) (fun _ _ h => h)); have HZ16 := Lib.hid (heap_fr HZ1.out hfr (fun h => by have := (Hown5.out.lt _ h).1; omega)); have HZ26 := Lib.hid (heap_fr HZ2.out hfr (fun h => by have := (Hown5.out.lt _ h).1; omega)); have HB6 := Lib.hid (HB5.out.trans (hfr.below (B := w.heap.size) HB5.out.size (fun q hq => by have := (Hown5.out.lt q hq).1; omega))); have Hown6 := Lib.hid hown6; clear hfr hgrow hat6 hown6)
              | (at_builtin; (refine wpList_append_lies _ (by rfl) _ _ _ (by rfl) (w.heap.size + 2) 208 i0 _ 2 16 Tryz.underlying160 hi0 hz0 hz1 hz2 rfl (by omega) (.slice fa m fc) m _ (by rfl) ((Ho3.out.alloc _).alloc _) ⟨w3.heap.size + 1, 0, none⟩ 1 1 [.int .i64 10, .int .i64 x.id] (by rfl) (by rfl) (World.news_of_block (cs := #[.int .i64 10, .int .i64 x.id]) (t := 208) (fr := (0, 0)) (heap_at (by simp) _)) (by simp [Value.oneCell']) (by omega) (by unfold maxLen; omega) (by omega) (by simp; omega) (w3.heap.size + 1 + 1) (by simp) ?_); intro g5 cap5 w5 hown5 hgrow hat hlt5; have hfr : Fr (fun q => (Value.slice fa m fc).ownBlock = some q) w3 w5 := ((((Fr.refl _ _).alloc _).alloc _).trans (Fr.of_grown hgrow) (fun _ _ h => h)); have hI5 := heap_fr HI3.out hfr (fun h => by have := (Hlo.out _ h).2; omega); obtain ⟨p3, p4, p5, u3, u4, u5, pl5⟩ := blk3 hI5; have hJ5 := heap_fr (heap_alloc (heap_new w3 (.cells #[.int .i64 y.id, .int .i64 y.w, .int .i64 y.lag] 119)) (.cells #[.int .i64 10, .int .i64 x.id] 208)) (Fr.of_grown hgrow) (fun h => by have := (Hlo.out _ h).2; omega); obtain ⟨p6, p7, p8, u6, u7, u8, pl8⟩ := blk3 hJ5; have HZ1 := Lib.hid (heap_fr hZ1.out hfr (fun h => by have := (Hlo.out _ h).1; omega)); have HZ2 := Lib.hid (heap_fr hZ2.out hfr (fun h => by have := (Hlo.out _ h).1; omega)); have HB5 := Lib.hid (hbJ.out.trans (hfr.below (B := w.heap.size) hbJ.out.size (fun q hq => by have := (Hlo.out q hq).1; omega))); have Hown5 := Lib.hid hown5; have hz5 := hfr.size; have HI5 := Lib.hid hI5; have HJ5 := Lib.hid hJ5; have Hat := Lib.hid hat; clear hI5 hJ5 hfr hgrow hat hown5)
              )
            go_roundw
            case rel => exact ⟨k + 1, m + 1 + 1, _, _, L ++ [⟨10, x.id⟩, ⟨11, x.id⟩], by omega, rfl, by go_num, HR.out, by rw [Hm.out]; simp, (by rw [flat_append]; have h := Hown6.out; rw [List.append_assoc] at h; exact h), HZ16.out, HZ26.out, HB6.out⟩
            case measure => simp [intOf]; omega
    · have hkn : n2 = k := by omega
      subst hkn
      have HF1 := Lib.hid (show L = l2.flatMap (fl1 l1) by rw [hL, ← Hn2.out, List.take_length])
      clear hL
      go_wp2_with fail
      go_loopw [5, 68] (fun s i wr => ∃ (k m : Nat) (fa : Option Addr) (fc : Nat) (L : List Ft), k ≤ n1 ∧ s = .slice fa m fc ∧ i = .int .i64 k ∧ L = l2.flatMap (fl1 l1) ++ (l1.take k).flatMap (fl2 l2) ∧ m = L.length ∧ wr.ownsRow (w.heap.size + 2) 208 2 (.slice fa m fc) m (flat Ft.enc L) ∧
        wr.heap[w.heap.size]? = some (.cells #[.int .i64 c1, .slice a1 n1 k1] 41 (0, 0)) ∧ wr.heap[w.heap.size + 1]? = some (.cells #[.int .i64 c2, .slice a2 n2 k2] 41 (0, 0)) ∧ Below w.heap.size w wr) (fun _ i _ => n1 - (intOf i).toNat)
      case atStart => exact ⟨0, m, fa, fc, L, Nat.zero_le _, rfl, rfl, by rw [HF1.out]; simp, hm, hown, HY1.out, HY2.out, hb⟩
      case round =>
        clear hm hown HF1
        obtain ⟨k, m, fa, fc, L, hk, rfl, rfl, hL, hm, hown, hX1, hX2, hb⟩ := hrel
        have hsz := hb.size
        have hmx : m ≤ 192 := by
          have h := flat_len_le (fl1 l1) 2 (fl1_len l1) l2
          have h' := flat_len_le (fl2 l2) 1 (fl2_len l2) (l1.take k)
          rw [List.length_take] at h'
          have h3 : m = (l2.flatMap (fl1 l1)).length + ((l1.take k).flatMap (fl2 l2)).length := by rw [hm, hL, List.length_append]
          have h4 := Hn2.out
          omega
        obtain ⟨g0, g1, y0, y1, gl⟩ := blk2 hX1
        obtain ⟨q0, q1, z0, z1, ql⟩ := blk2 hX2
        have HY1 := Lib.hid hX1
        have HY2 := Lib.hid hX2
        clear hX1 hX2
        by_cases hlt : k < n1
        · have hlt0 := hlt
          obtain ⟨r, off, rfl, hr, hcc⟩ := HS1.out (by intro h; have h1 := Hn1.out; rw [h] at h1; simp at h1; omega)
          obtain ⟨x, hx⟩ : ∃ x, l1[k]? = some x := ⟨_, List.getElem?_eq_getElem (by rw [Hn1.out]; exact hlt)⟩
          have e0 := (hb.cell (p := ⟨r, off + k * 3 + 0, none⟩) hr).trans (hcc k x hx 0 _ rfl)
          have e1 := (hb.cell (p := ⟨r, off + k * 3 + 1, none⟩) hr).trans (hcc k x hx 1 _ rfl)
          have e2 := (hb.cell (p := ⟨r, off + k * 3 + 2, none⟩) hr).trans (hcc k x hx 2 _ rfl)
          simp only [Nat.add_zero] at e0
          have hI := heap_new wr (.cells #[.int .i64 x.id, .int .i64 x.w, .int .i64 x.lag] 119)
          have HI := Lib.hid hI
          have hbI := hb.alloc hsz (.cells #[.int .i64 x.id, .int .i64 x.w, .int .i64 x.lag] 119)
          have HL1 := Lib.hid hL
          have Hm := Lib.hid hm
          have Ho := Lib.hid hown
          have Hlo := Lib.hid (fun q hq => hown.lt q hq)
          clear hcc hI hL hm hown
          rcases fi_or (isIt x.id) l2 with hfi | ⟨j, y, hfi, hy⟩
          · have HFi := Lib.hid (fun W (h : Below w.heap.size w W) => FindF_none c2 x.id l2 n2 a2 k2 W Hn2.out (by omega) (HS2.out.below h) hfi)
            have HR : Hid (L ++ [⟨9, x.id⟩] = l2.flatMap (fl1 l1) ++ (l1.take (k + 1)).flatMap (fl2 l2)) := Lib.hid (by rw [take_flat _ _ hx, ← List.append_assoc, ← HL1.out, fl2_none hfi])
            clear hx hfi
            go_wp2_with (first
              | (go_at_call 121; (refine (HFi.out _ hbI).mono ?_; rintro e w3 ⟨rfl, hb3⟩; have hI3 := heap_below HI.out hb3; obtain ⟨p0, p1, p2, u0, u1, u2, pl⟩ := blk3 hI3; have HI3 := Lib.hid hI3; have hz3 : wr.heap.size + 1 ≤ w3.heap.size := (by have := hb3.size; simp at this; omega); have hZ1 := Lib.hid (heap_below (heap_alloc HY1.out _) hb3); have hZ2 := Lib.hid (heap_below (heap_alloc HY2.out _) hb3); have hbJ := Lib.hid (hbI.trans (hb3.mono hbI.size)); have Ho3 := Lib.hid (own_below (Ho.out.alloc _) hb3); clear hI3))
              | (at_builtin; (refine wpList_append_lies _ (by rfl) _ _ _ (by rfl) (w.heap.size + 2) 208 i0 _ 2 16 Tryz.underlying160 hi0 hz0 hz1 hz2 rfl (by omega) (.slice fa m fc) m _ (by rfl) ((Ho3.out.alloc _).alloc _) ⟨w3.heap.size + 1, 0, none⟩ 1 1 [.int .i64 9, .int .i64 x.id] (by rfl) (by rfl) (World.news_of_block (cs := #[.int .i64 9, .int .i64 x.id]) (t := 208) (fr := (0, 0)) (heap_at (by simp) _)) (by simp [Value.oneCell']) (by omega) (by unfold maxLen; omega) (by omega) (by simp; omega) (w3.heap.size + 1 + 1) (by simp) ?_); intro g5 cap5 w5 hown5 hgrow hat hlt5; have hfr : Fr (fun q => (Value.slice fa m fc).ownBlock = some q) w3 w5 := ((((Fr.refl _ _).alloc _).alloc _).trans (Fr.of_grown hgrow) (fun _ _ h => h)); have hI5 := heap_fr HI3.out hfr (fun h => by have := (Hlo.out _ h).2; omega); obtain ⟨p3, p4, p5, u3, u4, u5, pl5⟩ := blk3 hI5; have hJ5 := heap_fr (heap_alloc (heap_new w3 (.cells #[.int .i64 0, .int .i64 0, .int .i64 0] 119)) (.cells #[.int .i64 9, .int .i64 x.id] 208)) (Fr.of_grown hgrow) (fun h => by have := (Hlo.out _ h).2; omega); obtain ⟨p6, p7, p8, u6, u7, u8, pl8⟩ := blk3 hJ5; have HZ1 := Lib.hid (heap_fr hZ1.out hfr (fun h => by have := (Hlo.out _ h).1; omega)); have HZ2 := Lib.hid (heap_fr hZ2.out hfr (fun h => by have := (Hlo.out _ h).1; omega)); have HB5 := Lib.hid (hbJ.out.trans (hfr.below (B := w.heap.size) hbJ.out.size (fun q hq => by have := (Hlo.out q hq).1; omega))); have Hown5 := Lib.hid hown5; have hz5 := hfr.size; have HI5 := Lib.hid hI5; have HJ5 := Lib.hid hJ5; have Hat := Lib.hid hat; clear hI5 hJ5 hfr hgrow hat hown5)
              )
            go_roundw
            case rel => exact ⟨k + 1, m + 1, _, _, L ++ [⟨9, x.id⟩], by omega, rfl, by go_num, HR.out, by rw [Hm.out]; simp, (by rw [flat_append]; exact Hown5.out), HZ1.out, HZ2.out, HB5.out⟩
            case measure => simp [intOf]; omega
          · have HFi := Lib.hid (fun W (h : Below w.heap.size w W) => FindF_some c2 x.id l2 n2 a2 k2 W Hn2.out (by omega) (HS2.out.below h) j y hfi hy)
            have HR : Hid (L = l2.flatMap (fl1 l1) ++ (l1.take (k + 1)).flatMap (fl2 l2)) := Lib.hid (by rw [take_flat _ _ hx, ← List.append_assoc, ← HL1.out, fl2_some hfi]; simp)
            clear hx hfi hy
            go_wp2_with (first
              | (go_at_call 121; (refine (HFi.out _ hbI).mono ?_; rintro e w3 ⟨rfl, hb3⟩; have hI3 := heap_below HI.out hb3; obtain ⟨p0, p1, p2, u0, u1, u2, pl⟩ := blk3 hI3; have HI3 := Lib.hid hI3; have hz3 : wr.heap.size + 1 ≤ w3.heap.size := (by have := hb3.size; simp at this; omega); have hZ1 := Lib.hid (heap_below (heap_alloc HY1.out _) hb3); have hZ2 := Lib.hid (heap_below (heap_alloc HY2.out _) hb3); have hbJ := Lib.hid (hbI.trans (hb3.mono hbI.size)); have Ho3 := Lib.hid (own_below (Ho.out.alloc _) hb3); clear hI3))
              )
            go_roundw
            case rel => exact ⟨k + 1, m, _, _, L, by omega, rfl, by go_num, HR.out, Hm.out, Ho3.out.alloc _, heap_alloc hZ1.out _, heap_alloc hZ2.out _, hbJ.out.alloc hbJ.out.size _⟩
            case measure => simp [intOf]; omega
        · have hkn : n1 = k := by omega
          subst hkn
          have Hlo := Lib.hid (fun q hq => hown.lt q hq)
          have Ho := Lib.hid hown
          have HL2 := Lib.hid (show L = l2.flatMap (fl1 l1) ++ l1.flatMap (fl2 l2) by rw [hL, ← Hn1.out, List.take_length])
          have Hm := Lib.hid hm
          clear hL hm hown
          by_cases hc : c1 = c2
          · have hcb : (c1 != c2) = false := by simp [hc]
            have HM : Hid (L = faultsM c1 l1 c2 l2) := Lib.hid (by unfold faultsM; rw [if_pos hc, ← HL2.out]; simp)
            have HC := Lib.hid (ClipAny fa m fc wr (by omega) Ho.out)
            clear hc
            go_wp2_with (go_at_call 122; refine HC.out.mono ?_; rintro e w9 ⟨c9, rfl, rfl⟩)
            go_ret
            refine ⟨fa, c9, by rw [← HM.out, ← Hm.out]; rfl, ?_, hb⟩
            have ho := Ho.out
            rw [Hm.out] at ho
            rw [← HM.out]
            exact Sl.of_own Ft.len ho
          · have hcb : (c1 != c2) = true := by simpa using hc
            have HM : Hid (L ++ [⟨12, c1⟩] = faultsM c1 l1 c2 l2) := Lib.hid (by unfold faultsM; rw [if_neg hc, ← HL2.out])
            clear hc
            go_wp2_with (first
              |
                (at_builtin; (refine wpList_append_lies _ (by rfl) _ _ _ (by rfl) (w.heap.size + 2) 208 i0 _ 2 16 Tryz.underlying160 hi0 hz0 hz1 hz2 rfl (by omega) (.slice fa m fc) m _ (by rfl) (Ho.out.alloc _) ⟨wr.heap.size, 0, none⟩ 1 1 [.int .i64 12, .int .i64 c1] (by rfl) (by rfl) (World.news_of_block (cs := #[.int .i64 12, .int .i64 c1]) (t := 208) (fr := (0, 0)) (heap_new _ _)) (by simp [Value.oneCell']) (by omega) (by unfold maxLen; omega) (by omega) (by simp; omega) (wr.heap.size + 1) (by simp) ?_); intro g5 cap5 w5 hown5 hgrow hat hlt5; have hfr : Fr (fun q => (Value.slice fa m fc).ownBlock = some q) wr w5 := (((Fr.refl _ _).alloc _).trans (Fr.of_grown hgrow) (fun _ _ h => h)); have HB5 := Lib.hid (hb.trans (hfr.below (B := w.heap.size) hb.size (fun q hq => by have := (Hlo.out q hq).1; omega))); have Hown5 := Lib.hid hown5; clear hfr hgrow hat hown5)
              | (go_at_call 122; refine (ClipAny (some ⟨g5, 0, none⟩) (m + 1) cap5 w5 (by omega) Hown5.out).mono ?_; rintro e w9 ⟨c9, rfl, rfl⟩))
            go_ret
            have hlm : (L ++ [(⟨12, c1⟩ : Ft)]).length = m + 1 := by rw [Hm.out]; simp
            refine ⟨some ⟨g5, 0, none⟩, c9, by rw [← HM.out, hlm]; rfl, ?_, HB5.out⟩
            have ho : w5.ownsRow (w.heap.size + 2) 208 2 (.slice (some ⟨g5, 0, none⟩) (L ++ [(⟨12, c1⟩ : Ft)]).length cap5) (L ++ [(⟨12, c1⟩ : Ft)]).length (flat Ft.enc (L ++ [⟨12, c1⟩])) := by
              rw [hlm, flat_append]
              exact Hown5.out
            rw [← HM.out]
            exact Sl.of_own Ft.len ho
end Go.Proofs.YtlgkkolgdjgclaaGreat
/- Package shadow: a queue of bytes; a core's bytes. -/
namespace Go.Proofs.YtlgkkolgdjgclaaGreat
open Go.RowKit
set_option linter.unusedVariables false
set_option linter.unusedSimpArgs false

set_option maxHeartbeats 800000 in
theorem Make_tag (tag base : Int) (n : Nat) (a : Option Addr) (c : Nat) (w : World) (ht : ¬ TagOk tag) :
    Calls Tryz.prog 81 #[.slice a n c, .int .i64 tag, .int .i64 base] w fun e w' => e = .returned (.tuple #[.pointer none, .int .i64 1]) ∧ Below w.heap.size w w' := by
  have HG := Lib.hid (fun W => PolGood tag W (r := false) (by rw [decide_eq_false_iff_not]; unfold TagOk at ht; omega))
  clear ht
  go_enter Tryz.func81, Tryz.ntmps81
  go_wp2_with (go_at_call 97; refine (HG.out _).mono ?_; rintro e w1 ⟨rfl, rfl⟩)
  go_ret2
  exact ⟨rfl, Below.refl _ _⟩

set_option maxHeartbeats 1600000 in
set_option maxRecDepth 100000 in
theorem Make_err (l : List Int) (tag base : Int) (n : Nat) (a : Option Addr) (c : Nat) (w : World) (hn : l.length = n) (hl : n ≤ 1000000) (hc : n ≤ c) (hB : ∀ x ∈ l, Byte x) (hs : Sl encU 1 w a l) (ht : TagOk tag) {er : Int} (he : (readE l).2.2 = er) (h0 : er ≠ 0) :
    Calls Tryz.prog 81 #[.slice a n c, .int .i64 tag, .int .i64 base] w fun e w' => e = .returned (.tuple #[.pointer none, .int .i64 er]) ∧ Below w.heap.size w w' := by
  have HG := Lib.hid (fun W => PolGood tag W (r := true) (by rw [decide_eq_true_iff]; unfold TagOk at ht; omega))
  have HR := Lib.hid (ElderRead l n a c w hn hl hc hB hs (R := readE l) rfl)
  generalize readE l = R at *
  obtain ⟨r1, r2, r3⟩ := R
  simp only at he
  subst he
  have h0b : (r3 != 0) = true := by simpa using h0
  clear ht hs hB hn h0
  go_enter Tryz.func81, Tryz.ntmps81
  go_wp2_with (first
    | (go_at_call 97; refine (HG.out _).mono ?_; rintro e w1 ⟨rfl, rfl⟩)
    | (go_at_call 98; refine HR.out.mono ?_; rintro e w2 ⟨fa, fc, rfl, _, hb2⟩))
  go_ret2
  exact ⟨rfl, hb2.alloc hb2.size _⟩

set_option maxHeartbeats 1600000 in
set_option maxRecDepth 100000 in
theorem Make_ok (l : List Int) (tag base : Int) (n : Nat) (a : Option Addr) (c : Nat) (w : World) (hn : l.length = n) (hl : n ≤ 1000000) (hc : n ≤ c) (hB : ∀ x ∈ l, Byte x) (hs : Sl encU 1 w a l) (ht : TagOk tag) (hb : BaseOk base) {f : Fm} (hf : (readE l).2.1 = f) (h0 : (readE l).2.2 = 0) :
    Calls Tryz.prog 81 #[.slice a n c, .int .i64 tag, .int .i64 base] w (PolPost w tag (seedR f base)) := by
  have HG := Lib.hid (fun W => PolGood tag W (r := true) (by rw [decide_eq_true_iff]; unfold TagOk at ht; omega))
  have HR := Lib.hid (ElderRead l n a c w hn hl hc hB hs (R := readE l) rfl)
  have hgood := readE_good h0
  generalize readE l = R at *
  obtain ⟨r1, r2, r3⟩ := R
  simp only at hf h0 hgood
  subst hf h0
  unfold goodC at hgood
  rw [Bool.and_eq_true] at hgood
  have HP := Lib.hid (fun W A C (h : Sl It.enc 3 W A r2.l) => PolSeed_ok tag r2 r2.l.length A C base W rfl h ht hb hgood.2)
  clear ht hs hB hn hgood hb
  go_enter Tryz.func81, Tryz.ntmps81
  go_wp2_with (first
    | (go_at_call 97; refine (HG.out _).mono ?_; rintro e w1 ⟨rfl, rfl⟩)
    | (go_at_call 98; refine HR.out.mono ?_; rintro e w2 ⟨fa, fc, rfl, ho2, hb2⟩; have Hs2 := Lib.hid ((Sl.of_own It.len ho2).below ((Below.refl _ _).alloc (Nat.le_refl _) (.cells #[.int .i64 r2.cur, .slice fa r2.l.length fc] 41))); have hb3 := hb2.alloc hb2.size (.cells #[.int .i64 r2.cur, .slice fa r2.l.length fc] 41); clear ho2)
    | (go_at_call 99; refine (HP.out _ _ _ Hs2.out).mono ?_; rintro e w4 ⟨p, F, rfl, hq, hF, hb4⟩; have Hq := Lib.hid hq; have HF := Lib.hid hF; clear hq hF))
  go_ret2
  exact ⟨p, F, rfl, Hq.out, fun k hk => Nat.le_trans hb3.size (HF.out k hk), hb3.trans (hb4.mono hb3.size)⟩
end Go.Proofs.YtlgkkolgdjgclaaGreat
/- Package shadow: a core turned to another policy. -/
namespace Go.Proofs.YtlgkkolgdjgclaaGreat
open Go.RowKit
set_option linter.unusedVariables false
set_option linter.unusedSimpArgs false
section
variable {w0 w : World} {F : Nat → Prop} {c p b r : Nat} {s : CoreS} {K : Int}

set_option maxHeartbeats 1600000 in
set_option maxRecDepth 100000 in
theorem ShWrite (h : CSt w0 w F c p b r s) (ht : TagOk s.tag) (hk : OkS K s.q) {f : Fm} (hf : formR s.q = f) (hg : goodF f = true) :
    Calls Tryz.prog 80 #[.pointer (some ⟨c, 0, none⟩)] w fun e w' => ∃ a' c', e = .returned (.tuple #[.slice a' (putB s.tag f).length c', .int .i64 0]) ∧ w'.ownsRow w.heap.size 5 1 (.slice a' (putB s.tag f).length c') (putB s.tag f).length (flat encU (putB s.tag f)) ∧ Below w.heap.size w w' := by
  have hgc : goodC s.tag f = true := by unfold goodC; rw [hg, Bool.and_true, decide_eq_true_eq]; unfold TagOk at ht; omega
  have HT := Lib.hid (CorTag h)
  have HF := Lib.hid (CorForm h ht hk)
  have e1 : s.q.cur = f.cur := by rw [← hf]; rfl
  have e2 : s.q.l.map (itOf s.q.base) = f.l := by rw [← hf]; rfl
  rw [e1, e2] at HF
  have HP := Lib.hid (fun W A C (hs : Sl It.enc 3 W A f.l) => CodePut_ok s.tag f.cur f.l f.l.length A C W rfl hs hgc)
  clear h ht hk hf hg hgc e1 e2
  go_enter Tryz.func80, Tryz.ntmps80
  go_wp2_with (first
    | (go_at_call 15; refine HT.out.mono ?_; rintro e w1 ⟨rfl, rfl⟩)
    | (go_at_call 19; refine HF.out.mono ?_; rintro e w2 ⟨a2, c2, rfl, ho2, hb2⟩; have Hs2 := Lib.hid (Sl.of_own It.len ho2); clear ho2)
    | (go_at_call 96; refine (HP.out _ _ _ Hs2.out).mono ?_; rintro e w3 ⟨a3, c3, rfl, ho3, hb3⟩; have Ho3 := Lib.hid ho3; clear ho3))
  go_ret2
  exact ⟨a3, c3, rfl, own_base Ho3.out hb2.size, hb2.trans (hb3.mono hb2.size)⟩

set_option maxHeartbeats 1600000 in
set_option maxRecDepth 100000 in
theorem ShFits {H : Nat → Prop} {p2 b2 : Nat} {tag2 : Int} {S2 : Ln} {K2 : Int} (h : CSt w0 w F c p b r s) (hq : PSt w0 w H p2 b2 tag2 S2) (ht : TagOk s.tag) (ht2 : TagOk tag2) (hk : OkS K s.q) (hk2 : OkS K2 S2) {f : Fm} (hf : formR s.q = f) (hf2 : formR S2 = f) (hg : goodF f = true) :
    Calls Tryz.prog 82 #[.pointer (some ⟨c, 0, none⟩), .pointer (some ⟨p2, 0, none⟩)] w fun e w' => e = .returned (.slice none 0 0) ∧ Below w.heap.size w w' := by
  obtain ⟨FN2, hmf2, hef2, HQb⟩ := ifForm tag2 ht2 b2
  obtain ⟨q0, q1, z0, z1, qlt⟩ := blk2 hq.cell
  have HQ := Lib.hid (HQb.out hq.q hk2)
  have HF := Lib.hid (fun W (hW : Below w.heap.size w W) => CorForm (h.below hW) ht hk)
  have e1 : s.q.cur = f.cur := by rw [← hf]; rfl
  have e2 : s.q.l.map (itOf s.q.base) = f.l := by rw [← hf]; rfl
  have e3 : S2.cur = f.cur := by rw [← hf2]; rfl
  have e4 : S2.l.map (itOf S2.base) = f.l := by rw [← hf2]; rfl
  rw [e1, e2] at HF
  rw [e3, e4] at HQ
  have HC := Lib.hid (fun W A C A2 C2 (hs : Sl It.enc 3 W A f.l) (hs2 : Sl It.enc 3 W A2 f.l) => FaultsSame f.cur f.l f.l.length A A2 C C2 W rfl hs hs2 (goodF_P hg))
  clear h hq ht ht2 hk hk2 hf hf2 hg e1 e2 e3 e4 HQb
  go_enter Tryz.func82, Tryz.ntmps82
  go_wp2_with (first
    | (go_at_fn FN2; refine HQ.out.mono ?_; rintro e w1 ⟨a1, c1, rfl, ho1, hb1⟩; have Hs1 := Lib.hid (Sl.of_own It.len ho1); clear ho1)
    | (go_at_call 19; refine (HF.out _ hb1).mono ?_; rintro e w2 ⟨a2, c2, rfl, ho2, hb2⟩; have Hs2 := Lib.hid (Sl.of_own It.len ho2); have Hs1 := Lib.hid (Hs1.out.below hb2); have hb3 := hb1.trans (hb2.mono hb1.size); clear ho2)
    | (go_at_call 100; refine (HC.out _ _ _ _ _ Hs1.out Hs2.out).mono ?_; rintro e w4 ⟨rfl, hb4⟩))
  go_ret
  exact ⟨rfl, hb3.trans (hb4.mono hb3.size)⟩

end
end Go.Proofs.YtlgkkolgdjgclaaGreat
