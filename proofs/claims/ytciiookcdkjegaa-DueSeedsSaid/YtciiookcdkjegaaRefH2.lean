/- The document's own forms: Good, part 2. -/
import Derived.Test.YtciiookcdkjegaaRefH0
namespace Go.Proofs.Ytciiookcdkjegaa
open Go.RowKit
set_option linter.unusedVariables false
set_option linter.unusedSimpArgs false

set_option maxHeartbeats 6400000 in
set_option maxRecDepth 100000 in
theorem rGood_bad2 (cur : Int) (l : List It) (n : Nat) (a : Option Addr) (c : Nat) (w : World) (hn : l.length = n) (hl : n ≤ 4611686018427387904) (hs : Sl It.enc 3 w a l) (k0 : Nat) (y : It) (hy : l[k0]? = some y) (hok : OkTo l k0)
    (hasc : ∀ j z, k0 = j + 1 → l[j]? = some z → z.id < y.id) (hc : 0 ≤ y.id ∧ y.id ≤ 1073741824 ∧ goodW y.w = false) :
    Calls Try.prog 61 #[.agg #[.int .i64 cur, .slice a n c]] w fun e w' => e = .returned (.bool false) ∧ Below w.heap.size w w' := by
  have hk0 : k0 < n := by rw [← hn]; exact (List.getElem?_eq_some_iff.1 hy).1
  have Hy := Lib.hid hy
  have Hok := Lib.hid hok
  have Hasc := Lib.hid hasc
  have Hc := Lib.hid hc
  have HS := Lib.hid hs
  have Hn := Lib.hid hn
  have HF := Lib.hid (heap_new w (.cells #[.int .i64 cur, .slice a n c] 36))
  clear hs hn hy hok hasc hc
  go_enter Try.func61, Try.ntmps61
  go_wp2_with fail
  refine wp_region_chain 90 [0, 1, 3, 0, 8, 24, 56, 7, 255] [(0, none), (1, none), (2, none), (3, none), (4, none), (5, none), (6, none), (7, none), (8, none)] (by kernel_rfl) (by kernel_rfl) (by rfl) ?_; simp only [chain, Obs, List.getElem?_toArray, List.getElem?_cons_zero, List.getElem?_cons_succ]
  go_wp2_with (first
    | (with_reducible refine And.intro (by first | with_reducible exact True.intro | with_reducible rfl | go_simp) ?_))
  refine NoPanic.normal ?_
  go_wp2_with fail
  go_loopw [3, 4, 5] (fun px qx ix wr => ∃ (k : Nat) (p q : Bool), k ≤ k0 ∧ px = .bool p ∧ qx = .bool q ∧ ix = .int .i64 k ∧ Below (w.heap.size + 1) (w.alloc (.cells #[.int .i64 cur, .slice a n c] 36)) wr) (fun _ _ ix _ => n - (intOf ix).toNat)
  case atStart => exact ⟨0, _, _, Nat.zero_le _, rfl, rfl, rfl, (Below.refl _ _).drew⟩
  case round =>
    obtain ⟨k, p, q, hk, rfl, rfl, rfl, hb⟩ := hrel
    have hb' : Below (w.alloc (.cells #[.int .i64 cur, .slice a n c] 36)).heap.size (w.alloc (.cells #[.int .i64 cur, .slice a n c] 36)) wr := by simpa using hb
    obtain ⟨x0, x1, v0, v1, xl⟩ := blk2 (heap_below HF.out hb')
    have hbw := ((Below.refl w.heap.size w).alloc (Nat.le_refl _) _).trans (hb'.mono (by simp))
    have Hbw := Lib.hid hbw
    have hsz := hbw.size
    clear hb'
    obtain ⟨r, off, rfl, hr, hcc⟩ := HS.out (by intro h; have h1 := Hn.out; rw [h] at h1; simp at h1; omega)
    obtain ⟨x, hx⟩ : ∃ x, l[k]? = some x := ⟨_, List.getElem?_eq_getElem (by rw [Hn.out]; omega)⟩
    have e0 := (hbw.cell (p := ⟨r, off + k * 3 + 0, none⟩) hr).trans (hcc k x hx 0 _ rfl)
    have e1 := (hbw.cell (p := ⟨r, off + k * 3 + 1, none⟩) hr).trans (hcc k x hx 1 _ rfl)
    have e2 := (hbw.cell (p := ⟨r, off + k * 3 + 2, none⟩) hr).trans (hcc k x hx 2 _ rfl)
    simp only [Nat.add_zero] at e0
    have hki : (k : Int) < n := by omega
    have hne : w.heap.size ≠ wr.heap.size := by omega
    have hrw : r ≠ wr.heap.size := by omega
    have hlr : r < wr.heap.size := by omega
    have Hx := Lib.hid hx
    have hprev : k = 0 ∨ ∃ j z, k = j + 1 ∧ l[j]? = some z ∧ wr.cell? ⟨r, off + j * 3, none⟩ = some (.int .i64 z.id) := by
      cases k with
      | zero => exact .inl rfl
      | succ j =>
        obtain ⟨z, hz⟩ : ∃ z, l[j]? = some z := ⟨_, List.getElem?_eq_getElem (by rw [Hn.out]; omega)⟩
        have g0 := (hbw.cell (p := ⟨r, off + j * 3 + 0, none⟩) hr).trans (hcc j z hz 0 _ rfl)
        simp only [Nat.add_zero] at g0
        exact .inr ⟨j, z, rfl, hz, g0⟩
    have Hprev := Lib.hid hprev
    clear hcc hx hprev hbw
    by_cases hlt : k < k0
    · have HM := Lib.hid (Hok.out.1 k hlt x Hx.out)
      have HZ := Lib.hid (fun j z (e : k = j + 1) (hz : l[j]? = some z) => Hok.out.2 j (by omega) z x hz (by rw [← e]; exact Hx.out) : ∀ j z, k = j + 1 → l[j]? = some z → z.id < x.id)
      -- item k may be: HM: mayB; HZ: the one ahead has a lesser ID
      obtain ⟨m1, m2, m3, m4, m5, m6⟩ := mayB_true HM.out
      have hg : goodW x.w = true := by unfold goodW; simp; omega
      have Hg := Lib.hid hg
      clear hg
      rcases Hprev.out with rfl | ⟨j, z, rfl, hz, g0⟩
      case' inl =>
        simp only [Nat.zero_mul, Nat.add_zero] at e0 e1 e2
      case' inr =>
        have hzx := HZ.out j z rfl hz
        have Hz := Lib.hid hz
        clear hz
      all_goals
        go_wp2_with fail
        refine wp_region_chain 90 [0, 1, 3, 7, 15, 31, 63, 127, 255, 511, 1023, 2047, 4095, 8191, 4095, 20479, 4095, 69631, 249855, 511999, 1036287, 2097151, 4194303, 8388607, 16777215, 33554431, 67108863, 134217727, 268435455, 536870911, 1073741823, 2147483647, 4294967295, 8589934591, 17179869183, 34359738367, 68719476735, 137438953471, 274877906943, 549755813887] [(0, none), (1, none), (2, none), (3, none), (4, none), (5, none), (6, none), (7, none), (8, none), (9, none), (10, none), (11, none), (12, none), (13, none), (14, none), (15, none), (16, none), (17, none), (18, none), (19, none), (20, none), (21, none), (22, none), (23, none), (24, none), (25, none), (26, none), (27, some []), (28, none), (29, none), (30, none), (31, none), (32, none), (33, none), (34, none), (35, none), (36, none), (37, none), (38, none), (39, none)] (by kernel_rfl) (by kernel_rfl) (by rfl) ?_; simp only [chain, Obs, List.getElem?_toArray, List.getElem?_cons_zero, List.getElem?_cons_succ]
        go_wp2_with (first
          | (with_reducible refine And.intro (by first | with_reducible exact True.intro | with_reducible rfl | go_simp) ?_)
          | (go_at_call 102; refine (rGood_any _ _ Hg.out).mono ?_; rintro e w1 ⟨rfl, rfl⟩))
        refine NoPanic.normal ?_
        cases p <;> cases q
      all_goals
        go_wp2_with fail
        go_roundw
        case measure => simp [intOf]; omega
        case rel => first | exact ⟨1, _, _, hlt, rfl, rfl, by go_num, (hb.alloc (by omega) _).drew⟩ | exact ⟨j + 1 + 1, _, _, hlt, rfl, rfl, by go_num, (hb.alloc (by omega) _).drew⟩
    · obtain rfl : k = k0 := by omega
      obtain rfl : x = y := by have h1 := Hx.out; rw [Hy.out] at h1; cases h1; rfl
      have hcase := Hc.out
      rcases Hprev.out with rfl | ⟨j, z, rfl, hz, g0⟩
      case' inl =>
        simp only [Nat.zero_mul, Nat.add_zero] at e0 e1 e2
      case' inr =>
        have hzx := Hasc.out j z rfl hz
        have Hz := Lib.hid hz
        clear hz
      all_goals
        obtain ⟨q1, q2, q3⟩ := hcase
        have Hg := Lib.hid q3
        clear q3
        go_wp2_with fail
        refine wp_region_chain 90 [0, 1, 3, 7, 15, 31, 63, 127, 255, 511, 1023, 2047, 4095, 8191, 4095, 20479, 4095, 69631, 249855, 511999, 1036287, 2097151, 4194303, 8388607, 16777215, 33554431, 67108863, 134217727, 268435455, 536870911, 1073741823, 2147483647, 4294967295, 8589934591, 17179869183, 34359738367, 68719476735, 137438953471, 274877906943, 549755813887] [(0, none), (1, none), (2, none), (3, none), (4, none), (5, none), (6, none), (7, none), (8, none), (9, none), (10, none), (11, none), (12, none), (13, none), (14, none), (15, none), (16, none), (17, none), (18, none), (19, none), (20, none), (21, none), (22, none), (23, none), (24, none), (25, none), (26, none), (27, some []), (28, none), (29, none), (30, none), (31, none), (32, none), (33, none), (34, none), (35, none), (36, none), (37, none), (38, none), (39, none)] (by kernel_rfl) (by kernel_rfl) (by rfl) ?_; simp only [chain, Obs, List.getElem?_toArray, List.getElem?_cons_zero, List.getElem?_cons_succ]
        go_wp2_with (first
          | (with_reducible refine And.intro (by first | with_reducible exact True.intro | with_reducible rfl | go_simp) ?_)
          | (go_at_call 102; refine (rGood_any _ _ Hg.out).mono ?_; rintro e w1 ⟨rfl, rfl⟩))
        refine NoPanic.normal ?_
        go_wp2_with fail
        go_ret
        exact ⟨rfl, (Hbw.out.alloc hsz _).drew⟩
end Go.Proofs.Ytciiookcdkjegaa
