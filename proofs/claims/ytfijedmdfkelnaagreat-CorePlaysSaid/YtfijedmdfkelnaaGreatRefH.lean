/- The document's own forms: what Good asks. -/
import Derived.Test.YtfijedmdfkelnaaGreatRefC
namespace Go.Proofs.YtfijedmdfkelnaaGreat
open Go.RowKit
set_option linter.unusedVariables false
set_option linter.unusedSimpArgs false

/-- All items may be; or there is a first one that may not. -/
theorem firstBad (l : List It) : OkTo l l.length ∨ ∃ k x, l[k]? = some x ∧ OkTo l k ∧ (mayB x.id x.w x.lag = false ∨ ∃ j z, k = j + 1 ∧ l[j]? = some z ∧ ¬ z.id < x.id) := by
  have key : ∀ k, k ≤ l.length → OkTo l k ∨ ∃ k x, l[k]? = some x ∧ OkTo l k ∧ (mayB x.id x.w x.lag = false ∨ ∃ j z, k = j + 1 ∧ l[j]? = some z ∧ ¬ z.id < x.id) := by
    intro k
    induction k with
    | zero => exact fun _ => .inl ⟨fun i hi => absurd hi (Nat.not_lt_zero _), fun i hi => absurd hi (Nat.not_lt_zero _)⟩
    | succ k ih =>
      intro hk
      rcases ih (by omega) with h | h
      · obtain ⟨x, hx⟩ : ∃ x, l[k]? = some x := ⟨_, List.getElem?_eq_getElem (by omega)⟩
        cases hm : mayB x.id x.w x.lag with
        | false => exact .inr ⟨k, x, hx, h, .inl hm⟩
        | true =>
          cases k with
          | zero => exact .inl (OkTo.one hx hm)
          | succ j =>
            obtain ⟨z, hz⟩ : ∃ x, l[j]? = some x := ⟨_, List.getElem?_eq_getElem (by omega)⟩
            by_cases hlt : z.id < x.id
            · exact .inl (h.step hz hx hm hlt)
            · exact .inr ⟨j + 1, x, hx, h, .inr ⟨j, z, rfl, hz, hlt⟩⟩
      · exact .inr h
  exact key _ (Nat.le_refl _)
def curTo (cur : Int) (l : List It) (k : Nat) : Bool := (cur == -1) || (l.take k).any (isIt cur)
theorem curTo_succ {cur : Int} {l : List It} {k : Nat} {x : It} (hx : l[k]? = some x) : curTo cur l (k + 1) = (curTo cur l k || (x.id == cur)) := by
  unfold curTo
  obtain ⟨h, rfl⟩ := List.getElem?_eq_some_iff.1 hx
  rw [List.take_succ_eq_append_getElem h, List.any_append]
  simp [isIt, Bool.or_assoc]
theorem curTo_all {cur : Int} {l : List It} : curTo cur l l.length = true ↔ (cur = -1 ∨ ∃ x ∈ l, x.id = cur) := by
  unfold curTo
  rw [List.take_length]
  simp [isIt]
theorem goodF_to {cur : Int} {l : List It} (h : OkTo l l.length) : goodF ⟨cur, l⟩ = (curTo cur l l.length && someTo l l.length && decide (l.length ≤ 64)) := by
  rw [Bool.eq_iff_iff]
  simp only [Bool.and_eq_true, decide_eq_true_eq, curTo_all, someTo_all]
  unfold goodF
  simp only [decide_eq_true_eq]
  exact ⟨fun h1 => ⟨⟨h1.2.1, h1.2.2.2.2⟩, h1.1⟩, fun h1 => ⟨h1.2, h1.1.1, h.may, h.asc, h1.1.2⟩⟩
theorem OkTo.zero (l : List It) : OkTo l 0 := ⟨fun i hi => absurd hi (Nat.not_lt_zero _), fun i hi => absurd hi (Nat.not_lt_zero _)⟩
theorem goodF_bad {cur : Int} {l : List It} {k : Nat} {x : It} (hx : l[k]? = some x) (hm : mayB x.id x.w x.lag = false) : goodF ⟨cur, l⟩ = false :=
  decide_eq_false fun h => by have := h.2.2.1 x (List.mem_of_getElem? hx); rw [hm] at this; cases this
theorem goodF_down {cur : Int} {l : List It} {k : Nat} {x y : It} (hx : l[k]? = some x) (hy : l[k + 1]? = some y) (hn : ¬ x.id < y.id) : goodF ⟨cur, l⟩ = false :=
  decide_eq_false fun h => OkTo.not_asc hx hy hn h.2.2.2.1

end Go.Proofs.YtfijedmdfkelnaaGreat
/- The document's own forms: Good, part 1. -/
namespace Go.Proofs.YtfijedmdfkelnaaGreat
open Go.RowKit
set_option linter.unusedVariables false
set_option linter.unusedSimpArgs false

set_option maxHeartbeats 6400000 in
set_option maxRecDepth 100000 in
theorem rGood_bad1 (cur : Int) (l : List It) (n : Nat) (a : Option Addr) (c : Nat) (w : World) (hn : l.length = n) (hl : n ≤ 4611686018427387904) (hs : Sl It.enc 3 w a l) (k0 : Nat) (y : It) (hy : l[k0]? = some y) (hok : OkTo l k0)
    (hasc : ∀ j z, k0 = j + 1 → l[j]? = some z → True) (hc : y.id < 0 ∨ (0 ≤ y.id ∧ 1073741824 < y.id)) :
    Calls Tryz.prog 45 #[.agg #[.int .i64 cur, .slice a n c]] w fun e w' => e = .returned (.bool false) ∧ Below w.heap.size w w' := by
  have hk0 : k0 < n := by rw [← hn]; exact (List.getElem?_eq_some_iff.1 hy).1
  have Hy := Lib.hid hy
  have Hok := Lib.hid hok
  have Hasc := Lib.hid hasc
  have Hc := Lib.hid hc
  have HS := Lib.hid hs
  have Hn := Lib.hid hn
  have HF := Lib.hid (heap_new w (.cells #[.int .i64 cur, .slice a n c] 36))
  clear hs hn hy hok hasc hc
  go_enter Tryz.func45, Tryz.ntmps45
  go_wp2_with fail
  refine wp_region_chain 90 [0, 1, 3, 0, 8, 24, 56, 7, 255] [(0, none), (1, none), (2, none), (3, none), (4, none), (5, none), (6, none), (7, none), (8, none)] (by kernel_rfl) (by kernel_rfl) (by rfl) ?_; simp only [chain, Obs, List.getElem?_toArray, List.getElem?_cons_zero, List.getElem?_cons_succ]
  go_wp2_with (first
    | (with_reducible refine And.intro (by first | with_reducible exact True.intro | with_reducible rfl | go_simp) ?_))
  refine NoPanic.normal ?_
  go_wp2_with fail
  go_loopw [3, 4, 5] (fun px qx ix wr => ∃ (k : Nat) (p q : Bool), k ≤ k0 ∧ px = .bool p ∧ qx = .bool q ∧ ix = .int .i64 k ∧ Below (w.heap.size + 1) (w.alloc (.cells #[.int .i64 cur, .slice a n c] 36)) wr) (fun _ _ ix _ => n - (intOf ix).toNat)
  case atStart => exact ⟨0, _, _, Nat.zero_le _, rfl, rfl, rfl, (Below.refl _ _).drew⟩
  case round =>
    obtain ⟨k, p, q, hk, rfl, rfl, rfl, hb⟩ := hrel
    have hb' : Below (w.alloc (.cells #[.int .i64 cur, .slice a n c] 36)).heap.size (w.alloc (.cells #[.int .i64 cur, .slice a n c] 36)) wr := by simpa using hb
    obtain ⟨x0, x1, v0, v1, xl⟩ := blk2 (heap_below HF.out hb')
    have hbw := ((Below.refl w.heap.size w).alloc (Nat.le_refl _) _).trans (hb'.mono (by simp))
    have Hbw := Lib.hid hbw
    have hsz := hbw.size
    clear hb'
    obtain ⟨r, off, rfl, hr, hcc⟩ := HS.out (by intro h; have h1 := Hn.out; rw [h] at h1; simp at h1; omega)
    obtain ⟨x, hx⟩ : ∃ x, l[k]? = some x := ⟨_, List.getElem?_eq_getElem (by rw [Hn.out]; omega)⟩
    have e0 := (hbw.cell (p := ⟨r, off + k * 3 + 0, none⟩) hr).trans (hcc k x hx 0 _ rfl)
    have e1 := (hbw.cell (p := ⟨r, off + k * 3 + 1, none⟩) hr).trans (hcc k x hx 1 _ rfl)
    have e2 := (hbw.cell (p := ⟨r, off + k * 3 + 2, none⟩) hr).trans (hcc k x hx 2 _ rfl)
    simp only [Nat.add_zero] at e0
    have hki : (k : Int) < n := by omega
    have hne : w.heap.size ≠ wr.heap.size := by omega
    have hrw : r ≠ wr.heap.size := by omega
    have hlr : r < wr.heap.size := by omega
    have Hx := Lib.hid hx
    have hprev : k = 0 ∨ ∃ j z, k = j + 1 ∧ l[j]? = some z ∧ wr.cell? ⟨r, off + j * 3, none⟩ = some (.int .i64 z.id) := by
      cases k with
      | zero => exact .inl rfl
      | succ j =>
        obtain ⟨z, hz⟩ : ∃ z, l[j]? = some z := ⟨_, List.getElem?_eq_getElem (by rw [Hn.out]; omega)⟩
        have g0 := (hbw.cell (p := ⟨r, off + j * 3 + 0, none⟩) hr).trans (hcc j z hz 0 _ rfl)
        simp only [Nat.add_zero] at g0
        exact .inr ⟨j, z, rfl, hz, g0⟩
    have Hprev := Lib.hid hprev
    clear hcc hx hprev hbw
    by_cases hlt : k < k0
    · have HM := Lib.hid (Hok.out.1 k hlt x Hx.out)
      have HZ := Lib.hid (fun j z (e : k = j + 1) (hz : l[j]? = some z) => Hok.out.2 j (by omega) z x hz (by rw [← e]; exact Hx.out) : ∀ j z, k = j + 1 → l[j]? = some z → z.id < x.id)
      -- item k may be: HM: mayB; HZ: the one ahead has a lesser ID
      obtain ⟨m1, m2, m3, m4, m5, m6⟩ := mayB_true HM.out
      have hg : goodW x.w = true := by unfold goodW; simp; omega
      have Hg := Lib.hid hg
      clear hg
      rcases Hprev.out with rfl | ⟨j, z, rfl, hz, g0⟩
      case' inl =>
        simp only [Nat.zero_mul, Nat.add_zero] at e0 e1 e2
      case' inr =>
        have hzx := HZ.out j z rfl hz
        have Hz := Lib.hid hz
        clear hz
      all_goals
        go_wp2_with fail
        refine wp_region_chain 90 [0, 1, 3, 7, 15, 31, 63, 127, 255, 511, 1023, 2047, 4095, 8191, 4095, 20479, 4095, 69631, 249855, 511999, 1036287, 2097151, 4194303, 8388607, 16777215, 33554431, 67108863, 134217727, 268435455, 536870911, 1073741823, 2147483647, 4294967295, 8589934591, 17179869183, 34359738367, 68719476735, 137438953471, 274877906943, 549755813887] [(0, none), (1, none), (2, none), (3, none), (4, none), (5, none), (6, none), (7, none), (8, none), (9, none), (10, none), (11, none), (12, none), (13, none), (14, none), (15, none), (16, none), (17, none), (18, none), (19, none), (20, none), (21, none), (22, none), (23, none), (24, none), (25, none), (26, none), (27, some []), (28, none), (29, none), (30, none), (31, none), (32, none), (33, none), (34, none), (35, none), (36, none), (37, none), (38, none), (39, none)] (by kernel_rfl) (by kernel_rfl) (by rfl) ?_; simp only [chain, Obs, List.getElem?_toArray, List.getElem?_cons_zero, List.getElem?_cons_succ]
        go_wp2_with (first
          | (with_reducible refine And.intro (by first | with_reducible exact True.intro | with_reducible rfl | go_simp) ?_)
          | (go_at_call 47; refine (rGood_any _ _ Hg.out).mono ?_; rintro e w1 ⟨rfl, rfl⟩))
        refine NoPanic.normal ?_
        cases p <;> cases q
      all_goals
        go_wp2_with fail
        go_roundw
        case measure => simp [intOf]; omega
        case rel => first | exact ⟨1, _, _, hlt, rfl, rfl, by go_num, (hb.alloc (by omega) _).drew⟩ | exact ⟨j + 1 + 1, _, _, hlt, rfl, rfl, by go_num, (hb.alloc (by omega) _).drew⟩
    · obtain rfl : k = k0 := by omega
      obtain rfl : x = y := by have h1 := Hx.out; rw [Hy.out] at h1; cases h1; rfl
      have hcase := Hc.out
      rcases Hprev.out with rfl | ⟨j, z, rfl, hz, g0⟩
      case' inl =>
        simp only [Nat.zero_mul, Nat.add_zero] at e0 e1 e2
      case' inr =>
        have hzx := Hasc.out j z rfl hz
        have Hz := Lib.hid hz
        clear hz
      all_goals
        rcases hcase with q1 | ⟨q1, q2⟩
      all_goals
        go_wp2_with fail
        refine wp_region_chain 90 [0, 1, 3, 7, 15, 31, 63, 127, 255, 511, 1023, 2047, 4095, 8191, 4095, 20479, 4095, 69631, 249855, 511999, 1036287, 2097151, 4194303, 8388607, 16777215, 33554431, 67108863, 134217727, 268435455, 536870911, 1073741823, 2147483647, 4294967295, 8589934591, 17179869183, 34359738367, 68719476735, 137438953471, 274877906943, 549755813887] [(0, none), (1, none), (2, none), (3, none), (4, none), (5, none), (6, none), (7, none), (8, none), (9, none), (10, none), (11, none), (12, none), (13, none), (14, none), (15, none), (16, none), (17, none), (18, none), (19, none), (20, none), (21, none), (22, none), (23, none), (24, none), (25, none), (26, none), (27, some []), (28, none), (29, none), (30, none), (31, none), (32, none), (33, none), (34, none), (35, none), (36, none), (37, none), (38, none), (39, none)] (by kernel_rfl) (by kernel_rfl) (by rfl) ?_; simp only [chain, Obs, List.getElem?_toArray, List.getElem?_cons_zero, List.getElem?_cons_succ]
        go_wp2_with (first
          | (with_reducible refine And.intro (by first | with_reducible exact True.intro | with_reducible rfl | go_simp) ?_)
          | (go_at_call 47; refine (rGood_any _ _ Hg.out).mono ?_; rintro e w1 ⟨rfl, rfl⟩))
        refine NoPanic.normal ?_
        go_wp2_with fail
        go_ret
        exact ⟨rfl, (Hbw.out.alloc hsz _).drew⟩
end Go.Proofs.YtfijedmdfkelnaaGreat
/- The document's own forms: Good, part 2. -/
namespace Go.Proofs.YtfijedmdfkelnaaGreat
open Go.RowKit
set_option linter.unusedVariables false
set_option linter.unusedSimpArgs false

set_option maxHeartbeats 6400000 in
set_option maxRecDepth 100000 in
theorem rGood_bad2 (cur : Int) (l : List It) (n : Nat) (a : Option Addr) (c : Nat) (w : World) (hn : l.length = n) (hl : n ≤ 4611686018427387904) (hs : Sl It.enc 3 w a l) (k0 : Nat) (y : It) (hy : l[k0]? = some y) (hok : OkTo l k0)
    (hasc : ∀ j z, k0 = j + 1 → l[j]? = some z → z.id < y.id) (hc : 0 ≤ y.id ∧ y.id ≤ 1073741824 ∧ goodW y.w = false) :
    Calls Tryz.prog 45 #[.agg #[.int .i64 cur, .slice a n c]] w fun e w' => e = .returned (.bool false) ∧ Below w.heap.size w w' := by
  have hk0 : k0 < n := by rw [← hn]; exact (List.getElem?_eq_some_iff.1 hy).1
  have Hy := Lib.hid hy
  have Hok := Lib.hid hok
  have Hasc := Lib.hid hasc
  have Hc := Lib.hid hc
  have HS := Lib.hid hs
  have Hn := Lib.hid hn
  have HF := Lib.hid (heap_new w (.cells #[.int .i64 cur, .slice a n c] 36))
  clear hs hn hy hok hasc hc
  go_enter Tryz.func45, Tryz.ntmps45
  go_wp2_with fail
  refine wp_region_chain 90 [0, 1, 3, 0, 8, 24, 56, 7, 255] [(0, none), (1, none), (2, none), (3, none), (4, none), (5, none), (6, none), (7, none), (8, none)] (by kernel_rfl) (by kernel_rfl) (by rfl) ?_; simp only [chain, Obs, List.getElem?_toArray, List.getElem?_cons_zero, List.getElem?_cons_succ]
  go_wp2_with (first
    | (with_reducible refine And.intro (by first | with_reducible exact True.intro | with_reducible rfl | go_simp) ?_))
  refine NoPanic.normal ?_
  go_wp2_with fail
  go_loopw [3, 4, 5] (fun px qx ix wr => ∃ (k : Nat) (p q : Bool), k ≤ k0 ∧ px = .bool p ∧ qx = .bool q ∧ ix = .int .i64 k ∧ Below (w.heap.size + 1) (w.alloc (.cells #[.int .i64 cur, .slice a n c] 36)) wr) (fun _ _ ix _ => n - (intOf ix).toNat)
  case atStart => exact ⟨0, _, _, Nat.zero_le _, rfl, rfl, rfl, (Below.refl _ _).drew⟩
  case round =>
    obtain ⟨k, p, q, hk, rfl, rfl, rfl, hb⟩ := hrel
    have hb' : Below (w.alloc (.cells #[.int .i64 cur, .slice a n c] 36)).heap.size (w.alloc (.cells #[.int .i64 cur, .slice a n c] 36)) wr := by simpa using hb
    obtain ⟨x0, x1, v0, v1, xl⟩ := blk2 (heap_below HF.out hb')
    have hbw := ((Below.refl w.heap.size w).alloc (Nat.le_refl _) _).trans (hb'.mono (by simp))
    have Hbw := Lib.hid hbw
    have hsz := hbw.size
    clear hb'
    obtain ⟨r, off, rfl, hr, hcc⟩ := HS.out (by intro h; have h1 := Hn.out; rw [h] at h1; simp at h1; omega)
    obtain ⟨x, hx⟩ : ∃ x, l[k]? = some x := ⟨_, List.getElem?_eq_getElem (by rw [Hn.out]; omega)⟩
    have e0 := (hbw.cell (p := ⟨r, off + k * 3 + 0, none⟩) hr).trans (hcc k x hx 0 _ rfl)
    have e1 := (hbw.cell (p := ⟨r, off + k * 3 + 1, none⟩) hr).trans (hcc k x hx 1 _ rfl)
    have e2 := (hbw.cell (p := ⟨r, off + k * 3 + 2, none⟩) hr).trans (hcc k x hx 2 _ rfl)
    simp only [Nat.add_zero] at e0
    have hki : (k : Int) < n := by omega
    have hne : w.heap.size ≠ wr.heap.size := by omega
    have hrw : r ≠ wr.heap.size := by omega
    have hlr : r < wr.heap.size := by omega
    have Hx := Lib.hid hx
    have hprev : k = 0 ∨ ∃ j z, k = j + 1 ∧ l[j]? = some z ∧ wr.cell? ⟨r, off + j * 3, none⟩ = some (.int .i64 z.id) := by
      cases k with
      | zero => exact .inl rfl
      | succ j =>
        obtain ⟨z, hz⟩ : ∃ z, l[j]? = some z := ⟨_, List.getElem?_eq_getElem (by rw [Hn.out]; omega)⟩
        have g0 := (hbw.cell (p := ⟨r, off + j * 3 + 0, none⟩) hr).trans (hcc j z hz 0 _ rfl)
        simp only [Nat.add_zero] at g0
        exact .inr ⟨j, z, rfl, hz, g0⟩
    have Hprev := Lib.hid hprev
    clear hcc hx hprev hbw
    by_cases hlt : k < k0
    · have HM := Lib.hid (Hok.out.1 k hlt x Hx.out)
      have HZ := Lib.hid (fun j z (e : k = j + 1) (hz : l[j]? = some z) => Hok.out.2 j (by omega) z x hz (by rw [← e]; exact Hx.out) : ∀ j z, k = j + 1 → l[j]? = some z → z.id < x.id)
      -- item k may be: HM: mayB; HZ: the one ahead has a lesser ID
      obtain ⟨m1, m2, m3, m4, m5, m6⟩ := mayB_true HM.out
      have hg : goodW x.w = true := by unfold goodW; simp; omega
      have Hg := Lib.hid hg
      clear hg
      rcases Hprev.out with rfl | ⟨j, z, rfl, hz, g0⟩
      case' inl =>
        simp only [Nat.zero_mul, Nat.add_zero] at e0 e1 e2
      case' inr =>
        have hzx := HZ.out j z rfl hz
        have Hz := Lib.hid hz
        clear hz
      all_goals
        go_wp2_with fail
        refine wp_region_chain 90 [0, 1, 3, 7, 15, 31, 63, 127, 255, 511, 1023, 2047, 4095, 8191, 4095, 20479, 4095, 69631, 249855, 511999, 1036287, 2097151, 4194303, 8388607, 16777215, 33554431, 67108863, 134217727, 268435455, 536870911, 1073741823, 2147483647, 4294967295, 8589934591, 17179869183, 34359738367, 68719476735, 137438953471, 274877906943, 549755813887] [(0, none), (1, none), (2, none), (3, none), (4, none), (5, none), (6, none), (7, none), (8, none), (9, none), (10, none), (11, none), (12, none), (13, none), (14, none), (15, none), (16, none), (17, none), (18, none), (19, none), (20, none), (21, none), (22, none), (23, none), (24, none), (25, none), (26, none), (27, some []), (28, none), (29, none), (30, none), (31, none), (32, none), (33, none), (34, none), (35, none), (36, none), (37, none), (38, none), (39, none)] (by kernel_rfl) (by kernel_rfl) (by rfl) ?_; simp only [chain, Obs, List.getElem?_toArray, List.getElem?_cons_zero, List.getElem?_cons_succ]
        go_wp2_with (first
          | (with_reducible refine And.intro (by first | with_reducible exact True.intro | with_reducible rfl | go_simp) ?_)
          | (go_at_call 47; refine (rGood_any _ _ Hg.out).mono ?_; rintro e w1 ⟨rfl, rfl⟩))
        refine NoPanic.normal ?_
        cases p <;> cases q
      all_goals
        go_wp2_with fail
        go_roundw
        case measure => simp [intOf]; omega
        case rel => first | exact ⟨1, _, _, hlt, rfl, rfl, by go_num, (hb.alloc (by omega) _).drew⟩ | exact ⟨j + 1 + 1, _, _, hlt, rfl, rfl, by go_num, (hb.alloc (by omega) _).drew⟩
    · obtain rfl : k = k0 := by omega
      obtain rfl : x = y := by have h1 := Hx.out; rw [Hy.out] at h1; cases h1; rfl
      have hcase := Hc.out
      rcases Hprev.out with rfl | ⟨j, z, rfl, hz, g0⟩
      case' inl =>
        simp only [Nat.zero_mul, Nat.add_zero] at e0 e1 e2
      case' inr =>
        have hzx := Hasc.out j z rfl hz
        have Hz := Lib.hid hz
        clear hz
      all_goals
        obtain ⟨q1, q2, q3⟩ := hcase
        have Hg := Lib.hid q3
        clear q3
        go_wp2_with fail
        refine wp_region_chain 90 [0, 1, 3, 7, 15, 31, 63, 127, 255, 511, 1023, 2047, 4095, 8191, 4095, 20479, 4095, 69631, 249855, 511999, 1036287, 2097151, 4194303, 8388607, 16777215, 33554431, 67108863, 134217727, 268435455, 536870911, 1073741823, 2147483647, 4294967295, 8589934591, 17179869183, 34359738367, 68719476735, 137438953471, 274877906943, 549755813887] [(0, none), (1, none), (2, none), (3, none), (4, none), (5, none), (6, none), (7, none), (8, none), (9, none), (10, none), (11, none), (12, none), (13, none), (14, none), (15, none), (16, none), (17, none), (18, none), (19, none), (20, none), (21, none), (22, none), (23, none), (24, none), (25, none), (26, none), (27, some []), (28, none), (29, none), (30, none), (31, none), (32, none), (33, none), (34, none), (35, none), (36, none), (37, none), (38, none), (39, none)] (by kernel_rfl) (by kernel_rfl) (by rfl) ?_; simp only [chain, Obs, List.getElem?_toArray, List.getElem?_cons_zero, List.getElem?_cons_succ]
        go_wp2_with (first
          | (with_reducible refine And.intro (by first | with_reducible exact True.intro | with_reducible rfl | go_simp) ?_)
          | (go_at_call 47; refine (rGood_any _ _ Hg.out).mono ?_; rintro e w1 ⟨rfl, rfl⟩))
        refine NoPanic.normal ?_
        go_wp2_with fail
        go_ret
        exact ⟨rfl, (Hbw.out.alloc hsz _).drew⟩
end Go.Proofs.YtfijedmdfkelnaaGreat
/- The document's own forms: Good, part 3. -/
namespace Go.Proofs.YtfijedmdfkelnaaGreat
open Go.RowKit
set_option linter.unusedVariables false
set_option linter.unusedSimpArgs false

set_option maxHeartbeats 6400000 in
set_option maxRecDepth 100000 in
theorem rGood_bad3 (cur : Int) (l : List It) (n : Nat) (a : Option Addr) (c : Nat) (w : World) (hn : l.length = n) (hl : n ≤ 4611686018427387904) (hs : Sl It.enc 3 w a l) (k0 : Nat) (y : It) (hy : l[k0]? = some y) (hok : OkTo l k0)
    (hasc : ∀ j z, k0 = j + 1 → l[j]? = some z → z.id < y.id) (hc : 0 ≤ y.id ∧ y.id ≤ 1073741824 ∧ goodW y.w = true ∧ (y.lag < -1125899906842624 ∨ (-1125899906842624 ≤ y.lag ∧ 1125899906842624 < y.lag))) :
    Calls Tryz.prog 45 #[.agg #[.int .i64 cur, .slice a n c]] w fun e w' => e = .returned (.bool false) ∧ Below w.heap.size w w' := by
  have hk0 : k0 < n := by rw [← hn]; exact (List.getElem?_eq_some_iff.1 hy).1
  have Hy := Lib.hid hy
  have Hok := Lib.hid hok
  have Hasc := Lib.hid hasc
  have Hc := Lib.hid hc
  have HS := Lib.hid hs
  have Hn := Lib.hid hn
  have HF := Lib.hid (heap_new w (.cells #[.int .i64 cur, .slice a n c] 36))
  clear hs hn hy hok hasc hc
  go_enter Tryz.func45, Tryz.ntmps45
  go_wp2_with fail
  refine wp_region_chain 90 [0, 1, 3, 0, 8, 24, 56, 7, 255] [(0, none), (1, none), (2, none), (3, none), (4, none), (5, none), (6, none), (7, none), (8, none)] (by kernel_rfl) (by kernel_rfl) (by rfl) ?_; simp only [chain, Obs, List.getElem?_toArray, List.getElem?_cons_zero, List.getElem?_cons_succ]
  go_wp2_with (first
    | (with_reducible refine And.intro (by first | with_reducible exact True.intro | with_reducible rfl | go_simp) ?_))
  refine NoPanic.normal ?_
  go_wp2_with fail
  go_loopw [3, 4, 5] (fun px qx ix wr => ∃ (k : Nat) (p q : Bool), k ≤ k0 ∧ px = .bool p ∧ qx = .bool q ∧ ix = .int .i64 k ∧ Below (w.heap.size + 1) (w.alloc (.cells #[.int .i64 cur, .slice a n c] 36)) wr) (fun _ _ ix _ => n - (intOf ix).toNat)
  case atStart => exact ⟨0, _, _, Nat.zero_le _, rfl, rfl, rfl, (Below.refl _ _).drew⟩
  case round =>
    obtain ⟨k, p, q, hk, rfl, rfl, rfl, hb⟩ := hrel
    have hb' : Below (w.alloc (.cells #[.int .i64 cur, .slice a n c] 36)).heap.size (w.alloc (.cells #[.int .i64 cur, .slice a n c] 36)) wr := by simpa using hb
    obtain ⟨x0, x1, v0, v1, xl⟩ := blk2 (heap_below HF.out hb')
    have hbw := ((Below.refl w.heap.size w).alloc (Nat.le_refl _) _).trans (hb'.mono (by simp))
    have Hbw := Lib.hid hbw
    have hsz := hbw.size
    clear hb'
    obtain ⟨r, off, rfl, hr, hcc⟩ := HS.out (by intro h; have h1 := Hn.out; rw [h] at h1; simp at h1; omega)
    obtain ⟨x, hx⟩ : ∃ x, l[k]? = some x := ⟨_, List.getElem?_eq_getElem (by rw [Hn.out]; omega)⟩
    have e0 := (hbw.cell (p := ⟨r, off + k * 3 + 0, none⟩) hr).trans (hcc k x hx 0 _ rfl)
    have e1 := (hbw.cell (p := ⟨r, off + k * 3 + 1, none⟩) hr).trans (hcc k x hx 1 _ rfl)
    have e2 := (hbw.cell (p := ⟨r, off + k * 3 + 2, none⟩) hr).trans (hcc k x hx 2 _ rfl)
    simp only [Nat.add_zero] at e0
    have hki : (k : Int) < n := by omega
    have hne : w.heap.size ≠ wr.heap.size := by omega
    have hrw : r ≠ wr.heap.size := by omega
    have hlr : r < wr.heap.size := by omega
    have Hx := Lib.hid hx
    have hprev : k = 0 ∨ ∃ j z, k = j + 1 ∧ l[j]? = some z ∧ wr.cell? ⟨r, off + j * 3, none⟩ = some (.int .i64 z.id) := by
      cases k with
      | zero => exact .inl rfl
      | succ j =>
        obtain ⟨z, hz⟩ : ∃ z, l[j]? = some z := ⟨_, List.getElem?_eq_getElem (by rw [Hn.out]; omega)⟩
        have g0 := (hbw.cell (p := ⟨r, off + j * 3 + 0, none⟩) hr).trans (hcc j z hz 0 _ rfl)
        simp only [Nat.add_zero] at g0
        exact .inr ⟨j, z, rfl, hz, g0⟩
    have Hprev := Lib.hid hprev
    clear hcc hx hprev hbw
    by_cases hlt : k < k0
    · have HM := Lib.hid (Hok.out.1 k hlt x Hx.out)
      have HZ := Lib.hid (fun j z (e : k = j + 1) (hz : l[j]? = some z) => Hok.out.2 j (by omega) z x hz (by rw [← e]; exact Hx.out) : ∀ j z, k = j + 1 → l[j]? = some z → z.id < x.id)
      -- item k may be: HM: mayB; HZ: the one ahead has a lesser ID
      obtain ⟨m1, m2, m3, m4, m5, m6⟩ := mayB_true HM.out
      have hg : goodW x.w = true := by unfold goodW; simp; omega
      have Hg := Lib.hid hg
      clear hg
      rcases Hprev.out with rfl | ⟨j, z, rfl, hz, g0⟩
      case' inl =>
        simp only [Nat.zero_mul, Nat.add_zero] at e0 e1 e2
      case' inr =>
        have hzx := HZ.out j z rfl hz
        have Hz := Lib.hid hz
        clear hz
      all_goals
        go_wp2_with fail
        refine wp_region_chain 90 [0, 1, 3, 7, 15, 31, 63, 127, 255, 511, 1023, 2047, 4095, 8191, 4095, 20479, 4095, 69631, 249855, 511999, 1036287, 2097151, 4194303, 8388607, 16777215, 33554431, 67108863, 134217727, 268435455, 536870911, 1073741823, 2147483647, 4294967295, 8589934591, 17179869183, 34359738367, 68719476735, 137438953471, 274877906943, 549755813887] [(0, none), (1, none), (2, none), (3, none), (4, none), (5, none), (6, none), (7, none), (8, none), (9, none), (10, none), (11, none), (12, none), (13, none), (14, none), (15, none), (16, none), (17, none), (18, none), (19, none), (20, none), (21, none), (22, none), (23, none), (24, none), (25, none), (26, none), (27, some []), (28, none), (29, none), (30, none), (31, none), (32, none), (33, none), (34, none), (35, none), (36, none), (37, none), (38, none), (39, none)] (by kernel_rfl) (by kernel_rfl) (by rfl) ?_; simp only [chain, Obs, List.getElem?_toArray, List.getElem?_cons_zero, List.getElem?_cons_succ]
        go_wp2_with (first
          | (with_reducible refine And.intro (by first | with_reducible exact True.intro | with_reducible rfl | go_simp) ?_)
          | (go_at_call 47; refine (rGood_any _ _ Hg.out).mono ?_; rintro e w1 ⟨rfl, rfl⟩))
        refine NoPanic.normal ?_
        cases p <;> cases q
      all_goals
        go_wp2_with fail
        go_roundw
        case measure => simp [intOf]; omega
        case rel => first | exact ⟨1, _, _, hlt, rfl, rfl, by go_num, (hb.alloc (by omega) _).drew⟩ | exact ⟨j + 1 + 1, _, _, hlt, rfl, rfl, by go_num, (hb.alloc (by omega) _).drew⟩
    · obtain rfl : k = k0 := by omega
      obtain rfl : x = y := by have h1 := Hx.out; rw [Hy.out] at h1; cases h1; rfl
      have hcase := Hc.out
      rcases Hprev.out with rfl | ⟨j, z, rfl, hz, g0⟩
      case' inl =>
        simp only [Nat.zero_mul, Nat.add_zero] at e0 e1 e2
      case' inr =>
        have hzx := Hasc.out j z rfl hz
        have Hz := Lib.hid hz
        clear hz
      all_goals
        obtain ⟨q1, q2, q3, q4⟩ := hcase
        have Hg := Lib.hid q3
        clear q3
        rcases q4 with q4 | ⟨q4, q5⟩
      all_goals
        go_wp2_with fail
        refine wp_region_chain 90 [0, 1, 3, 7, 15, 31, 63, 127, 255, 511, 1023, 2047, 4095, 8191, 4095, 20479, 4095, 69631, 249855, 511999, 1036287, 2097151, 4194303, 8388607, 16777215, 33554431, 67108863, 134217727, 268435455, 536870911, 1073741823, 2147483647, 4294967295, 8589934591, 17179869183, 34359738367, 68719476735, 137438953471, 274877906943, 549755813887] [(0, none), (1, none), (2, none), (3, none), (4, none), (5, none), (6, none), (7, none), (8, none), (9, none), (10, none), (11, none), (12, none), (13, none), (14, none), (15, none), (16, none), (17, none), (18, none), (19, none), (20, none), (21, none), (22, none), (23, none), (24, none), (25, none), (26, none), (27, some []), (28, none), (29, none), (30, none), (31, none), (32, none), (33, none), (34, none), (35, none), (36, none), (37, none), (38, none), (39, none)] (by kernel_rfl) (by kernel_rfl) (by rfl) ?_; simp only [chain, Obs, List.getElem?_toArray, List.getElem?_cons_zero, List.getElem?_cons_succ]
        go_wp2_with (first
          | (with_reducible refine And.intro (by first | with_reducible exact True.intro | with_reducible rfl | go_simp) ?_)
          | (go_at_call 47; refine (rGood_any _ _ Hg.out).mono ?_; rintro e w1 ⟨rfl, rfl⟩))
        refine NoPanic.normal ?_
        go_wp2_with fail
        go_ret
        exact ⟨rfl, (Hbw.out.alloc hsz _).drew⟩
end Go.Proofs.YtfijedmdfkelnaaGreat
/- The document's own forms: Good, part 4. -/
namespace Go.Proofs.YtfijedmdfkelnaaGreat
open Go.RowKit
set_option linter.unusedVariables false
set_option linter.unusedSimpArgs false

set_option maxHeartbeats 6400000 in
set_option maxRecDepth 100000 in
theorem rGood_bad4 (cur : Int) (l : List It) (n : Nat) (a : Option Addr) (c : Nat) (w : World) (hn : l.length = n) (hl : n ≤ 4611686018427387904) (hs : Sl It.enc 3 w a l) (k0 : Nat) (y : It) (hy : l[k0]? = some y) (hok : OkTo l k0)
    (hasc : ∀ j z, k0 = j + 1 → l[j]? = some z → y.id ≤ z.id) (hc : 0 ≤ y.id ∧ y.id ≤ 1073741824 ∧ 0 < k0) :
    Calls Tryz.prog 45 #[.agg #[.int .i64 cur, .slice a n c]] w fun e w' => e = .returned (.bool false) ∧ Below w.heap.size w w' := by
  have hk0 : k0 < n := by rw [← hn]; exact (List.getElem?_eq_some_iff.1 hy).1
  have Hy := Lib.hid hy
  have Hok := Lib.hid hok
  have Hasc := Lib.hid hasc
  have Hc := Lib.hid hc
  have HS := Lib.hid hs
  have Hn := Lib.hid hn
  have HF := Lib.hid (heap_new w (.cells #[.int .i64 cur, .slice a n c] 36))
  clear hs hn hy hok hasc hc
  go_enter Tryz.func45, Tryz.ntmps45
  go_wp2_with fail
  refine wp_region_chain 90 [0, 1, 3, 0, 8, 24, 56, 7, 255] [(0, none), (1, none), (2, none), (3, none), (4, none), (5, none), (6, none), (7, none), (8, none)] (by kernel_rfl) (by kernel_rfl) (by rfl) ?_; simp only [chain, Obs, List.getElem?_toArray, List.getElem?_cons_zero, List.getElem?_cons_succ]
  go_wp2_with (first
    | (with_reducible refine And.intro (by first | with_reducible exact True.intro | with_reducible rfl | go_simp) ?_))
  refine NoPanic.normal ?_
  go_wp2_with fail
  go_loopw [3, 4, 5] (fun px qx ix wr => ∃ (k : Nat) (p q : Bool), k ≤ k0 ∧ px = .bool p ∧ qx = .bool q ∧ ix = .int .i64 k ∧ Below (w.heap.size + 1) (w.alloc (.cells #[.int .i64 cur, .slice a n c] 36)) wr) (fun _ _ ix _ => n - (intOf ix).toNat)
  case atStart => exact ⟨0, _, _, Nat.zero_le _, rfl, rfl, rfl, (Below.refl _ _).drew⟩
  case round =>
    obtain ⟨k, p, q, hk, rfl, rfl, rfl, hb⟩ := hrel
    have hb' : Below (w.alloc (.cells #[.int .i64 cur, .slice a n c] 36)).heap.size (w.alloc (.cells #[.int .i64 cur, .slice a n c] 36)) wr := by simpa using hb
    obtain ⟨x0, x1, v0, v1, xl⟩ := blk2 (heap_below HF.out hb')
    have hbw := ((Below.refl w.heap.size w).alloc (Nat.le_refl _) _).trans (hb'.mono (by simp))
    have Hbw := Lib.hid hbw
    have hsz := hbw.size
    clear hb'
    obtain ⟨r, off, rfl, hr, hcc⟩ := HS.out (by intro h; have h1 := Hn.out; rw [h] at h1; simp at h1; omega)
    obtain ⟨x, hx⟩ : ∃ x, l[k]? = some x := ⟨_, List.getElem?_eq_getElem (by rw [Hn.out]; omega)⟩
    have e0 := (hbw.cell (p := ⟨r, off + k * 3 + 0, none⟩) hr).trans (hcc k x hx 0 _ rfl)
    have e1 := (hbw.cell (p := ⟨r, off + k * 3 + 1, none⟩) hr).trans (hcc k x hx 1 _ rfl)
    have e2 := (hbw.cell (p := ⟨r, off + k * 3 + 2, none⟩) hr).trans (hcc k x hx 2 _ rfl)
    simp only [Nat.add_zero] at e0
    have hki : (k : Int) < n := by omega
    have hne : w.heap.size ≠ wr.heap.size := by omega
    have hrw : r ≠ wr.heap.size := by omega
    have hlr : r < wr.heap.size := by omega
    have Hx := Lib.hid hx
    have hprev : k = 0 ∨ ∃ j z, k = j + 1 ∧ l[j]? = some z ∧ wr.cell? ⟨r, off + j * 3, none⟩ = some (.int .i64 z.id) := by
      cases k with
      | zero => exact .inl rfl
      | succ j =>
        obtain ⟨z, hz⟩ : ∃ z, l[j]? = some z := ⟨_, List.getElem?_eq_getElem (by rw [Hn.out]; omega)⟩
        have g0 := (hbw.cell (p := ⟨r, off + j * 3 + 0, none⟩) hr).trans (hcc j z hz 0 _ rfl)
        simp only [Nat.add_zero] at g0
        exact .inr ⟨j, z, rfl, hz, g0⟩
    have Hprev := Lib.hid hprev
    clear hcc hx hprev hbw
    by_cases hlt : k < k0
    · have HM := Lib.hid (Hok.out.1 k hlt x Hx.out)
      have HZ := Lib.hid (fun j z (e : k = j + 1) (hz : l[j]? = some z) => Hok.out.2 j (by omega) z x hz (by rw [← e]; exact Hx.out) : ∀ j z, k = j + 1 → l[j]? = some z → z.id < x.id)
      -- item k may be: HM: mayB; HZ: the one ahead has a lesser ID
      obtain ⟨m1, m2, m3, m4, m5, m6⟩ := mayB_true HM.out
      have hg : goodW x.w = true := by unfold goodW; simp; omega
      have Hg := Lib.hid hg
      clear hg
      rcases Hprev.out with rfl | ⟨j, z, rfl, hz, g0⟩
      case' inl =>
        simp only [Nat.zero_mul, Nat.add_zero] at e0 e1 e2
      case' inr =>
        have hzx := HZ.out j z rfl hz
        have Hz := Lib.hid hz
        clear hz
      all_goals
        go_wp2_with fail
        refine wp_region_chain 90 [0, 1, 3, 7, 15, 31, 63, 127, 255, 511, 1023, 2047, 4095, 8191, 4095, 20479, 4095, 69631, 249855, 511999, 1036287, 2097151, 4194303, 8388607, 16777215, 33554431, 67108863, 134217727, 268435455, 536870911, 1073741823, 2147483647, 4294967295, 8589934591, 17179869183, 34359738367, 68719476735, 137438953471, 274877906943, 549755813887] [(0, none), (1, none), (2, none), (3, none), (4, none), (5, none), (6, none), (7, none), (8, none), (9, none), (10, none), (11, none), (12, none), (13, none), (14, none), (15, none), (16, none), (17, none), (18, none), (19, none), (20, none), (21, none), (22, none), (23, none), (24, none), (25, none), (26, none), (27, some []), (28, none), (29, none), (30, none), (31, none), (32, none), (33, none), (34, none), (35, none), (36, none), (37, none), (38, none), (39, none)] (by kernel_rfl) (by kernel_rfl) (by rfl) ?_; simp only [chain, Obs, List.getElem?_toArray, List.getElem?_cons_zero, List.getElem?_cons_succ]
        go_wp2_with (first
          | (with_reducible refine And.intro (by first | with_reducible exact True.intro | with_reducible rfl | go_simp) ?_)
          | (go_at_call 47; refine (rGood_any _ _ Hg.out).mono ?_; rintro e w1 ⟨rfl, rfl⟩))
        refine NoPanic.normal ?_
        cases p <;> cases q
      all_goals
        go_wp2_with fail
        go_roundw
        case measure => simp [intOf]; omega
        case rel => first | exact ⟨1, _, _, hlt, rfl, rfl, by go_num, (hb.alloc (by omega) _).drew⟩ | exact ⟨j + 1 + 1, _, _, hlt, rfl, rfl, by go_num, (hb.alloc (by omega) _).drew⟩
    · obtain rfl : k = k0 := by omega
      obtain rfl : x = y := by have h1 := Hx.out; rw [Hy.out] at h1; cases h1; rfl
      have hcase := Hc.out
      rcases Hprev.out with rfl | ⟨j, z, rfl, hz, g0⟩
      case' inl =>
        simp only [Nat.zero_mul, Nat.add_zero] at e0 e1 e2
      case' inr =>
        have hzx := Hasc.out j z rfl hz
        have Hz := Lib.hid hz
        clear hz
      case inl =>
        exfalso; obtain ⟨q1, q2, q3⟩ := hcase; omega
      case inr =>
        obtain ⟨q1, q2, q3⟩ := hcase
        go_wp2_with fail
        refine wp_region_chain 90 [0, 1, 3, 7, 15, 31, 63, 127, 255, 511, 1023, 2047, 4095, 8191, 4095, 20479, 4095, 69631, 249855, 511999, 1036287, 2097151, 4194303, 8388607, 16777215, 33554431, 67108863, 134217727, 268435455, 536870911, 1073741823, 2147483647, 4294967295, 8589934591, 17179869183, 34359738367, 68719476735, 137438953471, 274877906943, 549755813887] [(0, none), (1, none), (2, none), (3, none), (4, none), (5, none), (6, none), (7, none), (8, none), (9, none), (10, none), (11, none), (12, none), (13, none), (14, none), (15, none), (16, none), (17, none), (18, none), (19, none), (20, none), (21, none), (22, none), (23, none), (24, none), (25, none), (26, none), (27, some []), (28, none), (29, none), (30, none), (31, none), (32, none), (33, none), (34, none), (35, none), (36, none), (37, none), (38, none), (39, none)] (by kernel_rfl) (by kernel_rfl) (by rfl) ?_; simp only [chain, Obs, List.getElem?_toArray, List.getElem?_cons_zero, List.getElem?_cons_succ]
        go_wp2_with (first
          | (with_reducible refine And.intro (by first | with_reducible exact True.intro | with_reducible rfl | go_simp) ?_)
          | (go_at_call 47; refine (rGood_any _ _ Hg.out).mono ?_; rintro e w1 ⟨rfl, rfl⟩))
        refine NoPanic.normal ?_
        go_wp2_with fail
        go_ret
        exact ⟨rfl, (Hbw.out.alloc hsz _).drew⟩
end Go.Proofs.YtfijedmdfkelnaaGreat
/- The document's own forms: Good, part 5. -/
namespace Go.Proofs.YtfijedmdfkelnaaGreat
open Go.RowKit
set_option linter.unusedVariables false
set_option linter.unusedSimpArgs false

set_option maxHeartbeats 6400000 in
set_option maxRecDepth 100000 in
theorem rGood_all (cur : Int) (l : List It) (n : Nat) (a : Option Addr) (c : Nat) (w : World) (hn : l.length = n) (hl : n ≤ 4611686018427387904) (hs : Sl It.enc 3 w a l) (hok : OkTo l l.length) {v : Bool} (hv : goodF ⟨cur, l⟩ = v) :
    Calls Tryz.prog 45 #[.agg #[.int .i64 cur, .slice a n c]] w fun e w' => e = .returned (.bool v) ∧ Below w.heap.size w w' := by
  have Hok := Lib.hid hok
  have Hv := Lib.hid ((goodF_to hok).symm.trans hv)
  have h0 : ((n : Int) == 0) = someTo l 0 := by
    unfold someTo
    simp only [List.take_zero, List.any_nil, Bool.or_false]
    cases l with
    | nil => simp at hn; subst hn; rfl
    | cons x t => simp at hn; simp; omega
  have h1 : (cur == -1) = curTo cur l 0 := by unfold curTo; simp
  have H0 := Lib.hid h0
  have H1 := Lib.hid h1
  have HS := Lib.hid hs
  have Hn := Lib.hid hn
  have HF := Lib.hid (heap_new w (.cells #[.int .i64 cur, .slice a n c] 36))
  clear hs hn hok hv h0 h1
  go_enter Tryz.func45, Tryz.ntmps45
  go_wp2_with fail
  refine wp_region_chain 90 [0, 1, 3, 0, 8, 24, 56, 7, 255] [(0, none), (1, none), (2, none), (3, none), (4, none), (5, none), (6, none), (7, none), (8, none)] (by kernel_rfl) (by kernel_rfl) (by rfl) ?_; simp only [chain, Obs, List.getElem?_toArray, List.getElem?_cons_zero, List.getElem?_cons_succ]
  go_wp2_with (first
    | (with_reducible refine And.intro (by first | with_reducible exact True.intro | with_reducible rfl | go_simp) ?_))
  refine NoPanic.normal ?_
  go_wp2_with fail
  go_loopw [3, 4, 5] (fun px qx ix wr => ∃ (k : Nat) (p q : Bool), k ≤ n ∧ px = .bool p ∧ qx = .bool q ∧ ix = .int .i64 k ∧ Below (w.heap.size + 1) (w.alloc (.cells #[.int .i64 cur, .slice a n c] 36)) wr ∧ p = curTo cur l k ∧ q = someTo l k) (fun _ _ ix _ => n - (intOf ix).toNat)
  case atStart => exact ⟨0, _, _, Nat.zero_le _, rfl, rfl, rfl, (Below.refl _ _).drew, H1.out, H0.out⟩
  case round =>
    obtain ⟨k, p, q, hk, rfl, rfl, rfl, hb, hp, hq⟩ := hrel
    have Hp := Lib.hid hp
    have Hq := Lib.hid hq
    clear hp hq
    have hb' : Below (w.alloc (.cells #[.int .i64 cur, .slice a n c] 36)).heap.size (w.alloc (.cells #[.int .i64 cur, .slice a n c] 36)) wr := by simpa using hb
    obtain ⟨x0, x1, v0, v1, xl⟩ := blk2 (heap_below HF.out hb')
    have hbw := ((Below.refl w.heap.size w).alloc (Nat.le_refl _) _).trans (hb'.mono (by simp))
    have Hbw := Lib.hid hbw
    have hsz := hbw.size
    clear hb'
    by_cases hlt : k < n
    · skip
      obtain ⟨r, off, rfl, hr, hcc⟩ := HS.out (by intro h; have h1 := Hn.out; rw [h] at h1; simp at h1; omega)
      obtain ⟨x, hx⟩ : ∃ x, l[k]? = some x := ⟨_, List.getElem?_eq_getElem (by rw [Hn.out]; omega)⟩
      have e0 := (hbw.cell (p := ⟨r, off + k * 3 + 0, none⟩) hr).trans (hcc k x hx 0 _ rfl)
      have e1 := (hbw.cell (p := ⟨r, off + k * 3 + 1, none⟩) hr).trans (hcc k x hx 1 _ rfl)
      have e2 := (hbw.cell (p := ⟨r, off + k * 3 + 2, none⟩) hr).trans (hcc k x hx 2 _ rfl)
      simp only [Nat.add_zero] at e0
      have hki : (k : Int) < n := by omega
      have hne : w.heap.size ≠ wr.heap.size := by omega
      have hrw : r ≠ wr.heap.size := by omega
      have hlr : r < wr.heap.size := by omega
      have Hx := Lib.hid hx
      have hprev : k = 0 ∨ ∃ j z, k = j + 1 ∧ l[j]? = some z ∧ wr.cell? ⟨r, off + j * 3, none⟩ = some (.int .i64 z.id) := by
        cases k with
        | zero => exact .inl rfl
        | succ j =>
          obtain ⟨z, hz⟩ : ∃ z, l[j]? = some z := ⟨_, List.getElem?_eq_getElem (by rw [Hn.out]; omega)⟩
          have g0 := (hbw.cell (p := ⟨r, off + j * 3 + 0, none⟩) hr).trans (hcc j z hz 0 _ rfl)
          simp only [Nat.add_zero] at g0
          exact .inr ⟨j, z, rfl, hz, g0⟩
      have Hprev := Lib.hid hprev
      clear hcc hx hprev hbw
      have HM := Lib.hid (Hok.out.1 k (by rw [Hn.out]; exact hlt) x Hx.out)
      have HZ := Lib.hid (fun j z (e : k = j + 1) (hz : l[j]? = some z) => Hok.out.2 j (by rw [Hn.out]; omega) z x hz (by rw [← e]; exact Hx.out) : ∀ j z, k = j + 1 → l[j]? = some z → z.id < x.id)
      have Hct := Lib.hid (curTo_succ (cur := cur) Hx.out)
      have Hst := Lib.hid (someTo_succ Hx.out)
      have Hp2 := Lib.hid (show curTo cur l (k + 1) = (p || (x.id == cur)) by rw [Hct.out, ← Hp.out])
      have Hq2 := Lib.hid (show someTo l (k + 1) = (q || decide (0 ≤ x.lag)) by rw [Hst.out, ← Hq.out])
      clear Hct Hst
      obtain ⟨m1, m2, m3, m4, m5, m6⟩ := mayB_true HM.out
      have hg : goodW x.w = true := by unfold goodW; simp; omega
      have Hg := Lib.hid hg
      clear hg
      rcases Hprev.out with rfl | ⟨j, z, rfl, hz, g0⟩
      case' inl =>
        simp only [Nat.zero_mul, Nat.add_zero] at e0 e1 e2
      case' inr =>
        have hzx := HZ.out j z rfl hz
        have Hz := Lib.hid hz
        clear hz
      all_goals
        go_wp2_with fail
        refine wp_region_chain 90 [0, 1, 3, 7, 15, 31, 63, 127, 255, 511, 1023, 2047, 4095, 8191, 4095, 20479, 4095, 69631, 249855, 511999, 1036287, 2097151, 4194303, 8388607, 16777215, 33554431, 67108863, 134217727, 268435455, 536870911, 1073741823, 2147483647, 4294967295, 8589934591, 17179869183, 34359738367, 68719476735, 137438953471, 274877906943, 549755813887] [(0, none), (1, none), (2, none), (3, none), (4, none), (5, none), (6, none), (7, none), (8, none), (9, none), (10, none), (11, none), (12, none), (13, none), (14, none), (15, none), (16, none), (17, none), (18, none), (19, none), (20, none), (21, none), (22, none), (23, none), (24, none), (25, none), (26, none), (27, some []), (28, none), (29, none), (30, none), (31, none), (32, none), (33, none), (34, none), (35, none), (36, none), (37, none), (38, none), (39, none)] (by kernel_rfl) (by kernel_rfl) (by rfl) ?_; simp only [chain, Obs, List.getElem?_toArray, List.getElem?_cons_zero, List.getElem?_cons_succ]
        go_wp2_with (first
          | (with_reducible refine And.intro (by first | with_reducible exact True.intro | with_reducible rfl | go_simp) ?_)
          | (go_at_call 47; refine (rGood_any _ _ Hg.out).mono ?_; rintro e w1 ⟨rfl, rfl⟩))
        refine NoPanic.normal ?_
        cases p <;> cases q
      all_goals
        go_wp2_with fail
        go_roundw
        case measure => simp [intOf]; omega
        case rel => first | exact ⟨1, _, _, hlt, rfl, rfl, by go_num, (hb.alloc (by omega) _).drew, by rw [Hp2.out]; simp, by rw [Hq2.out]; simp⟩ | exact ⟨j + 1 + 1, _, _, hlt, rfl, rfl, by go_num, (hb.alloc (by omega) _).drew, by rw [Hp2.out]; simp, by rw [Hq2.out]; simp⟩
    · obtain rfl : k = n := by omega
      have Hv2 := Lib.hid (show (p && q && decide (k ≤ 64)) = v by have h := Hv.out; rw [Hn.out, ← Hp.out, ← Hq.out] at h; exact h)
      clear hbw
      by_cases h64 : (k : Int) ≤ 64
      case' pos =>
        have hd : decide (k ≤ 64) = true := by simp; omega
      case' neg =>
        have hd : decide (k ≤ 64) = false := by simp; omega
      all_goals
        have Hd := Lib.hid hd
        clear hd
        cases p <;> cases q
      all_goals
        go_wp2_with fail
        go_ret
        exact ⟨by have h := Hv2.out; rw [Hd.out] at h; rw [← h]; rfl, Hbw.out⟩
end Go.Proofs.YtfijedmdfkelnaaGreat
/- The document's own forms: Good. -/
namespace Go.Proofs.YtfijedmdfkelnaaGreat
open Go.RowKit
set_option linter.unusedVariables false
set_option linter.unusedSimpArgs false

theorem rGoodF_any (cur : Int) (l : List It) (n : Nat) (a : Option Addr) (c : Nat) (w : World) (hn : l.length = n) (hl : n ≤ 4611686018427387904) (hs : Sl It.enc 3 w a l) {v : Bool} (hv : goodF ⟨cur, l⟩ = v) :
    Calls Tryz.prog 45 #[.agg #[.int .i64 cur, .slice a n c]] w fun e w' => e = .returned (.bool v) ∧ Below w.heap.size w w' := by
  rcases firstBad l with h | ⟨k, y, hy, hok, hbad⟩
  · exact rGood_all cur l n a c w hn hl hs h hv
  · have hvf : v = false := by
      rw [← hv]
      rcases hbad with h | ⟨j, z, rfl, hz, h⟩
      · exact goodF_bad hy h
      · exact goodF_down hz hy h
    subst hvf
    by_cases hr : 0 ≤ y.id ∧ y.id ≤ 1073741824
    · by_cases hd : ∃ j z, k = j + 1 ∧ l[j]? = some z ∧ y.id ≤ z.id
      · obtain ⟨j, z, rfl, hz, hle⟩ := hd
        have hup : ∀ j2 z2, j + 1 = j2 + 1 → l[j2]? = some z2 → y.id ≤ z2.id := by
          intro j2 z2 e hz2
          obtain rfl : j = j2 := by omega
          rw [hz] at hz2
          cases hz2
          exact hle
        exact rGood_bad4 cur l n a c w hn hl hs (j + 1) y hy hok hup ⟨hr.1, hr.2, by omega⟩
      · have hasc : ∀ j z, k = j + 1 → l[j]? = some z → z.id < y.id := fun j z e hz => by
          rcases Int.lt_or_le z.id y.id with h | h
          · exact h
          · exact absurd ⟨j, z, e, hz, h⟩ hd
        have hm : mayB y.id y.w y.lag = false := by
          rcases hbad with h | ⟨j, z, e, hz, h⟩
          · exact h
          · exact absurd (hasc j z e hz) h
        have hn' : ¬ (0 ≤ y.id ∧ y.id ≤ 1073741824 ∧ 1 ≤ y.w ∧ y.w ≤ 20 ∧ -1125899906842624 ≤ y.lag ∧ y.lag ≤ 1125899906842624) := fun h => by
          have : mayB y.id y.w y.lag = true := by unfold mayB; simp only [decide_eq_true_eq]; exact h
          rw [hm] at this; cases this
        cases hg : goodW y.w with
        | false => exact rGood_bad2 cur l n a c w hn hl hs k y hy hok hasc ⟨hr.1, hr.2, hg⟩
        | true =>
          obtain ⟨g1, g2⟩ := goodW_true hg
          exact rGood_bad3 cur l n a c w hn hl hs k y hy hok hasc ⟨hr.1, hr.2, hg, by omega⟩
    · exact rGood_bad1 cur l n a c w hn hl hs k y hy hok (fun _ _ _ _ => trivial) (by omega)
end Go.Proofs.YtfijedmdfkelnaaGreat
