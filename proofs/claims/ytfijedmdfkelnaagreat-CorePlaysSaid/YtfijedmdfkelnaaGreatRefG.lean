/- The document's own queue: Pick, by the least point. -/
import Derived.Test.YtfijedmdfkelnaaGreatRefC
namespace Go.Proofs.YtfijedmdfkelnaaGreat
open Go.RowKit
set_option linter.unusedVariables false
set_option linter.unusedSimpArgs false

/-- The first one with the least point among the first k. -/
def bestTo (x : Pt) (l : List Pt) (k : Nat) : Pt := best ((l.take k).tail) x
theorem bestTo_succ {x y : Pt} {t : List Pt} {k : Nat} (hy : (x :: t)[k]? = some y) : bestTo x (x :: t) (k + 1) = if y.v < (bestTo x (x :: t) k).v then y else bestTo x (x :: t) k := by
  unfold bestTo
  cases k with
  | zero =>
    obtain rfl : x = y := by simpa using hy
    simp [best]
  | succ k =>
    have hy' : t[k]? = some y := by simpa using hy
    obtain ⟨hk, rfl⟩ := List.getElem?_eq_some_iff.1 hy'
    simp only [List.take_succ_cons, List.tail_cons]
    rw [List.take_succ_eq_append_getElem hk, best_snoc]
    rfl
theorem bestTo_all (x : Pt) (t : List Pt) : least (x :: t) = some (bestTo x (x :: t) (x :: t).length) := by
  unfold bestTo; rw [List.take_length]; rfl

set_option maxHeartbeats 1600000 in
set_option maxRecDepth 100000 in
theorem rPick_none {w : World} {b c : Nat} {a : Option Addr} {tag : Int} {S : Ln} (h : RAt w b a c tag S) (hl : S.l = []) :
    Calls Tryz.prog 14 #[.pointer (some ⟨b, 0, none⟩)] w fun e w' => e = .returned (.tuple #[.int .i64 0, .bool false]) ∧ RPost w b a c tag ⟨S.base, -1, S.l⟩ w' := by
  obtain ⟨base, cur, l⟩ := S
  simp only at hl
  subst hl
  obtain ⟨c0, c1, c2, c3, f0, f1, f2, f3, hlt⟩ := blk4 h.blk
  simp only [List.length_nil] at c1 c2 c3
  have H0 := Lib.hid h
  clear h
  go_enter Tryz.func14, Tryz.ntmps14
  go_wp2_with fail
  go_ret2
  exact ⟨rfl, H0.out.cur (-1), (Fr.refl (foot b a) w).setCell (p := ⟨b, 2, none⟩) (fun _ => .inl rfl) _⟩

set_option maxHeartbeats 3200000 in
set_option maxRecDepth 100000 in
theorem rPick_0 {w : World} {b c : Nat} {a : Option Addr} {S : Ln} (h : RAt w b a c 0 S) (hl : S.l.length ≤ 64) (z : Pt) (hz : least S.l = some z) :
    Calls Tryz.prog 14 #[.pointer (some ⟨b, 0, none⟩)] w fun e w' => e = .returned (.tuple #[.int .i64 z.id, .bool true]) ∧ RPost w b a c 0 ⟨S.base, z.id, S.l⟩ w' := by
  obtain ⟨base, cur, l⟩ := S
  simp only at hz hl ⊢
  obtain ⟨x, t, hxt⟩ : ∃ x t, l = x :: t := by cases l with | nil => simp [least] at hz | cons x t => exact ⟨x, t, rfl⟩
  have Hz := Lib.hid (show bestTo x l l.length = z by subst hxt; rw [bestTo_all] at hz; simpa using hz)
  have Hst := Lib.hid (fun k y (hy : l[k]? = some y) => show bestTo x l (k + 1) = if y.v < (bestTo x l k).v then y else bestTo x l k by subst hxt; exact bestTo_succ hy)
  have Hx0 := Lib.hid (show l[0]? = some (bestTo x l 0) by subst hxt; simp [bestTo, best])
  have hn0 : 0 < l.length := by rw [hxt]; simp
  obtain ⟨c0, c1, c2, c3, f0, f1, f2, f3, hlt⟩ := blk4 h.blk
  simp only at c1 c2 c3
  have HE := Lib.hid h.elem
  have HB0 := h.blk
  simp only at HB0 HE
  have H0 := Lib.hid h
  have Hl := Lib.hid hl
  generalize hn : l.length = n at c3 hn0 HB0
  have hn64 : n ≤ 64 := by omega
  have Hn := Lib.hid hn
  have Hn0 := Lib.hid hn0
  have hn1 : ((n : Int) == 0) = false := by simp; omega
  have HB := Lib.hid HB0
  clear h hz hxt hn HB0
  go_enter Tryz.func14, Tryz.ntmps14
  go_wp2_with fail
  go_loopw [4, 6, 7, 8] (fun fx sx ax ix wr => ∃ (k f : Nat) (s al : Int), k ≤ n ∧ (f < n) ∧ l[f]? = some (bestTo x l k) ∧ fx = .int .i64 f ∧ sx = .int .i64 s ∧ ax = .int .i64 al ∧ ix = .int .i64 k ∧ Below w.heap.size w wr) (fun _ _ _ ix _ => n - (intOf ix).toNat)
  case atStart => exact ⟨0, 0, 0, 0, Nat.zero_le _, Hn0.out, Hx0.out, rfl, rfl, rfl, rfl, Below.refl _ _⟩
  case round =>
    obtain ⟨k, f, s, al, hk, hf, hbf, rfl, rfl, rfl, rfl, hb⟩ := hrel
    obtain ⟨hc, hfz⟩ := bcell hb
    have Hb := Lib.hid hb
    have Hbf := Lib.hid hbf
    clear hb
    obtain ⟨r0, hr0, dz, _, d2, _⟩ := HE.out f _ hbf
    have hfi : (f : Int) < n := by omega
    have hf0 : (0 : Int) ≤ f := by omega
    clear hbf
    by_cases hlk : k < n
    · obtain ⟨y, hy⟩ : ∃ y, l[k]? = some y := ⟨_, List.getElem?_eq_getElem (by rw [Hn.out]; exact hlk)⟩
      obtain ⟨r1, hr1, _, e1, e2, _, _, _, _, _, hrb, hrl⟩ := HE.out k y hy
      have hkk : (k : Int) < n := by omega
      have hk0 : (0 : Int) ≤ k := by omega
      have Hy := Lib.hid hy
      have hst := Hst.out k y hy
      have Hst1 := Lib.hid hst
      clear hy hst
      subst hr0
      cases hr1
      generalize hbz : bestTo x l k = bz at d2
      have Hbz := Lib.hid hbz
      clear hbz
      by_cases hlt : y.v < bz.v
      all_goals
        go_wp2_with fail
        refine wp_region_chain 187 [0, 1, 3, 7, 0, 31, 63, 127, 0, 256, 768, 1792, 0, 7936, 16128, 32512, 65535] [(0, none), (1, none), (2, none), (3, none), (4, none), (5, none), (6, none), (7, none), (8, none), (9, none), (10, none), (11, none), (12, none), (13, none), (14, none), (15, none), (16, none)] (by kernel_rfl) (by kernel_rfl) (by rfl) ?_; simp only [chain, Obs, List.getElem?_toArray, List.getElem?_cons_zero, List.getElem?_cons_succ]
        go_wp2_with (first
          | (with_reducible refine And.intro (by first | with_reducible exact True.intro | with_reducible rfl | go_simp) ?_))
        refine NoPanic.normal ?_
        go_wp2_with fail
        refine wp_region_chain 187 [0, 0, 2, 6, 14, 0, 62, 126, 254, 0, 512, 1536, 3584, 8190, 0, 16384, 49152, 114688, 0, 507904, 1032192, 2080768, 4194302, 8388607, 16777215] [(0, none), (1, none), (2, none), (3, none), (4, none), (5, none), (6, none), (7, none), (8, none), (9, none), (10, none), (11, none), (12, none), (13, none), (14, none), (15, none), (16, none), (17, none), (18, none), (19, none), (20, none), (21, none), (22, none), (23, none), (24, none)] (by kernel_rfl) (by kernel_rfl) (by rfl) ?_; simp only [chain, Obs, List.getElem?_toArray, List.getElem?_cons_zero, List.getElem?_cons_succ]
        go_wp2_with (first
          | (with_reducible refine And.intro (by first | with_reducible exact True.intro | with_reducible rfl | go_simp) ?_))
        refine NoPanic.normal ?_
        go_wp2_with fail
        go_roundw
        case measure => simp [intOf]; omega
      · exact ⟨k + 1, k, _, _, hlk, hlk, by rw [Hst1.out, Hbz.out, if_pos hlt]; exact Hy.out, rfl, rfl, rfl, by go_num, Hb.out.drew.drew⟩
      · exact ⟨k + 1, f, _, _, hlk, hf, by rw [Hst1.out, Hbz.out, if_neg (by omega), ← Hbz.out]; exact Hbf.out, rfl, rfl, rfl, by go_num, Hb.out.drew.drew⟩
    · obtain rfl : k = n := by omega
      have hz : bestTo x l k = z := by rw [← Hn.out]; exact Hz.out
      rw [hz] at d2 dz
      clear hz
      skip
      subst hr0
      go_wp2_with fail
      go_ret2
      exact ⟨rfl, (H0.out.below Hb.out).cur z.id, (Fr.of_below (F := foot b (some ⟨r0, 0, none⟩)) Hb.out).setCell (p := ⟨b, 2, none⟩) (fun _ => .inl rfl) _⟩

set_option maxHeartbeats 3200000 in
set_option maxRecDepth 100000 in
/-- The one that runs goes on. -/
theorem rPick_1k {w : World} {b c : Nat} {a : Option Addr} {S : Ln} (h : RAt w b a c 1 S) (hl : S.l.length ≤ 64) (z : Pt) (hz : least S.l = some z) (j : Nat) (y : Pt) (hj : fi (isId S.cur) S.l = j) (hy : S.l[j]? = some y)
    (v1 : -4611686018427387904 ≤ y.v) (v2 : y.v ≤ 4611686018427387904) (hc : y.v - 465585120 ≤ z.v) :
    Calls Tryz.prog 14 #[.pointer (some ⟨b, 0, none⟩)] w fun e w' => e = .returned (.tuple #[.int .i64 S.cur, .bool true]) ∧ RPost w b a c 1 S w' := by
  obtain ⟨base, cur, l⟩ := S
  simp only at hz hl hj hy ⊢
  obtain ⟨x, t, hxt⟩ : ∃ x t, l = x :: t := by cases l with | nil => simp [least] at hz | cons x t => exact ⟨x, t, rfl⟩
  have Hz := Lib.hid (show bestTo x l l.length = z by subst hxt; rw [bestTo_all] at hz; simpa using hz)
  have Hst := Lib.hid (fun k y (hy : l[k]? = some y) => show bestTo x l (k + 1) = if y.v < (bestTo x l k).v then y else bestTo x l k by subst hxt; exact bestTo_succ hy)
  have Hx0 := Lib.hid (show l[0]? = some (bestTo x l 0) by subst hxt; simp [bestTo, best])
  have hn0 : 0 < l.length := by rw [hxt]; simp
  obtain ⟨c0, c1, c2, c3, f0, f1, f2, f3, hlt⟩ := blk4 h.blk
  simp only at c1 c2 c3
  have HE := Lib.hid h.elem
  have HB0 := h.blk
  simp only at HB0 HE
  have H0 := Lib.hid h
  have Hl := Lib.hid hl
  generalize hn : l.length = n at c3 hn0 HB0
  have hn64 : n ≤ 64 := by omega
  have Hn := Lib.hid hn
  have Hn0 := Lib.hid hn0
  have hn1 : ((n : Int) == 0) = false := by simp; omega
  have HB := Lib.hid HB0
  clear h hz hxt hn HB0
  have Hj := Lib.hid hj
  have Hyj := Lib.hid hy
  have Hc := Lib.hid hc
  clear hj hy hc
  go_enter Tryz.func14, Tryz.ntmps14
  go_wp2_with fail
  go_loopw [4, 6, 7, 8] (fun fx sx ax ix wr => ∃ (k f : Nat) (s al : Int), k ≤ n ∧ (f < n) ∧ l[f]? = some (bestTo x l k) ∧ fx = .int .i64 f ∧ sx = .int .i64 s ∧ ax = .int .i64 al ∧ ix = .int .i64 k ∧ Below w.heap.size w wr) (fun _ _ _ ix _ => n - (intOf ix).toNat)
  case atStart => exact ⟨0, 0, 0, 0, Nat.zero_le _, Hn0.out, Hx0.out, rfl, rfl, rfl, rfl, Below.refl _ _⟩
  case round =>
    obtain ⟨k, f, s, al, hk, hf, hbf, rfl, rfl, rfl, rfl, hb⟩ := hrel
    obtain ⟨hc, hfz⟩ := bcell hb
    have Hb := Lib.hid hb
    have Hbf := Lib.hid hbf
    clear hb
    obtain ⟨r0, hr0, dz, _, d2, _⟩ := HE.out f _ hbf
    have hfi : (f : Int) < n := by omega
    have hf0 : (0 : Int) ≤ f := by omega
    clear hbf
    by_cases hlk : k < n
    · obtain ⟨y, hy⟩ : ∃ y, l[k]? = some y := ⟨_, List.getElem?_eq_getElem (by rw [Hn.out]; exact hlk)⟩
      obtain ⟨r1, hr1, _, e1, e2, _, _, _, _, _, hrb, hrl⟩ := HE.out k y hy
      have hkk : (k : Int) < n := by omega
      have hk0 : (0 : Int) ≤ k := by omega
      have Hy := Lib.hid hy
      have hst := Hst.out k y hy
      have Hst1 := Lib.hid hst
      clear hy hst
      subst hr0
      cases hr1
      generalize hbz : bestTo x l k = bz at d2
      have Hbz := Lib.hid hbz
      clear hbz
      by_cases hlt : y.v < bz.v
      all_goals
        go_wp2_with fail
        refine wp_region_chain 187 [0, 1, 3, 7, 0, 31, 63, 127, 0, 256, 768, 1792, 0, 7936, 16128, 32512, 65535] [(0, none), (1, none), (2, none), (3, none), (4, none), (5, none), (6, none), (7, none), (8, none), (9, none), (10, none), (11, none), (12, none), (13, none), (14, none), (15, none), (16, none)] (by kernel_rfl) (by kernel_rfl) (by rfl) ?_; simp only [chain, Obs, List.getElem?_toArray, List.getElem?_cons_zero, List.getElem?_cons_succ]
        go_wp2_with (first
          | (with_reducible refine And.intro (by first | with_reducible exact True.intro | with_reducible rfl | go_simp) ?_))
        refine NoPanic.normal ?_
        go_wp2_with fail
        refine wp_region_chain 187 [0, 0, 2, 6, 14, 0, 62, 126, 254, 0, 512, 1536, 3584, 8190, 0, 16384, 49152, 114688, 0, 507904, 1032192, 2080768, 4194302, 8388607, 16777215] [(0, none), (1, none), (2, none), (3, none), (4, none), (5, none), (6, none), (7, none), (8, none), (9, none), (10, none), (11, none), (12, none), (13, none), (14, none), (15, none), (16, none), (17, none), (18, none), (19, none), (20, none), (21, none), (22, none), (23, none), (24, none)] (by kernel_rfl) (by kernel_rfl) (by rfl) ?_; simp only [chain, Obs, List.getElem?_toArray, List.getElem?_cons_zero, List.getElem?_cons_succ]
        go_wp2_with (first
          | (with_reducible refine And.intro (by first | with_reducible exact True.intro | with_reducible rfl | go_simp) ?_))
        refine NoPanic.normal ?_
        go_wp2_with fail
        go_roundw
        case measure => simp [intOf]; omega
      · exact ⟨k + 1, k, _, _, hlk, hlk, by rw [Hst1.out, Hbz.out, if_pos hlt]; exact Hy.out, rfl, rfl, rfl, by go_num, Hb.out.drew.drew⟩
      · exact ⟨k + 1, f, _, _, hlk, hf, by rw [Hst1.out, Hbz.out, if_neg (by omega), ← Hbz.out]; exact Hbf.out, rfl, rfl, rfl, by go_num, Hb.out.drew.drew⟩
    · obtain rfl : k = n := by omega
      have hz : bestTo x l k = z := by rw [← Hn.out]; exact Hz.out
      rw [hz] at d2 dz
      clear hz
      skip
      subst hr0
      obtain ⟨r2, hr2, _, _, e2, _⟩ := HE.out j y Hyj.out
      cases hr2
      have hji : (j : Int) < k := by have h1 := (List.getElem?_eq_some_iff.1 Hyj.out).1; rw [Hn.out] at h1; omega
      have hcc := Hc.out
      have hu : IntKind.i64.wrap (y.v - 465585120) = y.v - 465585120 := IntWalk.i64_in _ (by omega)
      go_wp2_with (go_at_call 48; refine (rat_any (H0.out.below Hb.out) Hl.out cur Hj.out).mono ?_; rintro e w3 ⟨rfl, rfl⟩)
      refine wp_region_chain 187 [0, 1, 3, 7, 15, 31, 63, 7, 255, 511, 1023, 7, 2055, 6151, 14343, 7, 63495, 129031, 260103, 522247, 1048575, 2097151] [(0, none), (1, none), (2, none), (3, none), (4, none), (5, none), (6, none), (7, none), (8, none), (9, none), (10, none), (11, none), (12, none), (13, none), (14, none), (15, none), (16, none), (17, none), (18, none), (19, none), (20, none), (21, none)] (by kernel_rfl) (by kernel_rfl) (by rfl) ?_; simp only [chain, Obs, List.getElem?_toArray, List.getElem?_cons_zero, List.getElem?_cons_succ]
      go_wp2_with (first
        | (with_reducible refine And.intro (by first | with_reducible exact True.intro | with_reducible rfl | go_simp) ?_))
      refine NoPanic.normal ?_
      go_wp2_with fail
      go_ret2
      exact ⟨rfl, H0.out.below Hb.out.drew, Fr.of_below (F := foot b (some ⟨r0, 0, none⟩)) Hb.out.drew⟩

set_option maxHeartbeats 3200000 in
set_option maxRecDepth 100000 in
/-- Nobody runs, or one too far ahead. -/
theorem rPick_1t {w : World} {b c : Nat} {a : Option Addr} {S : Ln} (h : RAt w b a c 1 S) (hl : S.l.length ≤ 64) (z : Pt) (hz : least S.l = some z)
    (hj : fi (isId S.cur) S.l = -1 ∨ ∃ (j : Nat) (y : Pt), fi (isId S.cur) S.l = j ∧ S.l[j]? = some y ∧ -4611686018427387904 ≤ y.v ∧ y.v ≤ 4611686018427387904 ∧ ¬ y.v - 465585120 ≤ z.v) :
    Calls Tryz.prog 14 #[.pointer (some ⟨b, 0, none⟩)] w fun e w' => e = .returned (.tuple #[.int .i64 z.id, .bool true]) ∧ RPost w b a c 1 ⟨S.base, z.id, S.l⟩ w' := by
  obtain ⟨base, cur, l⟩ := S
  simp only at hz hl hj ⊢
  obtain ⟨x, t, hxt⟩ : ∃ x t, l = x :: t := by cases l with | nil => simp [least] at hz | cons x t => exact ⟨x, t, rfl⟩
  have Hz := Lib.hid (show bestTo x l l.length = z by subst hxt; rw [bestTo_all] at hz; simpa using hz)
  have Hst := Lib.hid (fun k y (hy : l[k]? = some y) => show bestTo x l (k + 1) = if y.v < (bestTo x l k).v then y else bestTo x l k by subst hxt; exact bestTo_succ hy)
  have Hx0 := Lib.hid (show l[0]? = some (bestTo x l 0) by subst hxt; simp [bestTo, best])
  have hn0 : 0 < l.length := by rw [hxt]; simp
  obtain ⟨c0, c1, c2, c3, f0, f1, f2, f3, hlt⟩ := blk4 h.blk
  simp only at c1 c2 c3
  have HE := Lib.hid h.elem
  have HB0 := h.blk
  simp only at HB0 HE
  have H0 := Lib.hid h
  have Hl := Lib.hid hl
  generalize hn : l.length = n at c3 hn0 HB0
  have hn64 : n ≤ 64 := by omega
  have Hn := Lib.hid hn
  have Hn0 := Lib.hid hn0
  have hn1 : ((n : Int) == 0) = false := by simp; omega
  have HB := Lib.hid HB0
  clear h hz hxt hn HB0
  have Hj := Lib.hid hj
  clear hj
  go_enter Tryz.func14, Tryz.ntmps14
  go_wp2_with fail
  go_loopw [4, 6, 7, 8] (fun fx sx ax ix wr => ∃ (k f : Nat) (s al : Int), k ≤ n ∧ (f < n) ∧ l[f]? = some (bestTo x l k) ∧ fx = .int .i64 f ∧ sx = .int .i64 s ∧ ax = .int .i64 al ∧ ix = .int .i64 k ∧ Below w.heap.size w wr) (fun _ _ _ ix _ => n - (intOf ix).toNat)
  case atStart => exact ⟨0, 0, 0, 0, Nat.zero_le _, Hn0.out, Hx0.out, rfl, rfl, rfl, rfl, Below.refl _ _⟩
  case round =>
    obtain ⟨k, f, s, al, hk, hf, hbf, rfl, rfl, rfl, rfl, hb⟩ := hrel
    obtain ⟨hc, hfz⟩ := bcell hb
    have Hb := Lib.hid hb
    have Hbf := Lib.hid hbf
    clear hb
    obtain ⟨r0, hr0, dz, _, d2, _⟩ := HE.out f _ hbf
    have hfi : (f : Int) < n := by omega
    have hf0 : (0 : Int) ≤ f := by omega
    clear hbf
    by_cases hlk : k < n
    · obtain ⟨y, hy⟩ : ∃ y, l[k]? = some y := ⟨_, List.getElem?_eq_getElem (by rw [Hn.out]; exact hlk)⟩
      obtain ⟨r1, hr1, _, e1, e2, _, _, _, _, _, hrb, hrl⟩ := HE.out k y hy
      have hkk : (k : Int) < n := by omega
      have hk0 : (0 : Int) ≤ k := by omega
      have Hy := Lib.hid hy
      have hst := Hst.out k y hy
      have Hst1 := Lib.hid hst
      clear hy hst
      subst hr0
      cases hr1
      generalize hbz : bestTo x l k = bz at d2
      have Hbz := Lib.hid hbz
      clear hbz
      by_cases hlt : y.v < bz.v
      all_goals
        go_wp2_with fail
        refine wp_region_chain 187 [0, 1, 3, 7, 0, 31, 63, 127, 0, 256, 768, 1792, 0, 7936, 16128, 32512, 65535] [(0, none), (1, none), (2, none), (3, none), (4, none), (5, none), (6, none), (7, none), (8, none), (9, none), (10, none), (11, none), (12, none), (13, none), (14, none), (15, none), (16, none)] (by kernel_rfl) (by kernel_rfl) (by rfl) ?_; simp only [chain, Obs, List.getElem?_toArray, List.getElem?_cons_zero, List.getElem?_cons_succ]
        go_wp2_with (first
          | (with_reducible refine And.intro (by first | with_reducible exact True.intro | with_reducible rfl | go_simp) ?_))
        refine NoPanic.normal ?_
        go_wp2_with fail
        refine wp_region_chain 187 [0, 0, 2, 6, 14, 0, 62, 126, 254, 0, 512, 1536, 3584, 8190, 0, 16384, 49152, 114688, 0, 507904, 1032192, 2080768, 4194302, 8388607, 16777215] [(0, none), (1, none), (2, none), (3, none), (4, none), (5, none), (6, none), (7, none), (8, none), (9, none), (10, none), (11, none), (12, none), (13, none), (14, none), (15, none), (16, none), (17, none), (18, none), (19, none), (20, none), (21, none), (22, none), (23, none), (24, none)] (by kernel_rfl) (by kernel_rfl) (by rfl) ?_; simp only [chain, Obs, List.getElem?_toArray, List.getElem?_cons_zero, List.getElem?_cons_succ]
        go_wp2_with (first
          | (with_reducible refine And.intro (by first | with_reducible exact True.intro | with_reducible rfl | go_simp) ?_))
        refine NoPanic.normal ?_
        go_wp2_with fail
        go_roundw
        case measure => simp [intOf]; omega
      · exact ⟨k + 1, k, _, _, hlk, hlk, by rw [Hst1.out, Hbz.out, if_pos hlt]; exact Hy.out, rfl, rfl, rfl, by go_num, Hb.out.drew.drew⟩
      · exact ⟨k + 1, f, _, _, hlk, hf, by rw [Hst1.out, Hbz.out, if_neg (by omega), ← Hbz.out]; exact Hbf.out, rfl, rfl, rfl, by go_num, Hb.out.drew.drew⟩
    · obtain rfl : k = n := by omega
      have hz : bestTo x l k = z := by rw [← Hn.out]; exact Hz.out
      rw [hz] at d2 dz
      clear hz
      skip
      subst hr0
      rcases Hj.out with hj | ⟨j, y, hj, hy, v1, v2, hcc⟩
      · have Hj2 := Lib.hid hj
        clear hj
        go_wp2_with (go_at_call 48; refine (rat_any (H0.out.below Hb.out) Hl.out cur Hj2.out).mono ?_; rintro e w3 ⟨rfl, rfl⟩)
        refine wp_region_chain 187 [0, 1, 3, 7, 15, 31, 63, 7, 255, 511, 1023, 7, 2055, 6151, 14343, 7, 63495, 129031, 260103, 522247, 1048575, 2097151] [(0, none), (1, none), (2, none), (3, none), (4, none), (5, none), (6, none), (7, none), (8, none), (9, none), (10, none), (11, none), (12, none), (13, none), (14, none), (15, none), (16, none), (17, none), (18, none), (19, none), (20, none), (21, none)] (by kernel_rfl) (by kernel_rfl) (by rfl) ?_; simp only [chain, Obs, List.getElem?_toArray, List.getElem?_cons_zero, List.getElem?_cons_succ]
        go_wp2_with (first
          | (with_reducible refine And.intro (by first | with_reducible exact True.intro | with_reducible rfl | go_simp) ?_))
        refine NoPanic.normal ?_
        go_wp2_with fail
        go_ret2
        exact ⟨rfl, (H0.out.below Hb.out.drew).cur z.id, (Fr.of_below (F := foot b (some ⟨r0, 0, none⟩)) Hb.out.drew).setCell (p := ⟨b, 2, none⟩) (fun _ => .inl rfl) _⟩
      · have Hj2 := Lib.hid hj
        obtain ⟨r2, hr2, _, _, e2, _⟩ := HE.out j y hy
        cases hr2
        have hji : (j : Int) < k := by have h1 := (List.getElem?_eq_some_iff.1 hy).1; rw [Hn.out] at h1; omega
        have hu : IntKind.i64.wrap (y.v - 465585120) = y.v - 465585120 := IntWalk.i64_in _ (by omega)
        clear hj hy
        go_wp2_with (go_at_call 48; refine (rat_any (H0.out.below Hb.out) Hl.out cur Hj2.out).mono ?_; rintro e w3 ⟨rfl, rfl⟩)
        refine wp_region_chain 187 [0, 1, 3, 7, 15, 31, 63, 7, 255, 511, 1023, 7, 2055, 6151, 14343, 7, 63495, 129031, 260103, 522247, 1048575, 2097151] [(0, none), (1, none), (2, none), (3, none), (4, none), (5, none), (6, none), (7, none), (8, none), (9, none), (10, none), (11, none), (12, none), (13, none), (14, none), (15, none), (16, none), (17, none), (18, none), (19, none), (20, none), (21, none)] (by kernel_rfl) (by kernel_rfl) (by rfl) ?_; simp only [chain, Obs, List.getElem?_toArray, List.getElem?_cons_zero, List.getElem?_cons_succ]
        go_wp2_with (first
          | (with_reducible refine And.intro (by first | with_reducible exact True.intro | with_reducible rfl | go_simp) ?_))
        refine NoPanic.normal ?_
        go_wp2_with fail
        go_ret2
        exact ⟨rfl, (H0.out.below Hb.out.drew).cur z.id, (Fr.of_below (F := foot b (some ⟨r0, 0, none⟩)) Hb.out.drew).setCell (p := ⟨b, 2, none⟩) (fun _ => .inl rfl) _⟩
end Go.Proofs.YtfijedmdfkelnaaGreat
