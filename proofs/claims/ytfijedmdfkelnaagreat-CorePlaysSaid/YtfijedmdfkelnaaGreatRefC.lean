/- The document's own queue: Weigh, Charge. -/
import Derived.Test.YtfijedmdfkelnaaGreatRefB
namespace Go.Proofs.YtfijedmdfkelnaaGreat
open Go.RowKit
set_option linter.unusedVariables false
set_option linter.unusedSimpArgs false

theorem flat_setV (v' : Int) : ∀ (l : List Pt) (j : Nat) (x : Pt), l[j]? = some x → (flat Pt.enc l).set (j * 4 + 2) (.int .i64 v') = flat Pt.enc (l.set j { x with v := v' })
  | [], j, x, h => by simp at h
  | y :: l, 0, x, h => by simp at h; subst h; simp [flat, Pt.enc]
  | y :: l, j + 1, x, h => by
    have := flat_setV v' l j x (by simpa using h)
    have e1 : (j + 1) * 4 + 2 = (j * 4 + 2) + 4 := by omega
    rw [e1]
    simp only [flat, List.flatMap_cons, Pt.enc, List.cons_append, List.nil_append, List.set_cons_succ] at this ⊢
    rw [this]
theorem flat_setD (d' : Int) : ∀ (l : List Pt) (j : Nat) (x : Pt), l[j]? = some x → (flat Pt.enc l).set (j * 4 + 3) (.int .i64 d') = flat Pt.enc (l.set j { x with day := d' })
  | [], j, x, h => by simp at h
  | y :: l, 0, x, h => by simp at h; subst h; simp [flat, Pt.enc]
  | y :: l, j + 1, x, h => by
    have := flat_setD d' l j x (by simpa using h)
    have e1 : (j + 1) * 4 + 3 = (j * 4 + 3) + 4 := by omega
    rw [e1]
    simp only [flat, List.flatMap_cons, Pt.enc, List.cons_append, List.nil_append, List.set_cons_succ] at this ⊢
    rw [this]
theorem RAt.setC {w : World} {b r c i : Nat} {tag : Int} {S : Ln} (h : RAt w b (some ⟨r, 0, none⟩) c tag S) (l' : List Pt) (u : Value) (hf : (flat Pt.enc S.l).set i u = flat Pt.enc l') (hl : l'.length = S.l.length) :
    RAt (w.setCell ⟨r, i, none⟩ u) b (some ⟨r, 0, none⟩) c tag ⟨S.base, S.cur, l'⟩ := by
  have hne := h.apart _ rfl
  simp only at hne
  refine ⟨?_, ?_, h.apart⟩
  · simp only; rw [hl]; exact heap_set_ne h.blk hne.symm _
  · have h4 := (h.row.stored i u).1
    rw [hf] at h4
    simp only; rw [hl]
    exact h4
section
variable {w : World} {b r c j : Nat} {tag : Int} {S : Ln} {x : Pt}
theorem RAt.setW (h : RAt w b (some ⟨r, 0, none⟩) c tag S) (hx : S.l[j]? = some x) (y : Int) : RAt (w.setCell ⟨r, j * 4 + 1, none⟩ (.int .i64 y)) b (some ⟨r, 0, none⟩) c tag ⟨S.base, S.cur, S.l.set j { x with w := y }⟩ :=
  h.setC _ _ (flat_setW y S.l j x hx) (List.length_set ..)
theorem RAt.setV (h : RAt w b (some ⟨r, 0, none⟩) c tag S) (hx : S.l[j]? = some x) (y : Int) : RAt (w.setCell ⟨r, j * 4 + 2, none⟩ (.int .i64 y)) b (some ⟨r, 0, none⟩) c tag ⟨S.base, S.cur, S.l.set j { x with v := y }⟩ :=
  h.setC _ _ (flat_setV y S.l j x hx) (List.length_set ..)
theorem RAt.setD (h : RAt w b (some ⟨r, 0, none⟩) c tag S) (hx : S.l[j]? = some x) (y : Int) : RAt (w.setCell ⟨r, j * 4 + 3, none⟩ (.int .i64 y)) b (some ⟨r, 0, none⟩) c tag ⟨S.base, S.cur, S.l.set j { x with day := y }⟩ :=
  h.setC _ _ (flat_setD y S.l j x hx) (List.length_set ..)
end

/-- Behind a call on the document's queue. -/
def RPost (w : World) (b : Nat) (a : Option Addr) (c : Nat) (tag : Int) (S : Ln) (w' : World) : Prop := RAt w' b a c tag S ∧ Fr (foot b a) w w'

set_option maxHeartbeats 1600000 in
theorem rWeigh_none {w : World} {b c : Nat} {a : Option Addr} {tag : Int} {S : Ln} (h : RAt w b a c tag S) (hl : S.l.length ≤ 64) (id tw : Int) (hf : fi (isId id) S.l = -1) :
    Calls Tryz.prog 13 #[.pointer (some ⟨b, 0, none⟩), .int .i64 id, .int .i64 tw] w fun e w' => e = .returned (.int .i64 2) ∧ RPost w b a c tag S w' := by
  have H0 := Lib.hid h
  have Hf := Lib.hid (rat_any h hl id hf)
  clear h hf
  go_enter Tryz.func13, Tryz.ntmps13
  go_wp2_with (go_at_call 48; refine Hf.out.mono ?_; rintro e w1 ⟨rfl, rfl⟩)
  go_ret
  exact ⟨rfl, H0.out, Fr.refl _ _⟩
set_option maxHeartbeats 1600000 in
theorem rWeigh_arg {w : World} {b c : Nat} {a : Option Addr} {tag : Int} {S : Ln} (h : RAt w b a c tag S) (hl : S.l.length ≤ 64) (id tw : Int) (j : Nat) (hf : fi (isId id) S.l = j) (ht : goodW tw = false) :
    Calls Tryz.prog 13 #[.pointer (some ⟨b, 0, none⟩), .int .i64 id, .int .i64 tw] w fun e w' => e = .returned (.int .i64 1) ∧ RPost w b a c tag S w' := by
  have H0 := Lib.hid h
  have Hf := Lib.hid (rat_any h hl id hf)
  have Ht := Lib.hid ht
  have hj0 : ¬ (j : Int) < 0 := by omega
  clear h hf ht
  go_enter Tryz.func13, Tryz.ntmps13
  go_wp2_with (first
    | (go_at_call 48; refine Hf.out.mono ?_; rintro e w1 ⟨rfl, rfl⟩)
    | (go_at_call 47; refine (rGood_any _ _ Ht.out).mono ?_; rintro e w2 ⟨rfl, rfl⟩))
  go_ret
  exact ⟨rfl, H0.out, Fr.refl _ _⟩
set_option maxHeartbeats 1600000 in
set_option maxRecDepth 100000 in
theorem rWeigh_go {w : World} {b c : Nat} {a : Option Addr} {tag : Int} {S : Ln} (h : RAt w b a c tag S) (hl : S.l.length ≤ 64) (id tw : Int) (j : Nat) (x : Pt) (hf : fi (isId id) S.l = j) (hx : S.l[j]? = some x) (ht : goodW tw = true)
    (hv1 : -4611686018427387904 ≤ x.v) (hv2 : x.v ≤ 4611686018427387904) (y : Pt) (hy : dayOf { x with w := tw } = y) :
    Calls Tryz.prog 13 #[.pointer (some ⟨b, 0, none⟩), .int .i64 id, .int .i64 tw] w fun e w' => e = .returned (.int .i64 0) ∧ RPost w b a c tag ⟨growB S.base (S.l.set j y), S.cur, S.l.set j y⟩ w' := by
  obtain ⟨g1, g2⟩ := goodW_true ht
  have hs := step_le tw
  have hjl : j < S.l.length := (List.getElem?_eq_some_iff.1 hx).1
  obtain ⟨c0, c1, c2, c3, f0, f1, f2, f3, hlt⟩ := blk4 h.blk
  obtain ⟨r, rfl, d0, d1, d2, d3, z0, z1, z2, z3, hrb, hr⟩ := h.elem j x hx
  have Hf := Lib.hid (rat_any h hl id hf)
  have Ht := Lib.hid ht
  have hj0 : ¬ (j : Int) < 0 := by omega
  have hj1 : (0 : Int) ≤ j := by omega
  have hjn : (j : Int) < S.l.length := by omega
  have H1 := Lib.hid (h.drew.setW hx tw)
  have H2 := Lib.hid (H1.out.setD (j := j) (x := { x with w := tw }) (by simp only [List.getElem?_set_self hjl]) (x.v + 4 * step tw))
  rw [List.set_set] at H2
  have e2 : ({ ({ x with w := tw } : Pt) with day := x.v + 4 * step tw } : Pt) = y := hy
  simp only at H2
  rw [e2] at H2
  have hlen : (S.l.set j y).length ≤ 64 := by rw [List.length_set]; exact hl
  have HG := Lib.hid (rgrow_any H2.out hlen)
  clear h hf ht hx hy e2 H1
  have hwr : IntKind.i64.wrap (x.v + 4 * step tw) = x.v + 4 * step tw := IntWalk.i64_in _ (by omega)
  go_enter Tryz.func13, Tryz.ntmps13
  go_wp2_with (first
    | (go_at_call 48; refine Hf.out.mono ?_; rintro e w1 ⟨rfl, rfl⟩)
    | (go_at_call 47; refine (rGood_any _ _ Ht.out).mono ?_; rintro e w2 ⟨rfl, rfl⟩))
  refine wp_region_chain 44 [0, 1, 3, 7, 0, 0, 32, 96, 224, 0, 0, 0, 2048, 6144, 14336, 0, 63488, 129024, 260096, 0, 524288, 2095104, 2096639, 6290943, 14679551, 33554431, 67108863, 134217727] [(0, none), (1, none), (2, none), (3, none), (4, none), (5, none), (6, none), (7, none), (8, none), (9, none), (10, none), (11, none), (12, none), (13, none), (14, none), (15, none), (16, none), (17, none), (18, none), (19, none), (20, some [0, 1, 2, 3, 4, 5, 6, 7, 8, 9, 10, 11, 12, 13, 14, 15, 16, 17, 18]), (21, none), (22, none), (23, none), (24, some [9, 21]), (25, none), (26, none), (27, some [])] (by kernel_rfl) (by kernel_rfl) (by rfl) ?_; simp only [chain, Obs, List.getElem?_toArray, List.getElem?_cons_zero, List.getElem?_cons_succ]
  go_wp2_with (first
    | (with_reducible refine And.intro (by first | with_reducible exact True.intro | with_reducible rfl | go_simp) ?_)
    | (go_at_call 46; refine (rday_any _ _ g1 g2).mono ?_; rintro e w3 ⟨rfl, rfl⟩))
  refine NoPanic.normal ?_
  go_wp2_with (go_at_call 49; refine HG.out.mono ?_; rintro e w5 ⟨rfl, hr5, hf5⟩; have Hr5 := Lib.hid hr5; have Hf5 := Lib.hid hf5; clear hr5 hf5)
  go_ret
  refine ⟨rfl, Hr5.out, ?_⟩
  exact ((((Fr.refl (foot b (some ⟨r, 0, none⟩)) w).drew.setCell (p := ⟨r, j * 4 + 1, none⟩) (fun _ => .inr ⟨_, rfl, rfl⟩) _).setCell (p := ⟨r, j * 4 + 3, none⟩) (fun _ => .inr ⟨_, rfl, rfl⟩) _).trans Hf5.out (fun k _ e => .inl e))

set_option maxHeartbeats 1600000 in
theorem rCharge_none {w : World} {b c : Nat} {a : Option Addr} {tag : Int} {S : Ln} (h : RAt w b a c tag S) (hl : S.l.length ≤ 64) (hf : fi (isId S.cur) S.l = -1) :
    Calls Tryz.prog 15 #[.pointer (some ⟨b, 0, none⟩)] w fun e w' => e = .returned (.tuple #[.int .i64 0, .int .i64 14]) ∧ RPost w b a c tag S w' := by
  have H0 := Lib.hid h
  obtain ⟨c0, c1, c2, c3, f0, f1, f2, f3, hlt⟩ := blk4 h.blk
  have Hf := Lib.hid (rat_any h hl S.cur hf)
  clear h hf
  go_enter Tryz.func15, Tryz.ntmps15
  go_wp2_with (go_at_call 48; refine Hf.out.mono ?_; rintro e w1 ⟨rfl, rfl⟩)
  go_ret2
  exact ⟨rfl, H0.out, Fr.refl _ _⟩
set_option maxHeartbeats 1600000 in
theorem rCharge_over {w : World} {b c : Nat} {a : Option Addr} {tag : Int} {S : Ln} (h : RAt w b a c tag S) (hl : S.l.length ≤ 64) (j : Nat) (x : Pt) (hf : fi (isId S.cur) S.l = j) (hx : S.l[j]? = some x)
    (hw1 : 1 ≤ x.w) (hw2 : x.w ≤ 20) (hv1 : -4611686018427387904 ≤ x.v) (hv2 : x.v ≤ 4611686018427387904) (ho : 2305843009213693952 < x.v + step x.w) :
    Calls Tryz.prog 15 #[.pointer (some ⟨b, 0, none⟩)] w fun e w' => e = .returned (.tuple #[.int .i64 0, .int .i64 7]) ∧ RPost w b a c tag S w' := by
  have H0 := Lib.hid h
  have hst := step_le x.w
  have hjl : j < S.l.length := (List.getElem?_eq_some_iff.1 hx).1
  obtain ⟨c0, c1, c2, c3, f0, f1, f2, f3, hlt⟩ := blk4 h.blk
  obtain ⟨r, rfl, d0, d1, d2, d3, z0, z1, z2, z3, hrb, hr⟩ := h.elem j x hx
  have Hf := Lib.hid (rat_any h hl S.cur hf)
  have hj0 : ¬ (j : Int) < 0 := by omega
  have hj1 : (0 : Int) ≤ j := by omega
  have hjn : (j : Int) < S.l.length := by omega
  clear h hf hx
  go_enter Tryz.func15, Tryz.ntmps15
  go_wp2_with (first
    | (go_at_call 48; refine Hf.out.mono ?_; rintro e w1 ⟨rfl, rfl⟩)
    | (go_at_call 50; refine (rStep_any _ _ hw1 hw2).mono ?_; rintro e w2 ⟨rfl, rfl⟩))
  go_ret2
  exact ⟨rfl, H0.out, Fr.refl _ _⟩
set_option maxHeartbeats 3200000 in
set_option maxRecDepth 100000 in
theorem rCharge_go {w : World} {b c : Nat} {a : Option Addr} {tag : Int} {S : Ln} (h : RAt w b a c tag S) (hl : S.l.length ≤ 64) (j : Nat) (x : Pt) (hf : fi (isId S.cur) S.l = j) (hx : S.l[j]? = some x)
    (hw1 : 1 ≤ x.w) (hw2 : x.w ≤ 20) (hv1 : -4611686018427387904 ≤ x.v) (hv2 : x.v ≤ 4611686018427387904) (hd1 : -4611686018427387904 ≤ x.day) (hd2 : x.day ≤ 4611686018427387904) (ho : x.v + step x.w ≤ 2305843009213693952) (y : Pt) (hy : chargeP x = y) :
    Calls Tryz.prog 15 #[.pointer (some ⟨b, 0, none⟩)] w fun e w' => e = .returned (.tuple #[.int .i64 S.cur, .int .i64 0]) ∧ RPost w b a c tag ⟨growB S.base (S.l.set j y), S.cur, S.l.set j y⟩ w' := by
  have hst := step_le x.w
  have hjl : j < S.l.length := (List.getElem?_eq_some_iff.1 hx).1
  have hlen : (S.l.set j y).length ≤ 64 := by rw [List.length_set]; exact hl
  obtain ⟨c0, c1, c2, c3, f0, f1, f2, f3, hlt⟩ := blk4 h.blk
  obtain ⟨r, rfl, d0, d1, d2, d3, z0, z1, z2, z3, hrb, hr⟩ := h.elem j x hx
  have Hf := Lib.hid (rat_any h hl S.cur hf)
  have hj0 : ¬ (j : Int) < 0 := by omega
  have hj1 : (0 : Int) ≤ j := by omega
  have hjn : (j : Int) < S.l.length := by omega
  have H1 := h.drew.setV hx (x.v + step x.w)
  have hx1 : (S.l.set j { x with v := x.v + step x.w })[j]? = some { x with v := x.v + step x.w } := List.getElem?_set_self hjl
  have H0 := Lib.hid h
  have hwv : IntKind.i64.wrap (x.v + step x.w) = x.v + step x.w := IntWalk.i64_in _ (by omega)
  by_cases hday : x.day ≤ x.v + step x.w
  · have hwd : IntKind.i64.wrap (x.v + step x.w + 4 * step x.w) = x.v + step x.w + 4 * step x.w := IntWalk.i64_in _ (by omega)
    have H2 := (H1.drew.drew).setD (j := j) (x := { x with v := x.v + step x.w }) hx1 (x.v + step x.w + 4 * step x.w)
    simp only [List.set_set] at H2
    have e2 : ({ ({ x with v := x.v + step x.w } : Pt) with day := x.v + step x.w + 4 * step x.w } : Pt) = y := by rw [← hy]; unfold chargeP; rw [if_pos hday]; rfl
    simp only at e2
    rw [e2] at H2
    have HG := Lib.hid (rgrow_any H2 hlen)
    clear h hf hx hy H1 H2 e2 hx1
    go_enter Tryz.func15, Tryz.ntmps15
    go_wp2_with (first
      | (go_at_call 48; refine Hf.out.mono ?_; rintro e w1 ⟨rfl, rfl⟩)
      | (go_at_call 50; refine (rStep_any _ _ hw1 hw2).mono ?_; rintro e w2 ⟨rfl, rfl⟩))
    refine wp_region_chain 99 [0, 1, 3, 7, 0, 0, 32, 96, 224, 0, 992, 2016, 4064, 0, 16352, 32767, 65535, 131071] [(0, none), (1, none), (2, none), (3, none), (4, none), (5, none), (6, none), (7, none), (8, none), (9, none), (10, none), (11, none), (12, none), (13, none), (14, none), (15, none), (16, none), (17, some [])] (by kernel_rfl) (by kernel_rfl) (by rfl) ?_; simp only [chain, Obs, List.getElem?_toArray, List.getElem?_cons_zero, List.getElem?_cons_succ]
    go_wp2_with (first
      | (with_reducible refine And.intro (by first | with_reducible exact True.intro | with_reducible rfl | go_simp) ?_))
    refine NoPanic.normal ?_
    go_wp2_with fail
    refine wp_region_chain 99 [0, 1, 3, 7, 0, 31, 63, 127, 0, 256, 768, 1792, 0, 7936, 16128, 32512, 65535] [(0, none), (1, none), (2, none), (3, none), (4, none), (5, none), (6, none), (7, none), (8, none), (9, none), (10, none), (11, none), (12, none), (13, none), (14, none), (15, none), (16, none)] (by kernel_rfl) (by kernel_rfl) (by rfl) ?_; simp only [chain, Obs, List.getElem?_toArray, List.getElem?_cons_zero, List.getElem?_cons_succ]
    go_wp2_with (first
      | (with_reducible refine And.intro (by first | with_reducible exact True.intro | with_reducible rfl | go_simp) ?_))
    refine NoPanic.normal ?_
    go_wp2_with fail
    refine wp_region_chain 99 [0, 1, 3, 7, 0, 0, 32, 96, 224, 0, 992, 2016, 4064, 0, 8192, 24576, 57344, 0, 253952, 516096, 1040384, 2088960, 4194272, 8388607, 16777215, 33554431] [(0, none), (1, none), (2, none), (3, none), (4, none), (5, none), (6, none), (7, none), (8, none), (9, none), (10, none), (11, none), (12, none), (13, none), (14, none), (15, none), (16, none), (17, none), (18, none), (19, none), (20, none), (21, some [0, 1, 2, 3, 4, 5, 6, 7, 8, 9, 10, 11, 12]), (22, none), (23, none), (24, none), (25, some [])] (by kernel_rfl) (by kernel_rfl) (by rfl) ?_; simp only [chain, Obs, List.getElem?_toArray, List.getElem?_cons_zero, List.getElem?_cons_succ]
    go_wp2_with (first
      | (with_reducible refine And.intro (by first | with_reducible exact True.intro | with_reducible rfl | go_simp) ?_)
      | (go_at_call 46; refine (rday_any _ _ hw1 hw2).mono ?_; rintro e w3 ⟨rfl, rfl⟩))
    refine NoPanic.normal ?_
    go_wp2_with (go_at_call 49; refine HG.out.mono ?_; rintro e w5 ⟨rfl, hr5, hf5⟩; obtain ⟨k0, k1, k2, k3, _, _, _, _, _⟩ := blk4 hr5.blk; have Hr5 := Lib.hid hr5; have Hf5 := Lib.hid hf5; clear hr5 hf5)
    go_ret2
    refine ⟨rfl, Hr5.out, ?_⟩
    exact (((((Fr.refl (foot b (some ⟨r, 0, none⟩)) w).drew.setCell (p := ⟨r, j * 4 + 2, none⟩) (fun _ => .inr ⟨_, rfl, rfl⟩) _).drew.drew).setCell (p := ⟨r, j * 4 + 3, none⟩) (fun _ => .inr ⟨_, rfl, rfl⟩) _).trans Hf5.out (fun k _ e => .inl e))
  · have e2 : ({ x with v := x.v + step x.w } : Pt) = y := by rw [← hy]; unfold chargeP; rw [if_neg hday]
    rw [e2] at H1
    have HG := Lib.hid (rgrow_any H1.drew hlen)
    clear h hf hx hy H1 e2 hx1
    go_enter Tryz.func15, Tryz.ntmps15
    go_wp2_with (first
      | (go_at_call 48; refine Hf.out.mono ?_; rintro e w1 ⟨rfl, rfl⟩)
      | (go_at_call 50; refine (rStep_any _ _ hw1 hw2).mono ?_; rintro e w2 ⟨rfl, rfl⟩))
    refine wp_region_chain 99 [0, 1, 3, 7, 0, 0, 32, 96, 224, 0, 992, 2016, 4064, 0, 16352, 32767, 65535, 131071] [(0, none), (1, none), (2, none), (3, none), (4, none), (5, none), (6, none), (7, none), (8, none), (9, none), (10, none), (11, none), (12, none), (13, none), (14, none), (15, none), (16, none), (17, some [])] (by kernel_rfl) (by kernel_rfl) (by rfl) ?_; simp only [chain, Obs, List.getElem?_toArray, List.getElem?_cons_zero, List.getElem?_cons_succ]
    go_wp2_with (first
      | (with_reducible refine And.intro (by first | with_reducible exact True.intro | with_reducible rfl | go_simp) ?_))
    refine NoPanic.normal ?_
    go_wp2_with fail
    refine wp_region_chain 99 [0, 1, 3, 7, 0, 31, 63, 127, 0, 256, 768, 1792, 0, 7936, 16128, 32512, 65535] [(0, none), (1, none), (2, none), (3, none), (4, none), (5, none), (6, none), (7, none), (8, none), (9, none), (10, none), (11, none), (12, none), (13, none), (14, none), (15, none), (16, none)] (by kernel_rfl) (by kernel_rfl) (by rfl) ?_; simp only [chain, Obs, List.getElem?_toArray, List.getElem?_cons_zero, List.getElem?_cons_succ]
    go_wp2_with (first
      | (with_reducible refine And.intro (by first | with_reducible exact True.intro | with_reducible rfl | go_simp) ?_))
    refine NoPanic.normal ?_
    go_wp2_with (go_at_call 49; refine HG.out.mono ?_; rintro e w5 ⟨rfl, hr5, hf5⟩; obtain ⟨k0, k1, k2, k3, _, _, _, _, _⟩ := blk4 hr5.blk; have Hr5 := Lib.hid hr5; have Hf5 := Lib.hid hf5; clear hr5 hf5)
    go_ret2
    refine ⟨rfl, Hr5.out, ?_⟩
    exact ((((Fr.refl (foot b (some ⟨r, 0, none⟩)) w).drew.setCell (p := ⟨r, j * 4 + 2, none⟩) (fun _ => .inr ⟨_, rfl, rfl⟩) _).drew).trans Hf5.out (fun k _ e => .inl e))
end Go.Proofs.YtfijedmdfkelnaaGreat
