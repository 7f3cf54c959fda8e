/- Contracts of package owed's line: charging, weighing, telling. -/
import Derived.Test.YtlgkkolgdjgclaaGreatD
import Derived.Deep.DeepCutAuto
import Derived.KernelRfl
import Derived.Deep.CutBlock
namespace Go.Proofs.YtlgkkolgdjgclaaGreat
open Go.RowKit
set_option linter.unusedVariables false
set_option linter.unusedSimpArgs false

set_option maxHeartbeats 1600000 in
theorem Charge_none {w : World} {B b : Nat} {a : Option Addr} {c : Nat} {base cur : Int} {l : List Pt} (h : LineAt w B b a c base cur l) (hl : l.length ≤ 64) (hf : fi (isId cur) l = -1) :
    Calls Tryz.prog 183 #[.pointer (some ⟨b, 0, none⟩)] w fun e w' => e = .returned (.tuple #[.int .i64 0, .int .i64 14]) ∧ Below w.heap.size w w' := by
  obtain ⟨T, hT⟩ := h.blk
  obtain ⟨c0, c1, c2, f0, f1, f2, hlt⟩ := blk3 hT
  have Hf := Lib.hid (find_any h hl cur hf)
  clear h hT hf
  go_enter Tryz.func183, Tryz.ntmps183
  go_wp2_with (go_at_call 191; refine Hf.out.mono ?_; rintro e w1 ⟨rfl, hb1⟩)
  go_ret2
  exact ⟨rfl, hb1⟩

set_option maxHeartbeats 1600000 in
theorem Charge_over {w : World} {B b : Nat} {a : Option Addr} {c : Nat} {base cur : Int} {l : List Pt} (h : LineAt w B b a c base cur l) (hl : l.length ≤ 64) (j : Nat) (x : Pt) (hf : fi (isId cur) l = j) (hx : l[j]? = some x)
    (hw1 : 1 ≤ x.w) (hw2 : x.w ≤ 20) (hv1 : -4611686018427387904 ≤ x.v) (hv2 : x.v ≤ 4611686018427387904) (ho : 2305843009213693952 < x.v + step x.w) :
    Calls Tryz.prog 183 #[.pointer (some ⟨b, 0, none⟩)] w fun e w' => e = .returned (.tuple #[.int .i64 0, .int .i64 7]) ∧ Below w.heap.size w w' := by
  obtain ⟨T, hT⟩ := h.blk
  obtain ⟨c0, c1, c2, f0, f1, f2, hlt⟩ := blk3 hT
  have Hf := Lib.hid (find_any h hl cur hf)
  have hjl : j < l.length := (List.getElem?_eq_some_iff.1 hx).1
  obtain ⟨r, rfl, d0, d1, d2, d3, z0, z1, z2, z3, hne, hr⟩ := h.elem j x hx
  have hst := step_le x.w
  clear h hT hf hx
  go_enter Tryz.func183, Tryz.ntmps183
  go_upto_region 5 with (go_at_call 191; refine Hf.out.mono ?_; rintro e w1 ⟨rfl, hb1⟩; obtain ⟨hc1, hf1⟩ := bcell hb1; have hs1 := hb1.size)
  go_cut [] (fun wx => wx = (w1.alloc (.cells #[.int .i64 x.id, .int .i64 x.w, .int .i64 (x.v + step x.w), .int .i64 x.day] 248)).drew)
  case first =>
    have hwr : IntKind.i64.wrap (x.v + step x.w) = x.v + step x.w := IntWalk.i64_in _ (by omega)
    go_region_with (go_at_call 156; refine (Step_any _ _ hw1 hw2).mono ?_; rintro e w' ⟨rfl, rfl⟩)
    all_goals (go_wp2_with fail; go_meet; rfl)
  case rest =>
    obtain rfl := hcut
    go_wp2_with fail
    go_ret2
    exact ⟨rfl, ((hb1.alloc hb1.size _).drew)⟩

set_option maxHeartbeats 3200000 in
theorem Charge_go {w : World} {B b : Nat} {a : Option Addr} {c : Nat} {base cur : Int} {l : List Pt} (h : LineAt w B b a c base cur l) (hl : l.length ≤ 64) (j : Nat) (x : Pt) (hf : fi (isId cur) l = j) (hx : l[j]? = some x)
    (hw1 : 1 ≤ x.w) (hw2 : x.w ≤ 20) (hv1 : -4611686018427387904 ≤ x.v) (hv2 : x.v ≤ 4611686018427387904) (ho : x.v + step x.w ≤ 2305843009213693952) (y : Pt) (hy : chargeP x = y) :
    Calls Tryz.prog 183 #[.pointer (some ⟨b, 0, none⟩)] w fun e w' => e = .returned (.tuple #[.int .i64 x.id, .int .i64 0]) ∧
      LineAt w' B b a c (growB base (l.set j y)) cur (l.set j y) ∧ Fr (foot b a) w w' := by
  have h0 := h
  obtain ⟨T, hT⟩ := h.blk
  obtain ⟨c0, c1, c2, f0, f1, f2, hlt⟩ := blk3 hT
  have Hf := Lib.hid (find_any h hl cur hf)
  have hjl : j < l.length := (List.getElem?_eq_some_iff.1 hx).1
  obtain ⟨r, rfl, d0, d1, d2, d3, z0, z1, z2, z3, hne, hr⟩ := h.elem j x hx
  have hst := step_le x.w
  have hyi : y.id = x.id := by rw [← hy]; unfold chargeP dayOf; split <;> rfl
  have H0 := Lib.hid h0
  have Hy := Lib.hid hy
  have Hyi := Lib.hid hyi
  clear h hT hf hx h0 hy hyi
  go_enter Tryz.func183, Tryz.ntmps183
  go_upto_region 5 with (go_at_call 191; refine Hf.out.mono ?_; rintro e w1 ⟨rfl, hb1⟩; obtain ⟨hc1, hf1⟩ := bcell hb1; have hs1 := hb1.size)
  go_cut [] (fun wx => wx = (w1.alloc (.cells #[.int .i64 x.id, .int .i64 x.w, .int .i64 (x.v + step x.w), .int .i64 x.day] 248)).drew)
  case first =>
    have hwr : IntKind.i64.wrap (x.v + step x.w) = x.v + step x.w := IntWalk.i64_in _ (by omega)
    go_region_with (go_at_call 156; refine (Step_any _ _ hw1 hw2).mono ?_; rintro e w' ⟨rfl, rfl⟩)
    all_goals (go_wp2_with fail; go_meet; rfl)
  case rest =>
    obtain rfl := hcut
    go_upto_if 35 with fail
    go_cut [] (fun wx => Below w.heap.size w wx ∧ wx.heap[w1.heap.size]? = some (.cells #[.int .i64 y.id, .int .i64 y.w, .int .i64 y.v, .int .i64 y.day] 248 (0, 0)))
    case first =>
      by_cases hd : x.day ≤ x.v + step x.w
      · have hy2 : y = ⟨x.id, x.w, x.v + step x.w, x.v + step x.w + 4 * step x.w⟩ := by rw [← Hy.out]; unfold chargeP dayOf; rw [if_pos hd]
        have Hy2 := Lib.hid hy2
        clear hy2
        go_wp2_with (go_at_call 151; refine (day_any _ _ _ _ _ hw1 hw2 (by omega) (by omega)).mono ?_; rintro e w2 ⟨rfl, hb2⟩; obtain ⟨hc2, hf2⟩ := bcell hb2; have hs2 : w1.heap.size + 1 ≤ w2.heap.size := (by have := hb2.size; simp at this; exact this))
        go_meet
        have hg := heap_below (w := (w1.alloc (.cells #[.int .i64 x.id, .int .i64 x.w, .int .i64 (x.v + step x.w), .int .i64 x.day] 248)).drew) (heap_new w1 _) hb2
        rw [Hy2.out]
        refine ⟨((((((hb1.alloc hb1.size _).drew).trans (hb2.mono (by simp; omega))).setCell hs1 _).setCell hs1 _).setCell hs1 _).setCell hs1 _, heap_set (heap_set (heap_set (heap_set hg _) _) _) _⟩
      · have hy2 : y = ⟨x.id, x.w, x.v + step x.w, x.day⟩ := by rw [← Hy.out]; unfold chargeP dayOf; rw [if_neg hd]
        have Hy2 := Lib.hid hy2
        clear hy2
        go_wp2_with fail
        go_meet
        rw [Hy2.out]
        exact ⟨(hb1.alloc hb1.size _).drew, heap_new w1 _⟩
    case rest =>
      obtain ⟨hbc, hg⟩ := hcut
      obtain ⟨g0, g1, g2, g3, y0, y1, y2, y3, gsz⟩ := blk4 hg
      obtain ⟨hc3, hf3⟩ := bcell hbc
      have Hg := Lib.hid hg
      clear hc1 hf1 hg
      have hj0 : (0 : Int) ≤ j := by omega
      have hjn : (j : Int) < l.length := by omega
      have hb3 : b ≠ w1.heap.size := by omega
      have hr3 : r ≠ w1.heap.size := by omega
      have hs3 := hbc.size
      have hb2 : b < wc.heap.size := by omega
      have hr2 : r < wc.heap.size := by omega
      go_wp2_with fail
      go_region
      go_wp2_with fail
      have HL := (((H0.out.below hbc).setRow j hjl y).2.2).drew
      have HF : Fr (foot b (some ⟨r, 0, none⟩)) w _ := ((((((Fr.of_below hbc).setCell (p := ⟨r, j * 4, none⟩) (fun _ => .inr ⟨_, rfl, rfl⟩) (.int .i64 y.id)).setCell (p := ⟨r, j * 4 + 1, none⟩) (fun _ => .inr ⟨_, rfl, rfl⟩) (.int .i64 y.w)).setCell (p := ⟨r, j * 4 + 2, none⟩) (fun _ => .inr ⟨_, rfl, rfl⟩) (.int .i64 y.v)).setCell (p := ⟨r, j * 4 + 3, none⟩) (fun _ => .inr ⟨_, rfl, rfl⟩) (.int .i64 y.day))).drew
      have HF2 := Lib.hid HF
      refine (grow_any HL (by rw [List.length_set]; exact hl)).mono ?_
      clear HF HL
      rintro e w2 ⟨rfl, hL2, hfr⟩
      have e0 := ((hfr.cell (p := ⟨w1.heap.size, 0, none⟩) (by simp; exact gsz) hb3.symm).trans (World.cell?_of_block (heap_set_ne (heap_set_ne (heap_set_ne (heap_set_ne rfl hr3.symm _) hr3.symm _) hr3.symm _) hr3.symm _))).trans g0
      have HL2 := Lib.hid hL2
      clear hL2
      go_wp2
      go_ret2
      rw [Hyi.out]
      exact ⟨rfl, HL2.out, HF2.out.trans hfr (fun i _ hi => .inl hi)⟩
end Go.Proofs.YtlgkkolgdjgclaaGreat
