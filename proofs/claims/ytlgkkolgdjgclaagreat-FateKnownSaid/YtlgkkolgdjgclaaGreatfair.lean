/- Package fair: who comes in, who is picked. -/
import Derived.Test.YtlgkkolgdjgclaaGreatQfair
import Derived.Test.YtlgkkolgdjgclaaGreatPickM
namespace Go.Proofs.YtlgkkolgdjgclaaGreat
open Go.RowKit
set_option linter.unusedVariables false
set_option linter.unusedSimpArgs false

set_option maxHeartbeats 400000 in
theorem Held_fair (lag : Int) (w : World) : Calls Tryz.prog 223 #[.int .i64 lag] w fun e w' => e = .returned (.int .i64 (heldfair lag)) ∧ w = w' := by
  go_enter Tryz.func223, Tryz.ntmps223
  go_wp2
  all_goals go_ret
  all_goals (refine ⟨ret_int ?_, rfl⟩; unfold heldfair; try split)
  all_goals omega
set_option maxHeartbeats 800000 in
theorem Now_none {w : World} {B b : Nat} {a : Option Addr} {c : Nat} {base cur : Int} {l : List Pt} (h : LineAt w B b a c base cur l) (hl : l.length ≤ 64) (hf : fi (isId cur) l = -1) :
    Calls Tryz.prog 224 #[.pointer (some ⟨b, 0, none⟩)] w fun e w' => e = .returned (.tuple #[.agg #[.int .i64 0, .int .i64 0, .int .i64 0, .int .i64 0], .bool false]) ∧ Below w.heap.size w w' := by
  obtain ⟨T, hT⟩ := h.blk
  obtain ⟨c0, c1, c2, f0, f1, f2, hlt⟩ := blk3 hT
  have hne : b ≠ w.heap.size := by omega
  have Hf := Lib.hid (find_any (h.alloc (.cells #[.int .i64 0, .int .i64 0, .int .i64 0, .int .i64 0] 248)) hl cur hf)
  clear h hT hf
  go_enter Tryz.func224, Tryz.ntmps224
  go_wp2_with (go_at_call 191; refine Hf.out.mono ?_; rintro e w1 ⟨rfl, hb1⟩; have hr := heap_below (heap_new w (.cells #[.int .i64 0, .int .i64 0, .int .i64 0, .int .i64 0] 248)) hb1; obtain ⟨r0, r1, r2, r3, y0, y1, y2, y3, rl⟩ := blk4 hr; have Hr := Lib.hid hr; clear hr)
  refine bodyPost_ret (res_ct _ _ w.heap.size 248 #[.int .i64 0, .int .i64 0, .int .i64 0, .int .i64 0] (0, 0) _ rfl rfl (heap_set (heap_set (heap_set (heap_set Hr.out _) _) _) _) Tryz.underlying248 rfl (by kernel_rfl)) rfl ⟨rfl, ?_⟩
  exact ((((((Below.refl _ _).alloc (Nat.le_refl _) _).trans (hb1.mono (by simp))).setCell (by simp) _).setCell (by simp) _).setCell (by simp) _).setCell (by simp) _
set_option maxHeartbeats 800000 in
theorem Now_some {w : World} {B b : Nat} {a : Option Addr} {c : Nat} {base cur : Int} {l : List Pt} (h : LineAt w B b a c base cur l) (hl : l.length ≤ 64) (j : Nat) (x : Pt) (hf : fi (isId cur) l = j) (hx : l[j]? = some x) :
    Calls Tryz.prog 224 #[.pointer (some ⟨b, 0, none⟩)] w fun e w' => e = .returned (.tuple #[.agg #[.int .i64 x.id, .int .i64 x.w, .int .i64 x.v, .int .i64 x.day], .bool true]) ∧ Below w.heap.size w w' := by
  obtain ⟨T, hT⟩ := h.blk
  obtain ⟨c0, c1, c2, f0, f1, f2, hlt⟩ := blk3 hT
  have hjl : j < l.length := (List.getElem?_eq_some_iff.1 hx).1
  have hne : b ≠ w.heap.size := by omega
  obtain ⟨r, rfl, d0, d1, d2, d3, z0, z1, z2, z3, hrb, hr⟩ := h.elem j x hx
  have hrw : r ≠ w.heap.size := by omega
  have hjn : (j : Int) < l.length := by omega
  have Hf := Lib.hid (find_any (h.alloc (.cells #[.int .i64 0, .int .i64 0, .int .i64 0, .int .i64 0] 248)) hl cur hf)
  clear h hT hf hx
  go_enter Tryz.func224, Tryz.ntmps224
  go_wp2_with (go_at_call 191; refine Hf.out.mono ?_; rintro e w1 ⟨rfl, hb1⟩; obtain ⟨hc1, hf1⟩ := bcell hb1; have hsz1 : w.heap.size < w1.heap.size := (by have := hb1.size; simp at this; omega); have hr := heap_below (heap_new w (.cells #[.int .i64 0, .int .i64 0, .int .i64 0, .int .i64 0] 248)) hb1; have Hr := Lib.hid hr; clear hr)
  refine bodyPost_ret (res_ct _ _ w.heap.size 248 #[.int .i64 x.id, .int .i64 x.w, .int .i64 x.v, .int .i64 x.day] (0, 0) _ rfl rfl (heap_set (heap_set (heap_set (heap_set Hr.out _) _) _) _) Tryz.underlying248 rfl (by kernel_rfl)) rfl ⟨rfl, ?_⟩
  exact ((((((Below.refl _ _).alloc (Nat.le_refl _) _).trans (hb1.mono (by simp))).setCell (by simp) _).setCell (by simp) _).setCell (by simp) _).setCell (by simp) _
section
variable {w : World} {F : Nat → Prop} {b : Nat} {S S' : Ln} {K : Int}
/-- Now's two values. -/
theorem nowL_none (h : Qm w F b S) (hk : OkS K S) (hf : fi (isId S.cur) S.l = -1) :
    Calls Tryz.prog 224 #[.pointer (some ⟨b, 0, none⟩)] w fun e w' => e = .returned (leastV none) ∧ Below w.heap.size w w' := by
  obtain ⟨a, c, hl, rfl⟩ := h
  exact Now_none hl hk.len hf
theorem nowL_some (h : Qm w F b S) (hk : OkS K S) {j : Nat} {x : Pt} (hf : fi (isId S.cur) S.l = j) (hx : S.l[j]? = some x) :
    Calls Tryz.prog 224 #[.pointer (some ⟨b, 0, none⟩)] w fun e w' => e = .returned (leastV (some x)) ∧ Below w.heap.size w w' := by
  obtain ⟨a, c, hl, rfl⟩ := h
  exact Now_some hl hk.len j x hf hx

set_option maxHeartbeats 1600000 in
set_option maxRecDepth 100000 in
theorem Pick_fair (h : Qm w F b S) (hk : OkS K S) {v : Int} {r : Bool} (hr : pickfair S = (S', v, r)) :
    Calls Tryz.prog 220 #[.pointer (some ⟨b, 0, none⟩)] w fun e w' => e = .returned (.tuple #[.int .i64 v, .bool r]) ∧ QPost w F b S' w' := by
  obtain ⟨T, a, c, hT⟩ := h.cells
  obtain ⟨c0, c1, c2, f0, f1, f2, hlt⟩ := blk3 hT
  have HL := Lib.hid (leastL h hk rfl)
  have H0 := Lib.hid h
  have k1 := hk.k1
  have hpts := hk.pts
  rcases at_cases S S.cur with ⟨e1, e2, _⟩ | ⟨j, x, e1, e2, hj, hx, hid⟩
  · have hkeep : keepfair S = none := by unfold keepfair; rw [e1]
    have hr2 : takeR S (least S.l) = (S', v, r) := by unfold pickfair at hr; rw [hkeep] at hr; exact hr
    have HN := Lib.hid (fun (W : World) (hW : Qm W F b S) => nowL_none hW hk e2)
    clear hr h hk hT e1 e2 hkeep hpts
    cases hz : least S.l with
    | none =>
      rw [hz] at HL hr2
      have Hr := Lib.hid hr2
      clear hz hr2
      go_enter Tryz.func220, Tryz.ntmps220
      go_wp2_with (first
        | (go_at_call 190; refine HL.out.mono ?_; go_loud (simp only [leastV]); rintro e w1 ⟨rfl, hb1⟩; have hs1 := hb1.size)
        | (go_at_call 224; refine (HN.out _ (H0.out.below (hb1.alloc hs1 _))).mono ?_; go_loud (simp only [leastV]); rintro e w2 ⟨rfl, hb2⟩
           obtain ⟨x0, x1, x2, x3, z0, z1, z2, z3, xl⟩ := blk4 (heap_below (heap_new w1 _) hb2)
           have hb12 := (hb1.alloc hs1 _).trans (hb2.mono (by simp; omega))
           have hn12 : w1.heap.size ≠ w2.heap.size := by omega))
      refine wp_region_chain 41 [0, 1, 3, 0, 0, 31, 63, 63, 255, 511] [(0, none), (1, none), (2, none), (3, none), (4, none), (5, some []), (6, none), (7, none), (8, none), (9, none)] (by kernel_rfl) (by kernel_rfl) (by rfl) ?_; simp only [chain, Obs, List.getElem?_toArray, List.getElem?_cons_zero, List.getElem?_cons_succ]
      go_wp2_with (first
        | (with_reducible refine And.intro (by first | with_reducible exact True.intro | with_reducible rfl | go_simp) ?_)
        | (go_at_call 189; refine (takeL (H0.out.below (hb12.alloc hb12.size _).drew) none Hr.out _ _ rfl).mono ?_; rintro e w3 ⟨rfl, hq⟩; have hq := QPost.after (hb12.alloc hb12.size _).drew hq))
      refine NoPanic.normal ?_
      go_wp2_with fail
      go_ret2
      exact ⟨rfl, hq⟩
    | some z =>
      rw [hz] at HL hr2
      have Hr := Lib.hid hr2
      clear hz hr2
      go_enter Tryz.func220, Tryz.ntmps220
      go_wp2_with (first
        | (go_at_call 190; refine HL.out.mono ?_; go_loud (simp only [leastV]); rintro e w1 ⟨rfl, hb1⟩; have hs1 := hb1.size)
        | (go_at_call 224; refine (HN.out _ (H0.out.below (hb1.alloc hs1 _))).mono ?_; go_loud (simp only [leastV]); rintro e w2 ⟨rfl, hb2⟩
           obtain ⟨x0, x1, x2, x3, z0, z1, z2, z3, xl⟩ := blk4 (heap_below (heap_new w1 _) hb2)
           have hb12 := (hb1.alloc hs1 _).trans (hb2.mono (by simp; omega))
           have hn12 : w1.heap.size ≠ w2.heap.size := by omega))
      refine wp_region_chain 41 [0, 1, 3, 0, 0, 31, 63, 63, 255, 511] [(0, none), (1, none), (2, none), (3, none), (4, none), (5, some []), (6, none), (7, none), (8, none), (9, none)] (by kernel_rfl) (by kernel_rfl) (by rfl) ?_; simp only [chain, Obs, List.getElem?_toArray, List.getElem?_cons_zero, List.getElem?_cons_succ]
      go_wp2_with (first
        | (with_reducible refine And.intro (by first | with_reducible exact True.intro | with_reducible rfl | go_simp) ?_)
        | (go_at_call 189; refine (takeL (H0.out.below (hb12.alloc hb12.size _).drew) (some z) Hr.out _ _ rfl).mono ?_; rintro e w3 ⟨rfl, hq⟩; have hq := QPost.after (hb12.alloc hb12.size _).drew hq))
      refine NoPanic.normal ?_
      go_wp2_with fail
      go_ret2
      exact ⟨rfl, hq⟩
  · have hxm := List.mem_of_getElem? hx
    have HN := Lib.hid (fun (W : World) (hW : Qm W F b S) => nowL_some hW hk e2 hx)
    have hpx := hpts x hxm
    cases hz : least S.l with
    | none => rw [least_none.1 hz] at hxm; cases hxm
    | some z =>
      have hpz := hpts z (least_mem hz)
      have v1 : -4611686018427387904 ≤ x.v := by omega
      have v2 : x.v ≤ 4611686018427387904 := by omega
      have v3 : -4611686018427387904 ≤ z.v := by omega
      have v4 : z.v ≤ 4611686018427387904 := by omega
      by_cases hc : x.v - 465585120 ≤ z.v
      · have hkeep : keepfair S = some x := by unfold keepfair; rw [e1, hz]; simp only; rw [if_pos hc]
        unfold pickfair at hr
        rw [hkeep] at hr
        simp only [Prod.mk.injEq] at hr
        obtain ⟨rfl, rfl, rfl⟩ := hr
        rw [hz] at HL
        clear hz h hk hT e1 e2 hkeep hpts hpx hpz hx hxm hid
        go_enter Tryz.func220, Tryz.ntmps220
        go_wp2_with (first
          | (go_at_call 190; refine HL.out.mono ?_; go_loud (simp only [leastV]); rintro e w1 ⟨rfl, hb1⟩; have hs1 := hb1.size)
          | (go_at_call 224; refine (HN.out _ (H0.out.below (hb1.alloc hs1 _))).mono ?_; go_loud (simp only [leastV]); rintro e w2 ⟨rfl, hb2⟩
             obtain ⟨x0, x1, x2, x3, z0, z1, z2, z3, xl⟩ := blk4 (heap_below (heap_new w1 _) hb2)
             have hb12 := (hb1.alloc hs1 _).trans (hb2.mono (by simp; omega))
             have hn12 : w1.heap.size ≠ w2.heap.size := by omega))
        go_ret2
        exact ⟨rfl, H0.out.post (hb12.alloc hb12.size _)⟩
      · have hkeep : keepfair S = none := by unfold keepfair; rw [e1, hz]; simp only; rw [if_neg hc]
        unfold pickfair at hr
        rw [hkeep, hz] at hr
        simp only at hr
        have Hr := Lib.hid hr
        rw [hz] at HL
        clear hz h hk hT e1 e2 hkeep hpts hpx hpz hx hxm hid hr
        go_enter Tryz.func220, Tryz.ntmps220
        go_wp2_with (first
          | (go_at_call 190; refine HL.out.mono ?_; go_loud (simp only [leastV]); rintro e w1 ⟨rfl, hb1⟩; have hs1 := hb1.size)
          | (go_at_call 224; refine (HN.out _ (H0.out.below (hb1.alloc hs1 _))).mono ?_; go_loud (simp only [leastV]); rintro e w2 ⟨rfl, hb2⟩
             obtain ⟨x0, x1, x2, x3, z0, z1, z2, z3, xl⟩ := blk4 (heap_below (heap_new w1 _) hb2)
             have hb12 := (hb1.alloc hs1 _).trans (hb2.mono (by simp; omega))
             have hn12 : w1.heap.size ≠ w2.heap.size := by omega))
        refine wp_region_chain 41 [0, 1, 3, 0, 0, 31, 63, 63, 255, 511] [(0, none), (1, none), (2, none), (3, none), (4, none), (5, some []), (6, none), (7, none), (8, none), (9, none)] (by kernel_rfl) (by kernel_rfl) (by rfl) ?_; simp only [chain, Obs, List.getElem?_toArray, List.getElem?_cons_zero, List.getElem?_cons_succ]
        go_wp2_with (first
          | (with_reducible refine And.intro (by first | with_reducible exact True.intro | with_reducible rfl | go_simp) ?_)
          | (go_at_call 189; refine (takeL (H0.out.below (hb12.alloc hb12.size _).drew) (some z) Hr.out _ _ rfl).mono ?_; rintro e w3 ⟨rfl, hq⟩; have hq := QPost.after (hb12.alloc hb12.size _).drew hq))
        refine NoPanic.normal ?_
        go_wp2_with fail
        go_ret2
        exact ⟨rfl, hq⟩
end
end Go.Proofs.YtlgkkolgdjgclaaGreat
