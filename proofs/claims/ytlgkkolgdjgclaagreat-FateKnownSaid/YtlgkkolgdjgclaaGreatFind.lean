/- Contracts of package owed: Find. -/
import Derived.Test.YtlgkkolgdjgclaaGreatJ
import Derived.Test.YtlgkkolgdjgclaaGreatF
namespace Go.Proofs.YtlgkkolgdjgclaaGreat
open Go.RowKit
set_option linter.unusedVariables false
set_option linter.unusedSimpArgs false

set_option maxHeartbeats 1600000 in
theorem FindF_some (cur id : Int) (l : List It) (n : Nat) (a : Option Addr) (c : Nat) (w : World) (hn : l.length = n) (hl : n ≤ 4611686018427387904) (hs : Sl It.enc 3 w a l) (j : Nat) (x : It) (hf : fi (isIt id) l = j) (hx : l[j]? = some x) :
    Calls Tryz.prog 121 #[.agg #[.int .i64 cur, .slice a n c], .int .i64 id] w fun e w' => e = .returned (.tuple #[.agg #[.int .i64 x.id, .int .i64 x.w, .int .i64 x.lag], .bool true]) ∧ Below w.heap.size w w' := by
  have hjn : (j : Int) < n := by have h1 := (List.getElem?_eq_some_iff.1 hx).1; rw [hn] at h1; omega
  obtain ⟨r, off, rfl, hr, hc⟩ := hs (by intro h0; rw [h0] at hx; simp at hx)
  have d0 := hc j x hx 0 _ rfl
  have d1 := hc j x hx 1 _ rfl
  have d2 := hc j x hx 2 _ rfl
  simp only [Nat.add_zero] at d0
  have hb0 := ((Below.refl w.heap.size w).alloc (Nat.le_refl _) (.cells #[.int .i64 cur, .slice (some ⟨r, off, none⟩) n c] 41)).alloc (by simp) (.cells #[.int .i64 0, .int .i64 0, .int .i64 0] 119)
  have HF := Lib.hid (findF_any cur id l n (some ⟨r, off, none⟩) c _ hn hl (hs.below hb0) hf)
  have HG1 := Lib.hid (heap_alloc (heap_new w (.cells #[.int .i64 cur, .slice (some ⟨r, off, none⟩) n c] 41)) (.cells #[.int .i64 0, .int .i64 0, .int .i64 0] 119))
  have HG2 := Lib.hid (heap_at (w := w.alloc (.cells #[.int .i64 cur, .slice (some ⟨r, off, none⟩) n c] 41)) (n := w.heap.size + 1) (by simp) (.cells #[.int .i64 0, .int .i64 0, .int .i64 0] 119))
  have Hb0 := Lib.hid hb0
  clear hs hc hn hf hx hb0
  go_enter Tryz.func121, Tryz.ntmps121
  go_wp2_with (go_at_call 142; refine HF.out.mono ?_; rintro e w1 ⟨rfl, hb1⟩
               have h1 := heap_below HG1.out hb1; have h2 := heap_below HG2.out hb1; obtain ⟨g0, g1, y0, y1, gl⟩ := blk2 h1; obtain ⟨z0, z1, z2, v0, v1, v2, zl⟩ := blk3 h2
               have hbw := Hb0.out.trans (hb1.mono (by simp; omega))
               obtain ⟨hcw, hfw⟩ := bcell hbw
               have hrl : r < w1.heap.size := (by have := hbw.size; omega)
               have hr2 : r ≠ w.heap.size := (by omega)
               have hr3 : r ≠ w.heap.size + 1 := (by omega)
               have H2 := Lib.hid h2
               have Hbw := Lib.hid hbw
               clear h1 h2 hb1 hbw)
  refine bodyPost_ret (res_ct _ _ (w.heap.size + 1) 119 #[.int .i64 x.id, .int .i64 x.w, .int .i64 x.lag] (0, 0) _ rfl rfl (heap_set (heap_set (heap_set H2.out _) _) _) Tryz.underlying119 rfl (by kernel_rfl)) rfl ⟨rfl, ?_⟩
  exact ((Hbw.out.setCell (by simp) _).setCell (by simp) _).setCell (by simp) _
set_option maxHeartbeats 1600000 in
theorem FindF_none (cur id : Int) (l : List It) (n : Nat) (a : Option Addr) (c : Nat) (w : World) (hn : l.length = n) (hl : n ≤ 4611686018427387904) (hs : Sl It.enc 3 w a l) (hf : fi (isIt id) l = -1) :
    Calls Tryz.prog 121 #[.agg #[.int .i64 cur, .slice a n c], .int .i64 id] w fun e w' => e = .returned (.tuple #[.agg #[.int .i64 0, .int .i64 0, .int .i64 0], .bool false]) ∧ Below w.heap.size w w' := by
  have hb0 := ((Below.refl w.heap.size w).alloc (Nat.le_refl _) (.cells #[.int .i64 cur, .slice a n c] 41)).alloc (by simp) (.cells #[.int .i64 0, .int .i64 0, .int .i64 0] 119)
  have HF := Lib.hid (findF_any cur id l n a c _ hn hl (hs.below hb0) hf)
  have HG2 := Lib.hid (heap_at (w := w.alloc (.cells #[.int .i64 cur, .slice a n c] 41)) (n := w.heap.size + 1) (by simp) (.cells #[.int .i64 0, .int .i64 0, .int .i64 0] 119))
  have Hb0 := Lib.hid hb0
  clear hs hn hf hb0
  go_enter Tryz.func121, Tryz.ntmps121
  go_wp2_with (go_at_call 142; refine HF.out.mono ?_; rintro e w1 ⟨rfl, hb1⟩
               have h2 := heap_below HG2.out hb1; obtain ⟨z0, z1, z2, v0, v1, v2, zl⟩ := blk3 h2
               have hbw := Hb0.out.trans (hb1.mono (by simp; omega))
               have H2 := Lib.hid h2
               have Hbw := Lib.hid hbw
               clear h2 hb1 hbw)
  refine bodyPost_ret (res_ct _ _ (w.heap.size + 1) 119 #[.int .i64 0, .int .i64 0, .int .i64 0] (0, 0) _ rfl rfl (heap_set (heap_set (heap_set H2.out _) _) _) Tryz.underlying119 rfl (by kernel_rfl)) rfl ⟨rfl, ?_⟩
  exact ((Hbw.out.setCell (by simp) _).setCell (by simp) _).setCell (by simp) _
end Go.Proofs.YtlgkkolgdjgclaaGreat
