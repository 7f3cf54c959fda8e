/- The line's making: NewLine, SeedLine; Now. -/
import Derived.Test.YthdilellcaebfaaGreatK
import Derived.Test.YthdilellcaebfaaGreatF
namespace Go.Proofs.YthdilellcaebfaaGreat
open Go.RowKit
set_option linter.unusedVariables false
set_option linter.unusedSimpArgs false

set_option maxHeartbeats 800000 in
theorem NewLine_ok (base : Int) (w : World) (h1 : -1152921504606846976 ≤ base) (h2 : base ≤ 1152921504606846976) :
    Calls Tryz.prog 156 #[.int .i64 base] w fun e w' => e = .returned (.tuple #[.agg #[.int .i64 base, .int .i64 (-1), .slice none 0 0], .int .i64 0]) ∧ Below w.heap.size w w' := by
  go_enter Tryz.func156, Tryz.ntmps156
  go_wp2
  refine bodyPost_ret (res_ct _ _ w.heap.size 234 #[.int .i64 base, .int .i64 (-1), .slice none 0 0] (0, 0) _ rfl rfl (heap_new _ _) Tryz.underlying234 rfl (by kernel_rfl)) rfl ⟨rfl, ?_⟩
  exact (Below.refl _ _).alloc (Nat.le_refl _) _
set_option maxHeartbeats 800000 in
theorem NewLine_err (base : Int) (w : World) (h : base < -1152921504606846976 ∨ 1152921504606846976 < base) :
    Calls Tryz.prog 156 #[.int .i64 base] w fun e w' => e = .returned (.tuple #[.agg #[.int .i64 0, .int .i64 0, .slice none 0 0], .int .i64 1]) ∧ Below w.heap.size w w' := by
  rcases h with h | h
  all_goals
    go_enter Tryz.func156, Tryz.ntmps156
    go_wp2
    refine bodyPost_ret (res_ct _ _ w.heap.size 234 #[.int .i64 0, .int .i64 0, .slice none 0 0] (0, 0) _ rfl rfl (heap_new _ _) Tryz.underlying234 rfl (by kernel_rfl)) rfl ⟨rfl, ?_⟩
    exact (Below.refl _ _).alloc (Nat.le_refl _) _

/-- What a call that makes a line leaves. -/
def SeedPost (w : World) (base cur : Int) (l : List Pt) (e : Ending) (w' : World) : Prop :=
  ∃ a c, e = .returned (.tuple #[.agg #[.int .i64 base, .int .i64 cur, .slice a l.length c], .int .i64 0]) ∧ w'.ownsRow w.heap.size 284 4 (.slice a l.length c) l.length (flat Pt.enc l) ∧ Below w.heap.size w w'
def seedP (base : Int) (x : It) : Pt := newP base x.id x.w x.lag


theorem heap_two {w w' : World} {o1 o2 : Obj} (hb : Below ((w.alloc o1).alloc o2).heap.size ((w.alloc o1).alloc o2) w') : w'.heap[w.heap.size]? = some o1 ∧ w'.heap[w.heap.size + 1]? = some o2 ∧ w.heap.size + 2 ≤ w'.heap.size ∧ Below w.heap.size w w' :=
  ⟨heap_below (heap_alloc (heap_new w o1) o2) hb, heap_below (heap_at (by simp) o2) hb, by have := hb.size; simp at this; omega, (((Below.refl _ _).alloc (Nat.le_refl _) _).alloc (by simp) _).trans (hb.mono (by simp; omega))⟩

end Go.Proofs.YthdilellcaebfaaGreat
