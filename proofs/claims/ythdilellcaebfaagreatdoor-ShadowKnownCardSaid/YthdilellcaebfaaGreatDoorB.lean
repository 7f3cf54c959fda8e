/- Contracts of package owed's small functions. -/
import Derived.Test.YthdilellcaebfaaGreatDoorA
import Derived.Test.YthdilellcaebfaaGreatDoorM
import Derived.Test.YthdilellcaebfaaGreatDoorProg
namespace Go.Proofs.YthdilellcaebfaaGreatDoor
open Go.RowKit
set_option linter.unusedVariables false
set_option linter.unusedSimpArgs false

def Pt.enc (p : Pt) : List Value := [.int .i64 p.id, .int .i64 p.w, .int .i64 p.v, .int .i64 p.day]
def It.enc (p : It) : List Value := [.int .i64 p.id, .int .i64 p.w, .int .i64 p.lag]
theorem Pt.len (p : Pt) : p.enc.length = 4 := rfl
theorem It.len (p : It) : p.enc.length = 3 := rfl

theorem Step_any (x : Int) (w : World) (h1 : 1 ≤ x) (h2 : x ≤ 20) : Calls Tryz.prog 123 #[.int .i64 x] w fun e w' => e = .returned (.int .i64 (step x)) ∧ w = w' := by
  have e : step x = 232792560 / x := by unfold step; rw [if_pos ⟨h1, h2⟩]
  rw [e]
  clear e
  go_enter Tryz.func123, Tryz.ntmps123
  go_wp2
  go_ret
  exact ⟨by simp, rfl⟩


set_option maxHeartbeats 400000 in
theorem day_any (id x v d : Int) (w : World) (h1 : 1 ≤ x) (h2 : x ≤ 20) (hv1 : -4611686018427387904 ≤ v) (hv2 : v ≤ 4611686018427387904) :
    Calls Tryz.prog 113 #[.agg #[.int .i64 id, .int .i64 x, .int .i64 v, .int .i64 d]] w fun e w' =>
      e = .returned (.agg #[.int .i64 id, .int .i64 x, .int .i64 v, .int .i64 (v + 4 * step x)]) ∧ Below w.heap.size w w' := by
  have hs := step_le x
  go_enter Tryz.func113, Tryz.ntmps113
  go_wp2_with fail
  go_region_held3 (fun w' => w'.cell? ⟨w.heap.size, 1, none⟩ = some (.int .i64 x) ∧ w'.cell? ⟨w.heap.size, 2, none⟩ = some (.int .i64 v)) (go_keep) (first | (go_at_call 123; refine (Step_any _ _ h1 h2).mono ?_; rintro e w' ⟨rfl, rfl⟩))
  go_wp2
  refine bodyPost_ret (v := .agg #[.int .i64 id, .int .i64 x, .int .i64 v, .int .i64 (v + 4 * step x)]) (by simp [results, go_sem]) rfl ⟨rfl, ?_⟩
  exact ((((Below.refl _ _).alloc (Nat.le_refl _) _).alloc (by simp) _).drew)

end Go.Proofs.YthdilellcaebfaaGreatDoor
