/- The law's functions of layer 15: awake. -/
import Derived.Test.YtfijedmdfkelnaaGreatCor
import Derived.Test.YtfijedmdfkelnaaGreatArg
namespace Go.Proofs.YtfijedmdfkelnaaGreat
open Go.RowKit
set_option linter.unusedVariables false
set_option linter.unusedSimpArgs false

def core0 : CoreS := ⟨0, ⟨0, -1, []⟩, fun _ => 0, 0, 0, 0⟩
theorem core0_ok : CoreOk 0 0 core0 := ⟨by decide, OkS.new (by decide) (by decide), by decide, by decide, by decide, by decide, fun _ => by simp [core0], fun _ => by simp [core0], by decide⟩
theorem core0_run : core0.run = (⟨0, ⟨0, -1, []⟩, fun _ => 0, 0, 1, 1⟩, -1, 0) := rfl
set_option maxHeartbeats 1600000 in
theorem awakeC (w : World) : Calls Tryz.prog 22 #[] w fun e w' => e = .returned (.bool true) ∧ Below w.heap.size w w' := by
  have HN := Lib.hid (CorNew_ok 0 0 w (by decide) (by decide))
  go_enter Tryz.func22, Tryz.ntmps22
  go_wp2_with (first
    | (go_at_call 23; refine HN.out.mono ?_; rintro e w1 ⟨c, p, b, r, F, rfl, hc, _⟩; have Hc := Lib.hid hc; clear hc)
    | (go_at_call 30; refine (CorRun (s := core0) Hc.out core0_ok (by decide) core0_run (by decide)).mono ?_; rintro e w2 ⟨rfl, F2, hc2, _, _⟩; have Hc2 := Lib.hid hc2; clear hc2)
    | (go_at_call 36; refine (CorIdle Hc2.out).mono ?_; rintro e w3 ⟨rfl, rfl⟩)
    | (go_at_call 37; refine (CorAge Hc2.out).mono ?_; rintro e w3 ⟨rfl, rfl⟩))
  go_ret
  exact ⟨rfl, Hc2.out.old⟩
end Go.Proofs.YtfijedmdfkelnaaGreat
