/- The law's functions of layer 13: awake. -/
import Derived.Test.YtadlcjacaachkaaDoorTdue
import Derived.Test.YtadlcjacaachkaaDoorPickM
import Derived.Test.YtadlcjacaachkaaDoorArg
import Derived.Test.YtadlcjacaachkaaDoorSt
namespace Go.Proofs.YtadlcjacaachkaaDoor
open Go.RowKit
set_option linter.unusedVariables false
set_option linter.unusedSimpArgs false

def awD0 : Ln := ⟨0, -1, []⟩
def awD1 : Ln := enterR helddue awD0 1 1 0
def awD2 : Ln := enterR helddue awD1 2 1 0
def awD3 : Ln := (pickdue awD2).1
def awD4 : Ln := (chargeR awD3).1
theorem awD_is : (pickdue awD2).2 = (1, true) ∧ (chargeR awD3).2 = (1, 0) ∧ (pickdue awD4).2 = (2, true) := by decide +kernel

set_option maxHeartbeats 1600000 in
set_option maxRecDepth 100000 in
theorem awake13 (w : World) : Calls Tryd.prog 15 #[] w fun e w' => e = .returned (.bool true) ∧ Below w.heap.size w w' := by
  have HN := Lib.hid (fun W => (show Calls Tryd.prog 16 #[.int .i64 0] W (NewPost W awD0) from New_ok_due 0 W (by decide)))
  have k0 : OkS 0 awD0 := OkS.new (by decide) (by decide)
  have k1 : OkS 1125899906842624 (enterR helddue awD0 1 1 0) := k0.enter helddue 1 1 0 (by decide)
  have k2 : OkS 2251799813685248 (enterR helddue (enterR helddue awD0 1 1 0) 2 1 0) := k1.enter helddue 2 1 0 (by decide)
  have k3 : OkS 2251799813685248 awD3 := pickok_due k2
  have k4 : OkS 2251799813685248 awD4 := k3.charge
  obtain ⟨i1, i2, i3⟩ := awD_is
  have HE1 := Lib.hid (fun (W : World) (F : Nat → Prop) (b : Nat) (h : Qm W F b awD0) => Enter_due h k0 (by decide) 1 1 0 (r := 0) (by decide +kernel))
  have HE2 := Lib.hid (fun (W : World) (F : Nat → Prop) (b : Nat) (h : Qm W F b (enterR helddue awD0 1 1 0)) => Enter_due h k1 (by decide) 2 1 0 (r := 0) (by decide +kernel))
  have HP1 := Lib.hid (fun (W : World) (F : Nat → Prop) (b : Nat) (h : Qm W F b (enterR helddue (enterR helddue awD0 1 1 0) 2 1 0)) => Pick_due h k2 (Prod.ext rfl i1 : pickdue awD2 = (awD3, 1, true)))
  have HC := Lib.hid (fun (W : World) (F : Nat → Prop) (b : Nat) (h : Qm W F b awD3) => Charge_due h k3 (Prod.ext rfl i2 : chargeR awD3 = (awD4, 1, 0)))
  have HP2 := Lib.hid (fun (W : World) (F : Nat → Prop) (b : Nat) (h : Qm W F b awD4) => Pick_due h k4 (Prod.ext rfl i3 : pickdue awD4 = (_, 2, true)))
  clear k0 k1 k2 k3 k4 i1 i2 i3
  have hn := Nat.le_refl w.heap.size
  go_enter Tryd.func15, Tryd.ntmps15
  go_wp2_with (first
    | (go_at_call 16; refine (HN.out _).mono ?_; rintro e w1 ⟨b, F, rfl, hq, hF, hb⟩; have Hq := Lib.hid (QSt.mk (w0 := w) hq hF hb); clear hq hF hb)
    | (go_at_call 17; first
      | ((with_reducible refine (callsNext Hq.out (HE1.out _ _ _ Hq.out.q)).mono ?_); rintro e w2 ⟨rfl, F2, hq2, _, _⟩; have Hq2 := Lib.hid hq2; clear hq2)
      | ((with_reducible refine (callsNext Hq2.out (HE2.out _ _ _ Hq2.out.q)).mono ?_); rintro e w3 ⟨rfl, F3, hq3, _, _⟩; have Hq3 := Lib.hid hq3; clear hq3))
    | (go_at_call 19; first
      | ((with_reducible refine (callsNext Hq5.out (HP2.out _ _ _ Hq5.out.q)).mono ?_); rintro e w6 ⟨rfl, F6, hq6, _, _⟩; have Hq6 := Lib.hid hq6; clear hq6)
      | ((with_reducible refine (callsNext Hq3.out (HP1.out _ _ _ Hq3.out.q)).mono ?_); rintro e w4 ⟨rfl, F4, hq4, _, _⟩; have Hq4 := Lib.hid hq4; clear hq4))
    | (go_at_call 20; (with_reducible refine (callsNext Hq4.out (HC.out _ _ _ Hq4.out.q)).mono ?_); rintro e w5 ⟨rfl, F5, hq5, _, _⟩; have Hq5 := Lib.hid hq5; clear hq5))
  go_ret
  exact ⟨rfl, Hq6.out.old⟩
end Go.Proofs.YtadlcjacaachkaaDoor
