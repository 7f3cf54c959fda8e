/- Package policy: what is held; the tag; a run. -/
import Derived.Test.YtadlcjacaachkaaU
import Derived.Test.Ytadlcjacaachkaafair
import Derived.Test.Ytadlcjacaachkaadue
namespace Go.Proofs.Ytadlcjacaachkaa
open Go.RowKit
set_option linter.unusedVariables false
set_option linter.unusedSimpArgs false

def heldT (tag : Int) : Int → Int := if tag = 0 then heldstride else if tag = 1 then heldfair else helddue

set_option maxHeartbeats 400000 in
theorem PolTag {w : World} {F : Nat → Prop} {p : Nat} {tag : Int} {S : Ln} (h : Pm w F p tag S) : Calls Try.prog 8 #[.pointer (some ⟨p, 0, none⟩)] w fun e w' => e = .returned (.int .i64 tag) ∧ w = w' := by
  obtain ⟨b, G, hp, _⟩ := h
  obtain ⟨c0, c1, f0, f1, hlt⟩ := blk2 hp
  clear hp
  go_enter Try.func8, Try.ntmps8
  go_wp2
  go_ret
  exact ⟨rfl, rfl⟩
set_option maxHeartbeats 400000 in
theorem PolGood (tag : Int) (w : World) {r : Bool} (hr : decide (0 ≤ tag ∧ tag ≤ 2) = r) : Calls Try.prog 18 #[.int .i64 tag] w fun e w' => e = .returned (.bool r) ∧ w = w' := by
  have Hr := Lib.hid hr
  clear hr
  go_enter Try.func18, Try.ntmps18
  go_wp2
  all_goals go_ret
  all_goals (refine ⟨ret_bool ?_, rfl⟩; rw [← Hr.out]; simp; omega)
/-- A policy's name. -/
def nameT (tag : Int) : ByteArray := if tag = 0 then ⟨#[115, 116, 114, 105, 100, 101]⟩ else if tag = 1 then ⟨#[102, 97, 105, 114]⟩ else if tag = 2 then ⟨#[100, 117, 101]⟩ else ⟨#[63]⟩
end Go.Proofs.Ytadlcjacaachkaa
