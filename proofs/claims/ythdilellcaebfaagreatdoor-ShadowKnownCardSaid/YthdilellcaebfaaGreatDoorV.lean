/- Package policy: what is held; the tag; a run. -/
import Derived.Test.YthdilellcaebfaaGreatDoorU
import Derived.Test.YthdilellcaebfaaGreatDoorfair
import Derived.Test.YthdilellcaebfaaGreatDoordue
namespace Go.Proofs.YthdilellcaebfaaGreatDoor
open Go.RowKit
set_option linter.unusedVariables false
set_option linter.unusedSimpArgs false

def heldT (tag : Int) : Int → Int := if tag = 0 then heldstride else if tag = 1 then heldfair else helddue

set_option maxHeartbeats 400000 in
theorem PolTag {w : World} {F : Nat → Prop} {p : Nat} {tag : Int} {S : Ln} (h : Pm w F p tag S) : Calls Tryz.prog 16 #[.pointer (some ⟨p, 0, none⟩)] w fun e w' => e = .returned (.int .i64 tag) ∧ w = w' := by
  obtain ⟨b, G, hp, _⟩ := h
  obtain ⟨c0, c1, f0, f1, hlt⟩ := blk2 hp
  clear hp
  go_enter Tryz.func16, Tryz.ntmps16
  go_wp2
  go_ret
  exact ⟨rfl, rfl⟩
set_option maxHeartbeats 400000 in
theorem PolGood (tag : Int) (w : World) {r : Bool} (hr : decide (0 ≤ tag ∧ tag ≤ 2) = r) : Calls Tryz.prog 33 #[.int .i64 tag] w fun e w' => e = .returned (.bool r) ∧ w = w' := by
  have Hr := Lib.hid hr
  clear hr
  go_enter Tryz.func33, Tryz.ntmps33
  go_wp2
  all_goals go_ret
  all_goals (refine ⟨ret_bool ?_, rfl⟩; rw [← Hr.out]; simp; omega)
/-- A policy's name. -/
def nameT (tag : Int) : ByteArray := if tag = 0 then ⟨#[115, 116, 114, 105, 100, 101]⟩ else if tag = 1 then ⟨#[102, 97, 105, 114]⟩ else if tag = 2 then ⟨#[100, 117, 101]⟩ else ⟨#[63]⟩
set_option maxHeartbeats 800000 in
theorem PolName (tag : Int) (w : World) {r : ByteArray} (hr : nameT tag = r) : Calls Tryz.prog 51 #[.int .i64 tag] w fun e w' => e = .returned (.string r) ∧ Below w.heap.size w w' := by
  subst hr
  by_cases h : TagOk tag
  · rcases h with rfl | rfl | rfl
    all_goals
      go_enter Tryz.func51, Tryz.ntmps51
      go_wp2_with (go_at_call 33; refine (PolGood _ _ rfl).mono ?_; rintro e w' ⟨rfl, rfl⟩)
      go_ret
      exact ⟨rfl, (Below.refl _ _).alloc (Nat.le_refl _) _⟩
  · have hn : nameT tag = ⟨#[63]⟩ := by
      unfold nameT
      rw [if_neg (fun e => h (.inl e)), if_neg (fun e => h (.inr (.inl e))), if_neg (fun e => h (.inr (.inr e)))]
    have hg : decide (0 ≤ tag ∧ tag ≤ 2) = false := decide_eq_false fun h1 => h (by unfold TagOk; omega)
    rw [hn]
    clear h hn
    go_enter Tryz.func51, Tryz.ntmps51
    go_wp2_with (go_at_call 33; refine (PolGood _ _ hg).mono ?_; rintro e w' ⟨rfl, rfl⟩)
    go_ret
    exact ⟨rfl, Below.refl _ _⟩
end Go.Proofs.YthdilellcaebfaaGreatDoor
