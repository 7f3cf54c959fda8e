/- Package due: who comes in, who is picked. -/
import Derived.Test.YthdilellcaebfaaGreatDoorQdue
import Derived.Test.YthdilellcaebfaaGreatDoorDueM
import Derived.Test.YthdilellcaebfaaGreatDoorBits
namespace Go.Proofs.YthdilellcaebfaaGreatDoor
open Go.RowKit
set_option linter.unusedVariables false
set_option linter.unusedSimpArgs false

/-- The best so far, as it lies in memory. -/
def ptC : Option Pt → Array Value
  | none => #[.int .i64 0, .int .i64 0, .int .i64 0, .int .i64 0]
  | some y => #[.int .i64 y.id, .int .i64 y.w, .int .i64 y.v, .int .i64 y.day]
theorem leastV_is (l : List Pt) : ∃ i0 i1 m i3 q, leastV (least l) = .tuple #[.agg #[.int .i64 i0, .int .i64 i1, .int .i64 m, .int .i64 i3], .bool q] ∧ ∀ z, least l = some z → z.v = m := by
  cases least l with
  | none => exact ⟨0, 0, 0, 0, false, rfl, fun z hz => by cases hz⟩
  | some z => exact ⟨z.id, z.w, z.v, z.day, true, rfl, fun y hy => by cases hy; rfl⟩
theorem due_pt {K : Int} {S : Ln} (hk : OkS K S) {m : Int} (hm : ∀ z, least S.l = some z → z.v = m) (j : Nat) (x : Pt) (hx : S.l[j]? = some x) :
    0 ≤ x.v - m ∧ x.v - m ≤ 4700000000000000000 ∧ 1 ≤ x.w ∧ x.w ≤ 20 ∧ -1154047404513689600 ≤ x.v ∧ x.v ≤ 3458764513820540928 := by
  have hxm := List.mem_of_getElem? hx
  have h1 := hk.pts x hxm
  have h2 := hk.k1
  cases hz : least S.l with
  | none => rw [least_none.1 hz] at hxm; cases hxm
  | some z =>
    have h3 := hm z hz
    have h4 := least_le hz x hxm
    have h5 := hk.pts z (least_mem hz)
    omega
section
variable {w : World} {F : Nat → Prop} {b : Nat} {S S' : Ln} {K : Int}
end
end Go.Proofs.YthdilellcaebfaaGreatDoor
