/- Contracts of package owed's line: weighing; who has the core. -/
import Derived.Test.YtlgkkolgdjgclaaGreatD
import Derived.Test.YtlgkkolgdjgclaaGreatR
import Derived.Deep.DeepCutAuto
import Derived.KernelRfl
import Derived.Deep.CutBlock
namespace Go.Proofs.YtlgkkolgdjgclaaGreat
open Go.RowKit
set_option linter.unusedVariables false
set_option linter.unusedSimpArgs false

theorem flat_setW (w' : Int) : ∀ (l : List Pt) (j : Nat) (x : Pt), l[j]? = some x → (flat Pt.enc l).set (j * 4 + 1) (.int .i64 w') = flat Pt.enc (l.set j { x with w := w' })
  | [], j, x, h => by simp at h
  | y :: l, 0, x, h => by simp at h; subst h; simp [flat, Pt.enc]
  | y :: l, j + 1, x, h => by
    have := flat_setW w' l j x (by simpa using h)
    have e1 : (j + 1) * 4 + 1 = (j * 4 + 1) + 4 := by omega
    rw [e1]
    simp only [flat, List.flatMap_cons, Pt.enc, List.cons_append, List.nil_append, List.set_cons_succ] at this ⊢
    rw [this]
theorem LineAt.setW {w : World} {B b r c : Nat} {base cur : Int} {l : List Pt} (h : LineAt w B b (some ⟨r, 0, none⟩) c base cur l) (j : Nat) (x : Pt) (hx : l[j]? = some x) (w' : Int) :
    LineAt (w.setCell ⟨r, j * 4 + 1, none⟩ (.int .i64 w')) B b (some ⟨r, 0, none⟩) c base cur (l.set j { x with w := w' }) := by
  obtain ⟨T, hT⟩ := h.blk
  have hne := h.apart _ rfl
  simp only at hne
  refine ⟨h.hb, ⟨T, ?_⟩, ?_, h.apart⟩
  · rw [List.length_set]; exact heap_set_ne hT hne.symm _
  · have h4 := (h.row.stored (j * 4 + 1) (.int .i64 w')).1
    rw [flat_setW w' l j x hx] at h4
    rw [List.length_set]
    exact h4

def goodW (w : Int) : Bool := decide (1 ≤ w ∧ w ≤ 20)
theorem goodW_true {w : Int} (h : goodW w = true) : 1 ≤ w ∧ w ≤ 20 := of_decide_eq_true h
set_option maxHeartbeats 800000 in
theorem Good_any (x : Int) (w : World) {r : Bool} (hr : goodW x = r) : Calls Tryz.prog 53 #[.int .i64 x] w fun e w' => e = .returned (.bool r) ∧ w = w' := by
  have Hr := Lib.hid hr
  clear hr
  go_enter Tryz.func53, Tryz.ntmps53
  go_wp2
  all_goals go_ret
  all_goals (refine ⟨ret_bool ?_, rfl⟩; rw [← Hr.out]; unfold goodW; simp; omega)

end Go.Proofs.YtlgkkolgdjgclaaGreat
