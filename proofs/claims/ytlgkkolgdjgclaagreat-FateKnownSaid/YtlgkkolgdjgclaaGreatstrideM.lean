/- Package stride: what a pick keeps. -/
import Derived.Test.YtlgkkolgdjgclaaGreatTstride
import Derived.Test.YtlgkkolgdjgclaaGreatPickM
namespace Go.Proofs.YtlgkkolgdjgclaaGreat
open Go.RowKit
set_option linter.unusedVariables false
set_option linter.unusedSimpArgs false

theorem pickok_stride {K : Int} {S : Ln} (h : OkS K S) : OkS K (pickstride S).1 := h.take _ fun x hx => least_mem hx
theorem pickis_stride (S : Ln) : ∃ c, (pickstride S).1 = ⟨S.base, c, S.l⟩ := takeR_is _ _
theorem picksh_stride (d : Int) (S : Ln) : pickstride (shS d S) = (shS d (pickstride S).1, (pickstride S).2) := by
  unfold pickstride
  have e : least (shS d S).l = (least S.l).map (shP d) := least_sh d S.l
  rw [e, takeR_sh]
theorem room_stride {K : Int} {S : Ln} (h : OkS K S) (g : Lags S) : ∀ j x, at? (pickstride S).1 (pickstride S).1.cur = some (j, x) → x.v + step x.w ≤ (pickstride S).1.base + 1000000000 := by
  intro j x hx
  obtain ⟨_, hm, hid⟩ := at_mem hx
  unfold pickstride at hm hid ⊢
  cases hz : least S.l with
  | none =>
    rw [hz] at hm
    have e := least_none.1 hz
    simp only [takeR, e] at hm
    cases hm
  | some z =>
    rw [hz] at hm hid
    simp only [takeR] at hm hid ⊢
    have hzm := least_mem hz
    obtain rfl := h.byid.uniq hm hzm hid
    have hs := step_le x.w
    rcases g.front with e | ⟨y, hy, hv⟩
    · rw [e] at hm; cases hm
    · have := least_le hz y hy; omega
theorem pickat_stride {K : Int} {S : Ln} (h : OkS K S) (hl : 0 < S.l.length) : ∃ j x, (pickstride S).2 = (x.id, true) ∧ at? (pickstride S).1 (pickstride S).1.cur = some (j, x) := by
  unfold pickstride
  cases hz : least S.l with
  | none => rw [least_none.1 hz] at hl; cases hl
  | some z =>
    obtain ⟨j, hj⟩ := take_at h (least_mem hz)
    exact ⟨j, z, rfl, hj⟩
end Go.Proofs.YtlgkkolgdjgclaaGreat
