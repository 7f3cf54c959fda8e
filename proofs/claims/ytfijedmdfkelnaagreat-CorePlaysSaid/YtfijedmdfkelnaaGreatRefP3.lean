/- The document's own queue: Pick, in package stride's words. -/
import Derived.Test.YtfijedmdfkelnaaGreatRefQ
import Derived.Test.YtfijedmdfkelnaaGreatFar
import Derived.Test.YtfijedmdfkelnaaGreatstride
import Derived.Test.YtfijedmdfkelnaaGreatPickM
import Derived.Test.YtfijedmdfkelnaaGreatRefG2
namespace Go.Proofs.YtfijedmdfkelnaaGreat
open Go.RowKit
set_option linter.unusedVariables false
set_option linter.unusedSimpArgs false
variable {w0 w w' : World} {G : Nat → Prop} {r : Nat} {S S' : Ln}
theorem rPickS_stride {K v : Int} {ok : Bool} (h : RSt w0 w G r 0 S) (hk : OkS K S) {c : Int} (hf : Far c S) (hc : c ≤ 1000000000000) (hr : pickstride S = (S', v, ok)) :
    Calls Tryz.prog 14 #[.pointer (some ⟨r, 0, none⟩)] w fun e w' => e = .returned (.tuple #[.int .i64 v, .bool ok]) ∧ RNext w0 w G r 0 S' w' := by
  unfold pickstride at hr
  obtain ⟨a, c, hq, rfl⟩ := h.q
  cases hz : least S.l with
  | none =>
    rw [hz] at hr
    simp only [takeR, Prod.mk.injEq] at hr
    obtain ⟨rfl, rfl, rfl⟩ := hr
    exact (rPick_none hq (least_none.1 hz)).mono fun _ _ ⟨h1, h2⟩ => ⟨h1, h2.next h⟩
  | some z =>
    rw [hz] at hr
    simp only [takeR, Prod.mk.injEq] at hr
    obtain ⟨rfl, rfl, rfl⟩ := hr
    exact (rPick_0 hq hk.len z hz).mono fun _ _ ⟨h1, h2⟩ => ⟨h1, h2.next h⟩
end Go.Proofs.YtfijedmdfkelnaaGreat
/- The document's own queue: Pick, in package fair's words. -/
namespace Go.Proofs.YtfijedmdfkelnaaGreat
open Go.RowKit
set_option linter.unusedVariables false
set_option linter.unusedSimpArgs false
variable {w0 w w' : World} {G : Nat → Prop} {r : Nat} {S S' : Ln}
theorem rPickS_fair {K v : Int} {ok : Bool} (h : RSt w0 w G r 1 S) (hk : OkS K S) {c : Int} (hf : Far c S) (hc : c ≤ 1000000000000) (hr : pickfair S = (S', v, ok)) :
    Calls Tryz.prog 14 #[.pointer (some ⟨r, 0, none⟩)] w fun e w' => e = .returned (.tuple #[.int .i64 v, .bool ok]) ∧ RNext w0 w G r 1 S' w' := by
  unfold pickfair at hr
  obtain ⟨a, c, hq, rfl⟩ := h.q
  have k1 := hk.k1
  cases hz : least S.l with
  | none =>
    have hkeep : keepfair S = none := by unfold keepfair; rw [hz]; cases at? S S.cur <;> rfl
    rw [hkeep, hz] at hr
    simp only [takeR, Prod.mk.injEq] at hr
    obtain ⟨rfl, rfl, rfl⟩ := hr
    exact (rPick_none hq (least_none.1 hz)).mono fun _ _ ⟨h1, h2⟩ => ⟨h1, h2.next h⟩
  | some z =>
    rcases at_cases S S.cur with ⟨e1, e2, _⟩ | ⟨j, x, e1, e2, hj, hx, hid⟩
    · have hkeep : keepfair S = none := by unfold keepfair; rw [e1]
      rw [hkeep, hz] at hr
      simp only [takeR, Prod.mk.injEq] at hr
      obtain ⟨rfl, rfl, rfl⟩ := hr
      exact (rPick_1t hq hk.len z hz (.inl e2)).mono fun _ _ ⟨h1, h2⟩ => ⟨h1, h2.next h⟩
    · have hp := hk.pts x (List.mem_of_getElem? hx)
      by_cases hc : x.v - 465585120 ≤ z.v
      · have hkeep : keepfair S = some x := by unfold keepfair; rw [e1, hz]; simp only; rw [if_pos hc]
        rw [hkeep] at hr
        simp only [Prod.mk.injEq] at hr
        obtain ⟨rfl, rfl, rfl⟩ := hr
        rw [hid]
        exact (rPick_1k hq hk.len z hz j x e2 hx (by omega) (by omega) hc).mono fun _ _ ⟨h1, h2⟩ => ⟨h1, h2.next h⟩
      · have hkeep : keepfair S = none := by unfold keepfair; rw [e1, hz]; simp only; rw [if_neg hc]
        rw [hkeep, hz] at hr
        simp only [takeR, Prod.mk.injEq] at hr
        obtain ⟨rfl, rfl, rfl⟩ := hr
        exact (rPick_1t hq hk.len z hz (.inr ⟨j, x, e2, hx, by omega, by omega, hc⟩)).mono fun _ _ ⟨h1, h2⟩ => ⟨h1, h2.next h⟩
end Go.Proofs.YtfijedmdfkelnaaGreat
/- The document's own queue: Pick, in package due's words. -/
namespace Go.Proofs.YtfijedmdfkelnaaGreat
open Go.RowKit
set_option linter.unusedVariables false
set_option linter.unusedSimpArgs false
variable {w0 w w' : World} {G : Nat → Prop} {r : Nat} {S S' : Ln}
theorem rPickS_due {K v : Int} {ok : Bool} (h : RSt w0 w G r 2 S) (hk : OkS K S) {c : Int} (hf : Far c S) (hc : c ≤ 1000000000000) (hr : pickdue S = (S', v, ok)) :
    Calls Tryz.prog 14 #[.pointer (some ⟨r, 0, none⟩)] w fun e w' => e = .returned (.tuple #[.int .i64 v, .bool ok]) ∧ RNext w0 w G r 2 S' w' := by
  unfold pickdue at hr
  obtain ⟨a, c, hq, rfl⟩ := h.q
  cases hz : duePick S.l with
  | none =>
    rw [hz] at hr
    simp only [takeR, Prod.mk.injEq] at hr
    obtain ⟨rfl, rfl, rfl⟩ := hr
    exact (rPick_none hq (duePick_none (fun x hx => (hk.pts x hx).2.2.1) hz)).mono fun _ _ ⟨h1, h2⟩ => ⟨h1, h2.next h⟩
  | some z =>
    rw [hz] at hr
    simp only [takeR, Prod.mk.injEq] at hr
    obtain ⟨rfl, rfl, rfl⟩ := hr
    refine (rPick_2 hq hk.len z hz fun j x hx => ?_).mono fun _ _ ⟨h1, h2⟩ => ⟨h1, h2.next h⟩
    have h1 := hk.pts x (List.mem_of_getElem? hx)
    have h2 := hf x (List.mem_of_getElem? hx)
    omega
end Go.Proofs.YtfijedmdfkelnaaGreat
