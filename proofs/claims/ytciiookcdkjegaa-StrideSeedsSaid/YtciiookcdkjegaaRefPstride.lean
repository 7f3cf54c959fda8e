/- The document's own queue: Pick, in package stride's words. -/
import Derived.Test.YtciiookcdkjegaaRefQ
import Derived.Test.YtciiookcdkjegaaFar
import Derived.Test.Ytciiookcdkjegaastride
namespace Go.Proofs.Ytciiookcdkjegaa
open Go.RowKit
set_option linter.unusedVariables false
set_option linter.unusedSimpArgs false
variable {w0 w w' : World} {G : Nat → Prop} {r : Nat} {S S' : Ln}
theorem rPickS_stride {K v : Int} {ok : Bool} (h : RSt w0 w G r 0 S) (hk : OkS K S) {c : Int} (hf : Far c S) (hc : c ≤ 1000000000000) (hr : pickstride S = (S', v, ok)) :
    Calls Try.prog 71 #[.pointer (some ⟨r, 0, none⟩)] w fun e w' => e = .returned (.tuple #[.int .i64 v, .bool ok]) ∧ RNext w0 w G r 0 S' w' := by
  unfold pickstride at hr
  obtain ⟨a, c, hq, rfl⟩ := h.q
  cases hz : least S.l with
  | none =>
    rw [hz] at hr
    simp only [takeR, Prod.mk.injEq] at hr
    obtain ⟨rfl, rfl, rfl⟩ := hr
    exact (rPick_none hq (least_none.1 hz)).mono fun _ _ ⟨h1, h2⟩ => ⟨h1, h2.next h⟩
  | some z =>
    rw [hz] at hr
    simp only [takeR, Prod.mk.injEq] at hr
    obtain ⟨rfl, rfl, rfl⟩ := hr
    exact (rPick_0 hq hk.len z hz).mono fun _ _ ⟨h1, h2⟩ => ⟨h1, h2.next h⟩
end Go.Proofs.Ytciiookcdkjegaa
