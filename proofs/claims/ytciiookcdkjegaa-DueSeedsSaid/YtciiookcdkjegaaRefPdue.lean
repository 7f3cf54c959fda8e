/- The document's own queue: Pick, in package due's words. -/
import Derived.Test.YtciiookcdkjegaaRefQ
import Derived.Test.YtciiookcdkjegaaFar
import Derived.Test.YtciiookcdkjegaaRefG2
namespace Go.Proofs.Ytciiookcdkjegaa
open Go.RowKit
set_option linter.unusedVariables false
set_option linter.unusedSimpArgs false
variable {w0 w w' : World} {G : Nat → Prop} {r : Nat} {S S' : Ln}
theorem rPickS_due {K v : Int} {ok : Bool} (h : RSt w0 w G r 2 S) (hk : OkS K S) {c : Int} (hf : Far c S) (hc : c ≤ 1000000000000) (hr : pickdue S = (S', v, ok)) :
    Calls Try.prog 71 #[.pointer (some ⟨r, 0, none⟩)] w fun e w' => e = .returned (.tuple #[.int .i64 v, .bool ok]) ∧ RNext w0 w G r 2 S' w' := by
  unfold pickdue at hr
  obtain ⟨a, c, hq, rfl⟩ := h.q
  cases hz : duePick S.l with
  | none =>
    rw [hz] at hr
    simp only [takeR, Prod.mk.injEq] at hr
    obtain ⟨rfl, rfl, rfl⟩ := hr
    exact (rPick_none hq (duePick_none (fun x hx => (hk.pts x hx).2.2.1) hz)).mono fun _ _ ⟨h1, h2⟩ => ⟨h1, h2.next h⟩
  | some z =>
    rw [hz] at hr
    simp only [takeR, Prod.mk.injEq] at hr
    obtain ⟨rfl, rfl, rfl⟩ := hr
    refine (rPick_2 hq hk.len z hz fun j x hx => ?_).mono fun _ _ ⟨h1, h2⟩ => ⟨h1, h2.next h⟩
    have h1 := hk.pts x (List.mem_of_getElem? hx)
    have h2 := hf x (List.mem_of_getElem? hx)
    omega
end Go.Proofs.Ytciiookcdkjegaa
