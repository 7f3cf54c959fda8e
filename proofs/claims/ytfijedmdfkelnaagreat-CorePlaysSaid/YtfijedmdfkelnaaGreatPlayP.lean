/- A policy and the document's own queue: what both keep, whatever the tag. -/
import Derived.Test.YtfijedmdfkelnaaGreatPlay
import Derived.Test.YtfijedmdfkelnaaGreatPif
import Derived.Test.YtfijedmdfkelnaaGreatRefP3
namespace Go.Proofs.YtfijedmdfkelnaaGreat
open Go.RowKit
set_option linter.unusedVariables false
set_option linter.unusedSimpArgs false

section
variable {tag : Int} (ht : TagOk tag)
include ht
theorem heldT_r (lag : Int) : heldT tag lag = rheld tag lag := by
  rcases ht with rfl | rfl | rfl
  · rfl
  · rfl
  · rfl
theorem rPickS_T {w0 w : World} {G : Nat → Prop} {r : Nat} {S S' : Ln} {K v : Int} {ok : Bool} (h : RSt w0 w G r tag S) (hk : OkS K S) {c : Int} (hf : Far c S) (hc : c ≤ 1000000000000) (hr : pickT tag S = (S', v, ok)) :
    Calls Tryz.prog 14 #[.pointer (some ⟨r, 0, none⟩)] w fun e w' => e = .returned (.tuple #[.int .i64 v, .bool ok]) ∧ RNext w0 w G r tag S' w' := by
  rcases ht with rfl | rfl | rfl
  · exact rPickS_stride h hk hf hc hr
  · exact rPickS_fair h hk hf hc hr
  · exact rPickS_due h hk hf hc hr
/-- Nobody is picked only where nobody is: nobody is charged then. -/
theorem pickT_no {K : Int} {S S1 S2 : Ln} (h : OkS K S) {v1 v2 e2 : Int} {k : Bool} (h1 : pickT tag S = (S1, v1, k)) (h2 : chargeR S1 = (S2, v2, e2)) : k = false → S2 = S1 ∧ v2 = 0 ∧ e2 = 14 := by
  intro hk
  subst hk
  have hl : S.l = [] := by
    rcases Nat.eq_zero_or_pos S.l.length with h0 | h0
    · exact List.eq_nil_of_length_eq_zero h0
    · obtain ⟨j, x, e, _⟩ := pickat_T ht h h0
      rw [h1] at e
      simp at e
  obtain ⟨c, hc⟩ := pickis_T ht S
  rw [h1] at hc
  simp only at hc
  rw [hl] at hc
  subst hc
  have e : chargeR ⟨S.base, c, []⟩ = (⟨S.base, c, []⟩, 0, 14) := rfl
  rw [e] at h2
  simp only [Prod.mk.injEq] at h2
  exact ⟨h2.1.symm, h2.2.1.symm, h2.2.2.symm⟩
theorem PlayI.pickT {i : Nat} {S : Ln} (hi : i < 200) (h : PlayI i S) : PlayI (i + 1) (pickT tag S).1 := h.pick hi (pickok_T ht h.ok) (pickis_T ht S)
end
/-- A run, in the plain model: one is picked, and charged. -/
theorem PlayI.run {tag : Int} (ht : TagOk tag) {i : Nat} {S : Ln} (hi : i < 200) (h : PlayI i S) : PlayI (i + 1) (chargeR (Go.Proofs.YtfijedmdfkelnaaGreat.pickT tag S).1).1 := by
  obtain ⟨c, hc⟩ := pickis_T ht S
  have hk := pickok_T ht h.ok
  have hd : ∀ x ∈ (Go.Proofs.YtfijedmdfkelnaaGreat.pickT tag S).1.l, DayOk x := by rw [hc]; exact h.days
  have hf : Far ((i : Int) * 232792560) (Go.Proofs.YtfijedmdfkelnaaGreat.pickT tag S).1 := by rw [hc]; exact h.far.curs c
  exact PlayI.next hi hk.charge (by omega) (days_charge hd) hf.charge (by omega)
/-- Both behind a call. -/
def TwoP (tag : Int) (w0 : World) (p b r : Nat) (i : Nat) (w' : World) : Prop := ∃ F G S, PSt w0 w' F p b tag S ∧ RSt w0 w' G r tag S ∧ (∀ k, F k ∨ k = p → ¬ G k) ∧ PlayI i S
theorem TwoP.old {tag : Int} {w0 w : World} {p b r i : Nat} (h : TwoP tag w0 p b r i w) : Below w0.heap.size w0 w := by
  obtain ⟨F, G, S, hp, _⟩ := h
  exact hp.old
end Go.Proofs.YtfijedmdfkelnaaGreat
