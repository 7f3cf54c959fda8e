/- A policy's Form, through the interface, whatever the tag. -/
import Derived.Test.YtmhdebkiepfgiaaV
namespace Go.Proofs.Ytmhdebkiepfgiaa
open Go.RowKit
set_option linter.unusedVariables false
set_option linter.unusedSimpArgs false

theorem m_form_0 (b : Nat) (w : World) : (method 322 59 (.pointer (some ⟨b, 0, none⟩)) "Form").run Try.prog w = .ok (38, .pointer (some ⟨b, 0, none⟩)) w := by kernel_rfl
theorem m_form_1 (b : Nat) (w : World) : (method 322 91 (.pointer (some ⟨b, 0, none⟩)) "Form").run Try.prog w = .ok (174, .pointer (some ⟨b, 0, none⟩)) w := by kernel_rfl
theorem m_form_2 (b : Nat) (w : World) : (method 322 94 (.pointer (some ⟨b, 0, none⟩)) "Form").run Try.prog w = .ok (183, .pointer (some ⟨b, 0, none⟩)) w := by kernel_rfl
def formFn (tag : Int) : FuncId := if tag = 0 then 38 else if tag = 1 then 174 else 183
theorem form_fn {w : World} {F : Nat → Prop} {b : Nat} {S : Ln} {K tag : Int} (ht : TagOk tag) (h : Qm w F b S) (hk : OkS K S) : Calls Try.prog (formFn tag) #[.pointer (some ⟨b, 0, none⟩)] w (FormPost w S.cur (S.l.map (itOf S.base))) := by
  rcases ht with rfl | rfl | rfl
  · exact Form_stride h hk
  · exact Form_fair h hk
  · exact Form_due h hk
theorem m_form (tag : Int) (ht : TagOk tag) (b : Nat) (w : World) : (method 322 (polT tag) (.pointer (some ⟨b, 0, none⟩)) "Form").run Try.prog w = .ok (formFn tag, .pointer (some ⟨b, 0, none⟩)) w := by
  rcases ht with rfl | rfl | rfl
  · exact m_form_0 b w
  · exact m_form_1 b w
  · exact m_form_2 b w
theorem ent_form (tag : Int) (ht : TagOk tag) : ∀ args w, (callFunc (formFn tag) args).run Try.prog w = .ok (.enter (formFn tag) args) w := by
  rcases ht with rfl | rfl | rfl
  · exact enters_of Try.func38 (by kernel_rfl) rfl
  · exact enters_of Try.func174 (by kernel_rfl) rfl
  · exact enters_of Try.func183 (by kernel_rfl) rfl
/-- A seed's form is told. -/
theorem form_of_seed {w : World} {F : Nat → Prop} {b : Nat} {tag B : Int} {f : Fm} (ht : TagOk tag) (hb : BaseOk B) (hg : goodF f = true) (h : Qm w F b (seedR f B)) : Calls Try.prog (formFn tag) #[.pointer (some ⟨b, 0, none⟩)] w (FormPost w f.cur f.l) := by
  have h1 := form_fn ht h (OkS.seed hb.1 hb.2 hg)
  have h2 := form_seed f B
  have e1 : (seedR f B).cur = f.cur := rfl
  have e2 : (seedR f B).l.map (itOf (seedR f B).base) = f.l := congrArg Fm.l h2
  rw [e1, e2] at h1
  exact h1
/-- What a walk wants of a policy's queue whose Form is called: the interface's cell, the method, the call in every later world. -/
theorem Pm.form {w : World} {F : Nat → Prop} {p : Nat} {tag : Int} {S : Ln} {K : Int} (h : Pm w F p tag S) (ht : TagOk tag) (hk : OkS K S) :
    ∃ (b : Nat) (TT : TypeId) (FN : FuncId), w.heap[p]? = some (.cells #[.iface TT (.pointer (some ⟨b, 0, none⟩)), .int .i64 tag] 43 (0, 0)) ∧
      (∀ W : World, (method 322 TT (.pointer (some ⟨b, 0, none⟩)) "Form").run Try.prog W = .ok (FN, .pointer (some ⟨b, 0, none⟩)) W) ∧
      (∀ args W, (callFunc FN args).run Try.prog W = .ok (.enter FN args) W) ∧
      Hid (∀ W, Below w.heap.size w W → Calls Try.prog FN #[.pointer (some ⟨b, 0, none⟩)] W (FormPost W S.cur (S.l.map (itOf S.base)))) := by
  obtain ⟨b, G, hp, hq, hG, rfl⟩ := h
  exact ⟨b, polT tag, formFn tag, hp, m_form tag ht b, ent_form tag ht, Lib.hid fun W hW => form_fn ht (hq.below hW) hk⟩
end Go.Proofs.Ytmhdebkiepfgiaa
