/- A queue between a law's calls: what was there ahead of the law stays. -/
import Derived.Test.YtlgkkolgdjgclaaGreatP
namespace Go.Proofs.YtlgkkolgdjgclaaGreat
open Go.RowKit
set_option linter.unusedVariables false
set_option linter.unusedSimpArgs false

theorem heap_drew {w : World} {g : Nat} {x : Obj} (h : w.heap[g]? = some x) : w.drew.heap[g]? = some x := h
/-- In w block b holds the queue S, in blocks F, all of them laid behind w0; what lay in w0 lies as it lay. -/
structure QSt (w0 w : World) (F : Nat → Prop) (b : Nat) (S : Ln) : Prop where
  q : Qm w F b S
  new : ∀ k, F k → w0.heap.size ≤ k
  old : Below w0.heap.size w0 w
/-- Behind a call on it. -/
def QNext (w0 w : World) (F : Nat → Prop) (b : Nat) (S : Ln) (w' : World) : Prop := ∃ F', QSt w0 w' F' b S ∧ Fr F w w' ∧ ∀ k, F' k → F k ∨ w.heap.size ≤ k
theorem QPost.next {w0 w w' : World} {F : Nat → Prop} {b : Nat} {S S' : Ln} (h : QPost w F b S' w') (hs : QSt w0 w F b S) : QNext w0 w F b S' w' := by
  obtain ⟨F', hq, hs', hf⟩ := h
  have hsz := hs.old.size
  exact ⟨F', ⟨hq, fun k hk => (hs' k hk).elim (hs.new k) (fun h => Nat.le_trans hsz h), hs.old.trans (hf.below hsz fun k hk => hs.new k hk)⟩, hf, hs'⟩
theorem QSt.below {w0 w w' : World} {F : Nat → Prop} {b : Nat} {S : Ln} (h : QSt w0 w F b S) (hb : Below w.heap.size w w') : QSt w0 w' F b S := ⟨h.q.below hb, h.new, h.old.trans (hb.mono h.old.size)⟩
/-- What another call wrote lies beside it. -/
theorem QSt.fr {w0 w w' : World} {F G : Nat → Prop} {b : Nat} {S : Ln} (h : QSt w0 w F b S) (hf : Fr G w w') (hd : ∀ k, F k → ¬ G k) (hG : ∀ k, G k → w0.heap.size ≤ k) : QSt w0 w' F b S :=
  ⟨h.q.fr hf hd, h.new, h.old.trans (hf.below h.old.size hG)⟩
theorem QSt.lt {w0 w : World} {F : Nat → Prop} {b : Nat} {S : Ln} (h : QSt w0 w F b S) : ∀ k, F k → k < w.heap.size := h.q.lt
theorem NewPost.st {w0 w w' : World} {S : Ln} {e : Ending} (h : NewPost w S e w') (hb : Below w0.heap.size w0 w) : ∃ b F, e = .returned (.tuple #[.pointer (some ⟨b, 0, none⟩), .int .i64 0]) ∧ QSt w0 w' F b S ∧ (∀ k, F k → w.heap.size ≤ k) ∧ Below w.heap.size w w' := by
  obtain ⟨b, F, rfl, hq, hF, hb2⟩ := h
  exact ⟨b, F, rfl, ⟨hq, fun k hk => Nat.le_trans hb.size (hF k hk), hb.trans (hb2.mono hb.size)⟩, hF, hb2⟩
theorem callsNext {w0 w : World} {F : Nat → Prop} {b : Nat} {S S' : Ln} {f : FuncId} {args : Array Value} {v : Value} (hs : QSt w0 w F b S) (h : Calls Tryz.prog f args w fun e w' => e = .returned v ∧ QPost w F b S' w') :
    Calls Tryz.prog f args w fun e w' => e = .returned v ∧ QNext w0 w F b S' w' := h.mono fun _ _ ⟨h1, h2⟩ => ⟨h1, h2.next hs⟩
end Go.Proofs.YtlgkkolgdjgclaaGreat
