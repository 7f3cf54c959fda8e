/- The line's calls, in the plain model's words. -/
import Derived.Test.YthdilellcaebfaaGreatDoorO
import Derived.Test.YthdilellcaebfaaGreatDoorE
namespace Go.Proofs.YthdilellcaebfaaGreatDoor
open Go.RowKit
set_option linter.unusedVariables false
set_option linter.unusedSimpArgs false

/-- Block b holds the queue S; F: its blocks. -/
def Qm (w : World) (F : Nat → Prop) (b : Nat) (S : Ln) : Prop := ∃ a c, LineAt w 0 b a c S.base S.cur S.l ∧ F = foot b a
/-- Behind a call. -/
def QPost (w : World) (F : Nat → Prop) (b : Nat) (S : Ln) (w' : World) : Prop := ∃ F', Qm w' F' b S ∧ (∀ k, F' k → F k ∨ w.heap.size ≤ k) ∧ Fr F w w'

theorem Qm.lt {w : World} {F : Nat → Prop} {b : Nat} {S : Ln} (h : Qm w F b S) : ∀ k, F k → k < w.heap.size := by
  obtain ⟨a, c, hl, rfl⟩ := h
  exact fun k hk => (hl.foot_lt k hk).2
theorem Qm.self {w : World} {F : Nat → Prop} {b : Nat} {S : Ln} (h : Qm w F b S) : F b := by
  obtain ⟨a, c, hl, rfl⟩ := h
  exact .inl rfl
theorem Qm.fr {w w' : World} {F G : Nat → Prop} {b : Nat} {S : Ln} (h : Qm w F b S) (hf : Fr G w w') (hd : ∀ k, F k → ¬ G k) : Qm w' F b S := by
  obtain ⟨a, c, hl, rfl⟩ := h
  exact ⟨a, c, hl.fr hf hd, rfl⟩
theorem Qm.below {w w' : World} {F : Nat → Prop} {b : Nat} {S : Ln} (h : Qm w F b S) (hb : Below w.heap.size w w') : Qm w' F b S := by
  obtain ⟨a, c, hl, rfl⟩ := h
  exact ⟨a, c, hl.below hb, rfl⟩
theorem Qm.post {w w' : World} {F : Nat → Prop} {b : Nat} {S : Ln} (h : Qm w F b S) (hb : Below w.heap.size w w') : QPost w F b S w' := ⟨F, h.below hb, fun k hk => .inl hk, Fr.of_below hb⟩
theorem Qm.cells {w : World} {F : Nat → Prop} {b : Nat} {S : Ln} (h : Qm w F b S) : ∃ T a c, w.heap[b]? = some (.cells #[.int .i64 S.base, .int .i64 S.cur, .slice a S.l.length c] T (0, 0)) := by
  obtain ⟨a, c, hl, rfl⟩ := h
  obtain ⟨T, hT⟩ := hl.blk
  exact ⟨T, a, c, hT⟩
/-- One call behind another. -/
theorem QPost.trans {w w1 w2 : World} {F : Nat → Prop} {b : Nat} {S : Ln} {F1 : Nat → Prop} (h1 : ∀ k, F1 k → F k ∨ w.heap.size ≤ k) (hf : Fr F w w1) (h : QPost w1 F1 b S w2) : QPost w F b S w2 := by
  obtain ⟨F2, hq, hs, hf2⟩ := h
  have hsz := hf.size
  refine ⟨F2, hq, fun k hk => ?_, hf.trans hf2 fun k hk hk2 => ?_⟩
  · rcases hs k hk with h | h
    · exact h1 k h
    · exact .inr (by omega)
  · rcases h1 k hk2 with h | h
    · exact h
    · omega
/-- What was laid behind the call does not matter. -/
theorem QPost.more {w w1 w2 : World} {F : Nat → Prop} {b : Nat} {S : Ln} (h : QPost w F b S w1) (hb : Below w1.heap.size w1 w2) : QPost w F b S w2 := by
  obtain ⟨F1, hq, hs, hf⟩ := h
  exact ⟨F1, hq.below hb, hs, hf.trans (Fr.of_below hb) (fun _ _ h => h)⟩
theorem QPost.after {w0 w w1 : World} {F : Nat → Prop} {b : Nat} {S : Ln} (hb : Below w0.heap.size w0 w) (h : QPost w F b S w1) : QPost w0 F b S w1 :=
  QPost.trans (fun k hk => .inl hk) (Fr.of_below hb) h

/-- Least's two values. -/
def leastV : Option Pt → Value
  | none => .tuple #[.agg #[.int .i64 0, .int .i64 0, .int .i64 0, .int .i64 0], .bool false]
  | some z => .tuple #[.agg #[.int .i64 z.id, .int .i64 z.w, .int .i64 z.v, .int .i64 z.day], .bool true]
theorem formL {w : World} {F : Nat → Prop} {b : Nat} {S : Ln} {K : Int} (h : Qm w F b S) (hk : OkS K S) :
    Calls Tryz.prog 156 #[.pointer (some ⟨b, 0, none⟩)] w (FormPost w S.cur (S.l.map (itOf S.base))) := by
  obtain ⟨a, c, hl, rfl⟩ := h
  have hbl := hk.blo
  have hbh := hk.bhi
  have k1 := hk.k1
  exact Form_any hl hk.len (by omega) (by omega) fun x hx => by have := hk.pts x hx; omega

/-- What a call that makes a queue leaves. -/
def NewPost (w : World) (S : Ln) (e : Ending) (w' : World) : Prop :=
  ∃ b F, e = .returned (.tuple #[.pointer (some ⟨b, 0, none⟩), .int .i64 0]) ∧ Qm w' F b S ∧ (∀ k, F k → w.heap.size ≤ k) ∧ Below w.heap.size w w'
def NilPost (w : World) (e : Ending) (w' : World) : Prop := e = .returned (.tuple #[.pointer none, .int .i64 1]) ∧ Below w.heap.size w w'
def BaseOk (base : Int) : Prop := -1152921504606846976 ≤ base ∧ base ≤ 1152921504606846976
instance (base : Int) : Decidable (BaseOk base) := by unfold BaseOk; infer_instance
end Go.Proofs.YthdilellcaebfaaGreatDoor
