/- The line's calls, in the plain model's words. -/
import Derived.Test.YtlgkkolgdjgclaaGreatO
import Derived.Test.YtlgkkolgdjgclaaGreatE
namespace Go.Proofs.YtlgkkolgdjgclaaGreat
open Go.RowKit
set_option linter.unusedVariables false
set_option linter.unusedSimpArgs false

/-- Block b holds the queue S; F: its blocks. -/
def Qm (w : World) (F : Nat → Prop) (b : Nat) (S : Ln) : Prop := ∃ a c, LineAt w 0 b a c S.base S.cur S.l ∧ F = foot b a
/-- Behind a call. -/
def QPost (w : World) (F : Nat → Prop) (b : Nat) (S : Ln) (w' : World) : Prop := ∃ F', Qm w' F' b S ∧ (∀ k, F' k → F k ∨ w.heap.size ≤ k) ∧ Fr F w w'

theorem Qm.lt {w : World} {F : Nat → Prop} {b : Nat} {S : Ln} (h : Qm w F b S) : ∀ k, F k → k < w.heap.size := by
  obtain ⟨a, c, hl, rfl⟩ := h
  exact fun k hk => (hl.foot_lt k hk).2
theorem Qm.self {w : World} {F : Nat → Prop} {b : Nat} {S : Ln} (h : Qm w F b S) : F b := by
  obtain ⟨a, c, hl, rfl⟩ := h
  exact .inl rfl
theorem Qm.fr {w w' : World} {F G : Nat → Prop} {b : Nat} {S : Ln} (h : Qm w F b S) (hf : Fr G w w') (hd : ∀ k, F k → ¬ G k) : Qm w' F b S := by
  obtain ⟨a, c, hl, rfl⟩ := h
  exact ⟨a, c, hl.fr hf hd, rfl⟩
theorem Qm.below {w w' : World} {F : Nat → Prop} {b : Nat} {S : Ln} (h : Qm w F b S) (hb : Below w.heap.size w w') : Qm w' F b S := by
  obtain ⟨a, c, hl, rfl⟩ := h
  exact ⟨a, c, hl.below hb, rfl⟩
theorem Qm.post {w w' : World} {F : Nat → Prop} {b : Nat} {S : Ln} (h : Qm w F b S) (hb : Below w.heap.size w w') : QPost w F b S w' := ⟨F, h.below hb, fun k hk => .inl hk, Fr.of_below hb⟩
theorem Qm.cells {w : World} {F : Nat → Prop} {b : Nat} {S : Ln} (h : Qm w F b S) : ∃ T a c, w.heap[b]? = some (.cells #[.int .i64 S.base, .int .i64 S.cur, .slice a S.l.length c] T (0, 0)) := by
  obtain ⟨a, c, hl, rfl⟩ := h
  obtain ⟨T, hT⟩ := hl.blk
  exact ⟨T, a, c, hT⟩
/-- One call behind another. -/
theorem QPost.trans {w w1 w2 : World} {F : Nat → Prop} {b : Nat} {S : Ln} {F1 : Nat → Prop} (h1 : ∀ k, F1 k → F k ∨ w.heap.size ≤ k) (hf : Fr F w w1) (h : QPost w1 F1 b S w2) : QPost w F b S w2 := by
  obtain ⟨F2, hq, hs, hf2⟩ := h
  have hsz := hf.size
  refine ⟨F2, hq, fun k hk => ?_, hf.trans hf2 fun k hk hk2 => ?_⟩
  · rcases hs k hk with h | h
    · exact h1 k h
    · exact .inr (by omega)
  · rcases h1 k hk2 with h | h
    · exact h
    · omega
/-- What was laid behind the call does not matter. -/
theorem QPost.more {w w1 w2 : World} {F : Nat → Prop} {b : Nat} {S : Ln} (h : QPost w F b S w1) (hb : Below w1.heap.size w1 w2) : QPost w F b S w2 := by
  obtain ⟨F1, hq, hs, hf⟩ := h
  exact ⟨F1, hq.below hb, hs, hf.trans (Fr.of_below hb) (fun _ _ h => h)⟩
theorem QPost.after {w0 w w1 : World} {F : Nat → Prop} {b : Nat} {S : Ln} (hb : Below w0.heap.size w0 w) (h : QPost w F b S w1) : QPost w0 F b S w1 :=
  QPost.trans (fun k hk => .inl hk) (Fr.of_below hb) h

theorem mayL {w : World} {F : Nat → Prop} {b : Nat} {S : Ln} {K : Int} (h : Qm w F b S) (hk : OkS K S) (id tw lag : Int) {r : Int} (hr : mayE S.l id tw lag = r) :
    Calls Tryz.prog 184 #[.pointer (some ⟨b, 0, none⟩), .int .i64 id, .int .i64 tw, .int .i64 lag] w fun e w' => e = .returned (.int .i64 r) ∧ Below w.heap.size w w' := by
  subst hr
  obtain ⟨a, c, hl, rfl⟩ := h
  exact May_any hl hk.len id tw lag
theorem putL {w : World} {F : Nat → Prop} {b : Nat} {S : Ln} {K : Int} (h : Qm w F b S) (hk : OkS K S) (hK : K ≤ 1151795604700004352) (id tw lag : Int) {r : Int} (hr : mayE S.l id tw lag = r) :
    Calls Tryz.prog 185 #[.pointer (some ⟨b, 0, none⟩), .int .i64 id, .int .i64 tw, .int .i64 lag] w fun e w' => e = .returned (.int .i64 r) ∧ QPost w F b (putR S id tw lag) w' := by
  have hbl := hk.blo
  have hbh := hk.bhi
  by_cases h0 : r = 0
  · subst h0
    obtain ⟨a, c, hl, rfl⟩ := h
    refine (Put_go hl hk.len id tw lag hr hk.byid (by omega) (by omega) _ rfl).mono ?_
    rintro e w' ⟨rfl, a', c', hl', hsub, hfr⟩
    refine ⟨rfl, foot b a', ⟨a', c', ?_, rfl⟩, hsub, hfr⟩
    unfold putR; rw [if_pos hr]; exact hl'
  · have hp : putR S id tw lag = S := by unfold putR; rw [if_neg (by rw [hr]; exact h0)]
    rw [hp]
    have h1 := h
    obtain ⟨a, c, hl, _⟩ := h1
    refine (Put_err hl hk.len id tw lag hr h0).mono ?_
    rintro e w' ⟨rfl, hb⟩
    exact ⟨rfl, h.post hb⟩
theorem leaveL {w : World} {F : Nat → Prop} {b : Nat} {S S' : Ln} {K v e' : Int} (h : Qm w F b S) (hk : OkS K S) (id : Int) (hr : leaveR S id = (S', v, e')) :
    Calls Tryz.prog 188 #[.pointer (some ⟨b, 0, none⟩), .int .i64 id] w fun e w' => e = .returned (.tuple #[.int .i64 v, .int .i64 e']) ∧ QPost w F b S' w' := by
  have hbl := hk.blo
  have hbh := hk.bhi
  have k1 := hk.k1
  unfold leaveR at hr
  have h1 := h
  obtain ⟨a, c, hl, rfl⟩ := h1
  rcases at_cases S id with ⟨e1, e2, _⟩ | ⟨j, x, e1, e2, hj, hx, hid⟩
  · rw [e1] at hr
    simp only [Prod.mk.injEq] at hr
    obtain ⟨rfl, rfl, rfl⟩ := hr
    refine (Leave_none hl hk.len id e2).mono ?_
    rintro e w' ⟨rfl, hb⟩
    exact ⟨rfl, h.post hb⟩
  · rw [e1] at hr
    simp only [Prod.mk.injEq] at hr
    obtain ⟨rfl, rfl, rfl⟩ := hr
    have hp := hk.pts x (List.mem_of_getElem? hx)
    refine (Leave_go hl hk.len id j x e2 hx (by omega) (by omega) (by omega) (by omega)).mono ?_
    rintro e w' ⟨rfl, hl', hf⟩
    exact ⟨rfl, _, ⟨a, c, hl', rfl⟩, fun k hk => .inl hk, hf⟩
theorem chargeL {w : World} {F : Nat → Prop} {b : Nat} {S S' : Ln} {K v e' : Int} (h : Qm w F b S) (hk : OkS K S) (hr : chargeR S = (S', v, e')) :
    Calls Tryz.prog 183 #[.pointer (some ⟨b, 0, none⟩)] w fun e w' => e = .returned (.tuple #[.int .i64 v, .int .i64 e']) ∧ QPost w F b S' w' := by
  have k1 := hk.k1
  unfold chargeR at hr
  have h1 := h
  obtain ⟨a, c, hl, rfl⟩ := h1
  rcases at_cases S S.cur with ⟨e1, e2, _⟩ | ⟨j, x, e1, e2, hj, hx, hid⟩
  · rw [e1] at hr
    simp only [Prod.mk.injEq] at hr
    obtain ⟨rfl, rfl, rfl⟩ := hr
    refine (Charge_none hl hk.len e2).mono ?_
    rintro e w' ⟨rfl, hb⟩
    exact ⟨rfl, h.post hb⟩
  · rw [e1] at hr
    simp only at hr
    have hp := hk.pts x (List.mem_of_getElem? hx)
    by_cases hg : 2305843009213693952 < x.v + step x.w
    · rw [if_pos hg] at hr
      simp only [Prod.mk.injEq] at hr
      obtain ⟨rfl, rfl, rfl⟩ := hr
      refine (Charge_over hl hk.len j x e2 hx (by omega) (by omega) (by omega) (by omega) hg).mono ?_
      rintro e w' ⟨rfl, hb⟩
      exact ⟨rfl, h.post hb⟩
    · rw [if_neg hg] at hr
      simp only [Prod.mk.injEq] at hr
      obtain ⟨rfl, rfl, rfl⟩ := hr
      refine (Charge_go hl hk.len j x e2 hx (by omega) (by omega) (by omega) (by omega) (by omega) _ rfl).mono ?_
      rintro e w' ⟨rfl, hl', hf⟩
      exact ⟨rfl, _, ⟨a, c, hl', rfl⟩, fun k hk => .inl hk, hf⟩
/-- Least's two values. -/
def leastV : Option Pt → Value
  | none => .tuple #[.agg #[.int .i64 0, .int .i64 0, .int .i64 0, .int .i64 0], .bool false]
  | some z => .tuple #[.agg #[.int .i64 z.id, .int .i64 z.w, .int .i64 z.v, .int .i64 z.day], .bool true]
theorem leastL {w : World} {F : Nat → Prop} {b : Nat} {S : Ln} {K : Int} (h : Qm w F b S) (hk : OkS K S) {z : Option Pt} (hz : least S.l = z) :
    Calls Tryz.prog 190 #[.pointer (some ⟨b, 0, none⟩)] w fun e w' => e = .returned (leastV z) ∧ Below w.heap.size w w' := by
  obtain ⟨a, c, hl, rfl⟩ := h
  cases z with
  | none =>
    have : S.l = [] := least_none.1 hz
    rw [this] at hl
    exact Least_none hl
  | some z => exact Least_some hl hk.len z hz
theorem takeL {w : World} {F : Nat → Prop} {b : Nat} {S S' : Ln} {v : Int} {r : Bool} (h : Qm w F b S) (z : Option Pt) (hr : takeR S z = (S', v, r)) (p : Value) (q : Value) (hp : leastV z = .tuple #[p, q]) :
    Calls Tryz.prog 189 #[.pointer (some ⟨b, 0, none⟩), p, q] w fun e w' => e = .returned (.tuple #[.int .i64 v, .bool r]) ∧ QPost w F b S' w' := by
  obtain ⟨a, c, hl, rfl⟩ := h
  cases z with
  | none =>
    simp only [takeR, Prod.mk.injEq] at hr
    obtain ⟨rfl, rfl, rfl⟩ := hr
    simp only [leastV, Value.tuple.injEq] at hp
    obtain ⟨rfl, rfl⟩ : p = _ ∧ q = _ := by simpa using hp.symm
    refine (Take_none hl 0 0 0 0).mono ?_
    rintro e w' ⟨rfl, hl', hf⟩
    exact ⟨rfl, _, ⟨a, c, hl', rfl⟩, fun k hk => .inl hk, hf.mono fun i _ h => .inl h⟩
  | some z =>
    simp only [takeR, Prod.mk.injEq] at hr
    obtain ⟨rfl, rfl, rfl⟩ := hr
    simp only [leastV, Value.tuple.injEq] at hp
    obtain ⟨rfl, rfl⟩ : p = _ ∧ q = _ := by simpa using hp.symm
    refine (Take_any hl z).mono ?_
    rintro e w' ⟨rfl, hl', hf⟩
    exact ⟨rfl, _, ⟨a, c, hl', rfl⟩, fun k hk => .inl hk, hf.mono fun i _ h => .inl h⟩
theorem formL {w : World} {F : Nat → Prop} {b : Nat} {S : Ln} {K : Int} (h : Qm w F b S) (hk : OkS K S) :
    Calls Tryz.prog 187 #[.pointer (some ⟨b, 0, none⟩)] w (FormPost w S.cur (S.l.map (itOf S.base))) := by
  obtain ⟨a, c, hl, rfl⟩ := h
  have hbl := hk.blo
  have hbh := hk.bhi
  have k1 := hk.k1
  exact Form_any hl hk.len (by omega) (by omega) fun x hx => by have := hk.pts x hx; omega

/-- What a call that makes a queue leaves. -/
def NewPost (w : World) (S : Ln) (e : Ending) (w' : World) : Prop :=
  ∃ b F, e = .returned (.tuple #[.pointer (some ⟨b, 0, none⟩), .int .i64 0]) ∧ Qm w' F b S ∧ (∀ k, F k → w.heap.size ≤ k) ∧ Below w.heap.size w w'
def NilPost (w : World) (e : Ending) (w' : World) : Prop := e = .returned (.tuple #[.pointer none, .int .i64 1]) ∧ Below w.heap.size w w'
def BaseOk (base : Int) : Prop := -1152921504606846976 ≤ base ∧ base ≤ 1152921504606846976
instance (base : Int) : Decidable (BaseOk base) := by unfold BaseOk; infer_instance
end Go.Proofs.YtlgkkolgdjgclaaGreat
