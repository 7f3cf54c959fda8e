/- A range over a function: what an iterator owes, what a round owes; a drawn region in a round. -/
import Derived.RangeFuncKeeps
import Derived.RangeFuncCalls
import Derived.OrdersIn
import Derived.TacticsInMore
import Derived.OwnWalkIn
import Derived.LoopIn
import Derived.LoopNIn
import Derived.Shelf.Abstract
import Derived.Test.YtlgkkolgdjgclaaGreatA
import Derived.Test.YtlgkkolgdjgclaaGreatR
import Derived.Test.YtlgkkolgdjgclaaGreatM
import Derived.Test.YtlgkkolgdjgclaaGreatProg
import Derived.Laws.BitsLemmas
import Derived.Deep.MidRow
import Derived.Deep.AppendLies
namespace Go.Proofs.YtlgkkolgdjgclaaGreat
open Go.RowKit
set_option linter.unusedVariables false
set_option linter.unusedSimpArgs false

theorem wide_fn (f : FuncId) : Fence.wide.fn f = True := rfl
theorem wide_depth : Fence.wide.depth = none := rfl
section
variable {P : Program}
/-- What a plain step does, it does in a round. -/
theorem oper_round {o : Oper} {a : Act} {w : World} {K : Act → World → Prop} {Q : Exit → Act → World → Prop} (l n : Nat) (hd : ∀ c, o.op ≠ .defer c) (h : o.wp P a w K Q) : o.wpIn (Fence.wide.inRound l) n P a w K Q := by
  refine ⟨fun _ _ => trivial, ?_⟩
  have e : o.semAt (Fence.wide.inRound l).round a.eval = execOp a.eval o := Oper.semAt_some l _ _ hd
  rw [e]
  unfold Oper.wp at h
  generalize Sem.run P (execOp a.eval o) w = r at h ⊢
  cases r with
  | ok x w1 =>
    cases x with
    | value v => exact h
    | skip => exact h
    | defer d => exact h
    | enter f args =>
      refine ⟨fun h0 => by simp [Fence.wide] at h0, CallsIn.inRound l (callsIn_wide.2 (Calls.mono h ?_))⟩
      intro e w2 he
      cases e <;> exact he
    | row r args =>
      refine ⟨fun h0 => by simp [Fence.wide] at h0, fun c cs _ => ?_⟩
      obtain ⟨v, w2, hr, hs⟩ := h c cs
      exact ⟨v, w2, hr, stepsIn_wide.2 hs⟩
    | _ => exact h.elim
  | halt x w1 => cases x <;> first | exact h | exact h.elim
def noDefer (ops : Array Oper) : Bool := ops.all fun o => match o.op with | .defer _ => false | _ => true
theorem noDefer_at {ops : Array Oper} (h : noDefer ops = true) {i : Nat} {o : Oper} (hi : ops[i]? = some o) (c : Call) : o.op ≠ .defer c := by
  have h1 := Array.all_eq_true_iff_forall_mem.1 h o (Array.mem_of_getElem? hi)
  intro e
  simp [e] at h1
theorem wpAny_round {ops : Array Oper} {Q : Exit → Act → World → Prop} (l n : Nat) (hd : noDefer ops = true) (hQ : ¬ LetsOut Q) : ∀ (fuel : Nat) (listed : Array Bool) (a : Act) (w : World),
    wpAny P .any ops Q fuel listed a w → wpAnyIn (Fence.wide.inRound l) n P .any ops Q fuel listed a w
  | 0, listed, a, w, h => h
  | fuel + 1, listed, a, w, h => by
    refine ⟨h.1, fun i hi => ?_⟩
    have h1 := h.2 i hi
    unfold wpOp at h1
    unfold wpOpIn
    cases ho : ops[i]? with
    | none => rw [ho] at h1; exact wpAny_round l n hd hQ fuel _ _ _ h1
    | some o =>
      rw [ho] at h1
      simp only at h1 ⊢
      split
      · rename_i hw
        rw [if_pos hw] at h1
        rcases h1 with h1 | ⟨_, h1⟩
        · exact Oper.wpIn_mono (fun a w h => wpAny_round l n hd hQ fuel _ _ _ h) (oper_round l n (noDefer_at hd ho) h1)
        · exact absurd h1 hQ
      · rename_i hw
        rw [if_neg hw] at h1
        exact ⟨fun _ _ => trivial, wpAny_round l n hd hQ fuel _ _ _ h1⟩
/-- A drawn region in a round, by one order. -/
theorem wpIn_region_chain {id : Nat} {l : List Oper} {Q : Exit → Act → World → Prop} {a : Act} {w : World} {k m : Nat} (n : Nat) (tbl : List Nat) (r : List (Nat × Option (List Nat))) (hm : P.follows .mixedOrders = true)
    (hok : (Region.noSelect l.toArray && (r.length == l.length) && dstsIn l.toArray n && rowsOk tbl l 0 && okC (wtT tbl) l.toArray r (Array.replicate l.length false) []) = true) (hnd : noDefer l.toArray = true) (hn : a.tmps.size = n) (hQ : ¬ LetsOut Q)
    (h : chain P l.toArray (NoPanic Q) r a w.drew) : (Code.region id l.toArray true).wpIn (Fence.wide.inRound k) m P Q a w := by
  simp only [Bool.and_eq_true, beq_iff_eq] at hok
  obtain ⟨⟨⟨⟨hsel, hlen⟩, hd⟩, htb⟩, hok⟩ := hok
  refine Code.wpIn_mono (Q := NoPanic Q) NoPanic.imp (wpIn_region_any hm ?_)
  have hs : l.toArray.size = l.length := by simp
  have := chain_sound (P := P) (Q := NoPanic Q) (wt := wtT tbl) (waits_tbl htb) hsel (fun _ _ _ _ h => h) r (Array.replicate l.toArray.size false) [] a w.drew (by rw [hs]; exact hok) closed0 (fun p hp => by cases hp) (fun i o d ho hdst => by
    have h1 := Array.all_eq_true_iff_forall_mem.1 hd o (Array.mem_of_getElem? ho)
    rw [hdst] at h1
    rw [hn]; simpa using h1) h
  rw [hlen, ← hs] at this
  exact wpAny_round (Q := NoPanic Q) k m hnd (fun ⟨a0, w0, h0⟩ => hQ ⟨a0, w0, h0⟩) _ _ _ _ (wpAnyG_any _ _ _ _ _ this)

/-! ### the statement -/
theorem Fr.putObj {F : Nat → Prop} {a w : World} (h : Fr F a w) {l : Nat} (hl : l < a.heap.size → F l) (o : Obj) : Fr F a (w.putObj l o) :=
  h.trans (G := fun k => k = l) ⟨rfl, rfl, rfl, by simp, fun k _ hn => World.putObj_heap_other hn⟩ (fun i hi e => by subst e; exact hl hi)
theorem Below.putObj {B : Nat} {a w : World} (h : Below B a w) {l : Nat} (hl : B ≤ l) (o : Obj) : Below B a (w.putObj l o) :=
  h.trans ⟨rfl, rfl, rfl, by simp, fun k hk => World.putObj_heap_other (by omega)⟩
/-- What a function value owes, over which one ranges: it hands on xs, one by one; r: what it lays of its own; Kp: the blocks that a round must let be. -/
def Iter {α ρ : Type} (P : Program) (gf : Nat) (lb : Array Value) (enc : α → Array Value) (Kp : ρ → Nat → Prop) (Rv : ρ → World → World → Prop) (xs : List α) (w : World) : Prop :=
  ∀ (l : Nat) (J Jx : ρ → Nat → World → Prop) (W : World), Below w.heap.size w W → w.heap.size ≤ l → l < W.heap.size →
    (∀ r W1, Below W.heap.size W W1 → Rv r W W1 → J r 0 W1) →
    (∀ r k x W1, xs[k]? = some x → J r k W1 → YieldAt Fence.wide 0 P l (enc x) W1 fun e W' =>
      (e = .returned (.bool true) ∧ J r (k + 1) W' ∧ ∀ b, Kp r b → b ≠ l → W'.heap[b]? = W1.heap[b]?) ∨ (e = .returned (.bool false) ∧ Jx r (k + 1) W')) →
    Calls P gf (#[.func (.yield l) #[] #[]] ++ lb) W fun e W' => (∃ v, e = .returned v) ∧ ∃ r, J r xs.length W' ∨ ∃ k x, xs[k]? = some x ∧ Jx r (k + 1) W'
/-- How a round's body may be left. -/
def RoundOk (l D : Nat) (Kp : Nat → Prop) (I : World → Prop) (X : Exit → World → Prop) (W : World) : Exit → Act → World → Prop
  | .normal, _, W' => (W'.heap[l]? = W.heap[l]? ∧ W'.heap[D]? = W.heap[D]? ∧ ∀ b, Kp b → b ≠ l → W'.heap[b]? = W.heap[b]?) ∧ I W'
  | .ret, _, W' => (W'.heap[l]? = W.heap[l]? ∧ W'.heap[D]? = W.heap[D]?) ∧ X .ret W'
  | .exit id, _, W' => (W'.heap[l]? = W.heap[l]? ∧ W'.heap[D]? = W.heap[D]?) ∧ X (.exit id) W'
  | .goto t, _, W' => (W'.heap[l]? = W.heap[l]? ∧ W'.heap[D]? = W.heap[D]?) ∧ X (.goto t) W'
  | .panic _, _, _ => False
  | .outgrown, _, _ => False
theorem roundOk_out {l D : Nat} {Kp : Nat → Prop} {I : World → Prop} {X : Exit → World → Prop} {W : World} : ¬ LetsOut (RoundOk l D Kp I X W) := fun ⟨_, _, h⟩ => h
/-- The code of a jump. -/
def jumpOf : Code → Option Exit
  | .ret => some .ret
  | .exit id => some (.exit id)
  | .goto t => some (.goto t)
  | _ => none
theorem wp_jump {c : Code} {e : Exit} {Q : Exit → Act → World → Prop} {a : Act} {w : World} (hc : jumpOf c = some e) (h : Q e a w) : c.wpIn Fence.wide 0 P Q a w := by
  cases c <;> simp [jumpOf] at hc
  · subst hc; exact wpIn_exit h
  · subst hc; exact wpIn_goto h
  · subst hc; exact wpIn_ret h
/-- **The statement 'for .. := range g': rounds at xs, one by one.** -/
theorem wp_range {α ρ : Type} {g : Operand} {ps : Array Tmp} {assign body : Code} {Q : Exit → Act → World → Prop} {a : Act} {w : World} {gf : Nat} {lb : Array Value} (hg : a.eval g = .func (.func gf) #[] lb) (eg : ∀ args w, (callFunc gf args).run P w = .ok (.enter gf args) w)
    {enc : α → Array Value} {Kp : ρ → Nat → Prop} {Rv : ρ → World → World → Prop} {xs : List α} {w0 : World} (hseq : Iter P gf lb enc Kp Rv xs w0) (hb0 : Below w0.heap.size w0 w) (hps : ∀ x, (enc x).size = ps.size)
    (I : ρ → Nat → World → Prop) (X : ρ → Exit → Nat → World → Prop)
    (hI : ∀ r k W o, I r k W → w.heap.size + 1 < W.heap.size → I r k (W.putObj (w.heap.size + 1) o)) (hX : ∀ r e k W o, X r e k W → w.heap.size + 1 < W.heap.size → X r e k (W.putObj (w.heap.size + 1) o))
    (h0 : ∀ r W, w.heap.size + 2 ≤ W.heap.size → Below w.heap.size w W → (∃ L, Rv r ((w.alloc (.deferred (some []))).alloc L) W) → I r 0 W)
    (hround : ∀ (r : ρ) (k : Nat) (x : α) (W : World), xs[k]? = some x → I r k W → w.heap.size + 1 < W.heap.size → ∃ a₁ : Act,
      (∀ (W' : World) (K : Act → World → Prop), K a₁ W' → assign.wpIn (Fence.wide.inRound (w.heap.size + 1)) 0 P (Exit.then K (fun _ _ _ => False)) { tmps := (ps.zip (enc x)).foldl (fun t (p, v) => t.setIfInBounds p v) a.tmps, defers := [] } W') ∧
      body.wpIn (Fence.wide.inRound (w.heap.size + 1)) 0 P (RoundOk (w.heap.size + 1) w.heap.size (Kp r) (I r (k + 1)) (fun e W' => X r e (k + 1) W') W) a₁ W)
    (hdone : ∀ (r : ρ) (W : World), I r xs.length W → w.heap.size + 1 < W.heap.size → W.heap[w.heap.size]? = some (.deferred (some [])) → Q .normal { a with defers := { target := .collected w.heap.size, args := #[] } :: a.defers } W)
    (hstop : ∀ (r : ρ) (e : Exit) (k : Nat) (x : α) (W : World), xs[k]? = some x → X r e (k + 1) W → w.heap.size + 1 < W.heap.size → W.heap[w.heap.size]? = some (.deferred (some [])) → Q e { a with defers := { target := .collected w.heap.size, args := #[] } :: a.defers } W) :
    (Code.rangeFunc g ps assign body).wp P Q a w := by
  refine (wpIn_wide (n := 0)).1 (wpIn_rangeFunc ?_)
  intro fn hfn
  obtain ⟨rec, hrec⟩ : ∃ rec : LoopState → Option Code → Loop, rec = fun st pe => { state := st, pending := pe, fn, tmps := a.tmps, params := ps, assign, body, defers := w.heap.size } := ⟨_, rfl⟩
  obtain ⟨W1, hW1⟩ : ∃ W1, (w.alloc (.deferred (some []))).alloc (.loop (rec .ready none)) = W1 := ⟨_, rfl⟩
  have hsz1 : W1.heap.size = w.heap.size + 2 := by rw [← hW1]; simp
  have hL1 : W1.heap[w.heap.size + 1]? = some (.loop (rec .ready none)) := by
    rw [← hW1]; have := World.alloc_heap_new (w.alloc (.deferred (some []))) (.loop (rec .ready none)); rwa [World.size_alloc] at this
  have hK1 : W1.heap[w.heap.size]? = some (.deferred (some [])) := by
    rw [← hW1]; exact (Below.heap_alloc _ _ _ (by simp)).trans (World.alloc_heap_new w _)
  have hbw : Below w.heap.size w W1 := by rw [← hW1]; exact ((Below.refl _ w).alloc (Nat.le_refl _) _).alloc (by simp) _
  have hb1 : Below w0.heap.size w0 W1 := hb0.trans (hbw.mono hb0.size)
  refine ⟨w.heap.size + 1, [{ target := .collected w.heap.size, args := #[] }], W1, { target := .fn (.func gf) lb, args := #[.func (.yield (w.heap.size + 1)) #[] #[]] }, W1, gf,
    #[.func (.yield (w.heap.size + 1)) #[] #[]] ++ lb, W1, ?_, ?_, ?_, ?_, fun h => by simp [Fence.wide] at h, ?_⟩
  · rw [← hW1, hrec]; exact run_enterLoop_outer _ _ _ _ _
  · simp only [resolve, hg]
    simp [go_sem]
  · intro f' hf'; trivial
  · simp [invoke, go_sem, eg]
  · refine callsIn_wide.2 ((hseq (w.heap.size + 1)
      (fun r k W => I r k W ∧ W.heap[w.heap.size + 1]? = some (.loop (rec .ready none)) ∧ W.heap[w.heap.size]? = some (.deferred (some [])))
      (fun r k W => ∃ c e, jumpOf c = some e ∧ X r e k W ∧ W.heap[w.heap.size + 1]? = some (.loop (rec .done (some c))) ∧ W.heap[w.heap.size]? = some (.deferred (some [])))
      W1 hb1 (by have := hb0.size; omega) (by omega) ?_ ?_).mono ?_)
    · intro r W2 hb2 hr
      have hsz2 := hb2.size
      exact ⟨h0 r W2 (by omega) (hbw.trans (hb2.mono (by omega))) ⟨_, by rw [hW1]; exact hr⟩, (hb2.block _ (by omega)).trans hL1, (hb2.block _ (by omega)).trans hK1⟩
    · rintro r k x W hx ⟨hi, hl, hk⟩
      have hlt : w.heap.size + 1 < W.heap.size := (Array.getElem?_eq_some_iff.1 hl).1
      have hy := run_yield (P := P) (args := enc x) hl (by rw [hrec]; exact hps x)
      rw [hrec] at hy
      obtain ⟨a₁, hass, hbod⟩ := hround r k x (W.putObj (w.heap.size + 1) (.loop { rec .ready none with state := .busy })) hx (hI r k W _ hi hlt) (by simp; exact hlt)
      refine ⟨fn, _, assign, body, hy, roundIn_of_wpIn hfn (hass W _ ⟨_, run_beginRound hl (by rw [hrec]), ?_⟩)⟩
      have hl2 : (W.putObj (w.heap.size + 1) (.loop { rec .ready none with state := .busy })).heap[w.heap.size + 1]? = some (.loop { rec .ready none with state := .busy }) := World.putObj_heap_same hlt
      have hk2 : (W.putObj (w.heap.size + 1) (.loop { rec .ready none with state := .busy })).heap[w.heap.size]? = some (.deferred (some [])) := (World.putObj_heap_other (by omega)).trans hk
      refine wpIn_mono hbod ?_
      have fin : ∀ (jump : Option Code) (W3 : World), W3.heap[w.heap.size + 1]? = (W.putObj (w.heap.size + 1) (.loop { rec .ready none with state := .busy })).heap[w.heap.size + 1]? → W3.heap[w.heap.size]? = (W.putObj (w.heap.size + 1) (.loop { rec .ready none with state := .busy })).heap[w.heap.size]? →
          (Instr.endRound (w.heap.size + 1) jump).run P W3 = .ok (.bool jump.isNone) (W3.putObj (w.heap.size + 1) (.loop (rec (if jump.isNone then .ready else .done) jump))) ∧
          w.heap.size + 1 < W3.heap.size ∧
          (W3.putObj (w.heap.size + 1) (.loop (rec (if jump.isNone then .ready else .done) jump))).heap[w.heap.size + 1]? = some (.loop (rec (if jump.isNone then .ready else .done) jump)) ∧
          (W3.putObj (w.heap.size + 1) (.loop (rec (if jump.isNone then .ready else .done) jump))).heap[w.heap.size]? = some (.deferred (some [])) := fun jump W3 e1 e2 => by
        have hl3 := e1.trans hl2
        have := run_endRound (P := P) jump hl3
        have h3 := (Array.getElem?_eq_some_iff.1 hl3).1
        rw [hrec] at this ⊢
        exact ⟨this, h3, World.putObj_heap_same h3, (World.putObj_heap_other (by omega)).trans (e2.trans hk2)⟩
      rintro e a3 W3 hp
      cases e with
      | normal =>
        obtain ⟨⟨e1, e2, e3⟩, hi3⟩ := hp
        obtain ⟨hr, h3, hl4, hk4⟩ := fin none W3 e1 e2
        exact ⟨_, _, hr, .inl ⟨rfl, ⟨hI _ _ _ _ hi3 h3, hl4, hk4⟩, fun b hb hne => (World.putObj_heap_other hne).trans ((e3 b hb hne).trans (World.putObj_heap_other hne))⟩⟩
      | ret =>
        obtain ⟨⟨e1, e2⟩, hi3⟩ := hp
        obtain ⟨hr, h3, hl4, hk4⟩ := fin (some .ret) W3 e1 e2
        exact ⟨_, _, hr, .inr ⟨rfl, .ret, _, rfl, hX _ _ _ _ _ hi3 h3, hl4, hk4⟩⟩
      | exit id =>
        obtain ⟨⟨e1, e2⟩, hi3⟩ := hp
        obtain ⟨hr, h3, hl4, hk4⟩ := fin (some (.exit id)) W3 e1 e2
        exact ⟨_, _, hr, .inr ⟨rfl, .exit id, _, rfl, hX _ _ _ _ _ hi3 h3, hl4, hk4⟩⟩
      | goto t =>
        obtain ⟨⟨e1, e2⟩, hi3⟩ := hp
        obtain ⟨hr, h3, hl4, hk4⟩ := fin (some (.goto t)) W3 e1 e2
        exact ⟨_, _, hr, .inr ⟨rfl, .goto t, _, rfl, hX _ _ _ _ _ hi3 h3, hl4, hk4⟩⟩
      | panic ch => exact hp.elim
      | outgrown => exact hp.elim
    · rintro e W2 ⟨⟨v, rfl⟩, r, ⟨hi, hl, hk⟩ | ⟨k, x, hx, c, e, hc, hi, hl, hk⟩⟩
      · have hlt := (Array.getElem?_eq_some_iff.1 hl).1
        exact ⟨none, _, by have := run_endLoop (P := P) hl (by rw [hrec]; simp); rw [hrec] at this; exact this, hdone r _ (hI _ _ _ _ hi hlt) (by simp; exact hlt) ((World.putObj_heap_other (by omega)).trans hk)⟩
      · have hlt := (Array.getElem?_eq_some_iff.1 hl).1
        exact ⟨some c, _, by have := run_endLoop (P := P) hl (by rw [hrec]; simp); rw [hrec] at this; exact this, wp_jump hc (hstop r e k x _ hx (hX _ _ _ _ _ hi hlt) (by simp; exact hlt) ((World.putObj_heap_other (by omega)).trans hk))⟩
end
end Go.Proofs.YtlgkkolgdjgclaaGreat
/- Packages account, life, mask, weight: the small functions. -/
namespace Go.Proofs.YtlgkkolgdjgclaaGreat
open Go.RowKit
set_option linter.unusedVariables false
set_option linter.unusedSimpArgs false

theorem heap_a1 {w w' : World} {o1 : Obj} (hb : Below (w.alloc o1).heap.size (w.alloc o1) w') : w'.heap[w.heap.size]? = some o1 ∧ w.heap.size + 1 ≤ w'.heap.size ∧ Below w.heap.size w w' :=
  ⟨heap_below (heap_new w o1) hb, by have := hb.size; simp at this; omega, ((Below.refl _ _).alloc (Nat.le_refl _) _).trans (hb.mono (by simp))⟩
theorem heap_a2 {w w' : World} {o1 o2 : Obj} (hb : Below ((w.alloc o1).alloc o2).heap.size ((w.alloc o1).alloc o2) w') : w'.heap[w.heap.size]? = some o1 ∧ w'.heap[w.heap.size + 1]? = some o2 ∧ w.heap.size + 2 ≤ w'.heap.size ∧ Below w.heap.size w w' :=
  ⟨heap_below (heap_alloc (heap_new w o1) o2) hb, heap_below (heap_at (by simp) o2) hb, by have := hb.size; simp at this; omega, (((Below.refl _ _).alloc (Nat.le_refl _) _).alloc (by simp) _).trans (hb.mono (by simp; omega))⟩
theorem heap_a3 {w w' : World} {o1 o2 o3 : Obj} (hb : Below (((w.alloc o1).alloc o2).alloc o3).heap.size (((w.alloc o1).alloc o2).alloc o3) w') : w'.heap[w.heap.size]? = some o1 ∧ w'.heap[w.heap.size + 1]? = some o2 ∧ w'.heap[w.heap.size + 2]? = some o3 ∧ w.heap.size + 3 ≤ w'.heap.size ∧ Below w.heap.size w w' :=
  ⟨heap_below (heap_alloc (heap_alloc (heap_new w o1) o2) o3) hb, heap_below (heap_alloc (heap_at (by simp) o2) o3) hb, heap_below (heap_at (by simp) o3) hb, by have := hb.size; simp at this; omega, ((((Below.refl _ _).alloc (Nat.le_refl _) _).alloc (by simp) _).alloc (by simp; omega) _).trans (hb.mono (by simp; omega))⟩

theorem heap_drw {w : World} {g : Nat} {x : Obj} (h : w.heap[g]? = some x) : w.drew.heap[g]? = some x := h
theorem set4_below {B b : Nat} {w w1 : World} {v0 v1 v2 v3 : Value} (h : Below B w w1) (hB : B ≤ b) : Below B w ((((w1.setCell ⟨b, 0, none⟩ v0).setCell ⟨b, 1, none⟩ v1).setCell ⟨b, 2, none⟩ v2).setCell ⟨b, 3, none⟩ v3) :=
  (((h.setCell (p := ⟨b, 0, none⟩) hB _).setCell (p := ⟨b, 1, none⟩) hB _).setCell (p := ⟨b, 2, none⟩) hB _).setCell (p := ⟨b, 3, none⟩) hB _
theorem set4_heap {b : Nat} {w1 : World} {u0 u1 u2 u3 v0 v1 v2 v3 : Value} {T : TypeId} {fr : Nat × Nat} (h : w1.heap[b]? = some (.cells #[u0, u1, u2, u3] T fr)) : ((((w1.setCell ⟨b, 0, none⟩ v0).setCell ⟨b, 1, none⟩ v1).setCell ⟨b, 2, none⟩ v2).setCell ⟨b, 3, none⟩ v3).heap[b]? = some (.cells #[v0, v1, v2, v3] T fr) :=
  heap_set (heap_set (heap_set (heap_set h _) _) _) _

/-- An account. -/
structure Acn where
  q : Int
  p : Int
  l : Int
  f : Int
deriving DecidableEq, Inhabited
theorem Acn.eta (a : Acn) (q p l f : Int) : (a = ⟨q, p, l, f⟩) ↔ (a.q = q ∧ a.p = p ∧ a.l = l ∧ a.f = f) := by cases a; simp
namespace Acn
def vs (a : Acn) : Array Value := #[.int .i64 a.q, .int .i64 a.p, .int .i64 a.l, .int .i64 a.f]
def zero : Acn := ⟨0, 0, 0, 0⟩
def ok (a : Acn) : Prop := 1 ≤ a.q ∧ a.q ≤ 1073741824 ∧ 1 ≤ a.p ∧ a.p ≤ 1073741824 ∧ 0 ≤ a.l ∧ a.l ≤ a.q ∧ 0 ≤ a.f ∧ a.f < a.p
instance (a : Acn) : Decidable a.ok := by unfold ok; infer_instance
def good (a : Acn) : Bool := decide (a = zero ∨ a.ok)
def spent (a : Acn) : Bool := decide (a.ok ∧ a.l = 0)
def use (a : Acn) : Acn × Int := if a = zero then (a, 0) else if a.ok then (if a.l = 0 then (zero, 14) else ({ a with l := a.l - 1 }, 0)) else (zero, 1)
def tick (a : Acn) (n : Int) : Acn × Bool := if a.ok ∧ 0 < n then ({ a with f := (a.f + n) % a.p, l := if a.p - a.f ≤ n then a.q else a.l }, decide (a.p - a.f ≤ n)) else (a, false)
theorem ok_ne {a : Acn} (h : a.ok) : a ≠ zero := by rintro rfl; simp [ok, zero] at h
end Acn
set_option maxHeartbeats 400000 in
theorem AcGood (a : Acn) (w : World) : Calls Tryz.prog 68 #[.agg #[.int .i64 a.q, .int .i64 a.p, .int .i64 a.l, .int .i64 a.f]] w fun e w' => e = .returned (.bool a.good) ∧ Below w.heap.size w w' := by
  go_enter Tryz.func68, Tryz.ntmps68
  go_wp2
  all_goals (go_ret; refine ⟨ret_bool ?_, (Below.refl _ _).alloc (Nat.le_refl _) _⟩; simp only [Acn.good, Acn.ok, Acn.zero, Acn.eta, Bool.true_eq, Bool.false_eq, decide_eq_true_eq, decide_eq_false_iff_not]; simp_all; try omega)
set_option maxHeartbeats 400000 in
theorem AcFree (a : Acn) (w : World) : Calls Tryz.prog 70 #[.agg #[.int .i64 a.q, .int .i64 a.p, .int .i64 a.l, .int .i64 a.f]] w fun e w' => e = .returned (.bool (decide (a = Acn.zero))) ∧ Below w.heap.size w w' := by
  go_enter Tryz.func70, Tryz.ntmps70
  go_wp2
  all_goals (go_ret; refine ⟨ret_bool ?_, (Below.refl _ _).alloc (Nat.le_refl _) _⟩; simp only [Acn.zero, Acn.eta, Bool.true_eq, Bool.false_eq, decide_eq_true_eq, decide_eq_false_iff_not]; simp_all)
set_option maxHeartbeats 800000 in
theorem AcSpent (a : Acn) (w : World) (hg : a.good = true) : Calls Tryz.prog 69 #[.agg #[.int .i64 a.q, .int .i64 a.p, .int .i64 a.l, .int .i64 a.f]] w fun e w' => e = .returned (.bool a.spent) ∧ Below w.heap.size w w' := by
  have HG := Lib.hid (fun W => AcGood a W)
  have HF := Lib.hid (fun W => AcFree a W)
  rw [hg] at HG
  have Hg := Lib.hid hg
  clear hg
  by_cases hz : a = Acn.zero
  · have e : a.spent = false := by rw [hz]; decide
    have e2 : decide (a = Acn.zero) = true := decide_eq_true hz
    rw [e2] at HF
    rw [e]
    clear hz e e2
    go_enter Tryz.func69, Tryz.ntmps69
    go_wp2_with (first
      | (go_at_call 68; refine (HG.out _).mono ?_; rintro e w1 ⟨rfl, hb⟩; have HB := Lib.hid hb; have HX := Lib.hid (heap_below (heap_new w _) hb); obtain ⟨c0, c1, c2, c3, f0, f1, f2, f3, hlt⟩ := blk4 HX.out; clear hb)
      | (go_at_call 70; refine (HF.out _).mono ?_; rintro e w2 ⟨rfl, hb2⟩))
    go_ret
    exact ⟨rfl, ((Below.refl _ _).alloc (Nat.le_refl _) _).trans ((HB.out.mono (by simp)).trans (hb2.mono (by have := HB.out.size; simp at this; omega)))⟩
  · have hok : a.ok := by have := of_decide_eq_true Hg.out; exact this.resolve_left hz
    have e2 : decide (a = Acn.zero) = false := decide_eq_false hz
    rw [e2] at HF
    have e3 : a.spent = decide (a.l = 0) := by unfold Acn.spent; simp [hok]
    rw [e3]
    clear hz e2 e3 hok Hg
    go_enter Tryz.func69, Tryz.ntmps69
    go_wp2_with (first
      | (go_at_call 68; refine (HG.out _).mono ?_; rintro e w1 ⟨rfl, hb⟩; have HB := Lib.hid hb; have HX := Lib.hid (heap_below (heap_new w _) hb); obtain ⟨c0, c1, c2, c3, f0, f1, f2, f3, hlt⟩ := blk4 HX.out; clear hb)
      | (go_at_call 70; refine (HF.out _).mono ?_; rintro e w2 ⟨rfl, hb2⟩; have HB2 := Lib.hid hb2; have HX2 := Lib.hid (heap_below HX.out hb2); obtain ⟨c0, c1, c2, c3, f0, f1, f2, f3, hlt⟩ := blk4 HX2.out; clear hb2))
    all_goals (go_ret; refine ⟨ret_bool (by rw [Bool.eq_iff_iff]; simp_all), ((Below.refl _ _).alloc (Nat.le_refl _) _).trans ((HB.out.mono (by simp)).trans (HB2.out.mono (by have := HB.out.size; simp at this; omega)))⟩)
set_option maxHeartbeats 1600000 in
set_option maxRecDepth 100000 in
theorem AcUse (a : Acn) (w : World) (hg : a.good = true) : Calls Tryz.prog 47 #[.agg #[.int .i64 a.q, .int .i64 a.p, .int .i64 a.l, .int .i64 a.f]] w fun e w' => e = .returned (.tuple #[.agg #[.int .i64 a.use.1.q, .int .i64 a.use.1.p, .int .i64 a.use.1.l, .int .i64 a.use.1.f], .int .i64 a.use.2]) ∧ Below w.heap.size w w' := by
  have HG := Lib.hid (fun W => AcGood a W)
  have HF := Lib.hid (fun W => AcFree a W)
  have HS := Lib.hid (fun W => AcSpent a W hg)
  rw [hg] at HG
  have Hg := Lib.hid hg
  clear hg
  by_cases hz : a = Acn.zero
  · have e : a.spent = false := by rw [hz]; decide
    have e2 : decide (a = Acn.zero) = true := decide_eq_true hz
    have e3 : a.use = (a, 0) := by unfold Acn.use; rw [if_pos hz]
    rw [e2] at HF
    rw [e] at HS
    rw [e3]
    clear hz e e2 e3
    go_enter Tryz.func47, Tryz.ntmps47
    go_wp2_with (first
      | (go_at_call 68; refine (HG.out _).mono ?_; rintro e w1 ⟨rfl, hb⟩; obtain ⟨x0, x1, hs, hb2⟩ := heap_a2 hb; obtain ⟨c0, c1, c2, c3, f0, f1, f2, f3, hlt⟩ := blk4 x0; obtain ⟨d0, d1, d2, d3, g0, g1, g2, g3, glt⟩ := blk4 x1; have HX := Lib.hid x0; have HY := Lib.hid x1; have HB := Lib.hid hb2; clear hb x0 x1 hb2)
      | (go_at_call 69; refine (HS.out _).mono ?_; rintro e w2 ⟨rfl, hb⟩; have x0 := heap_below HX.out hb; have x1 := heap_below HY.out hb; obtain ⟨c0, c1, c2, c3, f0, f1, f2, f3, hlt⟩ := blk4 x0; obtain ⟨d0, d1, d2, d3, g0, g1, g2, g3, glt⟩ := blk4 x1; have HX := Lib.hid x0; have HY := Lib.hid x1; have HB := Lib.hid (HB.out.trans (hb.mono HB.out.size)); clear hb x0 x1)
      | (go_at_call 70; refine (HF.out _).mono ?_; rintro e w3 ⟨rfl, hb⟩; have x0 := heap_below HX.out hb; have x1 := heap_below HY.out hb; obtain ⟨c0, c1, c2, c3, f0, f1, f2, f3, hlt⟩ := blk4 x0; obtain ⟨d0, d1, d2, d3, g0, g1, g2, g3, glt⟩ := blk4 x1; have HX := Lib.hid x0; have HY := Lib.hid x1; have HB := Lib.hid (HB.out.trans (hb.mono HB.out.size)); clear hb x0 x1)
      )
    exact bodyPost_ret (res_ct _ _ (w.heap.size + 1) 87 #[.int .i64 a.q, .int .i64 a.p, .int .i64 a.l, .int .i64 a.f] (0, 0) _ rfl rfl (set4_heap HY.out) Tryz.underlying87 rfl (by kernel_rfl)) rfl ⟨rfl, set4_below HB.out (by omega)⟩
  · have hok : a.ok := by have := of_decide_eq_true Hg.out; exact this.resolve_left hz
    have e2 : decide (a = Acn.zero) = false := decide_eq_false hz
    rw [e2] at HF
    by_cases hl : a.l = 0
    · have e : a.spent = true := by unfold Acn.spent; simp [hok, hl]
      have e3 : a.use = (Acn.zero, 14) := by unfold Acn.use; rw [if_neg hz, if_pos hok, if_pos hl]
      rw [e] at HS
      rw [e3]
      clear hz e e2 e3 hok Hg hl
      go_enter Tryz.func47, Tryz.ntmps47
      go_wp2_with (first
        | (go_at_call 68; refine (HG.out _).mono ?_; rintro e w1 ⟨rfl, hb⟩; obtain ⟨x0, x1, hs, hb2⟩ := heap_a2 hb; obtain ⟨c0, c1, c2, c3, f0, f1, f2, f3, hlt⟩ := blk4 x0; obtain ⟨d0, d1, d2, d3, g0, g1, g2, g3, glt⟩ := blk4 x1; have HX := Lib.hid x0; have HY := Lib.hid x1; have HB := Lib.hid hb2; clear hb x0 x1 hb2)
        | (go_at_call 69; refine (HS.out _).mono ?_; rintro e w2 ⟨rfl, hb⟩; have x0 := heap_below HX.out hb; have x1 := heap_below HY.out hb; obtain ⟨c0, c1, c2, c3, f0, f1, f2, f3, hlt⟩ := blk4 x0; obtain ⟨d0, d1, d2, d3, g0, g1, g2, g3, glt⟩ := blk4 x1; have HX := Lib.hid x0; have HY := Lib.hid x1; have HB := Lib.hid (HB.out.trans (hb.mono HB.out.size)); clear hb x0 x1)
        | (go_at_call 70; refine (HF.out _).mono ?_; rintro e w3 ⟨rfl, hb⟩; have x0 := heap_below HX.out hb; have x1 := heap_below HY.out hb; obtain ⟨c0, c1, c2, c3, f0, f1, f2, f3, hlt⟩ := blk4 x0; obtain ⟨d0, d1, d2, d3, g0, g1, g2, g3, glt⟩ := blk4 x1; have HX := Lib.hid x0; have HY := Lib.hid x1; have HB := Lib.hid (HB.out.trans (hb.mono HB.out.size)); clear hb x0 x1)
        )
      exact bodyPost_ret (res_ct _ _ (w.heap.size + 1) 87 #[.int .i64 0, .int .i64 0, .int .i64 0, .int .i64 0] (0, 0) _ rfl rfl (set4_heap HY.out) Tryz.underlying87 rfl (by kernel_rfl)) rfl ⟨rfl, set4_below HB.out (by omega)⟩
    · have e : a.spent = false := by unfold Acn.spent; simp [hok, hl]
      have e3 : a.use = ({ a with l := a.l - 1 }, 0) := by unfold Acn.use; rw [if_neg hz, if_pos hok, if_neg hl]
      have hw : IntKind.i64.wrap (a.l - 1) = a.l - 1 := IntWalk.i64_in _ (by unfold Acn.ok at hok; omega)
      rw [e] at HS
      rw [e3]
      clear hz e e2 e3 hok Hg
      go_enter Tryz.func47, Tryz.ntmps47
      go_wp2_with (first
        | (go_at_call 68; refine (HG.out _).mono ?_; rintro e w1 ⟨rfl, hb⟩; obtain ⟨x0, x1, hs, hb2⟩ := heap_a2 hb; obtain ⟨c0, c1, c2, c3, f0, f1, f2, f3, hlt⟩ := blk4 x0; obtain ⟨d0, d1, d2, d3, g0, g1, g2, g3, glt⟩ := blk4 x1; have HX := Lib.hid x0; have HY := Lib.hid x1; have HB := Lib.hid hb2; clear hb x0 x1 hb2)
        | (go_at_call 69; refine (HS.out _).mono ?_; rintro e w2 ⟨rfl, hb⟩; have x0 := heap_below HX.out hb; have x1 := heap_below HY.out hb; obtain ⟨c0, c1, c2, c3, f0, f1, f2, f3, hlt⟩ := blk4 x0; obtain ⟨d0, d1, d2, d3, g0, g1, g2, g3, glt⟩ := blk4 x1; have HX := Lib.hid x0; have HY := Lib.hid x1; have HB := Lib.hid (HB.out.trans (hb.mono HB.out.size)); clear hb x0 x1)
        | (go_at_call 70; refine (HF.out _).mono ?_; rintro e w3 ⟨rfl, hb⟩; have x0 := heap_below HX.out hb; have x1 := heap_below HY.out hb; obtain ⟨c0, c1, c2, c3, f0, f1, f2, f3, hlt⟩ := blk4 x0; obtain ⟨d0, d1, d2, d3, g0, g1, g2, g3, glt⟩ := blk4 x1; have HX := Lib.hid x0; have HY := Lib.hid x1; have HB := Lib.hid (HB.out.trans (hb.mono HB.out.size)); clear hb x0 x1)
        )
      exact bodyPost_ret (res_ct _ _ (w.heap.size + 1) 87 #[.int .i64 a.q, .int .i64 a.p, .int .i64 (a.l - 1), .int .i64 a.f] (0, 0) _ rfl rfl (set4_heap (heap_set_ne HY.out (by simp) _)) Tryz.underlying87 rfl (by kernel_rfl)) rfl ⟨rfl, set4_below (HB.out.setCell (p := ⟨w.heap.size, 2, none⟩) (Nat.le_refl _) _) (by omega)⟩
end Go.Proofs.YtlgkkolgdjgclaaGreat
/- Packages life, mask, weight: what they tell. -/
namespace Go.Proofs.YtlgkkolgdjgclaaGreat
open Go.RowKit
set_option linter.unusedVariables false
set_option linter.unusedSimpArgs false

/-- What a task becomes. -/
def nextL (s a : Int) : Int × Int :=
  if s < 0 ∨ 6 < s ∨ a < 1 ∨ 8 < a then (0, 1)
  else if a = 1 ∧ s = 1 ∨ a = 3 ∧ s = 3 ∨ a = 5 ∧ s = 4 ∨ a = 7 ∧ s = 5 then (2, 0)
  else if a = 2 ∧ s = 2 then (3, 0)
  else if a = 4 ∧ (s = 2 ∨ s = 3 ∨ s = 5) then (4, 0)
  else if a = 6 ∧ (s = 2 ∨ s = 3) then (5, 0)
  else if a = 8 ∧ 1 ≤ s ∧ s ≤ 5 then (6, 0)
  else (0, 4)
set_option maxHeartbeats 400000 in
theorem Waits_any (s : Int) (w : World) : Calls Tryz.prog 93 #[.int .i64 s] w fun e w' => e = .returned (.bool (decide (s = 2 ∨ s = 3))) ∧ w = w' := by
  go_enter Tryz.func93, Tryz.ntmps93
  go_wp2
  all_goals (go_ret; exact ⟨ret_bool (by rw [Bool.eq_iff_iff]; simp_all), rfl⟩)
set_option maxHeartbeats 1600000 in
set_option maxRecDepth 100000 in
theorem Next_any (s a : Int) (w : World) (h : (s = 1 ∨ s = 2 ∨ s = 4 ∨ s = 5) ∧ (a = 1 ∨ a = 4 ∨ a = 5 ∨ a = 6 ∨ a = 7 ∨ a = 8)) : Calls Tryz.prog 75 #[.int .i64 s, .int .i64 a] w fun e w' => e = .returned (.tuple #[.int .i64 (nextL s a).1, .int .i64 (nextL s a).2]) ∧ w = w' := by
  have HW := Lib.hid (fun s W => Waits_any s W)
  obtain ⟨rfl | rfl | rfl | rfl, rfl | rfl | rfl | rfl | rfl | rfl⟩ := h
  all_goals
    go_enter Tryz.func75, Tryz.ntmps75
    go_wp2_with (go_at_call 93; refine (HW.out _ _).mono ?_; rintro e w1 ⟨rfl, rfl⟩)
    go_ret2
    exact ⟨rfl, rfl⟩
set_option maxHeartbeats 400000 in
theorem WGood_any (x : Int) (w : World) : Calls Tryz.prog 53 #[.int .i64 x] w fun e w' => e = .returned (.bool (decide (1 ≤ x ∧ x ≤ 20))) ∧ w = w' := by
  go_enter Tryz.func53, Tryz.ntmps53
  go_wp2
  all_goals (go_ret; exact ⟨ret_bool (by simp_all; try omega), rfl⟩)
theorem wraps_u16 (n : Int) (h₀ : 0 ≤ n) (h₁ : n < 2 ^ 16) : IntKind.u16.wrap n = n := by rw [IntKind.wrap_u16]; omega
theorem and1_u16 (x : Int) (h₀ : 0 ≤ x) (h₁ : x < 65536) : bits .and .u16 x 1 = x % 2 := by
  have := bits_mask .u16 16 (by decide) wraps_u16 1 (by decide) x h₀ (by simpa using h₁)
  simpa using this
theorem sh_u16 (m : Int) (k : Nat) (h : 0 ≤ m ∧ m < 65536) : 0 ≤ m / 2 ^ k ∧ m / 2 ^ k < 65536 := by
  have hp : (0 : Int) < 2 ^ k := Int.pow_pos (by decide)
  exact ⟨Int.ediv_nonneg h.1 (Int.le_of_lt hp), Int.lt_of_le_of_lt (Int.ediv_le_self _ h.1) h.2⟩
/-- A set of cores has one. -/
def hasM (m c : Int) : Bool := decide (0 ≤ c ∧ c < 16 ∧ m / 2 ^ c.toNat % 2 = 1)
def goodM (m n : Int) : Bool := decide (1 ≤ n ∧ n ≤ 16 ∧ m ≠ 0 ∧ m / 2 ^ n.toNat = 0)
set_option maxHeartbeats 400000 in
theorem MHas_any (m c : Int) (w : World) (hm : 0 ≤ m ∧ m < 65536) : Calls Tryz.prog 111 #[.int .u16 m, .int .i64 c] w fun e w' => e = .returned (.bool (hasM m c)) ∧ w = w' := by
  have hb : bits .and .u16 (m / 2 ^ c.toNat) 1 = m / 2 ^ c.toNat % 2 := and1_u16 _ (sh_u16 m _ hm).1 (sh_u16 m _ hm).2
  unfold hasM
  go_enter Tryz.func111, Tryz.ntmps111
  go_wp2
  all_goals (go_ret; refine ⟨ret_bool (by rw [Bool.eq_iff_iff]; simp_all; try omega), rfl⟩)
set_option maxHeartbeats 400000 in
theorem MGood_any (m n : Int) (w : World) (hm : 0 ≤ m ∧ m < 65536) : Calls Tryz.prog 54 #[.int .u16 m, .int .i64 n] w fun e w' => e = .returned (.bool (goodM m n)) ∧ w = w' := by
  unfold goodM
  go_enter Tryz.func54, Tryz.ntmps54
  go_wp2
  all_goals (go_ret; refine ⟨ret_bool (by rw [Bool.eq_iff_iff]; simp_all; try omega), rfl⟩)
end Go.Proofs.YtlgkkolgdjgclaaGreat
/- Package groups: a tree in memory; its calls. -/
namespace Go.Proofs.YtlgkkolgdjgclaaGreat
open Go.RowKit Go.Shelf
attribute [local go_sem] Oper.semAt_some wide_fn wide_depth
set_option linter.unusedVariables false
set_option linter.unusedSimpArgs false

theorem cells_get {w : World} {g i : Nat} {cs : Array Value} {T : TypeId} {v : Value} (h : w.heap[g]? = some (.cells cs T (0, 0))) (hv : cs[i]? = some v) : w.cell? ⟨g, i, none⟩ = some v ∧ w.frozen? ⟨g, i, none⟩ = false := by
  refine ⟨?_, ?_⟩ <;> simp [World.cell?, World.frozen?, h, hv]
/-- Groups, by what stands above each: they are there from 0 on. -/
def grpCells (ups : List Int) : List Value := flat (fun i : Nat => [.bool (decide (i < ups.length)), .int .i64 (ups.getD i 0)]) (List.range 16)
theorem grp_at (ups : List Int) {i : Nat} (hi : i < 16) : (grpCells ups)[i * 2 + 0]? = some (.bool (decide (i < ups.length))) ∧ (grpCells ups)[i * 2 + 1]? = some (.int .i64 (ups.getD i 0)) := by
  have hx : (List.range 16)[i]? = some i := by simp [hi]
  exact ⟨flat_get (k := 2) (fun _ => rfl) _ i i hx 0 _ rfl, flat_get (k := 2) (fun _ => rfl) _ i i hx 1 _ rfl⟩
theorem grp_size (ups : List Int) : (grpCells ups).length = 32 := flat_length (k := 2) (fun _ => rfl) _
structure GrpM (w : World) (g : Nat) (ups : List Int) : Prop where
  cell : w.heap[g]? = some (.cells (grpCells ups).toArray 137 (0, 0))
  n1 : 1 ≤ ups.length
  n16 : ups.length ≤ 16
  top : ups.head? = some (-1)
  up : ∀ (i : Nat) (u : Int), 0 < i → ups[i]? = some u → 0 ≤ u ∧ u < i
theorem GrpM.lt {w : World} {g : Nat} {ups : List Int} (h : GrpM w g ups) : g < w.heap.size := (Array.getElem?_eq_some_iff.1 h.cell).1
theorem GrpM.at {w : World} {g : Nat} {ups : List Int} (h : GrpM w g ups) {i : Nat} (hi : i < 16) :
    w.cell? ⟨g, i * 2, none⟩ = some (.bool (decide (i < ups.length))) ∧ w.cell? ⟨g, i * 2 + 1, none⟩ = some (.int .i64 (ups.getD i 0)) ∧ w.frozen? ⟨g, i * 2, none⟩ = false ∧ w.frozen? ⟨g, i * 2 + 1, none⟩ = false := by
  obtain ⟨h1, h2⟩ := grp_at ups hi
  obtain ⟨a1, a2⟩ := cells_get h.cell (i := i * 2) (by simpa using h1)
  obtain ⟨b1, b2⟩ := cells_get h.cell (i := i * 2 + 1) (v := .int .i64 (ups.getD i 0)) (by simpa using h2)
  exact ⟨a1, b1, a2, b2⟩
theorem GrpM.below {w w' : World} {g : Nat} {ups : List Int} (h : GrpM w g ups) (hb : Below w.heap.size w w') : GrpM w' g ups := ⟨heap_below h.cell hb, h.n1, h.n16, h.top, h.up⟩
theorem GrpM.fr {F : Nat → Prop} {w w' : World} {g : Nat} {ups : List Int} (h : GrpM w g ups) (hf : Fr F w w') (hn : ¬ F g) : GrpM w' g ups := ⟨heap_fr h.cell hf hn, h.n1, h.n16, h.top, h.up⟩
def hasG (ups : List Int) (id : Int) : Bool := decide (0 ≤ id ∧ id < ups.length)
theorem GrpM.upl {w : World} {g : Nat} {ups : List Int} (h : GrpM w g ups) {m : Nat} (hm : m < ups.length) (hh : hasG ups (ups.getD m 0) = true) : 0 ≤ ups.getD m 0 ∧ ups.getD m 0 < m := by
  have e : ups[m]? = some (ups.getD m 0) := by rw [List.getD_eq_getElem?_getD, List.getElem?_eq_getElem hm]; rfl
  rcases Nat.eq_zero_or_pos m with rfl | h0
  · have ht := h.top
    rw [List.head?_eq_getElem?, e] at ht
    simp only [Option.some.injEq] at ht
    rw [ht] at hh
    simp [hasG] at hh
  · exact h.up m _ h0 e
set_option maxHeartbeats 800000 in
theorem GHas {w : World} {g : Nat} {ups : List Int} (h : GrpM w g ups) (id : Int) : Calls Tryz.prog 67 #[.pointer (some ⟨g, 0, none⟩), .int .i64 id] w fun e w' => e = .returned (.bool (hasG ups id)) ∧ w = w' := by
  have hn := h.n16
  unfold hasG
  by_cases h0 : 0 ≤ id
  · by_cases h1 : id < 16
    · obtain ⟨k, rfl⟩ : ∃ k : Nat, id = k := ⟨id.toNat, by omega⟩
      obtain ⟨c0, c1, f0, f1⟩ := h.at (i := k) (by omega)
      have hlt := h.lt
      clear h
      go_enter Tryz.func67, Tryz.ntmps67
      go_wp2
      go_ret
      exact ⟨by simp, rfl⟩
    · have e : decide (0 ≤ id ∧ id < (ups.length : Int)) = false := by simp; omega
      rw [e]
      clear e h
      go_enter Tryz.func67, Tryz.ntmps67
      go_wp2
      go_ret
      exact ⟨rfl, rfl⟩
  · have e : decide (0 ≤ id ∧ id < (ups.length : Int)) = false := by simp; omega
    rw [e]
    clear e h
    go_enter Tryz.func67, Tryz.ntmps67
    go_wp2
    go_ret
    exact ⟨rfl, rfl⟩
theorem GPath (g : Nat) (id : Int) (w : World) : Calls Tryz.prog 46 #[.pointer (some ⟨g, 0, none⟩), .int .i64 id] w fun e w' => e = .returned (.func (.func 66) #[] #[.pointer (some ⟨w.heap.size + 1, 0, none⟩), .pointer (some ⟨w.heap.size, 0, none⟩)]) ∧
    w' = (w.alloc (.cells #[.pointer (some ⟨g, 0, none⟩)] 85)).alloc (.cells #[.int .i64 id] 3) := by
  go_enter Tryz.func46, Tryz.ntmps46
  go_wp2
  go_ret
  exact ⟨rfl, rfl⟩
/-- The way up. -/
def pathF (ups : List Int) : Nat → Int → List Nat
  | 0, _ => []
  | f + 1, id => if hasG ups id = true then id.toNat :: pathF ups f (ups.getD id.toNat 0) else []
def pathG (ups : List Int) (id : Int) : List Nat := pathF ups 17 id
theorem pathF_mem {ups : List Int} : ∀ (f : Nat) (id : Int) (x : Nat), x ∈ pathF ups f id → x < ups.length
  | 0, id, x, h => by simp [pathF] at h
  | f + 1, id, x, h => by
    unfold pathF at h
    split at h
    · rename_i hh
      rcases List.mem_cons.1 h with rfl | h
      · simp [hasG] at hh; omega
      · exact pathF_mem f _ x h
    · cases h
theorem pathF_len {ups : List Int} : ∀ (f : Nat) (id : Int), (pathF ups f id).length ≤ f
  | 0, id => by simp [pathF]
  | f + 1, id => by
    unfold pathF
    split
    · have := pathF_len (ups := ups) f (ups.getD id.toNat 0)
      simp only [List.length_cons]; omega
    · simp
def left17 (ups : List Int) (a : Int) : Nat := bif hasG ups a then a.toNat + 1 else 0
theorem left17_lt {ups : List Int} {m : Nat} (hm : hasG ups m = true) (hu : hasG ups (ups.getD m 0) = true → 0 ≤ ups.getD m 0 ∧ ups.getD m 0 < m) : left17 ups (ups.getD m 0) < left17 ups m := by
  unfold left17
  rw [hm]
  cases h : hasG ups (ups.getD m 0) with
  | true => have := hu h; simp only [cond_true]; omega
  | false => simp
set_option maxHeartbeats 1600000 in
set_option maxRecDepth 100000 in
theorem GPathIter {w : World} {g bi bg : Nat} {ups : List Int} (h : GrpM w g ups) (id : Int) (hi : w.heap[bi]? = some (.cells #[.int .i64 id] 3 (0, 0))) (hg : w.heap[bg]? = some (.cells #[.pointer (some ⟨g, 0, none⟩)] 85 (0, 0))) :
    Iter Tryz.prog 66 #[.pointer (some ⟨bi, 0, none⟩), .pointer (some ⟨bg, 0, none⟩)] (fun x : Nat => #[.int .i64 x]) (fun (_ : Unit) b => b = bi ∨ b = bg ∨ b = g) (fun _ W W1 => W1 = W) (pathG ups id) w := by
  intro l J Jx W hW hl1 hl2 hst hY
  have hbi := (Array.getElem?_eq_some_iff.1 hi).1
  have hbg := (Array.getElem?_eq_some_iff.1 hg).1
  have hgl := h.lt
  have h0 := hst () W (Below.refl _ _) rfl
  obtain ⟨c0, f0, l0⟩ := blk1 (heap_below hi hW)
  obtain ⟨c1, f1, l1⟩ := blk1 (heap_below hg hW)
  have HG := Lib.hid (h.below hW)
  have HI := Lib.hid (heap_below hi hW)
  have HB := Lib.hid (heap_below hg hW)
  have HY := Lib.hid hY
  clear hY hst hi hg h
  refine (callsIn_wide (n := 0)).1 (callsIn_of_wp Tryz.func66 rfl trivial ?_ rfl)
  simp only [ Tryz.ntmps66, List.size_toArray, List.length_cons, List.length_nil, Nat.reduceAdd, Nat.reduceSub, Array.replicate_succ, Array.replicate_zero, List.push_toArray, List.append_toArray, List.nil_append, List.cons_append]
  gi_wp2
  gi_loopw [4] (fun t wr => ∃ (k f : Nat) (at' : Int), t = .int .i64 at' ∧ (pathG ups id).drop k = pathF ups f at' ∧ (hasG ups at' = true → at' < f) ∧ k ≤ (pathG ups id).length ∧ J () k wr ∧ wr.heap[bi]? = some (.cells #[.int .i64 id] 3 (0, 0)) ∧ wr.heap[bg]? = some (.cells #[.pointer (some ⟨g, 0, none⟩)] 85 (0, 0)) ∧ GrpM wr g ups)
    (fun t wr => left17 ups (intOf t))
  case atStart => exact ⟨0, 17, id, rfl, rfl, fun hh => by have := HG.out.n16; simp [hasG] at hh; omega, Nat.zero_le _, h0, HI.out, HB.out, HG.out⟩
  case round =>
    obtain ⟨k, f, a', rfl, hd, hf, hk, hJ, ri, rg, hG⟩ := hrel
    obtain ⟨c0, f0, l0⟩ := blk1 ri
    obtain ⟨c1, f1, l1⟩ := blk1 rg
    have HHas := Lib.hid (GHas hG a')
    cases hh : hasG ups a' with
    | true =>
      have hlf := hf hh
      rw [hh] at HHas
      have hh2 := hh
      simp only [hasG, decide_eq_true_eq] at hh2
      obtain ⟨m, rfl⟩ : ∃ m : Nat, a' = m := ⟨a'.toNat, by omega⟩
      obtain ⟨f, rfl⟩ : ∃ f' : Nat, f = f' + 1 := ⟨f - 1, by omega⟩
      have hn16 := hG.n16
      have hpf : pathF ups (f + 1) m = m :: pathF ups f (ups.getD m 0) := by rw [pathF, if_pos hh]; rfl
      rw [hpf] at hd
      have hx : (pathG ups id)[k]? = some m := by
        have := congrArg (fun l => l[0]?) hd
        simpa using this
      have hd2 : (pathG ups id).drop (k + 1) = pathF ups f (ups.getD m 0) := by
        have := congrArg (List.drop 1) hd
        simpa using this
      have hkl : k < (pathG ups id).length := (List.getElem?_eq_some_iff.1 hx).1
      obtain ⟨fn, tmps, assign, body, hy, hR⟩ := HY.out () k m wr hx hJ
      have HR := Lib.hid hR
      have HX := Lib.hid hx
      have HU := Lib.hid (fun h => hG.upl (m := m) (by omega) h)
      have Hh := Lib.hid hh
      have HD := Lib.hid hd2
      have HG := Lib.hid hG
      have Hri := Lib.hid ri
      have Hrg := Lib.hid rg
      clear hR hd2 hd hpf hx hG ri rg hf
      gi_wp2_with (gi_at_call 67; refine (callsIn_wide.2 HHas.out).mono ?_; rintro e w1 ⟨rfl, rfl⟩)
      refine HR.out.mono ?_
      rintro e W3 (⟨rfl, hJ3, hk3⟩ | ⟨rfl, hJx3⟩)
      · have ri3 := (hk3 bi (.inl rfl) (by omega)).trans Hri.out
        have rg3 := (hk3 bg (.inr (.inl rfl)) (by omega)).trans Hrg.out
        have hG3 : GrpM W3 g ups := ⟨(hk3 g (.inr (.inr rfl)) (by omega)).trans HG.out.cell, HG.out.n1, HG.out.n16, HG.out.top, HG.out.up⟩
        obtain ⟨c0, f0, l0⟩ := blk1 ri3
        obtain ⟨c1, f1, l1⟩ := blk1 rg3
        obtain ⟨-, d1, -, e1⟩ := hG3.at (i := m) (by omega)
        have Hri := Lib.hid ri3
        have Hrg := Lib.hid rg3
        have HG := Lib.hid hG3
        clear ri3 rg3 hG3 hk3
        gi_wp2
        go_roundw
        case rel =>
          refine ⟨k + 1, f, _, rfl, ?_, ?_, hkl, hJ3, Hri.out, Hrg.out, HG.out⟩
          · simpa using HD.out
          · intro h3; have := HU.out h3; simp only [List.getD_eq_getElem?_getD] at this ⊢; omega
        case measure =>
          have h4 := left17_lt Hh.out HU.out
          simpa [intOf] using h4
      · gi_wp2
        refine bodyPost_ret (results_none rfl _ _ _) rfl ?_
        exact ⟨⟨_, rfl⟩, (), .inr ⟨k, m, HX.out, hJx3⟩⟩
    | false =>
      rw [hh] at HHas
      have hd2 : pathF ups f a' = [] := by cases f <;> simp [pathF, hh]
      rw [hd2] at hd
      obtain rfl : k = (pathG ups id).length := by have := List.drop_eq_nil_iff.1 hd; omega
      clear hd hd2 hG ri rg hf
      gi_wp2_with (gi_at_call 67; refine (callsIn_wide.2 HHas.out).mono ?_; rintro e w1 ⟨rfl, rfl⟩)
      go_end0
      exact ⟨⟨_, rfl⟩, (), .inl hJ⟩
set_option maxHeartbeats 1600000 in
set_option maxRecDepth 100000 in
theorem GDepth {w : World} {g : Nat} {ups : List Int} (h : GrpM w g ups) (id : Int) : Calls Tryz.prog 55 #[.pointer (some ⟨g, 0, none⟩), .int .i64 id] w fun e w' => e = .returned (.int .i64 (pathG ups id).length) ∧ Below w.heap.size w w' := by
  have HG := Lib.hid h
  clear h
  refine (callsIn_wide (n := 0)).1 (callsIn_of_wp_marks Tryz.func55 rfl trivial ?_ rfl)
  simp only [ Tryz.ntmps55, List.size_toArray, List.length_cons, List.length_nil, Nat.reduceAdd, Nat.reduceSub, Array.replicate_succ, Array.replicate_zero, List.push_toArray, List.append_toArray, List.nil_append, List.cons_append]
  refine wpIn_wide.2 ?_
  go_wp2_with (go_at_call 46; refine (GPath _ _ _).mono ?_; rintro e w1 ⟨rfl, rfl⟩)
  have hlen : (pathG ups id).length ≤ 17 := pathF_len 17 id
  obtain ⟨w3, hw3⟩ : ∃ w3, (((w.alloc (.cells #[.int .i64 0] 3)).alloc (.cells #[.pointer (some ⟨g, 0, none⟩)] 85)).alloc (.cells #[.int .i64 id] 3)) = w3 := ⟨_, rfl⟩
  rw [hw3]
  obtain ⟨x0, x1, x2, hs3, hb3⟩ := heap_a3 (w := w) (Below.refl _ _)
  have e3 : w3.heap.size = w.heap.size + 3 := by rw [← hw3]; simp
  rw [hw3] at x0 x1 x2 hb3
  clear hs3 hw3
  have hgl := HG.out.lt
  refine wp_range rfl (enters_of Tryz.func66 (by kernel_rfl) rfl) (GPathIter (HG.out.below hb3) id x2 x1) (Below.refl _ _) (fun _ => rfl)
    (fun _ k W => W.heap[w.heap.size]? = some (.cells #[.int .i64 (k : Int)] 3 (0, 0)) ∧ Below w.heap.size w W) (fun _ _ _ _ => False) ?hI (fun _ _ _ _ _ h _ => h) ?h0 ?round ?done (fun _ _ _ _ _ _ h _ _ => h.elim)
  case hI => exact fun r k W o h hl => ⟨(World.putObj_heap_other (by omega)).trans h.1, Below.putObj h.2 (by omega) _⟩
  case h0 => exact fun r W hs hb _ => ⟨heap_below x0 hb, hb3.trans (hb.mono (by omega))⟩
  case round =>
    rintro r k x W hx ⟨hc, hb⟩ hl
    refine ⟨_, fun W' K hK => by gi_wp2; exact hK, ?_⟩
    obtain ⟨c0, f0, l0⟩ := blk1 hc
    have hk : k < (pathG ups id).length := (List.getElem?_eq_some_iff.1 hx).1
    have hw : IntKind.i64.wrap ((k : Int) + 1) = (k : Int) + 1 := IntWalk.i64_in _ (by omega)
    gi_wp2
    exact ⟨⟨Below.heap_setCell _ _ _ _ (by simp; omega), Below.heap_setCell _ _ _ _ (by simp; omega), fun b hb' hne => Below.heap_setCell _ _ _ _ (by simp only; omega)⟩, by rw [Int.natCast_succ]; exact heap_set hc _, hb.setCell (Nat.le_refl _) _⟩
  case done =>
    rintro r W ⟨hc, hb⟩ hl hK
    obtain ⟨c0, f0, l0⟩ := blk1 hc
    go_wp2
    refine ⟨by simp, .inl ⟨_, _, rfl, run_takeDeferred hK, ?_⟩⟩
    exact ⟨_, results_tmp rfl _ _ _, rfl, Below.putObj hb (by omega) _⟩
end Go.Proofs.YtlgkkolgdjgclaaGreat
/- Package groups: New, Add, All. -/
namespace Go.Proofs.YtlgkkolgdjgclaaGreat
open Go.RowKit Go.Shelf
set_option linter.unusedVariables false
set_option linter.unusedSimpArgs false

set_option maxHeartbeats 800000 in
set_option maxRecDepth 100000 in
theorem GNew (w : World) : Calls Tryz.prog 50 #[] w fun e w' => e = .returned (.pointer (some ⟨w.heap.size, 0, none⟩)) ∧ GrpM w' w.heap.size [-1] ∧ Below w.heap.size w w' ∧ w'.heap.size = w.heap.size + 1 := by
  go_enter Tryz.func50, Tryz.ntmps50
  go_wp2
  go_ret
  refine ⟨rfl, ⟨heap_new w _, by decide, by decide, rfl, fun i u h0 h1 => ?_⟩, (Below.refl _ _).alloc (Nat.le_refl _) _, by simp⟩
  rw [List.getElem?_eq_none (by simp; omega)] at h1
  cases h1
theorem GrpM.rng {w : World} {g : Nat} {ups : List Int} (h : GrpM w g ups) : w.rangeAt g 0 (grpCells ups) := fun j v hv => by
  rw [Nat.zero_add]
  exact (cells_get h.cell (by simpa using hv)).1
theorem grp_push (ups : List Int) (up : Int) (hn : ups.length < 16) : (((grpCells ups).toArray.setIfInBounds (ups.length * 2) (.bool true)).setIfInBounds (ups.length * 2 + 1) (.int .i64 up)) = (grpCells (ups ++ [up])).toArray := by
  have hs := grp_size ups
  have hs2 := grp_size (ups ++ [up])
  refine Array.ext_getElem? fun j => ?_
  by_cases hj : j < 32
  · obtain ⟨i, hi, hij⟩ : ∃ i, i < 16 ∧ (j = i * 2 + 0 ∨ j = i * 2 + 1) := ⟨j / 2, by omega, by omega⟩
    obtain ⟨a0, a1⟩ := grp_at ups hi
    obtain ⟨b0, b1⟩ := grp_at (ups ++ [up]) hi
    rw [Array.getElem?_setIfInBounds, Array.getElem?_setIfInBounds]
    simp only [List.getElem?_toArray, List.size_toArray, hs, Array.size_setIfInBounds]
    rcases hij with rfl | rfl
    · rw [b0, a0]
      by_cases h : ups.length = i
      · subst h
        simp only [List.length_append, List.length_cons, List.length_nil]
        rw [if_neg (by omega), if_pos (by omega), if_pos (by omega)]
        simp
      · rw [if_neg (by omega), if_neg (by omega)]
        simp only [List.length_append, List.length_cons, List.length_nil]
        congr 2
        rw [decide_eq_decide]; omega
    · rw [b1, a1]
      by_cases h : ups.length = i
      · subst h
        rw [if_pos (by omega), if_pos (by omega)]
        simp
      · rw [if_neg (by omega), if_neg (by omega)]
        simp only [List.getD_eq_getElem?_getD]
        by_cases h2 : i < ups.length
        · rw [List.getElem?_append_left h2]
        · rw [List.getElem?_eq_none (by omega), List.getElem?_eq_none (by simp; omega)]
  · rw [Array.getElem?_eq_none (by simp [hs]; omega), Array.getElem?_eq_none (by simp [hs2]; omega)]
theorem GrpM.push {w w' : World} {g : Nat} {ups : List Int} {up : Int} (h : GrpM w g ups) (hu : hasG ups up = true) (hn : ups.length < 16)
    (hc : w'.heap[g]? = some (.cells (((grpCells ups).toArray.setIfInBounds (ups.length * 2) (.bool true)).setIfInBounds (ups.length * 2 + 1) (.int .i64 up)) 137 (0, 0))) : GrpM w' g (ups ++ [up]) := by
  have h1 := h.n1
  simp only [hasG, decide_eq_true_eq] at hu
  refine ⟨by rw [hc, grp_push ups up hn], by simp, by simp; omega, ?_, fun i u h0 hi => ?_⟩
  · rw [List.head?_append, h.top]; rfl
  · by_cases hl : i < ups.length
    · rw [List.getElem?_append_left hl] at hi; exact h.up i u h0 hi
    · have : i < (ups ++ [up]).length := (List.getElem?_eq_some_iff.1 hi).1
      simp at this
      obtain rfl : i = ups.length := by omega
      simp at hi
      omega
set_option maxRecDepth 100000 in
theorem grp_index (ups : List Int) (k : Nat) (hk : k < 16) (W : World) : (Instr.index 135 (.agg (grpCells ups).toArray) (.int .i64 k)).run Tryz.prog W = .ok (.agg #[.bool (decide (k < ups.length)), .int .i64 (ups.getD k 0)]) W := by
  obtain rfl | rfl | rfl | rfl | rfl | rfl | rfl | rfl | rfl | rfl | rfl | rfl | rfl | rfl | rfl | rfl : k = 0 ∨ k = 1 ∨ k = 2 ∨ k = 3 ∨ k = 4 ∨ k = 5 ∨ k = 6 ∨ k = 7 ∨ k = 8 ∨ k = 9 ∨ k = 10 ∨ k = 11 ∨ k = 12 ∨ k = 13 ∨ k = 14 ∨ k = 15 := by omega
  all_goals kernel_rfl
theorem grp_info (ups : List Int) : ((Tryz.prog).info? 135).map (·.size) = some (grpCells ups).length := by rw [grp_size]; kernel_rfl
end Go.Proofs.YtlgkkolgdjgclaaGreat
/- Package groups: All; slices of numbers. -/
namespace Go.Proofs.YtlgkkolgdjgclaaGreat
open Go.RowKit Go.Shelf
set_option linter.unusedVariables false
set_option linter.unusedSimpArgs false

def rangeI (n : Nat) : List Int := (List.range n).map fun i : Nat => (i : Int)
theorem rangeI_len (n : Nat) : (rangeI n).length = n := by simp [rangeI]
theorem rangeI_succ (n : Nat) : rangeI (n + 1) = rangeI n ++ [(n : Int)] := by simp [rangeI, List.range_succ]
/-- A slice of numbers of one's own. -/
def IntsPost (w : World) (l : List Int) (e : Ending) (w' : World) : Prop :=
  ∃ a c, e = .returned (.slice a l.length c) ∧ w'.ownsRow w.heap.size 3 1 (.slice a l.length c) l.length (l.map (Value.int .i64)) ∧ Below w.heap.size w w'
theorem int_info : ((Tryz.prog).info? 3).map (fun i => (i.zero, i.size, i.bytes)) = some (some (.int .i64 0), 1, 8) := by kernel_rfl
end Go.Proofs.YtlgkkolgdjgclaaGreat
/- Package slots: names in memory; its calls. -/
namespace Go.Proofs.YtlgkkolgdjgclaaGreat
open Go.RowKit Go.Shelf
attribute [local go_sem] Oper.semAt_some wide_fn wide_depth
set_option linter.unusedVariables false
set_option linter.unusedSimpArgs false

/-- A place: its next turn, and whether it is taken. -/
structure Plc where
  turn : Int
  taken : Bool
deriving DecidableEq, Inhabited
def Plc.enc (p : Plc) : List Value := [.int .i64 p.turn, .bool p.taken]
theorem Plc.len (p : Plc) : p.enc.length = 2 := rfl
/-- The names that are given out, from place i on. -/
def namesF : Nat → List Plc → List Int
  | _, [] => []
  | i, p :: t => if p.taken = true then ((i : Int) + 64 * (p.turn - 1)) :: namesF (i + 1) t else namesF (i + 1) t
def namesL (l : List Plc) : List Int := namesF 0 l
theorem namesF_append : ∀ (i : Nat) (a b : List Plc), namesF i (a ++ b) = namesF i a ++ namesF (i + a.length) b
  | i, [], b => by simp [namesF]
  | i, p :: a, b => by
    simp only [List.cons_append, namesF, namesF_append (i + 1) a b, List.length_cons]
    have e : i + 1 + a.length = i + (a.length + 1) := by omega
    rw [e]
    split <;> rfl
theorem namesF_len : ∀ (i : Nat) (l : List Plc), (namesF i l).length ≤ l.length
  | i, [] => by simp [namesF]
  | i, p :: t => by
    unfold namesF
    have := namesF_len (i + 1) t
    split <;> simp only [List.length_cons] <;> omega
theorem names_take {l : List Plc} {k : Nat} {p : Plc} (h : l[k]? = some p) : namesL (l.take (k + 1)) = namesL (l.take k) ++ (if p.taken = true then [(k : Int) + 64 * (p.turn - 1)] else []) := by
  obtain ⟨hk, e⟩ := List.getElem?_eq_some_iff.1 h
  unfold namesL
  rw [List.take_succ_eq_append_getElem hk, namesF_append, e, List.length_take]
  simp only [namesF]
  have e2 : 0 + min k l.length = k := by omega
  rw [e2]
structure SltM (w : World) (sl pl : Nat) (l : List Plc) : Prop where
  top : w.heap[sl]? = some (.cells #[.slice (some ⟨pl, 0, none⟩) 64 64] 145 (0, 0))
  cell : w.heap[pl]? = some (.cells (flat Plc.enc l).toArray 149 (0, 0))
  len : l.length = 64
  turn : ∀ p ∈ l, 0 ≤ p.turn ∧ p.turn ≤ 1000000000
section
variable {w w' : World} {sl pl : Nat} {l : List Plc}
theorem SltM.at (h : SltM w sl pl l) {k : Nat} {p : Plc} (hp : l[k]? = some p) :
    w.cell? ⟨pl, k * 2, none⟩ = some (.int .i64 p.turn) ∧ w.cell? ⟨pl, k * 2 + 1, none⟩ = some (.bool p.taken) ∧ w.frozen? ⟨pl, k * 2, none⟩ = false ∧ w.frozen? ⟨pl, k * 2 + 1, none⟩ = false := by
  have h1 := flat_get Plc.len l k p hp 0 _ rfl
  have h2 := flat_get Plc.len l k p hp 1 _ rfl
  obtain ⟨a1, a2⟩ := cells_get h.cell (i := k * 2) (by simpa using h1)
  obtain ⟨b1, b2⟩ := cells_get h.cell (i := k * 2 + 1) (by simpa using h2)
  exact ⟨a1, b1, a2, b2⟩
theorem SltM.lt (h : SltM w sl pl l) : sl < w.heap.size ∧ pl < w.heap.size := ⟨(Array.getElem?_eq_some_iff.1 h.top).1, (Array.getElem?_eq_some_iff.1 h.cell).1⟩
theorem SltM.below (h : SltM w sl pl l) (hb : Below w.heap.size w w') : SltM w' sl pl l := ⟨heap_below h.top hb, heap_below h.cell hb, h.len, h.turn⟩
theorem SltM.fr {F : Nat → Prop} (h : SltM w sl pl l) (hf : Fr F w w') (h1 : ¬ F sl) (h2 : ¬ F pl) : SltM w' sl pl l := ⟨heap_fr h.top hf h1, heap_fr h.cell hf h2, h.len, h.turn⟩
theorem SltM.ne (h : SltM w sl pl l) : sl ≠ pl := by
  rintro rfl
  have h1 := h.top
  rw [h.cell] at h1
  have hs : (flat Plc.enc l).length = l.length * 2 := flat_length Plc.len l
  simp only [Option.some.injEq, Obj.cells.injEq] at h1
  have := congrArg Array.size h1.1
  simp [hs, h.len] at this
end
/-- A name's place is taken, and by it. -/
def hasS (l : List Plc) (id : Int) : Bool := match l[(id % 64).toNat]? with
  | some p => decide (0 ≤ id) && p.taken && decide (p.turn - 1 = id / 64)
  | none => false
end Go.Proofs.YtlgkkolgdjgclaaGreat
/- Package slots: New, Take, Free, List, All. -/
namespace Go.Proofs.YtlgkkolgdjgclaaGreat
open Go.RowKit Go.Shelf
attribute [local go_sem] Oper.semAt_some wide_fn wide_depth
set_option linter.unusedVariables false
set_option linter.unusedSimpArgs false

theorem flat_set2 (l : List Plc) {k : Nat} {p q : Plc} (hk : l[k]? = some p) : (((flat Plc.enc l).toArray.setIfInBounds (k * 2) (.int .i64 q.turn)).setIfInBounds (k * 2 + 1) (.bool q.taken)) = (flat Plc.enc (l.set k q)).toArray := by
  obtain ⟨hkl, rfl⟩ := List.getElem?_eq_some_iff.1 hk
  have e1 : l = l.take k ++ l[k] :: l.drop (k + 1) := by rw [List.getElem_cons_drop, List.take_append_drop]
  have e2 : l.set k q = l.take k ++ q :: l.drop (k + 1) := List.set_eq_take_append_cons_drop .. |>.trans (by rw [if_pos hkl])
  have hs : (flat Plc.enc (l.take k)).length = k * 2 := by rw [flat_length (k := 2) Plc.len, List.length_take, Nat.min_eq_left (by omega)]
  have e3 : flat Plc.enc l = flat Plc.enc (l.take k) ++ ([.int .i64 l[k].turn, .bool l[k].taken] ++ flat Plc.enc (l.drop (k + 1))) := by
    conv => lhs; rw [e1]
    rw [flat_append]; rfl
  have e4 : flat Plc.enc (l.set k q) = flat Plc.enc (l.take k) ++ ([.int .i64 q.turn, .bool q.taken] ++ flat Plc.enc (l.drop (k + 1))) := by
    rw [e2, flat_append]; rfl
  rw [e3, e4]
  simp only [List.setIfInBounds_toArray]
  congr 1
  rw [List.set_append_right _ _ (by omega), List.set_append_right _ _ (by omega), hs]
  simp
theorem flat_set_same {l : List Plc} {k : Nat} {p : Plc} {b : Bool} (hk : l[k]? = some p) : (flat Plc.enc l).toArray.setIfInBounds (k * 2 + 1) (.bool b) = (((flat Plc.enc l).toArray.setIfInBounds (k * 2) (.int .i64 p.turn)).setIfInBounds (k * 2 + 1) (.bool b)) := by
  have h1 := flat_get Plc.len l k p hk 0 _ rfl
  congr 1
  refine Array.ext_getElem? fun i => ?_
  rw [Array.getElem?_setIfInBounds]
  split
  · rename_i e; subst e
    obtain ⟨hl, e⟩ := List.getElem?_eq_some_iff.1 h1
    rw [if_pos (by simpa using hl)]
    simpa using h1
  · rfl
theorem slt_set {w w' : World} {sl pl : Nat} {l : List Plc} {k : Nat} {p q : Plc} (h : SltM w sl pl l) (hk : l[k]? = some p) (hq : 0 ≤ q.turn ∧ q.turn ≤ 1000000000) (ht : w'.heap[sl]? = w.heap[sl]?)
    (hc : w'.heap[pl]? = some (.cells (((flat Plc.enc l).toArray.setIfInBounds (k * 2) (.int .i64 q.turn)).setIfInBounds (k * 2 + 1) (.bool q.taken)) 149 (0, 0))) : SltM w' sl pl (l.set k q) := by
  refine ⟨ht.trans h.top, ?_, by rw [List.length_set]; exact h.len, fun x hx => ?_⟩
  · rw [hc, flat_set2 l hk]
  · rcases List.mem_or_eq_of_mem_set hx with hx | rfl
    · exact h.turn x hx
    · exact hq
set_option maxRecDepth 100000 in
theorem plc_made : madeCells (Value.agg #[.int .i64 0, .bool false]).cells (Int.toNat 64 * 2) = (flat Plc.enc (List.replicate 64 ⟨0, false⟩)).toArray := by
  refine Array.ext' ?_
  rw [madeCells, Array.toList_map, Array.toList_range]
  rfl
theorem plc_info : ((Tryz.prog).info? 149).map (fun i => (i.zero, i.size, i.bytes)) = some (some (.agg #[.int .i64 0, .bool false]), 2, 16) := by kernel_rfl
set_option maxHeartbeats 1600000 in
set_option maxRecDepth 100000 in
theorem SNew (w : World) : Calls Tryz.prog 51 #[.int .i64 64] w fun e w' => e = .returned (.pointer (some ⟨w.heap.size + 1, 0, none⟩)) ∧ SltM w' (w.heap.size + 1) w.heap.size (List.replicate 64 ⟨0, false⟩) ∧ Below w.heap.size w w' ∧ w'.heap.size = w.heap.size + 2 := by
  have hmk : ∀ W : World, (Instr.makeSlice 143 (.int .i64 64) (.int .i64 64)).run Tryz.prog W = .ok (.slice (some ⟨W.heap.size, 0, none⟩) 64 64) (W.alloc (.cells (flat Plc.enc (List.replicate 64 ⟨0, false⟩)).toArray 149)) := fun W => by
    obtain ⟨i0, hi0, hz0, hz1, hz2⟩ := info_parts plc_info
    have := run_makeSlice (P := Tryz.prog) W 143 149 i0 _ Tryz.underlying143 hi0 hz0 .i64 .i64 64 64 (by decide) (by decide) (by rw [hz1]; decide) (by rw [hz2]; decide) (by decide)
    rw [this, hz1, plc_made]
    rfl
  have h64 : 0 ≤ (64 : Int) := by decide
  go_enter Tryz.func51, Tryz.ntmps51
  go_wp2
  go_ret
  refine ⟨rfl, ⟨heap_at (by simp) _, heap_alloc (heap_new _ _) _, by simp, fun p hp => ?_⟩, ((Below.refl _ _).alloc (Nat.le_refl _) _).alloc (by simp) _, by simp⟩
  rw [(List.mem_replicate.1 hp).2]; decide
/-- The first place that is not taken. -/
def freeAt (l : List Plc) : Option Nat := l.findIdx? fun p => !p.taken
set_option maxHeartbeats 1600000 in
set_option maxRecDepth 100000 in
theorem STake {w : World} {sl pl : Nat} {l : List Plc} (h : SltM w sl pl l) {i : Nat} {p : Plc} (hp : l[i]? = some p) (ht : p.taken = false) (hb : ∀ j q, j < i → l[j]? = some q → q.taken = true) (hpt : p.turn < 1000000000) : Calls Tryz.prog 56 #[.pointer (some ⟨sl, 0, none⟩)] w fun e w' => e = .returned (.tuple #[.int .i64 (i + 64 * p.turn), .int .i64 0]) ∧ SltM w' sl pl (l.set i ⟨p.turn + 1, true⟩) ∧ Fr (fun k => k = pl) w w' := by
  have H := Lib.hid h
  have HPp := Lib.hid hp
  have HBf := Lib.hid hb
  have hil : i < 64 := by have := (List.getElem?_eq_some_iff.1 hp).1; rw [h.len] at this; exact this
  obtain ⟨t0, tf, tl⟩ := blk1 h.top
  have hpl := h.lt.2
  have hpt0 := h.turn p (List.mem_of_getElem? hp)
  clear hp hb
  go_enter Tryz.func56, Tryz.ntmps56
  go_wp2_with fail
  go_loopw [11] (fun ix wr => ∃ k : Nat, k ≤ i ∧ ix = .int .i64 k ∧ wr = w) (fun ix _ => i - (intOf ix).toNat)
  case atStart => exact ⟨0, Nat.zero_le _, rfl, rfl⟩
  case round =>
    obtain ⟨k, hk, rfl, rfl⟩ := hrel
    have hk64 : (k : Int) < 64 := by omega
    have hk0 : (0 : Int) ≤ k := by omega
    by_cases hlt : k < i
    · obtain ⟨q, hq⟩ : ∃ q, l[k]? = some q := ⟨_, List.getElem?_eq_getElem (by rw [H.out.len]; omega)⟩
      obtain ⟨c0, c1, f0, f1⟩ := H.out.at hq
      rw [HBf.out k q hlt hq] at c1
      clear hq
      go_wp2_with fail
      go_roundw
      case rel => exact ⟨k + 1, hlt, by go_num, by first | trivial | rfl⟩
      case measure => simp [intOf]; omega
    · obtain rfl : k = i := by omega
      obtain ⟨c0, c1, f0, f1⟩ := H.out.at HPp.out
      rw [ht] at c1
      have hw1 : IntKind.i64.wrap (p.turn + 1) = p.turn + 1 := IntWalk.i64_in _ (by omega)
      have hw2 : IntKind.i64.wrap (64 * p.turn) = 64 * p.turn := IntWalk.i64_in _ (by omega)
      have hw3 : IntKind.i64.wrap (k + 64 * p.turn) = k + 64 * p.turn := IntWalk.i64_in _ (by omega)
      go_wp2_with fail
      go_ret2
      refine ⟨rfl, slt_set (q := ⟨p.turn + 1, true⟩) H.out HPp.out (by simp only; omega) ?_ ?_, ((Fr.refl (fun k => k = pl) _).setCell (p := ⟨pl, _, none⟩) (fun _ => rfl) _).setCell (p := ⟨pl, _, none⟩) (fun _ => rfl) _⟩
      · rw [Below.heap_setCell _ _ _ _ H.out.ne, Below.heap_setCell _ _ _ _ H.out.ne]
      · rw [heap_set (heap_set H.out.cell _) _, Array.setIfInBounds_comm _ _ (by omega)]
set_option maxHeartbeats 1600000 in
set_option maxRecDepth 100000 in
theorem STake_full {w : World} {sl pl : Nat} {l : List Plc} (h : SltM w sl pl l) (hb : ∀ q ∈ l, q.taken = true) : Calls Tryz.prog 56 #[.pointer (some ⟨sl, 0, none⟩)] w fun e w' => e = .returned (.tuple #[.int .i64 0, .int .i64 3]) ∧ w = w' := by
  have H := Lib.hid h
  have HBf := Lib.hid hb
  obtain ⟨t0, tf, tl⟩ := blk1 h.top
  have hpl := h.lt.2
  clear hb h
  go_enter Tryz.func56, Tryz.ntmps56
  go_wp2_with fail
  go_loopw [11] (fun ix wr => ∃ k : Nat, k ≤ 64 ∧ ix = .int .i64 k ∧ wr = w) (fun ix _ => 64 - (intOf ix).toNat)
  case atStart => exact ⟨0, Nat.zero_le _, rfl, rfl⟩
  case round =>
    obtain ⟨k, hk, rfl, rfl⟩ := hrel
    have hk0 : (0 : Int) ≤ k := by omega
    by_cases hlt : k < 64
    · have hk64 : (k : Int) < 64 := by omega
      obtain ⟨q, hq⟩ : ∃ q, l[k]? = some q := ⟨_, List.getElem?_eq_getElem (by rw [H.out.len]; omega)⟩
      obtain ⟨c0, c1, f0, f1⟩ := H.out.at hq
      rw [HBf.out q (List.mem_of_getElem? hq)] at c1
      clear hq
      go_wp2_with fail
      go_roundw
      case rel => exact ⟨k + 1, hlt, by go_num, by first | trivial | rfl⟩
      case measure => simp [intOf]; omega
    · have hk64 : ¬ (k : Int) < 64 := by omega
      clear hlt hk
      go_wp2_with fail
      go_ret2
      exact ⟨rfl, rfl⟩
set_option maxHeartbeats 1600000 in
set_option maxRecDepth 100000 in
theorem SList {w : World} {sl pl : Nat} {l : List Plc} (h : SltM w sl pl l) : Calls Tryz.prog 106 #[.pointer (some ⟨sl, 0, none⟩)] w (IntsPost w (namesL l)) := by
  obtain ⟨i0, hi0, hz0, hz1, hz2⟩ := info_parts int_info
  have H := Lib.hid h
  obtain ⟨t0, tf, tl⟩ := blk1 h.top
  have hpl := h.lt.2
  clear h
  go_enter Tryz.func106, Tryz.ntmps106
  go_wp2_with fail
  go_loopw [11, 3] (fun ix sx wr => ∃ (j k : Nat) (va : Option Addr) (vc : Nat), j ≤ 64 ∧ k = (namesL (l.take j)).length ∧ ix = .int .i64 j ∧ sx = .slice va k vc ∧ Below w.heap.size w wr ∧ wr.ownsRow w.heap.size 3 1 (.slice va k vc) k ((namesL (l.take j)).map (Value.int .i64))) (fun ix _ _ => 64 - (intOf ix).toNat)
  case atStart => exact ⟨0, 0, none, 0, Nat.zero_le _, rfl, rfl, rfl, Below.refl _ _, World.ownsRow_nil _ _ _ _⟩
  case round =>
    obtain ⟨j, k, va, vc, hj, hk, rfl, rfl, hb, hown⟩ := hrel
    have hsz := hb.size
    have Hown := Lib.hid hown
    have Hb := Lib.hid hb
    have Hk := Lib.hid hk
    have hk64 : k ≤ 64 := by
      rw [hk]; refine Nat.le_trans (namesF_len _ _) ?_
      rw [List.length_take]; omega
    have hj0 : (0 : Int) ≤ j := by omega
    by_cases hlt : j < 64
    · have hj64 : (j : Int) < 64 := by omega
      obtain ⟨p, hp⟩ : ∃ p, l[j]? = some p := ⟨_, List.getElem?_eq_getElem (by rw [H.out.len]; omega)⟩
      obtain ⟨c0, c1, f0, f1⟩ := (H.out.below hb).at hp
      have hne : pl ≠ wr.heap.size := by omega
      have hpt := H.out.turn p (List.mem_of_getElem? hp)
      have hnt := Lib.hid (names_take hp)
      have hw1 : IntKind.i64.wrap (p.turn - 1) = p.turn - 1 := IntWalk.i64_in _ (by omega)
      have hw2 : IntKind.i64.wrap (64 * (p.turn - 1)) = 64 * (p.turn - 1) := IntWalk.i64_in _ (by omega)
      have hw3 : IntKind.i64.wrap (j + 64 * (p.turn - 1)) = j + 64 * (p.turn - 1) := IntWalk.i64_in _ (by omega)
      cases htk : p.taken with
      | true =>
        rw [htk] at c1
        rw [htk, if_pos rfl] at hnt
        clear hown hb hk hp htk
        have Hown := Lib.hid (Hown.out.alloc (.cells #[.int .i64 p.turn, .bool true] 149))
        go_wp2_with (first
          | (at_builtin; go_loud (refine wpList_append_lies _ (by rfl) _ _ _ (by rfl) w.heap.size 3 i0 _ 1 8 Tryz.underlying22 hi0 hz0 hz1 hz2 rfl (by omega) (.slice va k vc) k _ (by rfl) (Hown.out.alloc _) ⟨wr.heap.size + 1, 0, none⟩ 1 1 [.int .i64 (j + 64 * (p.turn - 1))] (by rfl) (by rfl) (World.news_of_block (cs := #[.int .i64 (j + 64 * (p.turn - 1))]) (t := 3) (fr := (0, 0)) (heap_at (by simp) _)) (by simp [Value.oneCell']) (by omega) (by unfold maxLen; omega) (by omega) (by simp; omega) (wr.heap.size + 2) (by simp) ?_); intro gg cap w1 hown1 hgrow hat hltg; have hfr1 : Fr (fun q => (Value.slice va k vc).ownBlock = some q) wr w1 := ((((Fr.refl _ wr).alloc _)).alloc _).trans (Fr.of_grown hgrow) (fun _ _ h => h); have q4 := Lib.hid hown1; clear hat hgrow hown1)
          )
        go_roundw
        case rel =>
          have hov := Hown.out.lt
          refine ⟨j + 1, k + 1, _, _, by omega, by rw [hnt.out, List.length_append, ← Hk.out]; rfl, by go_num, rfl, ?_, ?_⟩
          · exact Hb.out.trans (hfr1.below hsz fun k' hk' => (hov _ hk').1)
          · have := q4.out
            rw [hnt.out, List.map_append]
            exact this
        case measure => simp [intOf]; omega
      | false =>
        rw [htk] at c1
        rw [htk] at hnt
        simp only [Bool.false_eq_true, if_false, List.append_nil] at hnt
        clear hown hb hk hp htk
        go_wp2_with fail
        go_roundw
        case rel => exact ⟨j + 1, k, va, vc, hlt, by rw [hnt.out]; exact Hk.out, by go_num, rfl, Hb.out.alloc (by omega) _, by rw [hnt.out]; exact Hown.out.alloc _⟩
        case measure => simp [intOf]; omega
    · have hge : ¬ (j : Int) < 64 := by omega
      have e1 : l.take j = l := List.take_of_length_le (by rw [H.out.len]; omega)
      have ek : k = (namesL l).length := by rw [← e1]; exact hk
      rw [e1] at Hown
      clear hown hb hk hj hlt hk64 Hk
      go_wp2_with fail
      go_ret
      refine ⟨va, vc, by rw [← ek]; rfl, by rw [← ek]; exact Hown.out, Hb.out⟩
theorem SAll (sl : Nat) (w : World) : Calls Tryz.prog 88 #[.pointer (some ⟨sl, 0, none⟩)] w fun e w' => e = .returned (.func (.func 105) #[] #[.pointer (some ⟨w.heap.size, 0, none⟩)]) ∧
    w' = w.alloc (.cells #[.pointer (some ⟨sl, 0, none⟩)] 89) := by
  go_enter Tryz.func88, Tryz.ntmps88
  go_wp2
  go_ret
  exact ⟨rfl, rfl⟩
end Go.Proofs.YtlgkkolgdjgclaaGreat
/- Packages slots, mask: All, as iterators. -/
namespace Go.Proofs.YtlgkkolgdjgclaaGreat
open Go.RowKit Go.Shelf
attribute [local go_sem] Oper.semAt_some wide_fn wide_depth
set_option linter.unusedVariables false
set_option linter.unusedSimpArgs false

def int1 (x : Int) : List Value := [.int .i64 x]
theorem int1_len (x : Int) : (int1 x).length = 1 := rfl
theorem flat_int (l : List Int) : flat int1 l = l.map (Value.int .i64) := by
  induction l with
  | nil => rfl
  | cons x t ih => simp only [flat, List.flatMap_cons, List.map_cons] at ih ⊢; rw [ih]; rfl
theorem Sl.keep {α : Type} {enc : α → List Value} {k : Nat} {w w' : World} {a : Option Addr} {l : List α} (h : Sl enc k w a l) (hk : ∀ p, a = some p → w'.heap[p.block]? = w.heap[p.block]?) : Sl enc k w' a l := fun hl => by
  obtain ⟨r, off, rfl, hr, hc⟩ := h hl
  have e := hk ⟨r, off, none⟩ rfl
  refine ⟨r, off, rfl, ?_, fun j x hj i u hi => ?_⟩
  · rw [Array.getElem?_eq_getElem hr] at e
    exact (Array.getElem?_eq_some_iff.1 e).1
  · rw [World.cell?_of_block (w := w) (a := ⟨r, off + j * k + i, none⟩) e]
    exact hc j x hj i u hi
set_option maxHeartbeats 1600000 in
set_option maxRecDepth 100000 in
theorem SAllIter {w : World} {sl pl bs : Nat} {l : List Plc} (h : SltM w sl pl l) (hs : w.heap[bs]? = some (.cells #[.pointer (some ⟨sl, 0, none⟩)] 89 (0, 0))) :
    Iter Tryz.prog 105 #[.pointer (some ⟨bs, 0, none⟩)] (fun x : Int => #[.int .i64 x]) (fun (r : Option Addr) b => ∃ p, r = some p ∧ b = p.block) (fun r W W1 => ∀ p, r = some p → W.heap.size ≤ p.block ∧ p.block < W1.heap.size) (namesL l) w := by
  intro lp J Jx W hW hl1 hl2 hst hY
  obtain ⟨c0, f0, l0⟩ := blk1 (heap_below hs hW)
  have HL := Lib.hid (SList (h.below hW))
  have HY := Lib.hid hY
  have HS := Lib.hid hst
  have hlen : (namesL l).length ≤ 64 := Nat.le_trans (namesF_len _ _) (by rw [h.len]; exact Nat.le_refl _)
  clear hY hst hs h
  generalize namesL l = xs at HY hlen HL ⊢
  refine (callsIn_wide (n := 0)).1 (callsIn_of_wp Tryz.func105 rfl trivial ?_ rfl)
  simp only [ Tryz.ntmps105, List.size_toArray, List.length_cons, List.length_nil, Nat.reduceAdd, Nat.reduceSub, Array.replicate_succ, Array.replicate_zero, List.push_toArray, List.append_toArray, List.nil_append, List.cons_append]
  gi_wp2_with (gi_at_call 106; refine (callsIn_wide.2 HL.out).mono ?_; rintro e w1 ⟨a, c, rfl, hown, hb1⟩)
  have hov := hown.lt
  have HSl := Lib.hid (Sl.of_own int1_len (l := xs) (by rw [flat_int]; exact hown))
  have hJ0 := HS.out a w1 hb1 (fun p hp => by
    subst hp
    exact hov _ rfl)
  have hne : ∀ p, a = some p → p.block ≠ lp := fun p hp e => by
    subst hp
    have := (hov _ rfl).1
    omega
  generalize hn : xs.length = n at hlen
  have Hn := Lib.hid hn
  have Hne := Lib.hid hne
  clear hn hown hov HL hne HS
  gi_wp2
  gi_loopw [8] (fun ix wr => ∃ k : Nat, k ≤ n ∧ ix = .int .i64 k ∧ J a k wr ∧ Sl int1 1 wr a xs) (fun ix _ => n - (intOf ix).toNat)
  case atStart => exact ⟨0, Nat.zero_le _, rfl, hJ0, HSl.out⟩
  case round =>
    obtain ⟨k, hk, rfl, hJ, hSl⟩ := hrel
    have hk0 : (0 : Int) ≤ k := by omega
    by_cases hlt : k < n
    · have hkn : (k : Int) < n := by omega
      obtain ⟨x, hx⟩ : ∃ x, xs[k]? = some x := ⟨_, List.getElem?_eq_getElem (by rw [Hn.out]; exact hlt)⟩
      obtain ⟨r, off, rfl, hrl, hcc⟩ := hSl (by intro h0; rw [h0] at hx; simp at hx)
      have e0 := hcc k x hx 0 _ rfl
      simp only [Nat.mul_one, Nat.add_zero] at e0
      obtain ⟨fn, tmps, assign, body, hy, hR⟩ := HY.out (some ⟨r, off, none⟩) k x wr hx hJ
      have HR := Lib.hid hR
      have HX := Lib.hid hx
      have HSl := Lib.hid hSl
      clear hR hx hSl hcc
      gi_wp2
      refine HR.out.mono ?_
      rintro e W3 (⟨rfl, hJ3, hk3⟩ | ⟨rfl, hJx3⟩)
      · have hS3 := HSl.out.keep (w' := W3) (fun p hp => hk3 p.block ⟨p, hp, rfl⟩ (Hne.out p hp))
        gi_wp2
        go_roundw
        case rel => exact ⟨k + 1, hlt, by go_num, hJ3, hS3⟩
        case measure => simp [intOf]; omega
      · gi_wp2
        refine bodyPost_ret (results_none rfl _ _ _) rfl ?_
        exact ⟨⟨_, rfl⟩, some ⟨r, off, none⟩, .inr ⟨k, x, HX.out, hJx3⟩⟩
    · obtain rfl : k = n := by omega
      gi_wp2
      refine bodyPost_end (results_none rfl _ _ _) rfl ?_
      exact ⟨⟨_, rfl⟩, a, .inl (by rw [Hn.out]; exact hJ)⟩
/-- The cores of a set, rising. -/
def coresM (m : Int) : List Nat := (List.range 16).filter fun c : Nat => hasM m c
def cntM (p : Nat → Bool) (k : Nat) : Nat := ((List.range k).filter p).length
theorem cnt_at {p : Nat → Bool} {k : Nat} (hp : p k = true) : ∀ n : Nat, k < n → ((List.range n).filter p)[cntM p k]? = some k
  | 0, h => by omega
  | n + 1, h => by
    rw [List.range_succ, List.filter_append]
    by_cases hk : k < n
    · have ih := cnt_at hp n hk
      have hl := (List.getElem?_eq_some_iff.1 ih).1
      rw [List.getElem?_append_left hl]; exact ih
    · obtain rfl : k = n := by omega
      unfold cntM
      rw [List.getElem?_append_right (Nat.le_refl _)]
      simp [hp]
theorem cnt_succ (p : Nat → Bool) (k : Nat) : cntM p (k + 1) = cntM p k + (if p k = true then 1 else 0) := by
  unfold cntM
  rw [List.range_succ, List.filter_append, List.length_append]
  cases h : p k <;> simp [h]
theorem MAll (m : Int) (w : World) : Calls Tryz.prog 94 #[.int .u16 m] w fun e w' => e = .returned (.func (.func 110) #[] #[.pointer (some ⟨w.heap.size, 0, none⟩)]) ∧
    w' = w.alloc (.cells #[.int .u16 m] 74) := by
  go_enter Tryz.func94, Tryz.ntmps94
  go_wp2
  go_ret
  exact ⟨rfl, rfl⟩
set_option maxHeartbeats 1600000 in
set_option maxRecDepth 100000 in
theorem MAllIter {w : World} {bm : Nat} (m : Int) (hm : 0 ≤ m ∧ m < 65536) (hs : w.heap[bm]? = some (.cells #[.int .u16 m] 74 (0, 0))) :
    Iter Tryz.prog 110 #[.pointer (some ⟨bm, 0, none⟩)] (fun x : Nat => #[.int .i64 x]) (fun (_ : Unit) b => b = bm) (fun _ W W1 => W1 = W) (coresM m) w := by
  intro lp J Jx W hW hl1 hl2 hst hY
  have hbm := (Array.getElem?_eq_some_iff.1 hs).1
  have HS := Lib.hid (heap_below hs hW)
  have h0 := hst () W (Below.refl _ _) rfl
  have HY := Lib.hid hY
  have HH := Lib.hid (fun (c : Int) (W : World) => MHas_any m c W hm)
  clear hY hst hs
  refine (callsIn_wide (n := 0)).1 (callsIn_of_wp Tryz.func110 rfl trivial ?_ rfl)
  simp only [ Tryz.ntmps110, List.size_toArray, List.length_cons, List.length_nil, Nat.reduceAdd, Nat.reduceSub, Array.replicate_succ, Array.replicate_zero, List.push_toArray, List.append_toArray, List.nil_append, List.cons_append]
  gi_wp2
  gi_loopw [4] (fun ix wr => ∃ k : Nat, k ≤ 16 ∧ ix = .int .i64 k ∧ J () (cntM (fun c => hasM m c) k) wr ∧ wr.heap[bm]? = some (.cells #[.int .u16 m] 74 (0, 0))) (fun ix _ => 16 - (intOf ix).toNat)
  case atStart => exact ⟨0, Nat.zero_le _, rfl, h0, HS.out⟩
  case round =>
    obtain ⟨k, hk, rfl, hJ, hs⟩ := hrel
    have hk0 : (0 : Int) ≤ k := by omega
    by_cases hlt : k < 16
    · have hkn : (k : Int) < 16 := by omega
      obtain ⟨c0, f0, l0⟩ := blk1 hs
      have HK := Lib.hid (HH.out k wr)
      have HSk := Lib.hid hs
      clear hs
      cases hh : hasM m k with
      | true =>
        have hx : (coresM m)[cntM (fun c => hasM m c) k]? = some k := cnt_at (p := fun c : Nat => hasM m c) hh 16 hlt
        have hsu := cnt_succ (fun c => hasM m c) k
        rw [hh, if_pos rfl] at hsu
        rw [hh] at HK
        obtain ⟨fn, tmps, assign, body, hy, hR⟩ := HY.out () _ k wr hx hJ
        have HR := Lib.hid hR
        have HX := Lib.hid hx
        have HSu := Lib.hid hsu
        clear hR hx hsu
        gi_wp2_with (gi_at_call 111; refine (callsIn_wide.2 HK.out).mono ?_; rintro e w1 ⟨rfl, rfl⟩)
        refine HR.out.mono ?_
        rintro e W3 (⟨rfl, hJ3, hk3⟩ | ⟨rfl, hJx3⟩)
        · have hs3 := (hk3 bm rfl (by omega)).trans HSk.out
          gi_wp2
          go_roundw
          case rel => exact ⟨k + 1, hlt, by go_num, by rw [HSu.out]; exact hJ3, hs3⟩
          case measure => simp [intOf]; omega
        · gi_wp2
          refine bodyPost_ret (results_none rfl _ _ _) rfl ?_
          exact ⟨⟨_, rfl⟩, (), .inr ⟨_, k, HX.out, hJx3⟩⟩
      | false =>
        have hsu := cnt_succ (fun c => hasM m c) k
        rw [hh] at hsu
        rw [hh] at HK
        have HSu := Lib.hid hsu
        clear hsu
        gi_wp2_with (gi_at_call 111; refine (callsIn_wide.2 HK.out).mono ?_; rintro e w1 ⟨rfl, rfl⟩)
        go_roundw
        case rel => exact ⟨k + 1, hlt, by go_num, by rw [HSu.out]; simpa using hJ, HSk.out⟩
        case measure => simp [intOf]; omega
    · obtain rfl : k = 16 := by omega
      gi_wp2
      refine bodyPost_end (results_none rfl _ _ _) rfl ?_
      exact ⟨⟨_, rfl⟩, (), .inl hJ⟩
end Go.Proofs.YtlgkkolgdjgclaaGreat
/- Package load: Least. -/
namespace Go.Proofs.YtlgkkolgdjgclaaGreat
open Go.RowKit Go.Shelf
attribute [local go_sem] Oper.semAt_some wide_fn wide_depth
set_option linter.unusedVariables false
set_option linter.unusedSimpArgs false

/-- The core with the least load of some: the first of them. -/
def leastF (ld : List Int) : List Nat → Nat × Bool → Nat × Bool
  | [], b => b
  | c :: t, b => leastF ld t (if c < ld.length ∧ (b.2 = false ∨ ld.getD c 0 < ld.getD b.1 0) then (c, true) else b)
def leastC (ld : List Int) (m : Int) : Nat × Bool := leastF ld (coresM m) (0, false)
theorem leastF_take (ld : List Int) (cs : List Nat) {k c : Nat} (h : cs[k]? = some c) (b : Nat × Bool) : leastF ld (cs.take (k + 1)) b = (fun b => if c < ld.length ∧ (b.2 = false ∨ ld.getD c 0 < ld.getD b.1 0) then (c, true) else b) (leastF ld (cs.take k) b) := by
  induction cs generalizing k b with
  | nil => simp at h
  | cons x t ih =>
    cases k with
    | zero => simp at h; subst h; simp [leastF]
    | succ k => simp only [List.take_succ_cons, leastF]; exact ih (by simpa using h) _
theorem leastF_in (ld : List Int) : ∀ (cs : List Nat) (b : Nat × Bool), b.1 < ld.length ∨ b = (0, false) → (leastF ld cs b).1 < ld.length ∨ leastF ld cs b = (0, false)
  | [], b, h => h
  | c :: t, b, h => by
    unfold leastF
    refine leastF_in ld t _ ?_
    split
    · rename_i hc; exact .inl hc.1
    · exact h
set_option maxHeartbeats 3200000 in
set_option maxRecDepth 100000 in
theorem LLeast {w : World} (m : Int) (hm : 0 ≤ m ∧ m < 65536) (ld : List Int) (n : Nat) (a : Option Addr) (c : Nat) (hn : ld.length = n) (hn2 : n ≤ 16) (hs : Sl int1 1 w a ld) : Calls Tryz.prog 76 #[.slice a n c, .int .u16 m] w fun e w' => e = .returned (.tuple #[.int .i64 (leastC ld m).1, .bool (leastC ld m).2]) ∧ Below w.heap.size w w' := by
  have HS := Lib.hid hs
  have Hn := Lib.hid hn
  clear hs hn
  refine (callsIn_wide (n := 0)).1 (callsIn_of_wp_marks Tryz.func76 rfl trivial ?_ rfl)
  simp only [ Tryz.ntmps76, List.size_toArray, List.length_cons, List.length_nil, Nat.reduceAdd, Nat.reduceSub, Array.replicate_succ, Array.replicate_zero, List.push_toArray, List.append_toArray, List.nil_append, List.cons_append]
  refine wpIn_wide.2 ?_
  go_wp2_with (go_at_call 94; refine (MAll _ _).mono ?_; rintro e w1 ⟨rfl, rfl⟩)
  obtain ⟨w4, hw4⟩ : ∃ w4, ((((w.alloc (.cells #[.slice a n c] 153)).alloc (.cells #[.int .i64 0] 3)).alloc (.cells #[.bool false] 4)).alloc (.cells #[.int .u16 m] 74)) = w4 := ⟨_, rfl⟩
  rw [hw4]
  obtain ⟨x0, x1, x2, hs3, hb3⟩ := heap_a3 (w := w) (o1 := .cells #[.slice a n c] 153) (o2 := .cells #[.int .i64 0] 3) (o3 := .cells #[.bool false] 4) (Below.refl _ _)
  have e4 : w4.heap.size = w.heap.size + 4 := by rw [← hw4]; simp
  have y0 := heap_alloc x0 (.cells #[.int .u16 m] 74)
  have y1 := heap_alloc x1 (.cells #[.int .u16 m] 74)
  have y2 := heap_alloc x2 (.cells #[.int .u16 m] 74)
  have y3 := heap_at (n := w.heap.size + 3) (w := (((w.alloc (.cells #[.slice a n c] 153)).alloc (.cells #[.int .i64 0] 3)).alloc (.cells #[.bool false] 4))) (by simp) (.cells #[.int .u16 m] 74)
  have hb4 := hb3.alloc (by omega) (.cells #[.int .u16 m] 74)
  rw [hw4] at y0 y1 y2 y3 hb4
  clear hs3 hw4 x0 x1 x2 hb3
  refine wp_range rfl (enters_of Tryz.func110 (by kernel_rfl) rfl) (MAllIter m hm y3) (Below.refl _ _) (fun _ => rfl)
    (fun _ k W => W.heap[w.heap.size]? = some (.cells #[.slice a n c] 153 (0, 0)) ∧ W.heap[w.heap.size + 1]? = some (.cells #[.int .i64 (leastF ld ((coresM m).take k) (0, false)).1] 3 (0, 0)) ∧ W.heap[w.heap.size + 2]? = some (.cells #[.bool (leastF ld ((coresM m).take k) (0, false)).2] 4 (0, 0)) ∧ Below w.heap.size w W) (fun _ _ _ _ => False) ?hI (fun _ _ _ _ _ h _ => h) ?h0 ?round ?done (fun _ _ _ _ _ _ h _ _ => h.elim)
  case hI => exact fun r k W o h hl => ⟨(World.putObj_heap_other (by omega)).trans h.1, (World.putObj_heap_other (by omega)).trans h.2.1, (World.putObj_heap_other (by omega)).trans h.2.2.1, Below.putObj h.2.2.2 (by omega) _⟩
  case h0 => exact fun r W hs hb _ => ⟨heap_below y0 hb, heap_below y1 hb, heap_below y2 hb, hb4.trans (hb.mono (by omega))⟩
  case round =>
    rintro r k x W hx ⟨hc0, hc1, hc2, hb⟩ hl
    refine ⟨_, fun W' K hK => by gi_wp2; exact hK, ?_⟩
    have hF := leastF_take ld _ hx (0, false)
    have hIn := leastF_in ld ((coresM m).take k) (0, false) (.inr rfl)
    rw [hF]
    generalize leastF ld ((coresM m).take k) (0, false) = bo at hc1 hc2 hIn ⊢
    obtain ⟨bk, ok⟩ := bo
    simp only at hc1 hc2 hIn ⊢
    obtain ⟨d0, f0, l0⟩ := blk1 hc0
    obtain ⟨d1, f1, l1⟩ := blk1 hc1
    obtain ⟨d2, f2, l2⟩ := blk1 hc2
    have H0 := Lib.hid hc0
    have H1 := Lib.hid hc1
    have H2 := Lib.hid hc2
    have HB := Lib.hid hb
    clear hc0 hc1 hc2 hF hx
    by_cases hxn : x < n
    · obtain ⟨r, off, rfl, hrl, hcc⟩ := HS.out (by intro h0; have := Hn.out; rw [h0] at this; simp at this; omega)
      obtain ⟨v, hv⟩ : ∃ v, ld[x]? = some v := ⟨_, List.getElem?_eq_getElem (by rw [Hn.out]; exact hxn)⟩
      have q0 := (hb.cell (p := ⟨r, off + x * 1 + 0, none⟩) hrl).trans (hcc x v hv 0 _ rfl)
      simp only [Nat.mul_one, Nat.add_zero] at q0
      have hxi : (x : Int) < n := by omega
      have hx0 : (0 : Int) ≤ x := by omega
      cases ok with
      | false =>
        rw [if_pos ⟨by rw [Hn.out]; exact hxn, .inl rfl⟩]
        clear hb
        gi_wp2
        refine wpIn_region_chain 34 [0, 0, 2, 7, 15, 31, 63, 127, 255, 255, 1023, 2047, 255, 255, 12543, 28927, 65535, 131071, 262143] [(0, none), (1, none), (2, none), (3, none), (4, none), (5, none), (6, none), (7, none), (8, none), (9, none), (10, none), (11, none), (12, none), (13, none), (14, none), (15, none), (16, none), (17, none), (18, none)] (by kernel_rfl) (by kernel_rfl) (by kernel_rfl) (by rfl) (by rintro ⟨_, _, h⟩; exact h) ?_; simp only [chain, Obs, List.getElem?_toArray, List.getElem?_cons_zero, List.getElem?_cons_succ]
        go_wp2_with (with_reducible refine And.intro (by first | with_reducible exact True.intro | with_reducible rfl | go_simp) ?_)
        refine NoPanic.normal ?_
        gi_wp2
        exact ⟨⟨(Below.heap_setCell _ _ _ _ (by first | (simp; done) | (simp; omega))).trans (Below.heap_setCell _ _ _ _ (by first | (simp; done) | (simp; omega))), (Below.heap_setCell _ _ _ _ (by first | (simp; done) | (simp; omega))).trans (Below.heap_setCell _ _ _ _ (by first | (simp; done) | (simp; omega))), fun b hb' _ => (Below.heap_setCell _ _ _ _ (by first | (simp; done) | (simp; omega))).trans (Below.heap_setCell _ _ _ _ (by first | (simp; done) | (simp; omega)))⟩,
          heap_set_ne (heap_set_ne H0.out (by first | (simp; done) | (simp; omega)) _) (by first | (simp; done) | (simp; omega)) _, heap_set_ne (heap_set H1.out _) (by first | (simp; done) | (simp; omega)) _, heap_set (heap_set_ne H2.out (by first | (simp; done) | (simp; omega)) _) _, ((HB.out.setCell (p := ⟨_, 0, none⟩) (by first | (simp; done) | (simp; omega)) _).setCell (p := ⟨_, 0, none⟩) (by first | (simp; done) | (simp; omega)) _).drew⟩
      | true =>
        have hbl : bk < ld.length := by rcases hIn with h | h; exact h; simp at h
        obtain ⟨u, hu⟩ : ∃ u, ld[bk]? = some u := ⟨_, List.getElem?_eq_getElem hbl⟩
        have q1 := (hb.cell (p := ⟨r, off + bk * 1 + 0, none⟩) hrl).trans (hcc bk u hu 0 _ rfl)
        simp only [Nat.mul_one, Nat.add_zero] at q1
        have hbi : (bk : Int) < n := by have := Hn.out; omega
        have hb0 : (0 : Int) ≤ bk := by omega
        have ev : ld.getD x 0 = v := by rw [List.getD_eq_getElem?_getD, hv]; rfl
        have eu : ld.getD bk 0 = u := by rw [List.getD_eq_getElem?_getD, hu]; rfl
        rw [ev, eu]
        by_cases hvu : v < u
        · rw [if_pos ⟨by rw [Hn.out]; exact hxn, .inr hvu⟩]
          clear hb hcc hv hu ev eu
          gi_wp2
          refine wpIn_region_chain 34 [0, 0, 2, 7, 15, 31, 63, 127, 255, 255, 1023, 2047, 255, 255, 12543, 28927, 65535, 131071, 262143] [(0, none), (1, none), (2, none), (3, none), (4, none), (5, none), (6, none), (7, none), (8, none), (9, none), (10, none), (11, none), (12, none), (13, none), (14, none), (15, none), (16, none), (17, none), (18, none)] (by kernel_rfl) (by kernel_rfl) (by kernel_rfl) (by rfl) (by rintro ⟨_, _, h⟩; exact h) ?_; simp only [chain, Obs, List.getElem?_toArray, List.getElem?_cons_zero, List.getElem?_cons_succ]
          go_wp2_with (with_reducible refine And.intro (by first | with_reducible exact True.intro | with_reducible rfl | go_simp) ?_)
          refine NoPanic.normal ?_
          gi_wp2
          exact ⟨⟨(Below.heap_setCell _ _ _ _ (by first | (simp; done) | (simp; omega))).trans (Below.heap_setCell _ _ _ _ (by first | (simp; done) | (simp; omega))), (Below.heap_setCell _ _ _ _ (by first | (simp; done) | (simp; omega))).trans (Below.heap_setCell _ _ _ _ (by first | (simp; done) | (simp; omega))), fun b hb' _ => (Below.heap_setCell _ _ _ _ (by first | (simp; done) | (simp; omega))).trans (Below.heap_setCell _ _ _ _ (by first | (simp; done) | (simp; omega)))⟩,
            heap_set_ne (heap_set_ne H0.out (by first | (simp; done) | (simp; omega)) _) (by first | (simp; done) | (simp; omega)) _, heap_set_ne (heap_set H1.out _) (by first | (simp; done) | (simp; omega)) _, heap_set (heap_set_ne H2.out (by first | (simp; done) | (simp; omega)) _) _, ((HB.out.setCell (p := ⟨_, 0, none⟩) (by first | (simp; done) | (simp; omega)) _).setCell (p := ⟨_, 0, none⟩) (by first | (simp; done) | (simp; omega)) _).drew⟩
        · rw [if_neg (by rintro ⟨_, h | h⟩; cases h; exact hvu h)]
          clear hb hcc hv hu ev eu
          gi_wp2
          refine wpIn_region_chain 34 [0, 0, 2, 7, 15, 31, 63, 127, 255, 255, 1023, 2047, 255, 255, 12543, 28927, 65535, 131071, 262143] [(0, none), (1, none), (2, none), (3, none), (4, none), (5, none), (6, none), (7, none), (8, none), (9, none), (10, none), (11, none), (12, none), (13, none), (14, none), (15, none), (16, none), (17, none), (18, none)] (by kernel_rfl) (by kernel_rfl) (by kernel_rfl) (by rfl) (by rintro ⟨_, _, h⟩; exact h) ?_; simp only [chain, Obs, List.getElem?_toArray, List.getElem?_cons_zero, List.getElem?_cons_succ]
          go_wp2_with (with_reducible refine And.intro (by first | with_reducible exact True.intro | with_reducible rfl | go_simp) ?_)
          refine NoPanic.normal ?_
          gi_wp2
          exact ⟨⟨rfl, rfl, fun b hb' _ => rfl⟩, H0.out, H1.out, H2.out, HB.out.drew⟩
    · rw [if_neg (by rw [Hn.out]; exact fun h => hxn h.1)]
      have hxi : ¬ (x : Int) < n := by omega
      clear hb
      gi_wp2
      refine wpIn_region_chain 34 [0, 0, 2, 7, 15, 31, 63, 127, 255, 255, 1023, 2047, 255, 255, 12543, 28927, 65535, 131071, 262143] [(0, none), (1, none), (2, none), (3, none), (4, none), (5, none), (6, none), (7, none), (8, none), (9, none), (10, none), (11, none), (12, none), (13, none), (14, none), (15, none), (16, none), (17, none), (18, none)] (by kernel_rfl) (by kernel_rfl) (by kernel_rfl) (by rfl) (by rintro ⟨_, _, h⟩; exact h) ?_; simp only [chain, Obs, List.getElem?_toArray, List.getElem?_cons_zero, List.getElem?_cons_succ]
      go_wp2_with (with_reducible refine And.intro (by first | with_reducible exact True.intro | with_reducible rfl | go_simp) ?_)
      refine NoPanic.normal ?_
      gi_wp2
      exact ⟨⟨rfl, rfl, fun b hb' _ => rfl⟩, H0.out, H1.out, H2.out, HB.out.drew⟩
  case done =>
    rintro r W ⟨hc0, hc1, hc2, hb⟩ hl hK
    rw [List.take_length] at hc1 hc2
    obtain ⟨d1, f1, l1⟩ := blk1 hc1
    obtain ⟨d2, f2, l2⟩ := blk1 hc2
    go_wp2
    refine wp_region_chain 34 [0, 0, 1, 7] [(0, none), (1, none), (2, none), (3, none)] (by kernel_rfl) (by kernel_rfl) (by rfl) ?_; simp only [chain, Obs, List.getElem?_toArray, List.getElem?_cons_zero, List.getElem?_cons_succ]
    go_wp2_with (with_reducible refine And.intro (by first | with_reducible exact True.intro | with_reducible rfl | go_simp) ?_)
    refine NoPanic.normal ?_
    go_wp2
    refine ⟨by simp, .inl ⟨_, _, rfl, run_takeDeferred hK, ?_⟩⟩
    exact ⟨_, results_tmp2 rfl _ _ _, rfl, Below.putObj hb.drew (by omega) _⟩
end Go.Proofs.YtlgkkolgdjgclaaGreat
