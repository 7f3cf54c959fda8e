/- Small laws that my walks use: what a call may write, rows of structs. -/
import Derived.WalkKit
import Derived.WalkSpells
import Derived.Deep.QuietTactic
import Derived.BigQuiet
import Derived.Deep.RegionHeld3
import Derived.Lib.Hide
import Derived.Outline
namespace Go.Proofs.YtlgkkolgdjgclaaGreat
open Go.RowKit
set_option linter.unusedVariables false
set_option linter.unusedSimpArgs false

/-- What a call may have written: blocks of F, and new ones. -/
structure Fr (F : Nat → Prop) (w w' : World) : Prop where
  os : w'.os = w.os
  tape : w'.tape = w.tape
  output : w'.output = w.output
  size : w.heap.size ≤ w'.heap.size
  block : ∀ k, k < w.heap.size → ¬ F k → w'.heap[k]? = w.heap[k]?

theorem Fr.refl (F : Nat → Prop) (w : World) : Fr F w w := ⟨rfl, rfl, rfl, Nat.le_refl _, fun _ _ _ => rfl⟩
theorem Fr.trans {F G : Nat → Prop} {a b c : World} (h : Fr F a b) (k : Fr G b c) (hG : ∀ i, i < a.heap.size → G i → F i) : Fr F a c :=
  ⟨k.os.trans h.os, k.tape.trans h.tape, k.output.trans h.output, Nat.le_trans h.size k.size,
    fun i hi hn => (k.block i (Nat.lt_of_lt_of_le hi h.size) (fun hg => hn (hG i hi hg))).trans (h.block i hi hn)⟩
theorem Fr.mono {F G : Nat → Prop} {a b : World} (h : Fr F a b) (hG : ∀ i, i < a.heap.size → F i → G i) : Fr G a b :=
  ⟨h.os, h.tape, h.output, h.size, fun i hi hn => h.block i hi (fun hf => hn (hG i hi hf))⟩
theorem Fr.drew {F : Nat → Prop} {a w : World} (h : Fr F a w) : Fr F a w.drew := ⟨h.os, h.tape, h.output, h.size, h.block⟩
theorem Fr.drewN {F : Nat → Prop} {a w : World} (h : Fr F a w) (n : Nat) : Fr F a (w.drewN n) := ⟨h.os, h.tape, h.output, h.size, h.block⟩
theorem Fr.alloc {F : Nat → Prop} {a w : World} (h : Fr F a w) (o : Obj) : Fr F a (w.alloc o) :=
  h.trans (G := fun _ => False) ⟨rfl, rfl, rfl, by simp, fun k hk _ => Below.heap_alloc _ _ _ hk⟩ (fun _ _ h => h.elim)
theorem Fr.setCell {F : Nat → Prop} {a w : World} (h : Fr F a w) {p : Addr} (hp : p.block < a.heap.size → F p.block) (u : Value) : Fr F a (w.setCell p u) :=
  h.trans (G := fun k => k = p.block) ⟨rfl, rfl, rfl, by simp [World.setCell], fun k _ hn => Below.heap_setCell _ _ _ _ hn⟩ (fun i hi e => by subst e; exact hp hi)
theorem Fr.of_below {F : Nat → Prop} {a b : World} (h : Below a.heap.size a b) : Fr F a b := ⟨h.os, h.tape, h.output, h.size, fun k hk _ => h.block k hk⟩
theorem Fr.of_grown {a b : World} {row : Option Nat} (h : a.grownBy b row) : Fr (fun k => row = some k) a b :=
  ⟨h.os, h.tape, h.output, h.size, fun k hk hn => h.block k hk (fun e => hn e.symm)⟩
theorem Fr.below {F : Nat → Prop} {a b : World} {B : Nat} (h : Fr F a b) (hB : B ≤ a.heap.size) (hF : ∀ k, F k → B ≤ k) : Below B a b :=
  ⟨h.os, h.tape, h.output, h.size, fun k hk => h.block k (by omega) (fun hf => by have := hF k hf; omega)⟩
theorem Fr.cell {F : Nat → Prop} {a b : World} (h : Fr F a b) {p : Addr} (hp : p.block < a.heap.size) (hn : ¬ F p.block) : b.cell? p = a.cell? p := World.cell?_of_block (w := a) (h.block p.block hp hn)
theorem Fr.frozen {F : Nat → Prop} {a b : World} (h : Fr F a b) {p : Addr} (hp : p.block < a.heap.size) (hn : ¬ F p.block) : b.frozen? p = a.frozen? p := World.frozen?_of_block (w := a) (h.block p.block hp hn)
/-- What lies from n on (the caller's own boxes) reads as before. -/
theorem Fr.new {F : Nat → Prop} {a b : World} (n : Nat) (h : Fr F a b) (hF : ∀ k, F k → k < n) :
    (∀ k o, n ≤ k → k < a.heap.size → b.cell? ⟨k, o, none⟩ = a.cell? ⟨k, o, none⟩) ∧ (∀ k o, n ≤ k → k < a.heap.size → b.frozen? ⟨k, o, none⟩ = a.frozen? ⟨k, o, none⟩) :=
  ⟨fun k o h1 h2 => h.cell (p := ⟨k, o, none⟩) h2 (fun hf => by have := hF k hf; omega), fun k o h1 h2 => h.frozen (p := ⟨k, o, none⟩) h2 (fun hf => by have := hF k hf; omega)⟩
theorem bcell {W w1 : World} (hb : Below W.heap.size W w1) : (∀ b o, b < W.heap.size → w1.cell? ⟨b, o, none⟩ = W.cell? ⟨b, o, none⟩) ∧ (∀ b o, b < W.heap.size → w1.frozen? ⟨b, o, none⟩ = W.frozen? ⟨b, o, none⟩) :=
  ⟨fun b o h => hb.cell (p := ⟨b, o, none⟩) h, fun b o h => hb.frozen (p := ⟨b, o, none⟩) h⟩

theorem ret_int {k : IntKind} {a b : Int} (h : a = b) : Ending.returned (.int k a) = .returned (.int k b) := by rw [h]
theorem ret_bool {a b : Bool} (h : a = b) : Ending.returned (.bool a) = .returned (.bool b) := by rw [h]

theorem blk1 {w : World} {g : Nat} {a0 : Value} {T : TypeId} (h : w.heap[g]? = some (.cells #[a0] T (0, 0))) : w.cell? ⟨g, 0, none⟩ = some a0 ∧ w.frozen? ⟨g, 0, none⟩ = false ∧ g < w.heap.size := by
  have hg := (Array.getElem?_eq_some_iff.1 h).1
  refine ⟨?_, ?_, hg⟩ <;> simp [World.cell?, World.frozen?, h]

theorem blk2 {w : World} {g : Nat} {a0 a1 : Value} {T : TypeId} (h : w.heap[g]? = some (.cells #[a0, a1] T (0, 0))) : w.cell? ⟨g, 0, none⟩ = some a0 ∧ w.cell? ⟨g, 1, none⟩ = some a1 ∧ w.frozen? ⟨g, 0, none⟩ = false ∧ w.frozen? ⟨g, 1, none⟩ = false ∧ g < w.heap.size := by
  have hg := (Array.getElem?_eq_some_iff.1 h).1
  refine ⟨?_, ?_, ?_, ?_, hg⟩ <;> simp [World.cell?, World.frozen?, h]

theorem blk3 {w : World} {g : Nat} {a0 a1 a2 : Value} {T : TypeId} (h : w.heap[g]? = some (.cells #[a0, a1, a2] T (0, 0))) : w.cell? ⟨g, 0, none⟩ = some a0 ∧ w.cell? ⟨g, 1, none⟩ = some a1 ∧ w.cell? ⟨g, 2, none⟩ = some a2 ∧ w.frozen? ⟨g, 0, none⟩ = false ∧ w.frozen? ⟨g, 1, none⟩ = false ∧ w.frozen? ⟨g, 2, none⟩ = false ∧ g < w.heap.size := by
  have hg := (Array.getElem?_eq_some_iff.1 h).1
  refine ⟨?_, ?_, ?_, ?_, ?_, ?_, hg⟩ <;> simp [World.cell?, World.frozen?, h]

theorem blk4 {w : World} {g : Nat} {a0 a1 a2 a3 : Value} {T : TypeId} (h : w.heap[g]? = some (.cells #[a0, a1, a2, a3] T (0, 0))) : w.cell? ⟨g, 0, none⟩ = some a0 ∧ w.cell? ⟨g, 1, none⟩ = some a1 ∧ w.cell? ⟨g, 2, none⟩ = some a2 ∧ w.cell? ⟨g, 3, none⟩ = some a3 ∧ w.frozen? ⟨g, 0, none⟩ = false ∧ w.frozen? ⟨g, 1, none⟩ = false ∧ w.frozen? ⟨g, 2, none⟩ = false ∧ w.frozen? ⟨g, 3, none⟩ = false ∧ g < w.heap.size := by
  have hg := (Array.getElem?_eq_some_iff.1 h).1
  refine ⟨?_, ?_, ?_, ?_, ?_, ?_, ?_, ?_, hg⟩ <;> simp [World.cell?, World.frozen?, h]

theorem heap_set {w : World} {g i : Nat} {cs : Array Value} {T : TypeId} {fr : Nat × Nat} (h : w.heap[g]? = some (.cells cs T fr)) (u : Value) : (w.setCell ⟨g, i, none⟩ u).heap[g]? = some (.cells (cs.setIfInBounds i u) T fr) := by
  simp [World.setCell, Array.getElem?_modify, h]
theorem heap_set_ne {w : World} {g : Nat} {p : Addr} {o : Option Obj} (h : w.heap[g]? = o) (hne : g ≠ p.block) (u : Value) : (w.setCell p u).heap[g]? = o := (Below.heap_setCell w p u g hne).trans h
theorem heap_alloc {w : World} {g : Nat} {x : Obj} (h : w.heap[g]? = some x) (o : Obj) : (w.alloc o).heap[g]? = some x := (Below.heap_alloc w o g (Array.getElem?_eq_some_iff.1 h).1).trans h
theorem heap_below {w w' : World} {g : Nat} {x : Obj} (h : w.heap[g]? = some x) (hb : Below w.heap.size w w') : w'.heap[g]? = some x := (hb.block g (Array.getElem?_eq_some_iff.1 h).1).trans h
theorem heap_fr {F : Nat → Prop} {w w' : World} {g : Nat} {x : Obj} (h : w.heap[g]? = some x) (hb : Fr F w w') (hn : ¬ F g) : w'.heap[g]? = some x := (hb.block g (Array.getElem?_eq_some_iff.1 h).1 hn).trans h

theorem heap_new (w : World) (o : Obj) : (w.alloc o).heap[w.heap.size]? = some o := heap_alloc_new w o
theorem cell_new_at {w : World} {n i : Nat} {cs : Array Value} {T : TypeId} {fr : Nat × Nat} {v : Value} (h : w.heap.size = n) (hv : cs[i]? = some v) : (w.alloc (.cells cs T fr)).cell? ⟨n, i, none⟩ = some v := by
  subst h
  have h2 := heap_alloc_new w (.cells cs T fr)
  simp only [World.cell?, h2]
  simpa using hv
theorem heap_at {w : World} {n : Nat} (h : w.heap.size = n) (o : Obj) : (w.alloc o).heap[n]? = some o := by subst h; exact heap_alloc_new w o

section
variable {P : Program} {fn : Func} {p u v : Tmp} {ty : TypeId} (tmps : Array Value) (w : World) (g : Nat) (t : TypeId) (cs : Array Value) (fr : Nat × Nat) (d : TypeDesc)
theorem res_c (h : fn.results = #[.cell p ty]) (hp : tmps.getD p undef = .pointer (some ⟨g, 0, none⟩)) (hg : w.heap[g]? = some (.cells cs t fr))
    (hu : P.underlying ty = some d) (hd : (match d with | .struct _ | .array _ _ => true | _ => false) = true) (hi : (P.info? ty).map (·.size) = some cs.size) :
    (results fn tmps).run P w = .ok (.agg cs) w := by
  have hp' : tmps[p]?.getD undef = .pointer (some ⟨g, 0, none⟩) := by simpa using hp
  simp [results, h, hp', asAddr, run_loadVar_row w g t ty cs fr d hg hu hd hi]
theorem res_ct (h : fn.results = #[.cell p ty, .tmp u]) (hp : tmps.getD p undef = .pointer (some ⟨g, 0, none⟩)) (hg : w.heap[g]? = some (.cells cs t fr))
    (hu : P.underlying ty = some d) (hd : (match d with | .struct _ | .array _ _ => true | _ => false) = true) (hi : (P.info? ty).map (·.size) = some cs.size) :
    (results fn tmps).run P w = .ok (.tuple #[.agg cs, tmps.getD u undef]) w := by
  have hp' : tmps[p]?.getD undef = .pointer (some ⟨g, 0, none⟩) := by simpa using hp
  simp [results, h, hp', asAddr, run_loadVar_row w g t ty cs fr d hg hu hd hi]
theorem res_tct (h : fn.results = #[.tmp v, .cell p ty, .tmp u]) (hp : tmps.getD p undef = .pointer (some ⟨g, 0, none⟩)) (hg : w.heap[g]? = some (.cells cs t fr))
    (hu : P.underlying ty = some d) (hd : (match d with | .struct _ | .array _ _ => true | _ => false) = true) (hi : (P.info? ty).map (·.size) = some cs.size) :
    (results fn tmps).run P w = .ok (.tuple #[tmps.getD v undef, .agg cs, tmps.getD u undef]) w := by
  have hp' : tmps[p]?.getD undef = .pointer (some ⟨g, 0, none⟩) := by simpa using hp
  simp [results, h, hp', asAddr, run_loadVar_row w g t ty cs fr d hg hu hd hi]
end

/-! ### rows of structs -/
section
variable {α : Type} (enc : α → List Value) (k : Nat)
/-- The cells of a list of structs. -/
def flat (l : List α) : List Value := l.flatMap enc
variable {enc k}
theorem flat_length (hk : ∀ x, (enc x).length = k) (l : List α) : (flat enc l).length = l.length * k := by
  induction l with
  | nil => simp [flat]
  | cons x l ih => simp only [flat, List.flatMap_cons, List.length_append, List.length_cons, hk] at ih ⊢; rw [ih, Nat.add_mul]; omega
theorem flat_get (hk : ∀ x, (enc x).length = k) : ∀ (l : List α) (j : Nat) (x : α), l[j]? = some x → ∀ i u, (enc x)[i]? = some u → (flat enc l)[j * k + i]? = some u
  | [], j, x, h, i, u, _ => by simp at h
  | y :: l, 0, x, h, i, u, hi => by
    simp at h; subst h
    have hlt : i < (enc y).length := (List.getElem?_eq_some_iff.1 hi).1
    rw [Nat.zero_mul, Nat.zero_add, flat, List.flatMap_cons, List.getElem?_append_left hlt]
    exact hi
  | y :: l, j + 1, x, h, i, u, hi => by
    have := flat_get hk l j x (by simpa using h) i u hi
    have e : (j + 1) * k + i = (enc y).length + (j * k + i) := by rw [hk, Nat.add_mul]; omega
    rw [flat, List.flatMap_cons, e, List.getElem?_append_right (by omega)]
    simpa [flat] using this
theorem flat_append (l m : List α) : flat enc (l ++ m) = flat enc l ++ flat enc m := by simp [flat]
theorem flat_one (x : α) : flat enc [x] = enc x := by simp [flat]
theorem flat_nil : flat enc ([] : List α) = [] := rfl
end

/-- A slice's cells read as a list of structs of k cells. -/
def Sl {α : Type} (enc : α → List Value) (k : Nat) (w : World) (a : Option Addr) (l : List α) : Prop :=
  l ≠ [] → ∃ r off, a = some ⟨r, off, none⟩ ∧ r < w.heap.size ∧ ∀ j x, l[j]? = some x → ∀ i u, (enc x)[i]? = some u → w.cell? ⟨r, off + j * k + i, none⟩ = some u
theorem Sl.nil {α : Type} {enc : α → List Value} {k : Nat} {w : World} {a : Option Addr} : Sl enc k w a ([] : List α) := fun h => absurd rfl h
theorem Sl.fr {α : Type} {enc : α → List Value} {k : Nat} {w w' : World} {a : Option Addr} {l : List α} {F : Nat → Prop} (h : Sl enc k w a l) (hf : Fr F w w') (hn : ∀ p, a = some p → ¬ F p.block) : Sl enc k w' a l := fun hl => by
  obtain ⟨r, off, rfl, hr, hc⟩ := h hl
  refine ⟨r, off, rfl, Nat.lt_of_lt_of_le hr hf.size, fun j x hj i u hi => ?_⟩
  rw [hf.cell (p := ⟨r, off + j * k + i, none⟩) hr (hn ⟨r, off, none⟩ rfl)]
  exact hc j x hj i u hi
theorem Sl.below {α : Type} {enc : α → List Value} {k : Nat} {w w' : World} {a : Option Addr} {l : List α} (h : Sl enc k w a l) (hf : Below w.heap.size w w') : Sl enc k w' a l := fun hl => by
  obtain ⟨r, off, rfl, hr, hc⟩ := h hl
  refine ⟨r, off, rfl, Nat.lt_of_lt_of_le hr hf.size, fun j x hj i u hi => ?_⟩
  rw [hf.cell (p := ⟨r, off + j * k + i, none⟩) hr]
  exact hc j x hj i u hi
theorem Sl.of_own {α : Type} {enc : α → List Value} {k : Nat} (hk : ∀ x, (enc x).length = k) {w : World} {B : Nat} {e : TypeId} {a : Option Addr} {n c : Nat} {l : List α} (h : w.ownsRow B e k (.slice a n c) l.length (flat enc l)) : Sl enc k w a l := fun hl => by
  rcases h.2 with ⟨hv, hn⟩ | ⟨g, cap, cur, hv, _, hg, _⟩
  · exact absurd (List.eq_nil_of_length_eq_zero hn) hl
  · simp at hv
    obtain ⟨rfl, rfl, rfl⟩ := hv
    refine ⟨g, 0, rfl, (Array.getElem?_eq_some_iff.1 hg).1, fun j x hj i u hi => ?_⟩
    have hx := flat_get hk l j x hj i u hi
    have h1 := h.cells rfl (j * k + i) u hx
    have e : (⟨g, 0, none⟩ : Addr).add (j * k + i) = ⟨g, 0 + j * k + i, none⟩ := by
      unfold Addr.add; split
      · rename_i h0; simp [Nat.add_assoc, h0]
      · simp [Nat.add_assoc]
    rw [e] at h1
    exact h1
end Go.Proofs.YtlgkkolgdjgclaaGreat
