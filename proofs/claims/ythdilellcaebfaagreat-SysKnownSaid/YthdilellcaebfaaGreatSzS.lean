/- A map of numbers by bools. -/
import Derived.Test.YthdilellcaebfaaGreatSz2
namespace Go.Proofs.YthdilellcaebfaaGreat
open Go.RowKit Go.Shelf Go.Maps
set_option linter.unusedVariables false
set_option linter.unusedSimpArgs false

def boolElem : Value → Option (DataW Unit × List MemPlace)
  | .bool b => some (.lit (.bool b), [])
  | _ => none
theorem boolElem_inv {v : Value} {b : Bool} {ps : List MemPlace} (h : boolElem v = some (.lit (.bool b), ps)) : v = .bool b := by
  unfold boolElem at h
  split at h
  · simp at h; obtain ⟨rfl, _⟩ := h; rfl
  · cases h
/-- Block r is a map of at most n entries; f: what it has at each number. -/
def MapB (w : World) (r n : Nat) (f : Int → Bool) : Prop :=
  ∃ D : DataW Unit, w.ownsMap Tryz.prog 3 boolElem r n D ∧ IsMap D ∧ ∀ id : Int, D.atKey (.int .i64 id) (.lit (.bool false)) = .lit (.bool (f id))
theorem MapB.made (w : World) : MapB (w.alloc (.map #[] 0)) w.heap.size 0 (fun _ => false) := ⟨.map [], World.ownsMap_made _ _ _ _, isMap_empty, fun id => rfl⟩
theorem MapB.lt {w : World} {r n : Nat} {f : Int → Bool} (h : MapB w r n f) : r < w.heap.size := by
  obtain ⟨D, h, _⟩ := h
  exact h.lt
theorem MapB.fr {w w' : World} {r n : Nat} {f : Int → Bool} {F : Nat → Prop} (h : MapB w r n f) (hf : Fr F w w') (hn : ¬ F r) : MapB w' r n f := by
  obtain ⟨D, ⟨es, cl, hb, h2⟩, h3⟩ := h
  exact ⟨D, ⟨es, cl, heap_fr hb hf hn, h2⟩, h3⟩
theorem MapB.mono {w : World} {r n n' : Nat} {f : Int → Bool} (h : MapB w r n f) (hn : n ≤ n') : MapB w r n' f := by
  obtain ⟨D, h, h2⟩ := h
  exact ⟨D, h.mono hn, h2⟩
theorem zero_bool (w : World) : (zeroValue 4).run Tryz.prog w = .ok (.bool false) w := by kernel_rfl
theorem MapB.look {w : World} {r n : Nat} {f : Int → Bool} (h : MapB w r n f) {id : Int} (hw : -9223372036854775808 ≤ id ∧ id ≤ 9223372036854775807) :
    (Instr.lookup 41 (.map (some r)) (.int .i64 id) false).run Tryz.prog w = .ok (.bool (f id)) w := by
  obtain ⟨D, h1, h2, h3⟩ := h
  obtain ⟨v, ps, hr, hv⟩ := h1.lookup keyed_intP Tryz.underlying41 (zero_bool w) (zd := .lit (.bool false)) (zp := []) rfl (key := .int .i64 id) (kl := .int .i64 id) (keyOf_int_mk Tryz.underlying3 (wf_of hw))
  rw [h3 id] at hv
  rw [hr, boolElem_inv hv]
def updB (f : Int → Bool) (id : Int) (u : Bool) : Int → Bool := fun j => if j = id then u else f j
theorem wpList_putB (w : World) {ops : Array Oper} {rest : List Oper} {o : Oper} {a : Act} {Q : Exit → Act → World → Prop} (hg : o.guard = none) (m x v : Operand) (hop : o.op = Op.mapUpdate 41 m x v)
    (r n : Nat) (f : Int → Bool) (hm : a.eval m = .map (some r)) (h : MapB w r n f) (hn : n < maxLen) (id : Int) (u : Bool) (hx : a.eval x = .int .i64 id) (hv : a.eval v = .bool u) (hw : -9223372036854775808 ≤ id ∧ id ≤ 9223372036854775807)
    (hK : ∀ w', MapB w' r (n + 1) (updB f id u) → Fr (fun k => k = r) w w' → wpList Tryz.prog ops Q rest (a.put o.dst undef) w') : wpList Tryz.prog ops Q (o :: rest) a w := by
  obtain ⟨D, h1, h2, h3⟩ := h
  refine wpList_mapUpdate_own w hg m x v 41 hop 3 4 keyed_intP Tryz.underlying41 _ r n D hm h1 hn (.int .i64 id) (.bool u) (.int .i64 id) hx hv (keyOf_int_mk Tryz.underlying3 (wf_of hw)) (.lit (.bool u)) [] rfl ?_
  intro w' h1' hgr
  refine hK w' ⟨_, h1', h2.put _ _, fun j => ?_⟩ ((Fr.of_grown hgr).mono fun k _ e => by simpa using e.symm)
  unfold updB
  by_cases e : j = id
  · subst e
    rw [if_pos rfl, atKey_put_same (k := .int .i64 j) h2 (by trivial)]
  · rw [if_neg e, atKey_put_other (by simpa using e)]
    exact h3 j
end Go.Proofs.YthdilellcaebfaaGreat
