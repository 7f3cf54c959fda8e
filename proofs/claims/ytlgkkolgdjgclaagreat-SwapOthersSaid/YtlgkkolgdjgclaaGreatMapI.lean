/- A map of numbers by numbers. -/
import Derived.Maps.Own
import Derived.Maps.OwnOps
import Derived.Maps.Views
import Derived.Test.YtlgkkolgdjgclaaGreatA
import Derived.Test.YtlgkkolgdjgclaaGreatProg
namespace Go.Proofs.YtlgkkolgdjgclaaGreat
open Go.RowKit Go.Maps
set_option linter.unusedVariables false
set_option linter.unusedSimpArgs false

theorem keyed_int : Keyed Tryz.prog 3 := int_keyed Tryz.underlying3
theorem zero_i64 (w : World) : (zeroValue 2).run Tryz.prog w = .ok (.int .i64 0) w := by kernel_rfl
def updI (sv : Int → Int) (id u : Int) : Int → Int := fun j => if j = id then u else sv j
/-- Block r is a map of at most n entries; sv: what it has at each number. -/
def MapI (w : World) (r n : Nat) (sv : Int → Int) : Prop :=
  ∃ D : DataW Unit, w.ownsMap Tryz.prog 3 (plainElem Tryz.prog 2) r n D ∧ IsMap D ∧ ∀ id : Int, D.atKey (.int .i64 id) (.lit (.int .i64 0)) = .lit (.int .i64 (sv id))
theorem MapI.made (w : World) : MapI (w.alloc (.map #[] 0)) w.heap.size 0 (fun _ => 0) := ⟨.map [], World.ownsMap_made _ _ _ _, isMap_empty, fun id => rfl⟩
theorem MapI.lt {w : World} {r n : Nat} {sv : Int → Int} (h : MapI w r n sv) : r < w.heap.size := by
  obtain ⟨D, h, _⟩ := h
  exact h.lt
theorem MapI.fr {w w' : World} {r n : Nat} {sv : Int → Int} {F : Nat → Prop} (h : MapI w r n sv) (hf : Fr F w w') (hn : ¬ F r) : MapI w' r n sv := by
  obtain ⟨D, ⟨es, cl, hb, h2⟩, h3⟩ := h
  exact ⟨D, ⟨es, cl, heap_fr hb hf hn, h2⟩, h3⟩
theorem MapI.below {w w' : World} {r n : Nat} {sv : Int → Int} (h : MapI w r n sv) (hb : Below w.heap.size w w') : MapI w' r n sv := h.fr (F := fun _ => False) (Fr.of_below hb) (fun h => h)
theorem MapI.mono {w : World} {r n n' : Nat} {sv : Int → Int} (h : MapI w r n sv) (hn : n ≤ n') : MapI w r n' sv := by
  obtain ⟨D, h, h2⟩ := h
  exact ⟨D, h.mono hn, h2⟩
theorem wf_of {x : Int} (h : -9223372036854775808 ≤ x ∧ x ≤ 9223372036854775807) : (Lit.int .i64 x).wf = true := WalkArith.wf_i64 h
theorem wpList_lookI (w : World) {ops : Array Oper} {rest : List Oper} {o : Oper} {a : Act} {Q : Exit → Act → World → Prop} (hg : o.guard = none) (m x : Operand) (hop : o.op = Op.lookup 94 m x false)
    (r n : Nat) (sv : Int → Int) (hm : a.eval m = .map (some r)) (h : MapI w r n sv) (id : Int) (hx : a.eval x = .int .i64 id) (hw : -9223372036854775808 ≤ id ∧ id ≤ 9223372036854775807)
    (hK : wpList Tryz.prog ops Q rest (a.put o.dst (.int .i64 (sv id))) w) : wpList Tryz.prog ops Q (o :: rest) a w := by
  obtain ⟨D, h1, h2, h3⟩ := h
  refine wpList_lookup_own_int w hg m x 94 hop 3 2 .i64 keyed_int Tryz.underlying94 Tryz.underlying2 (zero_i64 _) r n D hm h1 (.int .i64 id) (.int .i64 id) hx (keyOf_int_mk Tryz.underlying3 (wf_of hw)) ?_
  intro c hat _
  have e := (h3 id).symm.trans hat
  obtain rfl : sv id = c := by simpa using e
  exact hK
theorem wpList_putI (w : World) {ops : Array Oper} {rest : List Oper} {o : Oper} {a : Act} {Q : Exit → Act → World → Prop} (hg : o.guard = none) (m x v : Operand) (hop : o.op = Op.mapUpdate 94 m x v)
    (r n : Nat) (sv : Int → Int) (hm : a.eval m = .map (some r)) (h : MapI w r n sv) (hn : n < maxLen) (id u : Int) (hx : a.eval x = .int .i64 id) (hv : a.eval v = .int .i64 u) (hw : -9223372036854775808 ≤ id ∧ id ≤ 9223372036854775807) (hwu : -9223372036854775808 ≤ u ∧ u ≤ 9223372036854775807)
    (hK : ∀ w', MapI w' r (n + 1) (updI sv id u) → Fr (fun k => k = r) w w' → wpList Tryz.prog ops Q rest (a.put o.dst undef) w') : wpList Tryz.prog ops Q (o :: rest) a w := by
  obtain ⟨D, h1, h2, h3⟩ := h
  refine wpList_mapUpdate_own w hg m x v 94 hop 3 2 keyed_int Tryz.underlying94 _ r n D hm h1 hn (.int .i64 id) (.int .i64 u) (.int .i64 id) hx hv (keyOf_int_mk Tryz.underlying3 (wf_of hw)) _ [] (plainElem_int Tryz.underlying2 (wf_of hwu)) ?_
  intro w' h1' hgr
  refine hK w' ⟨_, h1', h2.put _ _, fun j => ?_⟩ ((Fr.of_grown hgr).mono fun k _ e => by simpa using e.symm)
  unfold updI
  by_cases e : j = id
  · subst e
    rw [if_pos rfl, atKey_put_same (k := .int .i64 j) h2 (by trivial)]
  · rw [if_neg e, atKey_put_other (by simpa using e)]
    exact h3 j
end Go.Proofs.YtlgkkolgdjgclaaGreat
