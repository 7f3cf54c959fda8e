/- slices.Delete at points, and Leave. -/
import Derived.Test.YthdilellcaebfaaGreatDoorH
import Derived.Deep.AppendSrc
import Derived.Lib.SliceRun
namespace Go.Proofs.YthdilellcaebfaaGreatDoor
open Go.RowKit
set_option linter.unusedVariables false
set_option linter.unusedSimpArgs false

section
variable {P : Program} {Q : Exit → Act → World → Prop}
theorem wpList_append_run {ops : Array Oper} {rest : List Oper} {o : Oper} {a : Act} {w : World} (hgd : o.guard = none) (s x : Operand) (t : TypeId) (ho : o.op = .call { callee := .builtin .append, args := #[s, x], argTypes := #[t, t] })
    (v1 v2 : Value) (hs : a.eval s = v1) (hx : a.eval x = v2) (r : Value) (w' : World) (hr : (Builtin.append_ #[t, t] o.type #[v1, v2]).run P w = .ok r w') (h : wpList P ops Q rest (a.put o.dst r) w') : wpList P ops Q (o :: rest) a w := by
  refine wpList_plain hgd fun K hK => ?_
  unfold Oper.wp execOp
  simp only [ho, resolve, invoke, builtin, Sem.run_bind, Sem.run_pure, Result.andThen_ok, List.map_toArray, List.map_cons, List.map_nil, hs, hx, hr]
  exact hK _ _ h
end

/-- A run of stores into a list. -/
def setL : List Value → Nat → List Value → List Value
  | xs, _, [] => xs
  | xs, o, v :: r => setL (xs.set o v) (o + 1) r
theorem setL_len : ∀ (vs xs : List Value) (o : Nat), (setL xs o vs).length = xs.length
  | [], _, _ => rfl
  | v :: r, xs, o => by rw [setL, setL_len r]; simp
theorem setL_eq : ∀ (vs xs : List Value) (o : Nat), o + vs.length ≤ xs.length → setL xs o vs = xs.take o ++ vs ++ xs.drop (o + vs.length)
  | [], xs, o, _ => by simp [setL]
  | v :: r, xs, o, h => by
    simp only [List.length_cons] at h
    rw [setL, setL_eq r _ _ (by simp; omega)]
    apply List.ext_getElem?
    intro t
    simp only [List.getElem?_append, List.getElem?_take, List.getElem?_drop, List.length_append, List.length_take, List.length_set, List.length_cons, List.getElem?_set]
    rcases Nat.lt_trichotomy t o with ht | rfl | ht
    · have h1 : t < min (o + 1) xs.length := by omega
      have h2 : t < min (o + 1) xs.length + r.length := by omega
      have h3 : t < min o xs.length := by omega
      have h4 : t < min o xs.length + (r.length + 1) := by omega
      simp [h1, h2, h3, h4, ht, show t < o + 1 by omega, show o ≠ t by omega]
    · have h1 : t < min (t + 1) xs.length := by omega
      have h3 : ¬ t < min t xs.length := by omega
      have h5 : t - min t xs.length = 0 := by omega
      simp [h1, h3, h5, show t < min (t + 1) xs.length + r.length by omega, show t < min t xs.length + (r.length + 1) by omega, show t < xs.length by omega]
    · have h1 : ¬ t < min (o + 1) xs.length := by omega
      have h3 : ¬ t < min o xs.length := by omega
      have e1 : min (o + 1) xs.length = o + 1 := by omega
      have e2 : min o xs.length = o := by omega
      obtain ⟨u, hu⟩ : ∃ u, t = o + 1 + u := ⟨t - (o + 1), by omega⟩
      subst hu
      simp only [e1, e2]
      by_cases hu : u < r.length
      · simp [show o + 1 + u < o + 1 + r.length by omega, show ¬ o + 1 + u < o + 1 by omega, show o + 1 + u < o + (r.length + 1) by omega, show ¬ o + 1 + u < o by omega, show o + 1 + u - o = u + 1 by omega, show o + 1 + u - (o + 1) = u by omega]
      · simp [show ¬ o + 1 + u < o + 1 + r.length by omega, show ¬ o + 1 + u < o + (r.length + 1) by omega]
        have q : o + 1 + r.length + (o + 1 + u - (o + 1 + r.length)) = o + 1 + u := by omega
        have q2 : o + (r.length + 1) + (o + 1 + u - (o + (r.length + 1))) = o + 1 + u := by omega
        rw [q, q2, if_neg (by omega)]
theorem own_setCells {B e k n cap g : Nat} : ∀ (vs : List Value) (o : Nat) (w : World) (xs : List Value), w.ownsRow B e k (.slice (some ⟨g, 0, none⟩) n cap) n xs → (w.setCells g o vs).ownsRow B e k (.slice (some ⟨g, 0, none⟩) n cap) n (setL xs o vs)
  | [], _, _, _, h => h
  | v :: r, o, w, xs, h => own_setCells r (o + 1) _ _ (h.stored o v).1
theorem fr_setCells {F : Nat → Prop} {a : World} {g : Nat} (hg : F g) : ∀ (vs : List Value) (o : Nat) (w : World), Fr F a w → Fr F a (w.setCells g o vs)
  | [], _, _, h => h
  | v :: r, o, w, h => fr_setCells hg r (o + 1) _ (h.setCell (fun _ => hg) v)
theorem own_shrink {w : World} {B e k n m cap g : Nat} {xs : List Value} (h : w.ownsRow B e k (.slice (some ⟨g, 0, none⟩) n cap) n xs) (hm : m ≤ n) : w.ownsRow B e k (.slice (some ⟨g, 0, none⟩) m cap) m (xs.take (m * k)) := by
  have hmk := Nat.mul_le_mul_right k hm
  refine ⟨by rw [List.length_take, h.1]; omega, ?_⟩
  rcases h.2 with ⟨hv, _⟩ | ⟨g', cap', cur, hv, hb, hg, h1, h2, h3, h4⟩
  · simp at hv
  · simp at hv
    obtain ⟨rfl, rfl⟩ := hv
    refine .inr ⟨g, cap, cur, rfl, hb, hg, by omega, h2, h3, ?_⟩
    rw [← h4, List.take_take, Nat.min_eq_left hmk]
theorem flat_take (l : List Pt) : ∀ i, (flat Pt.enc l).take (i * 4) = flat Pt.enc (l.take i) := by
  intro i
  induction l generalizing i with
  | nil => simp [flat]
  | cons y t ih =>
    cases i with
    | zero => simp [flat]
    | succ i =>
      have := ih i
      simp only [flat, List.flatMap_cons, List.take_succ_cons, show (i + 1) * 4 = i * 4 + 1 + 1 + 1 + 1 by omega, Pt.enc, List.cons_append, List.nil_append] at this ⊢
      rw [this]
theorem flat_drop (l : List Pt) : ∀ i, (flat Pt.enc l).drop (i * 4) = flat Pt.enc (l.drop i) := by
  intro i
  induction l generalizing i with
  | nil => simp [flat]
  | cons y t ih =>
    cases i with
    | zero => simp [flat]
    | succ i =>
      have := ih i
      simp only [flat, List.flatMap_cons, List.drop_succ_cons, show (i + 1) * 4 = i * 4 + 1 + 1 + 1 + 1 by omega, Pt.enc, List.cons_append, List.nil_append] at this ⊢
      rw [this]
theorem del_cells (l : List Pt) (i : Nat) (hi : i < l.length) (zs : List Value) (hz : zs.length = 4) :
    (setL (setL (flat Pt.enc l) (i * 4) (flat Pt.enc (l.drop (i + 1)))) ((l.length - 1) * 4) zs).take ((l.length - 1) * 4) = flat Pt.enc (l.eraseIdx i) := by
  have hs : (flat Pt.enc l).length = l.length * 4 := flat_length Pt.len l
  have hd : (flat Pt.enc (l.drop (i + 1))).length = (l.length - (i + 1)) * 4 := by rw [flat_length Pt.len, List.length_drop]
  rw [setL_eq zs _ _ (by rw [setL_len, hs, hz]; omega), setL_eq _ _ _ (by rw [hs, hd]; omega), List.append_assoc, List.take_append_of_le_length (by simp [hs, hd]; omega)]
  rw [List.take_take, Nat.min_self, List.take_append_of_le_length (by simp [hs, hd]; omega), List.take_of_length_le (by simp [hs, hd]; omega)]
  rw [flat_take, ← flat_append, List.eraseIdx_eq_take_drop_succ]

def zero4 : List Value := [.int .i64 0, .int .i64 0, .int .i64 0, .int .i64 0]
theorem clear4 (ty : TypeId) (w : World) (b o c : Nat) (hc : ∀ j, j < 4 → (w.cell? ⟨b, o + j, none⟩).isSome = true) (hf : ∀ j, j < 4 → w.frozen? ⟨b, o + j, none⟩ = false) :
    (Builtin.clear_ #[ 171 ] ty #[.slice (some ⟨b, o, none⟩) 1 c]).run Tryz.prog w = .ok (.tuple #[]) (w.setCells b o zero4) := by
  have hst := run_storeCells_cells (P := Tryz.prog) b o zero4 0 w (by rw [show zero4.length = 4 from rfl]; simpa using hc) (by rw [show zero4.length = 4 from rfl]; simpa using hf) (by intro v hv; simp [zero4] at hv; subst hv; rfl)
  simp only [Nat.add_zero] at hst
  have hzc : (Builtin.zeroCells (Value.agg #[.int .i64 0, .int .i64 0, .int .i64 0, .int .i64 0]).cells 1).toList = zero4 := by kernel_rfl
  simp [Builtin.clear_, run_underlying Tryz.underlying171, Tryz.zeroValue197, hzc, hst]

end Go.Proofs.YthdilellcaebfaaGreatDoor
