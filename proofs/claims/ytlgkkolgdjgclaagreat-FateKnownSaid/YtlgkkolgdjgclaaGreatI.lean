/- slices.Delete at points, and Leave. -/
import Derived.Test.YtlgkkolgdjgclaaGreatH
import Derived.Deep.AppendSrc
import Derived.Lib.SliceRun
namespace Go.Proofs.YtlgkkolgdjgclaaGreat
open Go.RowKit
set_option linter.unusedVariables false
set_option linter.unusedSimpArgs false

section
variable {P : Program} {Q : Exit → Act → World → Prop}
theorem wpList_append_run {ops : Array Oper} {rest : List Oper} {o : Oper} {a : Act} {w : World} (hgd : o.guard = none) (s x : Operand) (t : TypeId) (ho : o.op = .call { callee := .builtin .append, args := #[s, x], argTypes := #[t, t] })
    (v1 v2 : Value) (hs : a.eval s = v1) (hx : a.eval x = v2) (r : Value) (w' : World) (hr : (Builtin.append_ #[t, t] o.type #[v1, v2]).run P w = .ok r w') (h : wpList P ops Q rest (a.put o.dst r) w') : wpList P ops Q (o :: rest) a w := by
  refine wpList_plain hgd fun K hK => ?_
  unfold Oper.wp execOp
  simp only [ho, resolve, invoke, builtin, Sem.run_bind, Sem.run_pure, Result.andThen_ok, List.map_toArray, List.map_cons, List.map_nil, hs, hx, hr]
  exact hK _ _ h
end

/-- A run of stores into a list. -/
def setL : List Value → Nat → List Value → List Value
  | xs, _, [] => xs
  | xs, o, v :: r => setL (xs.set o v) (o + 1) r
theorem setL_len : ∀ (vs xs : List Value) (o : Nat), (setL xs o vs).length = xs.length
  | [], _, _ => rfl
  | v :: r, xs, o => by rw [setL, setL_len r]; simp
theorem setL_eq : ∀ (vs xs : List Value) (o : Nat), o + vs.length ≤ xs.length → setL xs o vs = xs.take o ++ vs ++ xs.drop (o + vs.length)
  | [], xs, o, _ => by simp [setL]
  | v :: r, xs, o, h => by
    simp only [List.length_cons] at h
    rw [setL, setL_eq r _ _ (by simp; omega)]
    apply List.ext_getElem?
    intro t
    simp only [List.getElem?_append, List.getElem?_take, List.getElem?_drop, List.length_append, List.length_take, List.length_set, List.length_cons, List.getElem?_set]
    rcases Nat.lt_trichotomy t o with ht | rfl | ht
    · have h1 : t < min (o + 1) xs.length := by omega
      have h2 : t < min (o + 1) xs.length + r.length := by omega
      have h3 : t < min o xs.length := by omega
      have h4 : t < min o xs.length + (r.length + 1) := by omega
      simp [h1, h2, h3, h4, ht, show t < o + 1 by omega, show o ≠ t by omega]
    · have h1 : t < min (t + 1) xs.length := by omega
      have h3 : ¬ t < min t xs.length := by omega
      have h5 : t - min t xs.length = 0 := by omega
      simp [h1, h3, h5, show t < min (t + 1) xs.length + r.length by omega, show t < min t xs.length + (r.length + 1) by omega, show t < xs.length by omega]
    · have h1 : ¬ t < min (o + 1) xs.length := by omega
      have h3 : ¬ t < min o xs.length := by omega
      have e1 : min (o + 1) xs.length = o + 1 := by omega
      have e2 : min o xs.length = o := by omega
      obtain ⟨u, hu⟩ : ∃ u, t = o + 1 + u := ⟨t - (o + 1), by omega⟩
      subst hu
      simp only [e1, e2]
      by_cases hu : u < r.length
      · simp [show o + 1 + u < o + 1 + r.length by omega, show ¬ o + 1 + u < o + 1 by omega, show o + 1 + u < o + (r.length + 1) by omega, show ¬ o + 1 + u < o by omega, show o + 1 + u - o = u + 1 by omega, show o + 1 + u - (o + 1) = u by omega]
      · simp [show ¬ o + 1 + u < o + 1 + r.length by omega, show ¬ o + 1 + u < o + (r.length + 1) by omega]
        have q : o + 1 + r.length + (o + 1 + u - (o + 1 + r.length)) = o + 1 + u := by omega
        have q2 : o + (r.length + 1) + (o + 1 + u - (o + (r.length + 1))) = o + 1 + u := by omega
        rw [q, q2, if_neg (by omega)]
theorem own_setCells {B e k n cap g : Nat} : ∀ (vs : List Value) (o : Nat) (w : World) (xs : List Value), w.ownsRow B e k (.slice (some ⟨g, 0, none⟩) n cap) n xs → (w.setCells g o vs).ownsRow B e k (.slice (some ⟨g, 0, none⟩) n cap) n (setL xs o vs)
  | [], _, _, _, h => h
  | v :: r, o, w, xs, h => own_setCells r (o + 1) _ _ (h.stored o v).1
theorem fr_setCells {F : Nat → Prop} {a : World} {g : Nat} (hg : F g) : ∀ (vs : List Value) (o : Nat) (w : World), Fr F a w → Fr F a (w.setCells g o vs)
  | [], _, _, h => h
  | v :: r, o, w, h => fr_setCells hg r (o + 1) _ (h.setCell (fun _ => hg) v)
theorem own_shrink {w : World} {B e k n m cap g : Nat} {xs : List Value} (h : w.ownsRow B e k (.slice (some ⟨g, 0, none⟩) n cap) n xs) (hm : m ≤ n) : w.ownsRow B e k (.slice (some ⟨g, 0, none⟩) m cap) m (xs.take (m * k)) := by
  have hmk := Nat.mul_le_mul_right k hm
  refine ⟨by rw [List.length_take, h.1]; omega, ?_⟩
  rcases h.2 with ⟨hv, _⟩ | ⟨g', cap', cur, hv, hb, hg, h1, h2, h3, h4⟩
  · simp at hv
  · simp at hv
    obtain ⟨rfl, rfl⟩ := hv
    refine .inr ⟨g, cap, cur, rfl, hb, hg, by omega, h2, h3, ?_⟩
    rw [← h4, List.take_take, Nat.min_eq_left hmk]
theorem flat_take (l : List Pt) : ∀ i, (flat Pt.enc l).take (i * 4) = flat Pt.enc (l.take i) := by
  intro i
  induction l generalizing i with
  | nil => simp [flat]
  | cons y t ih =>
    cases i with
    | zero => simp [flat]
    | succ i =>
      have := ih i
      simp only [flat, List.flatMap_cons, List.take_succ_cons, show (i + 1) * 4 = i * 4 + 1 + 1 + 1 + 1 by omega, Pt.enc, List.cons_append, List.nil_append] at this ⊢
      rw [this]
theorem flat_drop (l : List Pt) : ∀ i, (flat Pt.enc l).drop (i * 4) = flat Pt.enc (l.drop i) := by
  intro i
  induction l generalizing i with
  | nil => simp [flat]
  | cons y t ih =>
    cases i with
    | zero => simp [flat]
    | succ i =>
      have := ih i
      simp only [flat, List.flatMap_cons, List.drop_succ_cons, show (i + 1) * 4 = i * 4 + 1 + 1 + 1 + 1 by omega, Pt.enc, List.cons_append, List.nil_append] at this ⊢
      rw [this]
theorem del_cells (l : List Pt) (i : Nat) (hi : i < l.length) (zs : List Value) (hz : zs.length = 4) :
    (setL (setL (flat Pt.enc l) (i * 4) (flat Pt.enc (l.drop (i + 1)))) ((l.length - 1) * 4) zs).take ((l.length - 1) * 4) = flat Pt.enc (l.eraseIdx i) := by
  have hs : (flat Pt.enc l).length = l.length * 4 := flat_length Pt.len l
  have hd : (flat Pt.enc (l.drop (i + 1))).length = (l.length - (i + 1)) * 4 := by rw [flat_length Pt.len, List.length_drop]
  rw [setL_eq zs _ _ (by rw [setL_len, hs, hz]; omega), setL_eq _ _ _ (by rw [hs, hd]; omega), List.append_assoc, List.take_append_of_le_length (by simp [hs, hd]; omega)]
  rw [List.take_take, Nat.min_self, List.take_append_of_le_length (by simp [hs, hd]; omega), List.take_of_length_le (by simp [hs, hd]; omega)]
  rw [flat_take, ← flat_append, List.eraseIdx_eq_take_drop_succ]

def zero4 : List Value := [.int .i64 0, .int .i64 0, .int .i64 0, .int .i64 0]
theorem clear4 (ty : TypeId) (w : World) (b o c : Nat) (hc : ∀ j, j < 4 → (w.cell? ⟨b, o + j, none⟩).isSome = true) (hf : ∀ j, j < 4 → w.frozen? ⟨b, o + j, none⟩ = false) :
    (Builtin.clear_ #[ 187 ] ty #[.slice (some ⟨b, o, none⟩) 1 c]).run Tryz.prog w = .ok (.tuple #[]) (w.setCells b o zero4) := by
  have hst := run_storeCells_cells (P := Tryz.prog) b o zero4 0 w (by rw [show zero4.length = 4 from rfl]; simpa using hc) (by rw [show zero4.length = 4 from rfl]; simpa using hf) (by intro v hv; simp [zero4] at hv; subst hv; rfl)
  simp only [Nat.add_zero] at hst
  have hzc : (Builtin.zeroCells (Value.agg #[.int .i64 0, .int .i64 0, .int .i64 0, .int .i64 0]).cells 1).toList = zero4 := by kernel_rfl
  simp [Builtin.clear_, run_underlying Tryz.underlying187, Tryz.zeroValue248, hzc, hst]

set_option maxHeartbeats 3200000 in
set_option maxRecDepth 100000 in
/-- slices.Delete of one point. -/
theorem delete_any {w : World} {B g cap n i : Nat} {l : List Pt} (h : w.ownsRow B 248 4 (.slice (some ⟨g, 0, none⟩) n cap) n (flat Pt.enc l)) (hn : l.length = n) (hi : i < n) (hn64 : n ≤ 64) :
    Calls Tryz.prog 195 #[.slice (some ⟨g, 0, none⟩) n cap, .int .i64 i, .int .i64 ((i : Int) + 1)] w fun e w' => e = .returned (.slice (some ⟨g, 0, none⟩) (n - 1) cap) ∧
      w'.ownsRow B 248 4 (.slice (some ⟨g, 0, none⟩) (n - 1) cap) (n - 1) (flat Pt.enc (l.eraseIdx i)) ∧ Fr (fun k => k = g) w w' := by
  obtain ⟨i0, hi0, hz0, hz1, hz2⟩ := info_parts infoPt2
  have hs : (flat Pt.enc l).length = n * 4 := by rw [← hn]; exact flat_length Pt.len l
  have hcap : n ≤ cap ∧ cap ≤ maxLen := by
    rcases h.2 with ⟨hv, _⟩ | ⟨g', cap', cur, hv, hb, hg, h1, h2, h3, h4⟩
    · simp at hv
    · simp at hv; obtain ⟨rfl, rfl⟩ := hv; exact ⟨h1, h2⟩
  have hcm : cap ≤ 9223372036854775807 := by have := hcap.2; unfold maxLen at this; omega
  obtain ⟨news, hnews⟩ : ∃ news, news = flat Pt.enc (l.drop (i + 1)) := ⟨_, rfl⟩
  have hnl : news.length = (n - (i + 1)) * 4 := by rw [hnews, flat_length Pt.len, List.length_drop, hn]
  have hget : ∀ t u, news[t]? = some u → w.cell? ⟨g, (i + 1) * 4 + t, none⟩ = some u := by
    intro t u hu
    have ht := (List.getElem?_eq_some_iff.1 hu).1
    rw [hnews, ← flat_drop, List.getElem?_drop] at hu
    rw [h.cellAt _ (by omega), hu]
  obtain ⟨A, hA, hsrc⟩ : ∃ A : Addr, (if cap = i + 1 then some (⟨g, 0, none⟩ : Addr) else some ⟨g, (i + 1) * 4, none⟩) = some A ∧ Hid (∀ t u, news[t]? = some u → w.drew.cell? (A.add t) = some u) := by
    by_cases hc : cap = i + 1
    · refine ⟨⟨g, 0, none⟩, by simp [hc], fun t u hu => ?_⟩
      have h0 : news.length = 0 := by rw [hnl]; omega
      rw [List.length_eq_zero_iff.1 h0] at hu
      simp at hu
    · refine ⟨⟨g, (i + 1) * 4, none⟩, by simp [hc], fun t u hu => ?_⟩
      rw [Addr.add_lit]
      exact hget t u hu
  have h1 : ∀ u ∈ news, u.oneCell' = true := by
    intro u hu
    rw [hnews] at hu
    obtain ⟨x, _, hx⟩ := List.mem_flatMap.1 hu
    simp [Pt.enc] at hx
    rcases hx with rfl | rfl | rfl | rfl <;> rfl
  have hap : ∀ ty, (Builtin.append_ #[ 187, 187 ] ty #[.slice (some ⟨g, 0, none⟩) i cap, .slice (some A) (n - (i + 1)) (cap - (i + 1))]).run Tryz.prog w.drew = .ok (.slice (some ⟨g, 0, none⟩) (n - 1) cap) (w.drew.setCells g (i * 4) news) := by
    intro ty
    have := run_append_room_src (P := Tryz.prog) w.drew 187 187 ty 248 i0 Tryz.underlying187 hi0 g 0 i cap _ (n - (i + 1)) news
      (Src.ofSlice w.drew Tryz.underlying187 A (n - (i + 1)) (cap - (i + 1)) news (by rw [hz1]; exact hnl) hsrc.out h1) (by omega)
      (fun j hj => by
        have hj2 : i * 4 + j < n * 4 := by omega
        rw [hz1]
        show (w.cell? _).isSome = true
        rw [Nat.zero_add, h.cellAt _ hj2, List.getElem?_eq_getElem (by omega)]; rfl) (fun j hj => by rw [hz1, Nat.zero_add]; exact h.frozenAt _)
    rw [hz1, Nat.zero_add] at this
    rw [this, show i + (n - (i + 1)) = n - 1 by omega]
  have hown1 := own_setCells news (i * 4) _ _ h.drew
  obtain ⟨W1, hW1⟩ : ∃ W1, W1 = w.drew.setCells g (i * 4) news := ⟨_, rfl⟩
  rw [← hW1] at hown1
  have hsl : (setL (flat Pt.enc l) (i * 4) news).length = n * 4 := by rw [setL_len, hs]
  have hcl : ∀ ty, (Builtin.clear_ #[ 187 ] ty #[.slice (some ⟨g, (n - 1) * 4, none⟩) (n - (n - 1)) (cap - (n - 1))]).run Tryz.prog W1 = .ok (.tuple #[]) (W1.setCells g ((n - 1) * 4) zero4) := fun ty => by
    rw [show n - (n - 1) = 1 by omega]
    exact clear4 ty W1 g ((n - 1) * 4) (cap - (n - 1)) (fun j hj => by rw [hown1.cellAt _ (by omega), List.getElem?_eq_getElem (by omega)]; rfl) (fun j hj => hown1.frozenAt _)
  have hpost : (W1.setCells g ((n - 1) * 4) zero4).ownsRow B 248 4 (.slice (some ⟨g, 0, none⟩) (n - 1) cap) (n - 1) (flat Pt.enc (l.eraseIdx i)) ∧ Fr (fun k => k = g) w (W1.setCells g ((n - 1) * 4) zero4) := by
    constructor
    · have := own_shrink (own_setCells zero4 ((n - 1) * 4) _ _ hown1) (m := n - 1) (by omega)
      have hd := del_cells l i (by omega) zero4 rfl
      rw [hn, ← hnews] at hd
      rw [hd] at this
      exact this
    · refine fr_setCells (F := fun k => k = g) rfl zero4 _ _ ?_
      rw [hW1]
      exact fr_setCells (F := fun k => k = g) rfl news _ _ (Fr.refl _ w).drew
  have HP := Lib.hid hpost
  have Hap := Lib.hid hap
  have HW := Lib.hid hW1
  have hic : i ≤ cap := by omega
  have hjc : i + 1 ≤ cap := by omega
  have hn1 : n - 1 ≤ n := by omega
  clear hpost hap hW1 hown1 h hs hnews hnl hget hsl h1 hn
  go_enter Tryz.func195, Tryz.ntmps195
  go_wp2_with fail
  refine wp_region_chain 33 [0, 0, 3, 0, 0, 24, 63, 127] [(0, none), (1, none), (2, none), (3, none), (4, none), (5, none), (6, some []), (7, none)] (by kernel_rfl) (by kernel_rfl) (by rfl) ?_; simp only [chain, Obs, List.getElem?_toArray, List.getElem?_cons_zero, List.getElem?_cons_succ]
  go_wp2_with (first
    | (with_reducible refine And.intro (by first | with_reducible exact True.intro | with_reducible rfl | go_simp) ?_)
    | (at_builtin; go_loud (refine wpList_append_run (by rfl) _ _ _ (by rfl) (.slice (some ⟨g, 0, none⟩) i cap) (.slice (some A) (n - (i + 1)) (cap - (i + 1))) (by rfl) (by rfl) _ _ (Hap.out _) ?_); rw [← HW.out]))
  refine NoPanic.normal ?_
  go_wp2_with fail
  go_ret
  exact ⟨rfl, HP.out⟩

set_option maxHeartbeats 1600000 in
theorem Leave_none {w : World} {B b : Nat} {a : Option Addr} {c : Nat} {base cur : Int} {l : List Pt} (h : LineAt w B b a c base cur l) (hl : l.length ≤ 64) (id : Int) (hf : fi (isId id) l = -1) :
    Calls Tryz.prog 188 #[.pointer (some ⟨b, 0, none⟩), .int .i64 id] w fun e w' => e = .returned (.tuple #[.int .i64 0, .int .i64 2]) ∧ Below w.heap.size w w' := by
  have Hf := Lib.hid (find_any h hl id hf)
  clear h hf
  go_enter Tryz.func188, Tryz.ntmps188
  go_wp2_with (go_at_call 191; refine Hf.out.mono ?_; rintro e w1 ⟨rfl, hb1⟩)
  go_ret2
  exact ⟨rfl, hb1⟩

set_option maxHeartbeats 3200000 in
set_option maxRecDepth 100000 in
theorem Leave_go {w : World} {B b : Nat} {a : Option Addr} {c : Nat} {base cur : Int} {l : List Pt} (h : LineAt w B b a c base cur l) (hl : l.length ≤ 64) (id : Int) (j : Nat) (x : Pt) (hf : fi (isId id) l = j) (hx : l[j]? = some x)
    (hb1 : -2305843009213693952 ≤ base) (hb2 : base ≤ 4611686018427387904) (hv1 : -2305843009213693952 ≤ x.v) (hv2 : x.v ≤ 4611686018427387904) :
    Calls Tryz.prog 188 #[.pointer (some ⟨b, 0, none⟩), .int .i64 id] w fun e w' => e = .returned (.tuple #[.int .i64 (base - x.v), .int .i64 0]) ∧
      LineAt w' B b a c (growB base (l.eraseIdx j)) (if cur = id then -1 else cur) (l.eraseIdx j) ∧ Fr (foot b a) w w' := by
  generalize hcu : (if cur = id then -1 else cur) = cu
  have Hcu := Lib.hid hcu
  clear hcu
  obtain ⟨T, hT⟩ := h.blk
  have Hf := Lib.hid (find_any h hl id hf)
  have hjl : j < l.length := (List.getElem?_eq_some_iff.1 hx).1
  have hj0 : ¬ (j : Int) < 0 := by omega
  have hj1 : (0 : Int) ≤ j := by omega
  have hjn : (j : Int) < l.length := by omega
  have hsub : IntKind.i64.wrap (base - x.v) = base - x.v := IntWalk.i64_in _ (by omega)
  obtain ⟨r, rfl, _, _, _, _, _, _, _, _, hne, hr⟩ := h.elem j x hx
  have H0 := Lib.hid h
  have HT := Lib.hid hT
  have Hx := Lib.hid hx
  have hlen : (l.eraseIdx j).length = l.length - 1 := by rw [List.length_eraseIdx, if_pos hjl]
  have Hlen := Lib.hid hlen
  have hbr : b ≠ r := fun e => hne e.symm
  clear h hT hf hx hlen
  go_enter Tryz.func188, Tryz.ntmps188
  go_wp2_with (go_at_call 191; refine Hf.out.mono ?_; rintro e w1 ⟨rfl, hb1⟩; obtain ⟨r', hr', d0, d1, d2, d3, z0, z1, z2, z3, hne1, hr1⟩ := (H0.out.below hb1).elem j x Hx.out; cases hr'; obtain ⟨c0, c1, c2, f0, f1, f2, hlt⟩ := blk3 (heap_below HT.out hb1))
  refine wp_region_chain 49 [0, 1, 3, 7, 0, 16, 48, 112, 0, 496, 1008, 2032, 4095, 8191] [(0, none), (1, none), (2, none), (3, none), (4, none), (5, none), (6, none), (7, none), (8, none), (9, none), (10, none), (11, none), (12, none), (13, none)] (by kernel_rfl) (by kernel_rfl) (by rfl) ?_; simp only [chain, Obs, List.getElem?_toArray, List.getElem?_cons_zero, List.getElem?_cons_succ]
  go_wp2_with (first
    | (with_reducible refine And.intro (by first | with_reducible exact True.intro | with_reducible rfl | go_simp) ?_))
  refine NoPanic.normal ?_
  have hdel := delete_any (w := w1.drew) (H0.out.below hb1).drew.row rfl hjl hl
  have Hd := Lib.hid hdel
  clear hdel
  have hfoot : foot b (some ⟨r, 0, none⟩) r := .inr ⟨_, rfl, rfl⟩
  by_cases hci : cur = id
  · have hcb : (cur == id) = true := by simpa using hci
    have hcu := Hcu.out
    rw [if_pos hci] at hcu
    subst hcu
    clear hci
    go_wp2_with (first
      | (go_at_call 195; refine Hd.out.mono ?_; rintro e w2 ⟨rfl, ho2, hf2⟩
         have hT2 := heap_fr (heap_below (w := w) HT.out (hb1.drew)) hf2 hbr
         obtain ⟨c0, c1, c2, f0, f1, f2, hlt2⟩ := blk3 hT2
         have HL2 := Lib.hid (LineAt.mk (w := w2.setCell ⟨b, 2, none⟩ (.slice (some ⟨r, 0, none⟩) (l.length - 1) c)) (B := B) (b := b) (a := some ⟨r, 0, none⟩) (c := c) (base := base) (cur := cur) (l := l.eraseIdx j) H0.out.hb ⟨T, by rw [Hlen.out]; exact heap_set hT2 _⟩ (by rw [Hlen.out]; exact own_set ho2 (by simpa [Value.ownBlock] using hne)) (fun p hp => by cases hp; exact hne))
         have Hf2 := Lib.hid (((Fr.of_below (F := foot b (some ⟨r, 0, none⟩)) (hb1.drew)).trans hf2 (fun k _ e => by subst e; exact hfoot)).setCell (p := ⟨b, 2, none⟩) (fun _ => .inl rfl) (.slice (some ⟨r, 0, none⟩) (l.length - 1) c))
         clear hT2 hf2 ho2)
      | (go_at_call 192; refine (grow_any (HL2.out.set1 (-1)) (by rw [Hlen.out]; omega)).mono ?_; rintro e w5 ⟨rfl, hL5, hf5⟩))
    go_ret2
    exact ⟨rfl, hL5, (Hf2.out.setCell (p := ⟨b, 1, none⟩) (fun _ => .inl rfl) _).trans hf5 (fun k _ e => .inl e)⟩
  · have hcb : (cur == id) = false := by simpa using hci
    have hcu := Hcu.out
    rw [if_neg hci] at hcu
    subst hcu
    clear hci
    go_wp2_with (first
      | (go_at_call 195; refine Hd.out.mono ?_; rintro e w2 ⟨rfl, ho2, hf2⟩
         have hT2 := heap_fr (heap_below (w := w) HT.out (hb1.drew)) hf2 hbr
         obtain ⟨c0, c1, c2, f0, f1, f2, hlt2⟩ := blk3 hT2
         have HL2 := Lib.hid (LineAt.mk (w := w2.setCell ⟨b, 2, none⟩ (.slice (some ⟨r, 0, none⟩) (l.length - 1) c)) (B := B) (b := b) (a := some ⟨r, 0, none⟩) (c := c) (base := base) (cur := cur) (l := l.eraseIdx j) H0.out.hb ⟨T, by rw [Hlen.out]; exact heap_set hT2 _⟩ (by rw [Hlen.out]; exact own_set ho2 (by simpa [Value.ownBlock] using hne)) (fun p hp => by cases hp; exact hne))
         have Hf2 := Lib.hid (((Fr.of_below (F := foot b (some ⟨r, 0, none⟩)) (hb1.drew)).trans hf2 (fun k _ e => by subst e; exact hfoot)).setCell (p := ⟨b, 2, none⟩) (fun _ => .inl rfl) (.slice (some ⟨r, 0, none⟩) (l.length - 1) c))
         clear hT2 hf2 ho2)
      | (go_at_call 192; refine (grow_any HL2.out (by rw [Hlen.out]; omega)).mono ?_; rintro e w5 ⟨rfl, hL5, hf5⟩))
    go_ret2
    exact ⟨rfl, hL5, Hf2.out.trans hf5 (fun k _ e => .inl e)⟩
end Go.Proofs.YtlgkkolgdjgclaaGreat
