/- Tries and a system in memory, one try looked at: what the closed statements ask. -/
import Derived.Test.YtlgkkolgdjgclaaGreatSwP
import Derived.Test.YtlgkkolgdjgclaaGreatMade
namespace Go.Proofs.YtlgkkolgdjgclaaGreat
open Go.RowKit Go.Shelf Go.Maps
set_option linter.unusedVariables false
set_option linter.unusedSimpArgs false

section
variable {m : Int} {n : Nat} {s : SysS}
theorem step_free (h : Free m n s) (z : SwS) (c : Int) : Free m n (z.step s c).2.1 := by
  unfold SwS.step
  split
  · split
    · exact h
    · split
      · exact h
      · exact h.setC _ _
  · exact h
theorem all_free (h : Free m n s) (z : SwS) (c tag : Int) : Free m n (z.allT s c tag).2.1 := by
  unfold SwS.allT
  split
  · exact h.setC _ _
  · exact h
theorem att_free (h : Free m n s) (z : SwS) (c tag : Int) (l : List Bl) : Free m n (z.attT s c tag l).2.1 := by
  unfold SwS.attT
  split
  · exact h.setC _ _
  · exact h
theorem Free.run_eq (h : Free m n s) {c : Int} (hc : 0 ≤ c ∧ c < s.cores.length) : (s.run c).1 = s.setC c.toNat (s.core c).run.1 := by
  unfold SysS.run
  rw [if_pos hc]
  have h1 := h.setC c.toNat (s.core c).run.1
  simp only
  split
  · rfl
  · simp only; rw [h1.useG, h1.holdL]
theorem run_age {T : Nat} {d : CoreS} (h : CorFine T d) (hT : T ≤ 10000000) : d.age < d.run.1.age := by
  obtain ⟨-, h2, -⟩ := h.run hT
  revert h2
  unfold CoreS.run
  split
  · intro _; simp only; omega
  · split
    · intro _; simp only; omega
    · rename_i h1 _
      intro h2
      exact absurd h2 h1
end
theorem made_ok (l1 l2 : List Int) (hg : newGood l1) (h6 : l1.length ≤ 6) (h12 : l2.length ≤ 12) : SysOk 36 (madeF (2 ^ l1.length - 1) l2 (SysS.new l1)) ∧ Free (2 ^ l1.length - 1) l1.length (madeF (2 ^ l1.length - 1) l2 (SysS.new l1)) := by
  have hM16 : 0 ≤ (2 ^ l1.length - 1 : Int) ∧ (2 ^ l1.length - 1 : Int) < 65536 := mask_16 h6
  have key : ∀ k, k ≤ l2.length → SysOk (3 * k) (madeF (2 ^ l1.length - 1) (l2.take k) (SysS.new l1)) ∧ Free (2 ^ l1.length - 1) l1.length (madeF (2 ^ l1.length - 1) (l2.take k) (SysS.new l1)) := fun k => by
    induction k with
    | zero => exact fun _ => ⟨SysOk.new hg, Free.new l1 _⟩
    | succ k ih =>
      intro hk
      obtain ⟨hok, hfr⟩ := ih (by omega)
      obtain ⟨x, hx⟩ : ∃ x, l2[k]? = some x := ⟨_, List.getElem?_eq_getElem (by omega)⟩
      rw [madeF_succ hx]
      generalize madeF (2 ^ l1.length - 1) (l2.take k) (SysS.new l1) = s at *
      have hok1 := hok.spawn x (2 ^ l1.length - 1) 0 hM16
      unfold made1
      rcases hfr.made hok (by omega) x with ⟨n1', n2'⟩ | ⟨n1', n2', n3'⟩
      · rw [if_neg n1', n2']
        exact ⟨hok.mono (by omega), hfr⟩
      · rw [if_pos n1']
        exact ⟨(hok1.start (by omega) _).mono (by omega), n3'⟩
  have := key l2.length (Nat.le_refl _)
  rw [List.take_length] at this
  exact ⟨this.1.mono (by omega), this.2⟩
set_option maxHeartbeats 800000 in
theorem SwNewNil (w : World) : Calls Tryz.prog 27 #[.pointer none] w fun e w' => e = .returned (.tuple #[.pointer none, .int .i64 1]) ∧ w = w' := by
  go_enter Tryz.func27, Tryz.ntmps27
  go_wp2_with fail
  go_ret2
  exact ⟨rfl, rfl⟩
/-- A system at B, its tries at C; the try of number i0, if it is there, at t. -/
def KZ (w0 W : World) (B C i0 t : Nat) (s : SysS) (z : SwS) : Prop := ∃ ow L oz M, L.b = B ∧ M.b = C ∧ (i0 < z.all.length → M.tb i0 = t) ∧ SwIn w0 W ow L s oz M z
section
variable {w0 W : World} {B C i0 t : Nat} {s s' : SysS} {z z' : SwS} {F : FuncId} {args : Array Value} {v : Value}
theorem KZ.below {W' : World} (h : KZ w0 W B C i0 t s z) (hb : Below W.heap.size W W') : KZ w0 W' B C i0 t s z := by
  obtain ⟨ow, L, oz, M, h1, h2, h3, h4⟩ := h
  exact ⟨ow, L, oz, M, h1, h2, h3, h4.below hb⟩
theorem KZ.old (h : KZ w0 W B C i0 t s z) : Below w0.heap.size w0 W := by
  obtain ⟨ow, L, oz, M, h1, h2, h3, h4⟩ := h
  exact h4.sys.old
theorem KZ.call (hC : ∀ ow L oz M, SwIn w0 W ow L s oz M z → L.b = B → M.b = C → (i0 < z.all.length → M.tb i0 = t) → Calls Tryz.prog F args W fun e w' => e = .returned v ∧ SwTo w0 W ow L oz M s' z' w') (hl : z'.all.length = z.all.length ∨ i0 < z.all.length) (h : KZ w0 W B C i0 t s z) : Calls Tryz.prog F args W fun e w' => e = .returned v ∧ KZ w0 w' B C i0 t s' z' := by
  obtain ⟨ow, L, oz, M, h1, h2, h3, h4⟩ := h
  refine (hC ow L oz M h4 h1 h2 h3).mono fun e w' ⟨a, ow', oz', M', b1, b2, b3, _⟩ => ⟨a, ow', L, oz', M', h1, b1.trans h2, fun hlt => ?_, b3⟩
  have hz : i0 < z.all.length := by omega
  exact (b2 i0 (h4.ot i0 hz)).trans (h3 hz)
theorem KZ.opened (hC : ∀ ow L oz M, SwIn w0 W ow L s oz M z → L.b = B → M.b = C → Calls Tryz.prog F args W fun e w' => e = .returned v ∧ SwTo w0 W ow L oz M s' z' w') (h : KZ w0 W B C i0 t s z) : Calls Tryz.prog F args W fun e w' => e = .returned v ∧ ∃ t', KZ w0 w' B C i0 t' s' z' := by
  obtain ⟨ow, L, oz, M, h1, h2, h3, h4⟩ := h
  exact (hC ow L oz M h4 h1 h2).mono fun e w' ⟨a, ow', oz', M', b1, b2, b3, _⟩ => ⟨a, M'.tb i0, ow', L, oz', M', h1, b1.trans h2, fun hlt => rfl, b3⟩
theorem KZ.same (hC : ∀ ow L oz M, SwIn w0 W ow L s oz M z → L.b = B → M.b = C → (i0 < z.all.length → M.tb i0 = t) → Calls Tryz.prog F args W fun e w' => e = .returned v ∧ W = w') (h : KZ w0 W B C i0 t s z) : Calls Tryz.prog F args W fun e w' => e = .returned v ∧ KZ w0 w' B C i0 t s z ∧ W = w' := by
  obtain ⟨ow, L, oz, M, h1, h2, h3, h4⟩ := h
  exact (hC ow L oz M h4 h1 h2 h3).mono fun e w' ⟨a, b⟩ => ⟨a, b ▸ ⟨ow, L, oz, M, h1, h2, h3, h4⟩, b⟩
theorem KZ.callB {W1 : World} (hC : ∀ ow L oz M, SwIn w0 W ow L s oz M z → L.b = B → M.b = C → (i0 < z.all.length → M.tb i0 = t) → Calls Tryz.prog F args W1 fun e w' => e = .returned v ∧ SwTo w0 W1 ow L oz M s' z' w') (hl : z'.all.length ≤ i0) (h : KZ w0 W B C i0 t s z) : Calls Tryz.prog F args W1 fun e w' => e = .returned v ∧ KZ w0 w' B C i0 t s' z' := by
  obtain ⟨ow, L, oz, M, h1, h2, h3, h4⟩ := h
  exact (hC ow L oz M h4 h1 h2 h3).mono fun e w' ⟨a, ow', oz', M', b1, b2, b3, _⟩ => ⟨a, ow', L, oz', M', h1, b1.trans h2, fun hlt => by omega, b3⟩
theorem KZ.strike (h : KZ w0 W B C i0 t s z) {c : Nat} {x : TryS} {d : CoreS} (hx : z.all[i0]? = some (c, x)) (hd : s.cores[c]? = some d) (hok : TryOk x) (b : Bl) : Calls Tryz.prog 23 #[.pointer (some ⟨t, 0, none⟩), .agg #[.int .i64 b.op, .int .i64 b.st, .int .i64 b.ix, .int .u8 b.y]] W fun e w' => e = .returned (.bool (x.strike b).2) ∧ KZ w0 w' B C i0 t s (z.set i0 (x.strike b).1) := by
  obtain ⟨ow, L, oz, M, h1, h2, h3, h4⟩ := h
  have hi := (List.getElem?_eq_some_iff.1 hx).1
  obtain ⟨bl, F, p, q, r, hbl, hcst, how, htr, hdis⟩ := h4.at hx hd
  have hS := StStrike hcst htr hdis hok b
  rw [h3 hi] at hS
  refine hS.mono fun e w' ⟨a, hn⟩ => ⟨a, ?_⟩
  rw [← h3 hi] at hn
  obtain ⟨ow', oz', M', b1, b2, b3, -⟩ := h4.next hx hd hbl how hn
  rw [setC_self hd] at b3
  exact ⟨ow', L, oz', M', h1, b1.trans h2, fun _ => (b2 i0 (h4.ot i0 hi)).trans (h3 hi), b3⟩
/-- The try that is looked at. -/
theorem KZ.tryat (h : KZ w0 W B C i0 t s z) {c : Nat} {x : TryS} (hx : z.all[i0]? = some (c, x)) : ∃ G bl, TryAt w0 W t G bl x x.stage := by
  obtain ⟨ow, L, oz, M, h1, h2, h3, h4⟩ := h
  obtain ⟨bl, a1, a2⟩ := h4.try' i0 c x hx
  rw [h3 (List.getElem?_eq_some_iff.1 hx).1] at a2
  exact ⟨_, bl, a2⟩
end
set_option maxHeartbeats 800000 in
set_option maxRecDepth 100000 in
theorem StrikeNil (w : World) (op st ix y : Int) : Calls Tryz.prog 23 #[.pointer none, .agg #[.int .i64 op, .int .i64 st, .int .i64 ix, .int .u8 y]] w fun e w' => e = .returned (.bool false) ∧ Below w.heap.size w w' := by
  go_enter Tryz.func23, Tryz.ntmps23
  go_wp2_with fail
  refine wp_region_chain 41 [0, 1, 3, 7, 15, 7, 39, 127, 255] [(0, none), (1, none), (2, none), (3, none), (5, none), (6, none), (4, some [5, 6]), (7, none), (8, none)] (by kernel_rfl) (by kernel_rfl) (by rfl) ?_; simp only [chain, Obs, List.getElem?_toArray, List.getElem?_cons_zero, List.getElem?_cons_succ]
  go_wp2_with (with_reducible refine And.intro (by first | with_reducible exact True.intro | with_reducible rfl | go_simp) ?_)
  refine NoPanic.normal ?_
  go_wp2_with fail
  go_ret
  exact ⟨rfl, ((Below.refl _ _).alloc (Nat.le_refl _) _).drew⟩
theorem slB2k (w : World) (a b : Bl) (T : TypeId) : Sl Bl.enc 4 (w.alloc (.cells #[.int .i64 a.op, .int .i64 a.st, .int .i64 a.ix, .int .u8 a.y, .int .i64 b.op, .int .i64 b.st, .int .i64 b.ix, .int .u8 b.y] T)) (some ⟨w.heap.size, 0, none⟩) [a, b] := fun _ => by
  have hh := heap_new w (.cells #[.int .i64 a.op, .int .i64 a.st, .int .i64 a.ix, .int .u8 a.y, .int .i64 b.op, .int .i64 b.st, .int .i64 b.ix, .int .u8 b.y] T)
  refine ⟨w.heap.size, 0, rfl, by simp, fun j z hj i u hi => ?_⟩
  have hj2 : j < 2 := by have := (List.getElem?_eq_some_iff.1 hj).1; simpa using this
  have hi4 : i < 4 := by have := (List.getElem?_eq_some_iff.1 hi).1; simpa [Bl.enc] using this
  obtain rfl | rfl : j = 0 ∨ j = 1 := by omega
  all_goals
    simp at hj
    subst hj
    obtain rfl | rfl | rfl | rfl : i = 0 ∨ i = 1 ∨ i = 2 ∨ i = 3 := by omega
    all_goals
      simp [Bl.enc] at hi
      subst hi
      unfold World.cell?
      rw [hh]
      rfl
theorem sl2k (w : World) (x y : Int) (T : TypeId) : Sl int1 1 (w.alloc (.cells #[.int .i64 x, .int .i64 y] T)) (some ⟨w.heap.size, 0, none⟩) [x, y] := slk w x y T
theorem sl3k (w : World) (x y v : Int) (T : TypeId) : Sl int1 1 (w.alloc (.cells #[.int .i64 x, .int .i64 y, .int .i64 v] T)) (some ⟨w.heap.size, 0, none⟩) [x, y, v] := fun _ => by
  have hh := heap_new w (.cells #[.int .i64 x, .int .i64 y, .int .i64 v] T)
  refine ⟨w.heap.size, 0, rfl, by simp, fun j u hj i q hi => ?_⟩
  have hj3 : j < 3 := by have := (List.getElem?_eq_some_iff.1 hj).1; simpa using this
  have hi0 : i = 0 := by have := (List.getElem?_eq_some_iff.1 hi).1; simp [int1] at this; omega
  subst hi0
  simp [int1] at hi
  subst hi
  obtain rfl | rfl | rfl : j = 0 ∨ j = 1 ∨ j = 2 := by omega
  all_goals
    simp at hj
    subst hj
    show (w.alloc (.cells #[.int .i64 x, .int .i64 y, .int .i64 v] T)).cell? ⟨w.heap.size, _, none⟩ = _
    unfold World.cell?
    rw [hh]
    rfl
theorem sl3a (w : World) (o : Obj) (x y v : Int) (T : TypeId) : Sl int1 1 ((w.alloc o).alloc (.cells #[.int .i64 x, .int .i64 y, .int .i64 v] T)) (some ⟨w.heap.size + 1, 0, none⟩) [x, y, v] := by
  have h := sl3k (w.alloc o) x y v T
  have e : (w.alloc o).heap.size = w.heap.size + 1 := by simp
  rw [e] at h
  exact h
end Go.Proofs.YtlgkkolgdjgclaaGreat
