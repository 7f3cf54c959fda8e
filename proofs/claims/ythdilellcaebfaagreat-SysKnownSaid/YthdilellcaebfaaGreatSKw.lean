/- The walk of SysKnown. -/
import Derived.Test.YthdilellcaebfaaGreatSKn
import Derived.Test.YthdilellcaebfaaGreatSzY
namespace Go.Proofs.YthdilellcaebfaaGreat
open Go.RowKit Go.Shelf
set_option linter.unusedVariables false
set_option linter.unusedSimpArgs false

/-- A system in memory, and some blocks that stay. -/
def KN (w0 W : World) (B n : Nat) (s : SysS) (bs : List (Nat × Obj)) : Prop := ∃ ow L, L.b = B ∧ L.mn ≤ n ∧ SysIn w0 W ow L s ∧ ∀ p ∈ bs, W.heap[p.1]? = some p.2 ∧ ow p.1 = none
section
variable {w0 W : World} {B n : Nat} {s s' : SysS} {bs : List (Nat × Obj)}
theorem KN.below {W' : World} (h : KN w0 W B n s bs) (hb : Below W.heap.size W W') : KN w0 W' B n s bs := by
  obtain ⟨ow, L, h1, h2, h3, h4⟩ := h
  exact ⟨ow, L, h1, h2, h3.below hb, fun p hp => ⟨heap_below (h4 p hp).1 hb, (h4 p hp).2⟩⟩
theorem KN.told (h : KN w0 W B n s bs) (o : Obj) : KN w0 (W.alloc o) B n s ((W.heap.size, o) :: bs) := by
  obtain ⟨ow, L, h1, h2, h3, h4⟩ := h
  have hb := (Below.refl _ W).alloc (Nat.le_refl _) o
  refine ⟨ow, L, h1, h2, h3.below hb, fun p hp => ?_⟩
  rcases List.mem_cons.1 hp with rfl | hp
  · refine ⟨heap_new W o, ?_⟩
    rcases Option.eq_none_or_eq_some (ow W.heap.size) with e | ⟨x, e⟩
    · exact e
    · have := (h3.lt _ _ e).2; omega
  · exact ⟨heap_below (h4 p hp).1 hb, (h4 p hp).2⟩
theorem KN.nx {W' : World} {ow : Nat → Option Own} {L : Lay} (h1 : L.b = B) (h2 : L.mn ≤ n) (h3 : SysIn w0 W ow L s) (h4 : ∀ p ∈ bs, W.heap[p.1]? = some p.2 ∧ ow p.1 = none) (hx : SysNx w0 W ow L s' W') : KN w0 W' B (n + 1) s' bs := by
  obtain ⟨ow', L', a1, a2, a3, a4, a5⟩ := hx
  refine ⟨ow', L', a1.trans h1, by omega, a3, fun p hp => ?_⟩
  obtain ⟨b1, b2⟩ := h4 p hp
  refine ⟨heap_fr b1 a4 (fun h => h b2), ?_⟩
  rcases Option.eq_none_or_eq_some (ow' p.1) with e | ⟨x, e⟩
  · exact e
  · rcases a5 p.1 (by rw [e]; simp) with e2 | e2
    · exact absurd b2 e2
    · have := (Array.getElem?_eq_some_iff.1 b1).1; omega
theorem KN.call {F : FuncId} {args : Array Value} {v : Value} (hC : ∀ ow L, SysIn w0 W ow L s → L.b = B → L.mn ≤ n → Calls Tryz.prog F args W fun e w' => e = .returned v ∧ SysNx w0 W ow L s' w') (h : KN w0 W B n s bs) : Calls Tryz.prog F args W fun e w' => e = .returned v ∧ KN w0 w' B (n + 1) s' bs := by
  obtain ⟨ow, L, h1, h2, h3, h4⟩ := h
  exact (hC ow L h3 h1 h2).mono fun e w' ⟨a, b⟩ => ⟨a, KN.nx h1 h2 h3 h4 b⟩
theorem KN.read {F : FuncId} {args : Array Value} {v : Value} (hC : ∀ ow L, SysIn w0 W ow L s → L.b = B → L.mn ≤ n → Calls Tryz.prog F args W fun e w' => e = .returned v ∧ Below W.heap.size W w') (h : KN w0 W B n s bs) : Calls Tryz.prog F args W fun e w' => e = .returned v ∧ KN w0 w' B n s bs := by
  obtain ⟨ow, L, h1, h2, h3, h4⟩ := h
  exact (hC ow L h3 h1 h2).mono fun e w' ⟨a, b⟩ => ⟨a, KN.below ⟨ow, L, h1, h2, h3, h4⟩ b⟩
theorem KN.same {F : FuncId} {args : Array Value} {v : Value} (hC : ∀ ow L, SysIn w0 W ow L s → L.b = B → L.mn ≤ n → Calls Tryz.prog F args W fun e w' => e = .returned v ∧ W = w') (h : KN w0 W B n s bs) : Calls Tryz.prog F args W fun e w' => e = .returned v ∧ KN w0 w' B n s bs ∧ W = w' := by
  obtain ⟨ow, L, h1, h2, h3, h4⟩ := h
  exact (hC ow L h3 h1 h2).mono fun e w' ⟨a, b⟩ => ⟨a, b ▸ ⟨ow, L, h1, h2, h3, h4⟩, b⟩
theorem KN.old (h : KN w0 W B n s bs) : Below w0.heap.size w0 W := by
  obtain ⟨ow, L, h1, h2, h3, h4⟩ := h
  exact h3.old
theorem KN.hd {g : Nat} {o : Obj} (h : KN w0 W B n s ((g, o) :: bs)) : W.heap[g]? = some o := by
  obtain ⟨ow, L, h1, h2, h3, h4⟩ := h
  exact (h4 (g, o) (by simp)).1
theorem KN.tl {p : Nat × Obj} (h : KN w0 W B n s (p :: bs)) : KN w0 W B n s bs := by
  obtain ⟨ow, L, h1, h2, h3, h4⟩ := h
  exact ⟨ow, L, h1, h2, h3, fun q hq => h4 q (by simp [hq])⟩
end
theorem sl2 (w : World) (x y : Int) (T : TypeId) : Sl int1 1 (w.alloc (.cells #[.int .i64 x, .int .i64 y] T)) (some ⟨w.heap.size, 0, none⟩) [x, y] := fun _ => by
  have hh := heap_new w (.cells #[.int .i64 x, .int .i64 y] T)
  refine ⟨w.heap.size, 0, rfl, by simp, fun j z hj i u hi => ?_⟩
  have hj2 : j < 2 := by have := (List.getElem?_eq_some_iff.1 hj).1; simpa using this
  have hi0 : i = 0 := by have := (List.getElem?_eq_some_iff.1 hi).1; simp [int1] at this; omega
  subst hi0
  simp [int1] at hi
  subst hi
  obtain rfl | rfl : j = 0 ∨ j = 1 := by omega
  · simp at hj; subst hj
    show (w.alloc (.cells #[.int .i64 x, .int .i64 y] T)).cell? ⟨w.heap.size, 0, none⟩ = _
    unfold World.cell?; rw [hh]; rfl
  · simp at hj; subst hj
    show (w.alloc (.cells #[.int .i64 x, .int .i64 y] T)).cell? ⟨w.heap.size, 1, none⟩ = _
    unfold World.cell?; rw [hh]; rfl
theorem sl1a (w : World) (o : Obj) (x : Int) (T : TypeId) : Sl int1 1 ((w.alloc o).alloc (.cells #[.int .i64 x] T)) (some ⟨w.heap.size + 1, 0, none⟩) [x] := by
  have h := sl1 (w.alloc o) x T
  have e : (w.alloc o).heap.size = w.heap.size + 1 := by simp
  rw [e] at h
  exact h
theorem bs2 (w : World) (a b : Int) : (Instr.buildSlice 22 2 #[(0, .int .i64 a), (1, .int .i64 b)]).run Tryz.prog w = .ok (.slice (some ⟨w.heap.size, 0, none⟩) 2 2) (w.alloc (.cells #[.int .i64 a, .int .i64 b] 3)) := by kernel_rfl
set_option maxHeartbeats 12800000 in
set_option maxRecDepth 100000 in
theorem sysKnown_walk (w : World) : Calls Tryz.prog 6 #[] w fun e w' => e = .returned (.bool true) ∧ Below w.heap.size w w' := by
  have HA := Lib.hid (fun (W : World) => awake23 W)
  have N1 := Lib.hid (fun (a : Option Addr) (c : Nat) (W : World) (hs : Sl int1 1 W a []) => (YNew [] 0 rfl a c W hs).mono (fun e w' h => h.resolve_left (fun h => by have := h.1.1; simp at this)))
  have N2 := Lib.hid (fun (a : Option Addr) (c : Nat) (W : World) (hs : Sl int1 1 W a [0, 3]) => (YNew [0, 3] 2 rfl a c W hs).mono (fun e w' h => h.resolve_left (fun h => by have := h.1.2.2 3 (by simp); unfold TagOk at this; omega)))
  have hg01 : newGood [0, 1] := ⟨by decide, by decide, fun t ht => by simp at ht; rcases ht with rfl | rfl; exact .inl rfl; exact .inr (.inl rfl)⟩
  have N3 := Lib.hid (fun (a : Option Addr) (c : Nat) (W : World) (hs : Sl int1 1 W a [0, 1]) => (YNew [0, 1] 2 rfl a c W hs).mono (fun e w' h => h.resolve_right (fun h => h.1 hg01)))
  have O1 := Lib.hid (fun (a : Option Addr) (c : Nat) (W : World) (hs : Sl int1 1 W a [0, 1]) => MOf [0, 1] 2 rfl (by decide) a c W hs)
  have O2 := Lib.hid (fun (a : Option Addr) (c : Nat) (W : World) (hs : Sl int1 1 W a [0]) => MOf [0] 1 rfl (by decide) a c W hs)
  have O3 := Lib.hid (fun (a : Option Addr) (c : Nat) (W : World) (hs : Sl int1 1 W a [2]) => MOf [2] 1 rfl (by decide) a c W hs)
  rw [show ofM [0, 1] = 3 by decide] at O1
  rw [of0] at O2
  rw [show ofM [2] = 4 by decide] at O3
  rw [st0] at N3
  clear hg01
  have hbs2 := bs2
  have G1 := Lib.hid (fun (W w0 : World) (B n : Nat) (bs : List (Nat × Obj)) (K : KN w0 W B n kn0 bs) (hn : n < 1000) => KN.call (F := 18) (args := #[.pointer (some ⟨B, 0, none⟩), .int .i64 0, .int .i64 1, .int .i64 10]) (v := .tuple #[.int .i64 1, .int .i64 0]) (s' := kn1) (fun ow L hL hb hm => by
      have h := YGroup hL ok0 0 1 10
      rw [st1, hb] at h
      exact h.mono fun e w' ⟨a, b⟩ => ⟨a, b.nx⟩) K)
  have G2 := Lib.hid (fun (W w0 : World) (B n : Nat) (bs : List (Nat × Obj)) (K : KN w0 W B n kn1 bs) (hn : n < 1000) => KN.call (F := 18) (args := #[.pointer (some ⟨B, 0, none⟩), .int .i64 9, .int .i64 0, .int .i64 0]) (v := .tuple #[.int .i64 0, .int .i64 2]) (s' := kn1) (fun ow L hL hb hm => by
      have h := YGroup hL ok1 9 0 0
      rw [st1b, hb] at h
      exact h.mono fun e w' ⟨a, b⟩ => ⟨a, b.nx⟩) K)
  have G3 := Lib.hid (fun (W w0 : World) (B n : Nat) (bs : List (Nat × Obj)) (K : KN w0 W B n kn1 bs) (hn : n < 1000) => KN.call (F := 18) (args := #[.pointer (some ⟨B, 0, none⟩), .int .i64 0, .int .i64 0, .int .i64 5]) (v := .tuple #[.int .i64 0, .int .i64 1]) (s' := kn1) (fun ow L hL hb hm => by
      have h := YGroup hL ok1 0 0 5
      rw [st1c, hb] at h
      exact h.mono fun e w' ⟨a, b⟩ => ⟨a, b.nx⟩) K)
  have P1 := Lib.hid (fun (W w0 : World) (B n : Nat) (bs : List (Nat × Obj)) (K : KN w0 W B n kn1 bs) (hn : n < 1000) => KN.call (F := 10) (args := #[.pointer (some ⟨B, 0, none⟩), .int .i64 2, .int .u16 3, .int .i64 1]) (v := .tuple #[.int .i64 0, .int .i64 0]) (s' := kn2) (fun ow L hL hb hm => by
      have h := YSpawn hL ok1 (by decide) 2 3 1 (by decide) (by omega)
      rw [st2, hb] at h
      exact h.mono fun e w' ⟨a, b⟩ => ⟨a, b⟩) K)
  have P2 := Lib.hid (fun (W w0 : World) (B n : Nat) (bs : List (Nat × Obj)) (K : KN w0 W B n kn2 bs) (hn : n < 1000) => KN.call (F := 10) (args := #[.pointer (some ⟨B, 0, none⟩), .int .i64 0, .int .u16 1, .int .i64 0]) (v := .tuple #[.int .i64 0, .int .i64 1]) (s' := kn2) (fun ow L hL hb hm => by
      have h := YSpawn hL ok2 (by decide) 0 1 0 (by decide) (by omega)
      rw [st2b, hb] at h
      exact h.mono fun e w' ⟨a, b⟩ => ⟨a, b⟩) K)
  have P3 := Lib.hid (fun (W w0 : World) (B n : Nat) (bs : List (Nat × Obj)) (K : KN w0 W B n kn2 bs) (hn : n < 1000) => KN.call (F := 10) (args := #[.pointer (some ⟨B, 0, none⟩), .int .i64 1, .int .u16 4, .int .i64 0]) (v := .tuple #[.int .i64 0, .int .i64 5]) (s' := kn2) (fun ow L hL hb hm => by
      have h := YSpawn hL ok2 (by decide) 1 4 0 (by decide) (by omega)
      rw [st2c, hb] at h
      exact h.mono fun e w' ⟨a, b⟩ => ⟨a, b⟩) K)
  have P4 := Lib.hid (fun (W w0 : World) (B n : Nat) (bs : List (Nat × Obj)) (K : KN w0 W B n kn2 bs) (hn : n < 1000) => KN.call (F := 10) (args := #[.pointer (some ⟨B, 0, none⟩), .int .i64 1, .int .u16 1, .int .i64 7]) (v := .tuple #[.int .i64 0, .int .i64 2]) (s' := kn2) (fun ow L hL hb hm => by
      have h := YSpawn hL ok2 (by decide) 1 1 7 (by decide) (by omega)
      rw [st2d, hb] at h
      exact h.mono fun e w' ⟨a, b⟩ => ⟨a, b⟩) K)
  have P5 := Lib.hid (fun (W w0 : World) (B n : Nat) (bs : List (Nat × Obj)) (K : KN w0 W B n kn2 bs) (hn : n < 1000) => KN.call (F := 10) (args := #[.pointer (some ⟨B, 0, none⟩), .int .i64 3, .int .u16 1, .int .i64 0]) (v := .tuple #[.int .i64 1, .int .i64 0]) (s' := kn3) (fun ow L hL hb hm => by
      have h := YSpawn hL ok2 (by decide) 3 1 0 (by decide) (by omega)
      rw [st3, hb] at h
      exact h.mono fun e w' ⟨a, b⟩ => ⟨a, b⟩) K)
  have W1 := Lib.hid (fun (W w0 : World) (B n : Nat) (bs : List (Nat × Obj)) (K : KN w0 W B n kn3 bs) (hn : n < 1000) => KN.call (F := 21) (args := #[.pointer (some ⟨B, 0, none⟩), .int .i64 0]) (v := .int .i64 4) (s' := kn3) (fun ow L hL hb hm => by
      have h := YWake hL ok3 (by decide) (id := 0) (by unfold I63; decide)
      rw [st3b, hb] at h
      exact h.mono fun e w' ⟨a, b⟩ => ⟨a, b.nx⟩) K)
  have S1 := Lib.hid (fun (W w0 : World) (B n : Nat) (bs : List (Nat × Obj)) (K : KN w0 W B n kn3 bs) (hn : n < 1000) => KN.call (F := 11) (args := #[.pointer (some ⟨B, 0, none⟩), .int .i64 0]) (v := .int .i64 0) (s' := kn4) (fun ow L hL hb hm => by
      have h := YStart hL ok3 (by decide) (id := 0) (by unfold I63; decide)
      rw [st4, hb] at h
      exact h.mono fun e w' ⟨a, b⟩ => ⟨a, b.nx⟩) K)
  have S2 := Lib.hid (fun (W w0 : World) (B n : Nat) (bs : List (Nat × Obj)) (K : KN w0 W B n kn4 bs) (hn : n < 1000) => KN.call (F := 11) (args := #[.pointer (some ⟨B, 0, none⟩), .int .i64 1]) (v := .int .i64 0) (s' := kn5) (fun ow L hL hb hm => by
      have h := YStart hL ok4 (by decide) (id := 1) (by unfold I63; decide)
      rw [st5, hb] at h
      exact h.mono fun e w' ⟨a, b⟩ => ⟨a, b.nx⟩) K)
  have T1 := Lib.hid (fun (W w0 : World) (B n : Nat) (bs : List (Nat × Obj)) (K : KN w0 W B n kn5 bs) => KN.read (F := 13) (args := #[.pointer (some ⟨B, 0, none⟩), .int .i64 1]) (v := .tuple #[taskV ⟨1, 3, 0, 0, 2, 1, 0⟩, .int .i64 0]) (fun ow L hL hb hm => by
      have h := YTask_some hL ok5 (by decide) (id := 1) (by unfold I63; decide) fd5
      rw [vw5, hb] at h
      exact h) K)
  have R1 := Lib.hid (fun (W w0 : World) (B n : Nat) (bs : List (Nat × Obj)) (K : KN w0 W B n kn5 bs) (hn : n < 1000) => KN.call (F := 12) (args := #[.pointer (some ⟨B, 0, none⟩), .int .i64 0]) (v := .tuple #[.int .i64 0, .int .i64 0]) (s' := kn6) (fun ow L hL hb hm => by
      have h := YRun hL ok5 (by decide) 0
      rw [st6, hb] at h
      exact h.mono fun e w' ⟨a, b⟩ => ⟨a, b.nx⟩) K)
  have T2 := Lib.hid (fun (W w0 : World) (B n : Nat) (bs : List (Nat × Obj)) (K : KN w0 W B n kn6 bs) => KN.read (F := 13) (args := #[.pointer (some ⟨B, 0, none⟩), .int .i64 0]) (v := .tuple #[taskV ⟨0, 2, 1, 0, 5, 3, -116396280⟩, .int .i64 0]) (fun ow L hL hb hm => by
      have h := YTask_some hL ok6 (by decide) (id := 0) (by unfold I63; decide) fd6
      rw [vw6, hb] at h
      exact h) K)
  have R2 := Lib.hid (fun (W w0 : World) (B n : Nat) (bs : List (Nat × Obj)) (K : KN w0 W B n kn6 bs) (hn : n < 1000) => KN.call (F := 12) (args := #[.pointer (some ⟨B, 0, none⟩), .int .i64 0]) (v := .tuple #[.int .i64 1, .int .i64 0]) (s' := kn7) (fun ow L hL hb hm => by
      have h := YRun hL ok6 (by decide) 0
      rw [st7, hb] at h
      exact h.mono fun e w' ⟨a, b⟩ => ⟨a, b.nx⟩) K)
  have M1 := Lib.hid (fun (W w0 : World) (B n : Nat) (bs : List (Nat × Obj)) (K : KN w0 W B n kn7 bs) (hn : n < 1000) => KN.call (F := 14) (args := #[.pointer (some ⟨B, 0, none⟩), .int .i64 0, .int .i64 1]) (v := .int .i64 0) (s' := kn8) (fun ow L hL hb hm => by
      have h := YMove hL ok7 (by decide) (id := 0) (d := 1) (by unfold I63; decide)
      rw [st8, hb] at h
      exact h.mono fun e w' ⟨a, b⟩ => ⟨a, b.nx⟩) K)
  have T3 := Lib.hid (fun (W w0 : World) (B n : Nat) (bs : List (Nat × Obj)) (K : KN w0 W B n kn8 bs) => KN.read (F := 13) (args := #[.pointer (some ⟨B, 0, none⟩), .int .i64 0]) (v := .tuple #[taskV ⟨0, 2, 1, 1, 5, 3, -116396280⟩, .int .i64 0]) (fun ow L hL hb hm => by
      have h := YTask_some hL ok8 (by decide) (id := 0) (by unfold I63; decide) fd8
      rw [vw8, hb] at h
      exact h) K)
  have M2 := Lib.hid (fun (W w0 : World) (B n : Nat) (bs : List (Nat × Obj)) (K : KN w0 W B n kn8 bs) (hn : n < 1000) => KN.call (F := 14) (args := #[.pointer (some ⟨B, 0, none⟩), .int .i64 1, .int .i64 1]) (v := .int .i64 5) (s' := kn8) (fun ow L hL hb hm => by
      have h := YMove hL ok8 (by decide) (id := 1) (d := 1) (by unfold I63; decide)
      rw [st8b, hb] at h
      exact h.mono fun e w' ⟨a, b⟩ => ⟨a, b.nx⟩) K)
  have K1 := Lib.hid (fun (W w0 : World) (B n : Nat) (bs : List (Nat × Obj)) (K : KN w0 W B n kn8 bs) (hn : n < 1000) => KN.call (F := 20) (args := #[.pointer (some ⟨B, 0, none⟩), .int .i64 10]) (v := .int .i64 0) (s' := kn9) (fun ow L hL hb hm => by
      have h := YTick hL ok8 (by decide) (n := 10) (by unfold I63; decide)
      rw [st9, hb] at h
      exact h.mono fun e w' ⟨a, b⟩ => ⟨a, b.nx⟩) K)
  have T4 := Lib.hid (fun (W w0 : World) (B n : Nat) (bs : List (Nat × Obj)) (K : KN w0 W B n kn9 bs) => KN.read (F := 13) (args := #[.pointer (some ⟨B, 0, none⟩), .int .i64 0]) (v := .tuple #[taskV ⟨0, 2, 1, 1, 2, 3, 0⟩, .int .i64 0]) (fun ow L hL hb hm => by
      have h := YTask_some hL ok9 (by decide) (id := 0) (by unfold I63; decide) fd9
      rw [vw9, hb] at h
      exact h) K)
  have R3 := Lib.hid (fun (W w0 : World) (B n : Nat) (bs : List (Nat × Obj)) (K : KN w0 W B n kn9 bs) (hn : n < 1000) => KN.call (F := 12) (args := #[.pointer (some ⟨B, 0, none⟩), .int .i64 1]) (v := .tuple #[.int .i64 0, .int .i64 0]) (s' := kn10) (fun ow L hL hb hm => by
      have h := YRun hL ok9 (by decide) 1
      rw [st10, hb] at h
      exact h.mono fun e w' ⟨a, b⟩ => ⟨a, b.nx⟩) K)
  have L1 := Lib.hid (fun (W w0 : World) (B n : Nat) (bs : List (Nat × Obj)) (K : KN w0 W B n kn10 bs) (hn : n < 1000) => KN.call (F := 22) (args := #[.pointer (some ⟨B, 0, none⟩), .int .i64 0]) (v := .int .i64 0) (s' := kn11) (fun ow L hL hb hm => by
      have h := YSleep hL ok10 (by decide) (id := 0) (by unfold I63; decide)
      rw [st11, hb] at h
      exact h.mono fun e w' ⟨a, b⟩ => ⟨a, b.nx⟩) K)
  have R4 := Lib.hid (fun (W w0 : World) (B n : Nat) (bs : List (Nat × Obj)) (K : KN w0 W B n kn11 bs) (hn : n < 1000) => KN.call (F := 12) (args := #[.pointer (some ⟨B, 0, none⟩), .int .i64 1]) (v := .tuple #[.int .i64 (-1), .int .i64 0]) (s' := kn12) (fun ow L hL hb hm => by
      have h := YRun hL ok11 (by decide) 1
      rw [st12, hb] at h
      exact h.mono fun e w' ⟨a, b⟩ => ⟨a, b.nx⟩) K)
  have R5 := Lib.hid (fun (W w0 : World) (B n : Nat) (bs : List (Nat × Obj)) (K : KN w0 W B n kn12 bs) (hn : n < 1000) => KN.call (F := 12) (args := #[.pointer (some ⟨B, 0, none⟩), .int .i64 2]) (v := .tuple #[.int .i64 0, .int .i64 2]) (s' := kn12) (fun ow L hL hb hm => by
      have h := YRun hL ok12 (by decide) 2
      rw [st12b, hb] at h
      exact h.mono fun e w' ⟨a, b⟩ => ⟨a, b.nx⟩) K)
  have E1 := Lib.hid (fun (W w0 : World) (B n : Nat) (bs : List (Nat × Obj)) (K : KN w0 W B n kn12 bs) (hn : n < 1000) => KN.call (F := 17) (args := #[.pointer (some ⟨B, 0, none⟩), .int .i64 1]) (v := .int .i64 0) (s' := kn13) (fun ow L hL hb hm => by
      have h := YEnd hL ok12 (by decide) (id := 1) (by unfold I63; decide)
      rw [st13, hb] at h
      exact h.mono fun e w' ⟨a, b⟩ => ⟨a, b.nx⟩) K)
  have E2 := Lib.hid (fun (W w0 : World) (B n : Nat) (bs : List (Nat × Obj)) (K : KN w0 W B n kn13 bs) (hn : n < 1000) => KN.call (F := 17) (args := #[.pointer (some ⟨B, 0, none⟩), .int .i64 1]) (v := .int .i64 2) (s' := kn13) (fun ow L hL hb hm => by
      have h := YEnd hL ok13 (by decide) (id := 1) (by unfold I63; decide)
      rw [st13b, hb] at h
      exact h.mono fun e w' ⟨a, b⟩ => ⟨a, b.nx⟩) K)
  have S3 := Lib.hid (fun (W w0 : World) (B n : Nat) (bs : List (Nat × Obj)) (K : KN w0 W B n kn13 bs) (hn : n < 1000) => KN.call (F := 11) (args := #[.pointer (some ⟨B, 0, none⟩), .int .i64 0]) (v := .int .i64 4) (s' := kn13) (fun ow L hL hb hm => by
      have h := YStart hL ok13 (by decide) (id := 0) (by unfold I63; decide)
      rw [st13c, hb] at h
      exact h.mono fun e w' ⟨a, b⟩ => ⟨a, b.nx⟩) K)
  have B1 := Lib.hid (fun (W w0 : World) (B n : Nat) (bs : List (Nat × Obj)) (K : KN w0 W B n kn13 bs) (hn : n < 1000) => KN.call (F := 23) (args := #[.pointer (some ⟨B, 0, none⟩), .int .i64 0, .int .u16 1]) (v := .int .i64 0) (s' := kn14) (fun ow L hL hb hm => by
      have h := YBind hL ok13 (by decide) (id := 0) (m := 1) (by unfold I63; decide) (by decide)
      rw [st14, hb] at h
      exact h.mono fun e w' ⟨a, b⟩ => ⟨a, b.nx⟩) K)
  have T5 := Lib.hid (fun (W w0 : World) (B n : Nat) (bs : List (Nat × Obj)) (K : KN w0 W B n kn14 bs) => KN.read (F := 13) (args := #[.pointer (some ⟨B, 0, none⟩), .int .i64 0]) (v := .tuple #[taskV ⟨0, 2, 1, 1, 4, 1, 0⟩, .int .i64 0]) (fun ow L hL hb hm => by
      have h := YTask_some hL ok14 (by decide) (id := 0) (by unfold I63; decide) fd14
      rw [vw14, hb] at h
      exact h) K)
  have P6 := Lib.hid (fun (W w0 : World) (B n : Nat) (bs : List (Nat × Obj)) (K : KN w0 W B n kn14 bs) (hn : n < 1000) => KN.call (F := 10) (args := #[.pointer (some ⟨B, 0, none⟩), .int .i64 1, .int .u16 1, .int .i64 0]) (v := .tuple #[.int .i64 65, .int .i64 0]) (s' := kn15) (fun ow L hL hb hm => by
      have h := YSpawn hL ok14 (by decide) 1 1 0 (by decide) (by omega)
      rw [st15, hb] at h
      exact h.mono fun e w' ⟨a, b⟩ => ⟨a, b⟩) K)
  have A1 := Lib.hid (fun (W w0 : World) (B n : Nat) (bs : List (Nat × Obj)) (K : KN w0 W B n kn15 bs) => KN.read (F := 19) (args := #[.pointer (some ⟨B, 0, none⟩), .int .i64 1]) (v := .tuple #[.agg #[.int .i64 1, .int .i64 10, .int .i64 0, .int .i64 0], .int .i64 0]) (fun ow L hL hb hm => by
      have h := YAccount hL 1 (by decide)
      rw [show (if hasG kn15.ups 1 = true then Value.tuple #[.agg (kn15.acc (Int.toNat 1)).enc.toArray, .int .i64 0] else Value.tuple #[.agg #[.int .i64 0, .int .i64 0, .int .i64 0, .int .i64 0], .int .i64 2]) = .tuple #[.agg #[.int .i64 1, .int .i64 10, .int .i64 0, .int .i64 0], .int .i64 0] from by kernel_rfl, hb] at h
      exact h) K)
  have A2 := Lib.hid (fun (W w0 : World) (B n : Nat) (bs : List (Nat × Obj)) (K : KN w0 W B n kn15 bs) => KN.read (F := 19) (args := #[.pointer (some ⟨B, 0, none⟩), .int .i64 5]) (v := .tuple #[.agg #[.int .i64 0, .int .i64 0, .int .i64 0, .int .i64 0], .int .i64 2]) (fun ow L hL hb hm => by
      have h := YAccount hL 5 (by decide)
      rw [show (if hasG kn15.ups 5 = true then Value.tuple #[.agg (kn15.acc (Int.toNat 5)).enc.toArray, .int .i64 0] else Value.tuple #[.agg #[.int .i64 0, .int .i64 0, .int .i64 0, .int .i64 0], .int .i64 2]) = .tuple #[.agg #[.int .i64 0, .int .i64 0, .int .i64 0, .int .i64 0], .int .i64 2] from by kernel_rfl, hb] at h
      exact h) K)
  have D1 := Lib.hid (fun (W w0 : World) (B n : Nat) (bs : List (Nat × Obj)) (K : KN w0 W B n kn15 bs) => KN.same (F := 24) (args := #[.pointer (some ⟨B, 0, none⟩), .int .i64 2]) (v := .tuple #[.pointer none, .int .i64 2]) (fun ow L hL hb hm => by
      have h := YCore_none hL (c := 2) (by decide)
      rw [hb] at h
      exact h) K)
  have D2 := Lib.hid (fun (W w0 : World) (B n : Nat) (bs : List (Nat × Obj)) (K : KN w0 W B n kn15 bs) => KN.same (F := 25) (args := #[.pointer (some ⟨B, 0, none⟩)]) (v := .int .i64 2) (fun ow L hL hb hm => by
      have h := YCores hL
      rw [hb] at h
      exact h) K)
  have D3 := Lib.hid (fun (W w0 : World) (B n : Nat) (bs : List (Nat × Obj)) (K : KN w0 W B n kn15 bs) => KN.same (F := 26) (args := #[.pointer (some ⟨B, 0, none⟩), .int .i64 0]) (v := .int .i64 2) (fun ow L hL hb hm => by
      have h := YServed hL ok15 (by decide) (id := 0) (by unfold I63; decide)
      rw [sv15, hb] at h
      exact h.mono fun e w' ⟨a, b⟩ => ⟨a, b.symm⟩) K)
  simp only [taskV, Tk.enc] at T1 T2 T3 T4 T5
  generalize kn0 = s0 at *
  generalize kn1 = s1 at *
  generalize kn2 = s2 at *
  generalize kn3 = s3 at *
  generalize kn4 = s4 at *
  generalize kn5 = s5 at *
  generalize kn6 = s6 at *
  generalize kn7 = s7 at *
  generalize kn8 = s8 at *
  generalize kn9 = s9 at *
  generalize kn10 = s10 at *
  generalize kn11 = s11 at *
  generalize kn12 = s12 at *
  generalize kn13 = s13 at *
  generalize kn14 = s14 at *
  generalize kn15 = s15 at *
  go_enter Tryz.func6, Tryz.ntmps6
  go_wp2_with (first
      | (go_at_call 8; with_reducible refine (HA.out _).mono ?_; rintro e w1 ⟨rfl, hb1⟩; have Hb1 := Lib.hid hb1; clear hb1)
      | (go_at_call 9; with_reducible refine (N1.out _ _ _ Sl.nil).mono ?_; rintro e w2 ⟨-, rfl, hb1⟩; have Hb2 := Lib.hid (Hb1.out.trans (hb1.mono Hb1.out.size)); clear hb1)
      | (go_at_call 9; with_reducible refine (N2.out _ _ _ (sl2 w2 0 3 _)).mono ?_; rintro e w3 ⟨-, rfl, hb1⟩; have Hb3 := Lib.hid ((Hb2.out.alloc Hb2.out.size (.cells #[.int .i64 0, .int .i64 3] 3)).trans (hb1.mono (by have := Hb2.out.size; simp; omega))); clear hb1)
      | (go_at_call 9; with_reducible refine (N3.out _ _ _ (sl2 w3 0 1 _)).mono ?_; rintro e w4 ⟨-, ow, L, rfl, h2, hmn⟩
         have K : Hid (KN (w3.alloc (.cells #[.int .i64 0, .int .i64 1] 3)) w4 L.b 0 s0 []) := Lib.hid ⟨ow, L, rfl, Nat.le_of_eq hmn, h2, fun p hp => by cases hp⟩
         have Hb4 := Lib.hid ((Hb3.out.alloc Hb3.out.size (.cells #[.int .i64 0, .int .i64 1] 3)))
         clear h2 hmn)
      | (go_at_call 18; with_reducible refine (G1.out _ _ _ _ _ K.out (by omega)).mono ?_; rintro e w2 ⟨rfl, k⟩; have K := Lib.hid k; clear k)
      | (go_at_call 18; with_reducible refine (G2.out _ _ _ _ _ K.out (by omega)).mono ?_; rintro e w2 ⟨rfl, k⟩; have K := Lib.hid k; clear k)
      | (go_at_call 18; with_reducible refine (G3.out _ _ _ _ _ K.out (by omega)).mono ?_; rintro e w2 ⟨rfl, k⟩; have K := Lib.hid k; clear k)
      | (go_at_call 10; with_reducible refine (P1.out _ _ _ _ _ K.out (by omega)).mono ?_; rintro e w2 ⟨rfl, k⟩; have K := Lib.hid k; clear k)
      | (go_at_call 10; with_reducible refine (P2.out _ _ _ _ _ K.out (by omega)).mono ?_; rintro e w2 ⟨rfl, k⟩; have K := Lib.hid k; clear k)
      | (go_at_call 10; with_reducible refine (P3.out _ _ _ _ _ K.out (by omega)).mono ?_; rintro e w2 ⟨rfl, k⟩; have K := Lib.hid k; clear k)
      | (go_at_call 10; with_reducible refine (P4.out _ _ _ _ _ K.out (by omega)).mono ?_; rintro e w2 ⟨rfl, k⟩; have K := Lib.hid k; clear k)
      | (go_at_call 10; with_reducible refine (P5.out _ _ _ _ _ K.out (by omega)).mono ?_; rintro e w2 ⟨rfl, k⟩; have K := Lib.hid k; clear k)
      | (go_at_call 21; with_reducible refine (W1.out _ _ _ _ _ K.out (by omega)).mono ?_; rintro e w2 ⟨rfl, k⟩; have K := Lib.hid k; clear k)
      | (go_at_call 11; with_reducible refine (S1.out _ _ _ _ _ K.out (by omega)).mono ?_; rintro e w2 ⟨rfl, k⟩; have K := Lib.hid k; clear k)
      | (go_at_call 11; with_reducible refine (S2.out _ _ _ _ _ K.out (by omega)).mono ?_; rintro e w2 ⟨rfl, k⟩; have K := Lib.hid k; clear k)
      | (go_at_call 13; with_reducible refine (T1.out _ _ _ _ _ K.out).mono ?_; rintro e w2 ⟨rfl, k⟩; have K := Lib.hid k; clear k)
      | (go_at_call 12; with_reducible refine (R1.out _ _ _ _ _ (K.out.told _) (by omega)).mono ?_; rintro e w2 ⟨rfl, k⟩; have K := Lib.hid k; clear k)
      | (go_at_call 13; with_reducible refine (T2.out _ _ _ _ _ K.out).mono ?_; rintro e w2 ⟨rfl, k⟩; have K := Lib.hid k; clear k)
      | (go_at_call 12; with_reducible refine (R2.out _ _ _ _ _ (K.out.told _) (by omega)).mono ?_; rintro e w2 ⟨rfl, k⟩; have K := Lib.hid k; clear k)
      | (go_at_call 14; with_reducible refine (M1.out _ _ _ _ _ K.out (by omega)).mono ?_; rintro e w2 ⟨rfl, k⟩; have K := Lib.hid k; clear k)
      | (go_at_call 13; with_reducible refine (T3.out _ _ _ _ _ K.out).mono ?_; rintro e w2 ⟨rfl, k⟩; have K := Lib.hid k; clear k)
      | (go_at_call 14; with_reducible refine (M2.out _ _ _ _ _ (K.out.told _) (by omega)).mono ?_; rintro e w2 ⟨rfl, k⟩; have K := Lib.hid k; clear k)
      | (go_at_call 20; with_reducible refine (K1.out _ _ _ _ _ K.out (by omega)).mono ?_; rintro e w2 ⟨rfl, k⟩; have K := Lib.hid k; clear k)
      | (go_at_call 13; with_reducible refine (T4.out _ _ _ _ _ K.out).mono ?_; rintro e w2 ⟨rfl, k⟩; have K := Lib.hid k; clear k)
      | (go_at_call 12; with_reducible refine (R3.out _ _ _ _ _ (K.out.told _) (by omega)).mono ?_; rintro e w2 ⟨rfl, k⟩; have K := Lib.hid k; clear k)
      | (go_at_call 22; with_reducible refine (L1.out _ _ _ _ _ K.out (by omega)).mono ?_; rintro e w2 ⟨rfl, k⟩; have K := Lib.hid k; clear k)
      | (go_at_call 12; with_reducible refine (R4.out _ _ _ _ _ K.out (by omega)).mono ?_; rintro e w2 ⟨rfl, k⟩; have K := Lib.hid k; clear k)
      | (go_at_call 12; with_reducible refine (R5.out _ _ _ _ _ K.out (by omega)).mono ?_; rintro e w2 ⟨rfl, k⟩; have K := Lib.hid k; clear k)
      | (go_at_call 17; with_reducible refine (E1.out _ _ _ _ _ K.out (by omega)).mono ?_; rintro e w2 ⟨rfl, k⟩; have K := Lib.hid k; clear k)
      | (go_at_call 17; with_reducible refine (E2.out _ _ _ _ _ K.out (by omega)).mono ?_; rintro e w2 ⟨rfl, k⟩; have K := Lib.hid k; clear k)
      | (go_at_call 11; with_reducible refine (S3.out _ _ _ _ _ K.out (by omega)).mono ?_; rintro e w2 ⟨rfl, k⟩; have K := Lib.hid k; clear k)
      | (go_at_call 23; with_reducible refine (B1.out _ _ _ _ _ K.out (by omega)).mono ?_; rintro e w2 ⟨rfl, k⟩; have K := Lib.hid k; clear k)
      | (go_at_call 13; with_reducible refine (T5.out _ _ _ _ _ K.out).mono ?_; rintro e w2 ⟨rfl, k⟩; have K := Lib.hid k; clear k)
      | (go_at_call 10; with_reducible refine (P6.out _ _ _ _ _ K.out (by omega)).mono ?_; rintro e w2 ⟨rfl, k⟩; have K := Lib.hid k; clear k)
      | (go_at_call 19; with_reducible refine (A1.out _ _ _ _ _ K.out).mono ?_; rintro e w2 ⟨rfl, k⟩; have K := Lib.hid k; clear k)
      | (go_at_call 19; with_reducible refine (A2.out _ _ _ _ _ (K.out.told _)).mono ?_; rintro e w2 ⟨rfl, k⟩; have K := Lib.hid k; clear k)
      | (go_at_call 24; with_reducible refine (D1.out _ _ _ _ _ (K.out.told _)).mono ?_; rintro e w2 ⟨rfl, k, -⟩; have K := Lib.hid k
         obtain ⟨-, -, a2, -, -⟩ := blk4 k.tl.hd
         obtain ⟨⟨-, -, -, b3, b4, -, -⟩, -, -⟩ := blk7 k.tl.tl.hd
         obtain ⟨⟨-, -, -, -, c4, -, -⟩, -, -⟩ := blk7 k.tl.tl.tl.hd
         obtain ⟨⟨-, -, -, d3, -, -, -⟩, -, -⟩ := blk7 k.tl.tl.tl.tl.hd
         obtain ⟨⟨-, -, -, -, f4, -, -⟩, -, -⟩ := blk7 k.tl.tl.tl.tl.tl.hd
         obtain ⟨⟨-, -, -, g3, g4, -, -⟩, -, -⟩ := blk7 k.tl.tl.tl.tl.tl.tl.hd
         clear k)
      | (go_at_call 25; with_reducible refine (D2.out _ _ _ _ _ K.out).mono ?_; rintro e w3 ⟨rfl, -, rfl⟩)
      | (go_at_call 26; with_reducible refine (D3.out _ _ _ _ _ K.out).mono ?_; rintro e w3 ⟨rfl, -, rfl⟩)
      | (go_at_call 15; with_reducible refine (O1.out _ _ _ (sl2 _ 0 1 _)).mono ?_; rintro e w2 ⟨rfl, hb⟩; have k := K.out.below (((Below.refl _ _).alloc (Nat.le_refl _) _).trans (hb.mono (by simp))); have K := Lib.hid k; clear k hb)
      | (go_at_call 15; with_reducible refine (O2.out _ _ _ (sl1 _ 0 _)).mono ?_; rintro e w2 ⟨rfl, hb⟩; have k := K.out.below (((Below.refl _ _).alloc (Nat.le_refl _) _).trans (hb.mono (by simp))); have K := Lib.hid k; clear k hb)
      | (go_at_call 15; with_reducible refine (O2.out _ _ _ (sl1a _ _ 0 _)).mono ?_; rintro e w2 ⟨rfl, hb⟩; have k := (K.out.told _).below (((Below.refl _ _).alloc (Nat.le_refl _) _).trans (hb.mono (by simp))); have K := Lib.hid k; clear k hb)
      | (go_at_call 15; with_reducible refine (O3.out _ _ _ (sl1 _ 2 _)).mono ?_; rintro e w2 ⟨rfl, hb⟩; have k := K.out.below (((Below.refl _ _).alloc (Nat.le_refl _) _).trans (hb.mono (by simp))); have K := Lib.hid k; clear k hb))
  go_ret
  exact ⟨rfl, Hb4.out.trans (K.out.old.mono Hb4.out.size)⟩
end Go.Proofs.YthdilellcaebfaaGreat
