/- A try (plain), and in memory. -/
import Derived.Test.YtlgkkolgdjgclaaGreatSh1
namespace Go.Proofs.YtlgkkolgdjgclaaGreat
open Go.RowKit
set_option linter.unusedVariables false
set_option linter.unusedSimpArgs false

/-- A try: what it is for, how far it is, why it failed; what was written, what was made; which stages are to fail. -/
structure TryS where
  tag : Int
  base : Int
  stage : Int
  why : Int
  age : Int
  b : List Int
  S : Ln
  fo : Nat → Bool
namespace TryS
def new (tag base : Int) : TryS := ⟨tag, base, 0, 0, 0, [], ⟨0, -1, []⟩, fun _ => false⟩
def next (x : TryS) (s : CoreS) (m : Int) : TryS × CoreS × Int :=
  if 1 < m ∧ s.age ≠ x.age then (x, s, 12)
  else if x.fo m.toNat = true then (x, s, 13)
  else if m = 1 then ({ x with age := s.age }, s, 0)
  else if m = 2 then ({ x with b := putB s.tag (formR s.q) }, s, 0)
  else if m = 3 then (if (readE x.b).2.2 = 0 then ({ x with S := seedR (readE x.b).2.1 x.base }, s, 0) else (x, s, (readE x.b).2.2))
  else if m = 4 then (if formR x.S = formR s.q then (x, s, 0) else (x, s, 11))
  else (if formR x.S = formR s.q then (x, { s with tag := x.tag, q := x.S }, 0) else (x, s, 4))
def step (x : TryS) (s : CoreS) : TryS × CoreS :=
  if 5 ≤ x.stage then (x, s)
  else if (x.next s (x.stage + 1)).2.2 = 0 then ({ (x.next s (x.stage + 1)).1 with stage := x.stage + 1 }, (x.next s (x.stage + 1)).2.1)
  else ({ (x.next s (x.stage + 1)).1 with stage := 6, why := (x.next s (x.stage + 1)).2.2 }, (x.next s (x.stage + 1)).2.1)
def abort (x : TryS) : TryS × Bool := if 5 ≤ x.stage then (x, false) else ({ x with stage := 6, why := 13 }, true)
end TryS
/-- What may be said of a try: its numbers, its bytes, its queue. -/
structure TryOk (x : TryS) : Prop where
  tag : TagOk x.tag
  base : 0 ≤ x.base ∧ x.base ≤ 1000000000
  st : 0 ≤ x.stage ∧ x.stage ≤ 6
  len : x.b.length ≤ 1000
  byt : ∀ y ∈ x.b, Byte y
  que : 3 ≤ x.stage → x.stage < 5 → OkS 0 x.S ∧ goodF (formR x.S) = true ∧ Lags x.S ∧ x.S.base = x.base
def tryCells (cp : Nat) (x : TryS) (a : Option Addr) (n k : Nat) (q : Value) : List Value :=
  [.pointer (some ⟨cp, 0, none⟩), .int .i64 x.tag, .int .i64 x.base, .int .i64 x.stage, .int .i64 x.why, .int .i64 x.age, .slice a n k, q, .bool (x.fo 0), .bool (x.fo 1), .bool (x.fo 2), .bool (x.fo 3), .bool (x.fo 4), .bool (x.fo 5)]
/-- A try in memory: its block t; G: what else is its own; lv: how far it is (what of it is held). -/
structure TryAt (w0 W : World) (t : Nat) (G : Nat → Prop) (cp : Nat) (x : TryS) (lv : Int) : Prop where
  cell : ∃ (a : Option Addr) (n k : Nat) (q : Value), W.heap[t]? = some (.cells (tryCells cp x a n k q).toArray 116 (0, 0)) ∧
    (lv = 2 → n = x.b.length ∧ W.ownsRow w0.heap.size 5 1 (.slice a n k) n (flat encU x.b) ∧ ∀ j, (Value.slice a n k).ownBlock = some j → G j) ∧
    (lv = 3 ∨ lv = 4 → ∃ p2 H b2, q = .pointer (some ⟨p2, 0, none⟩) ∧ PSt w0 W H p2 b2 x.tag x.S ∧ ∀ j, H j ∨ j = p2 → G j)
  tG : ¬ G t
  newt : w0.heap.size ≤ t
  new : ∀ j, G j → w0.heap.size ≤ j ∧ j < W.heap.size
section
variable {w0 w w' : World} {t cp : Nat} {G : Nat → Prop} {x : TryS} {lv : Int}
theorem TryAt.tlt (h : TryAt w0 w t G cp x lv) : t < w.heap.size := by
  obtain ⟨a, n, k, q, h1, -⟩ := h.cell
  exact (Array.getElem?_eq_some_iff.1 h1).1
theorem TryAt.fr {F : Nat → Prop} (h : TryAt w0 w t G cp x lv) (hf : Fr F w w') (ht : ¬ F t) (hG : ∀ j, G j → ¬ F j) (h0 : ∀ j, F j → w0.heap.size ≤ j) : TryAt w0 w' t G cp x lv := by
  obtain ⟨a, n, k, q, h1, h2, h3⟩ := h.cell
  refine ⟨⟨a, n, k, q, heap_fr h1 hf ht, fun e => ?_, fun e => ?_⟩, h.tG, h.newt, fun j hj => ⟨(h.new j hj).1, by have := (h.new j hj).2; have := hf.size; omega⟩⟩
  · obtain ⟨g1, g2, g3⟩ := h2 e
    exact ⟨g1, own_fr g2 hf (fun j hj => hG j (g3 j hj)), g3⟩
  · obtain ⟨p2, H, b2, g1, g2, g3⟩ := h3 e
    exact ⟨p2, H, b2, g1, g2.fr hf (fun j hj => hG j (g3 j (.inl hj))) (hG p2 (g3 p2 (.inr rfl))) h0, g3⟩
theorem TryAt.below (h : TryAt w0 w t G cp x lv) (hb : Below w.heap.size w w') : TryAt w0 w' t G cp x lv :=
  h.fr (F := fun _ => False) (Fr.of_below hb) (fun h => h) (fun _ _ h => h) (fun _ h => h.elim)
/-- No more is held. -/
theorem TryAt.weak (h : TryAt w0 w t G cp x lv) {lv' : Int} (h2 : lv' ≠ 2) (h3 : lv' ≠ 3) (h4 : lv' ≠ 4) : TryAt w0 w t G cp x lv' := by
  obtain ⟨a, n, k, q, h1, -, -⟩ := h.cell
  exact ⟨⟨a, n, k, q, h1, fun e => absurd e h2, fun e => e.elim (fun e => absurd e h3) (fun e => absurd e h4)⟩, h.tG, h.newt, h.new⟩
end
theorem blk14 {w : World} {g : Nat} {u0 u1 u2 u3 u4 u5 u6 u7 u8 u9 u10 u11 u12 u13 : Value} {T : TypeId} (h : w.heap[g]? = some (.cells #[u0, u1, u2, u3, u4, u5, u6, u7, u8, u9, u10, u11, u12, u13] T (0, 0))) :
    (w.cell? ⟨g, 0, none⟩ = some u0 ∧ w.cell? ⟨g, 1, none⟩ = some u1 ∧ w.cell? ⟨g, 2, none⟩ = some u2 ∧ w.cell? ⟨g, 3, none⟩ = some u3 ∧ w.cell? ⟨g, 4, none⟩ = some u4 ∧ w.cell? ⟨g, 5, none⟩ = some u5 ∧ w.cell? ⟨g, 6, none⟩ = some u6 ∧ w.cell? ⟨g, 7, none⟩ = some u7) ∧
    (w.cell? ⟨g, 8, none⟩ = some u8 ∧ w.cell? ⟨g, 9, none⟩ = some u9 ∧ w.cell? ⟨g, 10, none⟩ = some u10 ∧ w.cell? ⟨g, 11, none⟩ = some u11 ∧ w.cell? ⟨g, 12, none⟩ = some u12 ∧ w.cell? ⟨g, 13, none⟩ = some u13) ∧
    (w.frozen? ⟨g, 3, none⟩ = false ∧ w.frozen? ⟨g, 4, none⟩ = false ∧ w.frozen? ⟨g, 5, none⟩ = false ∧ w.frozen? ⟨g, 6, none⟩ = false ∧ w.frozen? ⟨g, 7, none⟩ = false) ∧ g < w.heap.size := by
  have hg := (Array.getElem?_eq_some_iff.1 h).1
  refine ⟨⟨?_, ?_, ?_, ?_, ?_, ?_, ?_, ?_⟩, ⟨?_, ?_, ?_, ?_, ?_, ?_⟩, ⟨?_, ?_, ?_, ?_, ?_⟩, hg⟩ <;> simp [World.cell?, World.frozen?, h]
end Go.Proofs.YtlgkkolgdjgclaaGreat
/- A try's methods: next. -/
namespace Go.Proofs.YtlgkkolgdjgclaaGreat
open Go.RowKit
set_option linter.unusedVariables false
set_option linter.unusedSimpArgs false

section
variable {w0 w w' : World} {F : Nat → Prop} {c p b r : Nat} {s : CoreS} {K : Int} {t : Nat} {G : Nat → Prop} {x : TryS} {lv : Int}
/-- Behind a stage of a try: what it is then, and its core. -/
def NextTo (w0 w : World) (F : Nat → Prop) (c p r t : Nat) (G : Nat → Prop) (y : TryS) (lv : Int) (s' : CoreS) (w' : World) : Prop :=
  ∃ G' F' p' b', CSt w0 w' F' c p' b' r s' ∧ TryAt w0 w' t G' c y lv ∧ Fr (fun j => j = t ∨ j = c ∨ G j) w w' ∧ (∀ j, G' j → G j ∨ w.heap.size ≤ j) ∧ (∀ j, F' j ∨ j = p' → F j ∨ j = p ∨ G j) ∧ ∀ j, cfoot F' c p' r j → j ≠ t ∧ ¬ G' j
theorem NextTo.same (h : CSt w0 w F c p b r s) (hx : TryAt w0 w t G c x lv) (hd : ∀ j, cfoot F c p r j → j ≠ t ∧ ¬ G j) (hb : Below w.heap.size w w') : NextTo w0 w F c p r t G x lv s w' :=
  ⟨G, F, p, b, h.below hb, hx.below hb, Fr.of_below hb, fun j hj => .inl hj, fun j hj => hj.elim .inl (fun e => .inr (.inl e)), hd⟩
theorem NextTo.weak {y : TryS} {s' : CoreS} (h : NextTo w0 w F c p r t G y lv s' w') {lv' : Int} (h2 : lv' ≠ 2) (h3 : lv' ≠ 3) (h4 : lv' ≠ 4) : NextTo w0 w F c p r t G y lv' s' w' := by
  obtain ⟨G', F', p', b', a1, a2, a3⟩ := h
  exact ⟨G', F', p', b', a1, a2.weak h2 h3 h4, a3⟩
/-- Its own cells alone were written. -/
theorem CSt.try (h : CSt w0 w F c p b r s) (hx : TryAt w0 w t G c x lv) (hd : ∀ j, cfoot F c p r j → j ≠ t ∧ ¬ G j) (hf : Fr (fun j => j = t) w w') : CSt w0 w' F c p b r s :=
  h.fr hf (fun k hk => (hd k hk).1) (fun k hk => by rw [hk]; exact hx.newt)
set_option maxHeartbeats 1600000 in
set_option maxRecDepth 100000 in
/-- The core is not as it was. -/
theorem StStale (h : CSt w0 w F c p b r s) (hx : TryAt w0 w t G c x lv) {m : Int} (hm : 2 ≤ m) (ha : s.age ≠ x.age) :
    Calls Tryz.prog 61 #[.pointer (some ⟨t, 0, none⟩), .int .i64 m] w fun e w' => e = .returned (.int .i64 12) ∧ Below w.heap.size w w' := by
  obtain ⟨a, n, k, q, hx0, hx2, hx3⟩ := hx.cell
  simp only [tryCells] at hx0
  obtain ⟨⟨c0, c1, c2, c3, c4, c5, c6, c7⟩, ⟨c8, c9, c10, c11, c12, c13⟩, ⟨f3, f4, f5, f6, f7⟩, tl⟩ := blk14 hx0
  have HAg := Lib.hid (fun (W : World) (hW : Below w.heap.size w W) => CorAge (h.below hW))
  have hbd := (Below.refl w.heap.size w).drew
  have hm1 : 1 < m := by omega
  have hne : ¬ s.age = x.age := ha
  have Hbd := Lib.hid hbd
  clear h hx hx0 hx2 hx3
  go_enter Tryz.func61, Tryz.ntmps61
  go_wp2_with fail
  refine wp_region_chain 95 [0, 1, 3, 7, 15, 31, 63, 127, 7, 263, 775, 1799, 4095, 8191] [(0, none), (1, none), (2, none), (3, none), (4, none), (5, none), (6, none), (8, none), (9, none), (10, none), (11, none), (7, some [8, 9, 10, 11]), (12, none), (13, none)] (by kernel_rfl) (by kernel_rfl) (by rfl) ?_; simp only [chain, Obs, List.getElem?_toArray, List.getElem?_cons_zero, List.getElem?_cons_succ]
  go_wp2_with (first
    | (with_reducible refine And.intro (by first | with_reducible exact True.intro | with_reducible rfl | go_simp) ?_)
    | (go_at_call 31; refine (HAg.out _ hbd).mono ?_; rintro e w1 ⟨rfl, rfl⟩))
  refine NoPanic.normal ?_
  go_wp2_with fail
  go_ret
  exact ⟨rfl, Hbd.out⟩
set_option maxHeartbeats 1600000 in
set_option maxRecDepth 100000 in
/-- The stage is to fail. -/
theorem StForce (h : CSt w0 w F c p b r s) (hx : TryAt w0 w t G c x lv) {m : Nat} (hm : 1 ≤ m ∧ m ≤ 5) (ha : 1 < m → s.age = x.age) (hfo : x.fo m = true) :
    Calls Tryz.prog 61 #[.pointer (some ⟨t, 0, none⟩), .int .i64 m] w fun e w' => e = .returned (.int .i64 13) ∧ Below w.heap.size w w' := by
  obtain ⟨a, n, k, q, hx0, hx2, hx3⟩ := hx.cell
  simp only [tryCells] at hx0
  obtain ⟨⟨c0, c1, c2, c3, c4, c5, c6, c7⟩, ⟨c8, c9, c10, c11, c12, c13⟩, ⟨f3, f4, f5, f6, f7⟩, tl⟩ := blk14 hx0
  have HAg := Lib.hid (fun (W : World) (hW : Below w.heap.size w W) => CorAge (h.below hW))
  have hbd := (Below.refl w.heap.size w).drew
  have cm : w.cell? ⟨t, 8 + m, none⟩ = some (.bool true) := by
    rw [← hfo]
    obtain rfl | rfl | rfl | rfl | rfl : m = 1 ∨ m = 2 ∨ m = 3 ∨ m = 4 ∨ m = 5 := by omega
    · exact c9
    · exact c10
    · exact c11
    · exact c12
    · exact c13
  have hm0 : (0 : Int) ≤ m := by omega
  have hm6 : (m : Int) < 6 := by omega
  have Hbd := Lib.hid hbd
  clear h hx hx0 hx2 hx3
  by_cases hm1 : (1 : Int) < m
  · have heq := ha (by omega)
    go_enter Tryz.func61, Tryz.ntmps61
    go_wp2_with fail
    refine wp_region_chain 95 [0, 1, 3, 7, 15, 31, 63, 127, 7, 263, 775, 1799, 4095, 8191] [(0, none), (1, none), (2, none), (3, none), (4, none), (5, none), (6, none), (8, none), (9, none), (10, none), (11, none), (7, some [8, 9, 10, 11]), (12, none), (13, none)] (by kernel_rfl) (by kernel_rfl) (by rfl) ?_; simp only [chain, Obs, List.getElem?_toArray, List.getElem?_cons_zero, List.getElem?_cons_succ]
    go_wp2_with (first
      | (with_reducible refine And.intro (by first | with_reducible exact True.intro | with_reducible rfl | go_simp) ?_)
      | (go_at_call 31; refine (HAg.out _ hbd).mono ?_; rintro e w1 ⟨rfl, rfl⟩))
    refine NoPanic.normal ?_
    go_wp2_with fail
    go_ret
    exact ⟨rfl, Hbd.out⟩
  · go_enter Tryz.func61, Tryz.ntmps61
    go_wp2_with fail
    refine wp_region_chain 95 [0, 1, 3, 7, 15, 31, 63, 127, 7, 263, 775, 1799, 4095, 8191] [(0, none), (1, none), (2, none), (3, none), (4, none), (5, none), (6, none), (8, none), (9, none), (10, none), (11, none), (7, some [8, 9, 10, 11]), (12, none), (13, none)] (by kernel_rfl) (by kernel_rfl) (by rfl) ?_; simp only [chain, Obs, List.getElem?_toArray, List.getElem?_cons_zero, List.getElem?_cons_succ]
    go_wp2_with (first
      | (with_reducible refine And.intro (by first | with_reducible exact True.intro | with_reducible rfl | go_simp) ?_)
      | (go_at_call 31; refine (HAg.out _ hbd).mono ?_; rintro e w1 ⟨rfl, rfl⟩))
    refine NoPanic.normal ?_
    go_wp2_with fail
    go_ret
    exact ⟨rfl, Hbd.out⟩
set_option maxHeartbeats 1600000 in
set_option maxRecDepth 100000 in
theorem StNext1 (h : CSt w0 w F c p b r s) (hx : TryAt w0 w t G c x lv) (hd : ∀ j, cfoot F c p r j → j ≠ t ∧ ¬ G j) (hfo : x.fo 1 = false) :
    Calls Tryz.prog 61 #[.pointer (some ⟨t, 0, none⟩), .int .i64 1] w fun e w' => e = .returned (.int .i64 0) ∧ NextTo w0 w F c p r t G { x with age := s.age } 1 s w' := by
  obtain ⟨a, n, k, q, hx0, hx2, hx3⟩ := hx.cell
  simp only [tryCells] at hx0
  obtain ⟨⟨c0, c1, c2, c3, c4, c5, c6, c7⟩, ⟨c8, c9, c10, c11, c12, c13⟩, ⟨f3, f4, f5, f6, f7⟩, tl⟩ := blk14 hx0
  have HAg := Lib.hid (fun (W : World) (hW : Below w.heap.size w W) => CorAge (h.below hW))
  have hbd := (Below.refl w.heap.size w).drew
  rw [hfo] at c9
  have H := Lib.hid h; have Hx := Lib.hid hx; have Hx0 := Lib.hid hx0; have Hd := Lib.hid hd
  clear h hx hx0 hx2 hx3 hd
  go_enter Tryz.func61, Tryz.ntmps61
  go_wp2_with fail
  refine wp_region_chain 95 [0, 1, 3, 7, 15, 31, 63, 127, 7, 263, 775, 1799, 4095, 8191] [(0, none), (1, none), (2, none), (3, none), (4, none), (5, none), (6, none), (8, none), (9, none), (10, none), (11, none), (7, some [8, 9, 10, 11]), (12, none), (13, none)] (by kernel_rfl) (by kernel_rfl) (by rfl) ?_; simp only [chain, Obs, List.getElem?_toArray, List.getElem?_cons_zero, List.getElem?_cons_succ]
  go_wp2_with (first
    | (with_reducible refine And.intro (by first | with_reducible exact True.intro | with_reducible rfl | go_simp) ?_)
    | (go_at_call 31; refine (HAg.out _ hbd).mono ?_; rintro e w1 ⟨rfl, rfl⟩))
  refine NoPanic.normal ?_
  go_wp2_with (first
    | (go_at_call 31; refine (HAg.out _ hbd).mono ?_; rintro e w1 ⟨rfl, rfl⟩))
  go_ret
  have hf : Fr (fun j => j = t) w (w.drew.setCell ⟨t, 5, none⟩ (.int .i64 s.age)) := ((Fr.refl (fun j => j = t) w).drew).setCell (p := ⟨t, 5, none⟩) (fun _ => rfl) _
  refine ⟨rfl, G, F, p, b, H.out.try Hx.out Hd.out hf, ⟨⟨a, n, k, q, heap_set (show w.drew.heap[t]? = _ from Hx0.out) _, fun e => absurd e (by decide), fun e => absurd e (by decide)⟩, Hx.out.tG, Hx.out.newt, fun j hj => ?_⟩, hf.mono fun j _ e => .inl e, fun j hj => .inl hj, fun j hj => hj.elim .inl (fun e => .inr (.inl e)), Hd.out⟩
  have := Hx.out.new j hj
  exact ⟨this.1, by simpa using this.2⟩
set_option maxHeartbeats 1600000 in
set_option maxRecDepth 100000 in
theorem StNext2 (h : CSt w0 w F c p b r s) (hx : TryAt w0 w t G c x lv) (hd : ∀ j, cfoot F c p r j → j ≠ t ∧ ¬ G j) (ht : TagOk s.tag) (hk : OkS K s.q) (hg : goodF (formR s.q) = true) (ha : s.age = x.age) (hfo : x.fo 2 = false) :
    Calls Tryz.prog 61 #[.pointer (some ⟨t, 0, none⟩), .int .i64 2] w fun e w' => e = .returned (.int .i64 0) ∧ NextTo w0 w F c p r t G { x with b := putB s.tag (formR s.q) } 2 s w' := by
  obtain ⟨a, n, k, q, hx0, hx2, hx3⟩ := hx.cell
  simp only [tryCells] at hx0
  obtain ⟨⟨c0, c1, c2, c3, c4, c5, c6, c7⟩, ⟨c8, c9, c10, c11, c12, c13⟩, ⟨f3, f4, f5, f6, f7⟩, tl⟩ := blk14 hx0
  have HAg := Lib.hid (fun (W : World) (hW : Below w.heap.size w W) => CorAge (h.below hW))
  have hbd := (Below.refl w.heap.size w).drew
  rw [hfo] at c10
  have HW := Lib.hid (fun (W : World) (hW : Below w.heap.size w W) => ShWrite (h.below hW) ht hk rfl hg)
  have H := Lib.hid h; have Hx := Lib.hid hx; have Hx0 := Lib.hid hx0; have Hd := Lib.hid hd
  clear h hx hx0 hx2 hx3 hd
  generalize putB s.tag (formR s.q) = B at HW ⊢
  go_enter Tryz.func61, Tryz.ntmps61
  go_wp2_with fail
  refine wp_region_chain 95 [0, 1, 3, 7, 15, 31, 63, 127, 7, 263, 775, 1799, 4095, 8191] [(0, none), (1, none), (2, none), (3, none), (4, none), (5, none), (6, none), (8, none), (9, none), (10, none), (11, none), (7, some [8, 9, 10, 11]), (12, none), (13, none)] (by kernel_rfl) (by kernel_rfl) (by rfl) ?_; simp only [chain, Obs, List.getElem?_toArray, List.getElem?_cons_zero, List.getElem?_cons_succ]
  go_wp2_with (first
    | (with_reducible refine And.intro (by first | with_reducible exact True.intro | with_reducible rfl | go_simp) ?_)
    | (go_at_call 31; refine (HAg.out _ hbd).mono ?_; rintro e w1 ⟨rfl, rfl⟩))
  refine NoPanic.normal ?_
  go_wp2_with (first
    | (go_at_call 80; refine (HW.out _ hbd).mono ?_; rintro e w1 ⟨a1, k1, rfl, ho1, hb1⟩
       have hb2 := hbd.trans (hb1.mono (Nat.le_refl _))
       have x1 := heap_below Hx0.out hb2
       obtain ⟨⟨c0, c1, c2, c3, c4, c5, c6, c7⟩, ⟨c8, c9, c10, c11, c12, c13⟩, ⟨f3, f4, f5, f6, f7⟩, tl⟩ := blk14 x1
       have X1 := Lib.hid x1; have HO1 := Lib.hid ho1; have Hb2 := Lib.hid hb2
       clear x1 ho1 hb1 hb2))
  go_ret
  have ho := HO1.out.lt
  have hwd : w.drew.heap.size = w.heap.size := rfl
  have htl := Hx.out.tlt
  have hf : Fr (fun j => j = t) w (w1.setCell ⟨t, 6, none⟩ (.slice a1 B.length k1)) := (Fr.of_below (F := fun j => j = t) Hb2.out).setCell (p := ⟨t, 6, none⟩) (fun _ => rfl) _
  have hfs : Fr (fun j => j = t) w1 (w1.setCell ⟨t, 6, none⟩ (.slice a1 B.length k1)) := (Fr.refl (fun j => j = t) w1).setCell (p := ⟨t, 6, none⟩) (fun _ => rfl) _
  have hsz := Hb2.out.size
  have h0s := H.out.pol.old.size
  refine ⟨rfl, fun j => G j ∨ (Value.slice a1 B.length k1).ownBlock = some j, F, p, b, H.out.try Hx.out Hd.out hf, ⟨⟨a1, B.length, k1, q, heap_set X1.out _, fun _ => ⟨rfl, own_base (own_fr HO1.out hfs (fun j hj e => by have := (ho j hj).1; omega)) (by omega), fun j hj => .inr hj⟩, fun e => absurd e (by decide)⟩, fun e => ?_, Hx.out.newt, fun j hj => ?_⟩, hf.mono fun j _ e => .inl e, fun j hj => hj.imp id (fun e => by have := (ho j e).1; omega), fun j hj => hj.elim .inl (fun e => .inr (.inl e)), fun j hj => ⟨(Hd.out j hj).1, fun e => ?_⟩⟩
  · rcases e with e | e
    · exact Hx.out.tG e
    · have := (ho t e).1; omega
  · have hss : (w1.setCell ⟨t, 6, none⟩ (.slice a1 B.length k1)).heap.size = w1.heap.size := by simp
    rcases hj with e | e
    · have := Hx.out.new j e; omega
    · have := ho j e; omega
  · rcases e with e | e
    · exact (Hd.out j hj).2 e
    · have := (ho j e).1
      have := H.out.lt j hj
      omega
set_option maxHeartbeats 1600000 in
set_option maxRecDepth 100000 in
theorem StNext3_ok (h : CSt w0 w F c p b r s) (hx : TryAt w0 w t G c x 2) (hd : ∀ j, cfoot F c p r j → j ≠ t ∧ ¬ G j) (ht : TagOk x.tag) (hb : BaseOk x.base) (hl : x.b.length ≤ 1000) (hB : ∀ y ∈ x.b, Byte y) (ha : s.age = x.age) (hfo : x.fo 3 = false) {f : Fm} (hf : (readE x.b).2.1 = f) (h0 : (readE x.b).2.2 = 0) :
    Calls Tryz.prog 61 #[.pointer (some ⟨t, 0, none⟩), .int .i64 3] w fun e w' => e = .returned (.int .i64 0) ∧ NextTo w0 w F c p r t G { x with S := seedR f x.base } 3 s w' := by
  obtain ⟨a, n, k, q, hx0, hx2, hx3⟩ := hx.cell
  simp only [tryCells] at hx0
  obtain ⟨⟨c0, c1, c2, c3, c4, c5, c6, c7⟩, ⟨c8, c9, c10, c11, c12, c13⟩, ⟨f3, f4, f5, f6, f7⟩, tl⟩ := blk14 hx0
  have HAg := Lib.hid (fun (W : World) (hW : Below w.heap.size w W) => CorAge (h.below hW))
  have hbd := (Below.refl w.heap.size w).drew
  rw [hfo] at c11
  obtain ⟨rfl, ho, hg⟩ := hx2 rfl
  have hcap := own_cap ho
  have HM := Lib.hid (fun (W : World) (hW : Below w.heap.size w W) => Make_ok x.b x.tag x.base _ a k W rfl (by omega) hcap hB (own_sl (own_below ho hW)) ht hb hf h0)
  have H := Lib.hid h; have Hx := Lib.hid hx; have Hx0 := Lib.hid hx0; have Hd := Lib.hid hd
  clear h hx hx0 hx2 hx3 hd ho hg hf h0
  go_enter Tryz.func61, Tryz.ntmps61
  go_wp2_with fail
  refine wp_region_chain 95 [0, 1, 3, 7, 15, 31, 63, 127, 7, 263, 775, 1799, 4095, 8191] [(0, none), (1, none), (2, none), (3, none), (4, none), (5, none), (6, none), (8, none), (9, none), (10, none), (11, none), (7, some [8, 9, 10, 11]), (12, none), (13, none)] (by kernel_rfl) (by kernel_rfl) (by rfl) ?_; simp only [chain, Obs, List.getElem?_toArray, List.getElem?_cons_zero, List.getElem?_cons_succ]
  go_wp2_with (first
    | (with_reducible refine And.intro (by first | with_reducible exact True.intro | with_reducible rfl | go_simp) ?_)
    | (go_at_call 31; refine (HAg.out _ hbd).mono ?_; rintro e w1 ⟨rfl, rfl⟩))
  refine NoPanic.normal ?_
  go_wp2_with fail
  refine wp_region_chain 95 [0, 0, 2, 6, 14, 0, 32, 96, 224, 0, 512, 1536, 3584, 8190, 16382, 32766, 32766, 65535, 196607, 458751, 1048575] [(0, none), (1, none), (2, none), (3, none), (4, none), (5, none), (6, none), (7, none), (8, none), (9, none), (10, none), (11, none), (12, none), (13, some [0]), (14, none), (15, none), (16, none), (17, none), (18, none), (19, some [16]), (20, none)] (by kernel_rfl) (by kernel_rfl) (by rfl) ?_; simp only [chain, Obs, List.getElem?_toArray, List.getElem?_cons_zero, List.getElem?_cons_succ]
  go_wp2_with (first
    | (with_reducible refine And.intro (by first | with_reducible exact True.intro | with_reducible rfl | go_simp) ?_)
    | (go_at_call 81; with_reducible refine (HM.out _ hbd.drew).mono ?_; rintro e w1 hpp
       obtain ⟨p2, b2, H2, rfl, hq, hqn, hb1⟩ := hpp.st (H.out.pol.old.trans (hbd.drew.mono H.out.pol.old.size))
       have hb2 := hbd.drew.trans (hb1.mono (Nat.le_refl _))
       have x1 := heap_below Hx0.out hb2
       obtain ⟨⟨c0, c1, c2, c3, c4, c5, c6, c7⟩, ⟨c8, c9, c10, c11, c12, c13⟩, ⟨f3, f4, f5, f6, f7⟩, tl⟩ := blk14 x1
       have X1 := Lib.hid x1; have Hq := Lib.hid hq; have Hqn := Lib.hid hqn; have Hb2 := Lib.hid hb2
       clear x1 hpp hq hqn hb1 hb2))
  refine NoPanic.normal ?_
  go_wp2_with fail
  go_ret
  have htl := Hx.out.tlt
  have hwd : w.drew.drew.heap.size = w.heap.size := rfl
  have hqn := Hqn.out
  rw [hwd] at hqn
  have hf : Fr (fun j => j = t) w (w1.setCell ⟨t, 7, none⟩ (.pointer (some ⟨p2, 0, none⟩))) := (Fr.of_below (F := fun j => j = t) Hb2.out).setCell (p := ⟨t, 7, none⟩) (fun _ => rfl) _
  have hfs : Fr (fun j => j = t) w1 (w1.setCell ⟨t, 7, none⟩ (.pointer (some ⟨p2, 0, none⟩))) := (Fr.refl (fun j => j = t) w1).setCell (p := ⟨t, 7, none⟩) (fun _ => rfl) _
  have hsz := Hb2.out.size
  have h0s := H.out.pol.old.size
  have hss : (w1.setCell ⟨t, 7, none⟩ (.pointer (some ⟨p2, 0, none⟩))).heap.size = w1.heap.size := by simp
  refine ⟨rfl, fun j => G j ∨ (H2 j ∨ j = p2), F, p, b, H.out.try Hx.out Hd.out hf, ⟨⟨a, _, k, _, heap_set X1.out _, fun e => absurd e (by decide), fun _ => ⟨p2, H2, b2, rfl, Hq.out.fr hfs (fun j hj e => by have := hqn j (.inl hj); omega) (fun e => by have := hqn p2 (.inr rfl); omega) (fun j e => by rw [e]; exact Hx.out.newt), fun j hj => .inr hj⟩⟩, fun e => ?_, Hx.out.newt, fun j hj => ?_⟩, hf.mono fun j _ e => .inl e, fun j hj => hj.imp id (fun e => hqn j e), fun j hj => hj.elim .inl (fun e => .inr (.inl e)), fun j hj => ⟨(Hd.out j hj).1, fun e => ?_⟩⟩
  · rcases e with e | e
    · exact Hx.out.tG e
    · have := hqn t e; omega
  · rcases hj with e | e
    · have := Hx.out.new j e; omega
    · have := hqn j e
      have : j < w1.heap.size := by
        rcases e with e | rfl
        · exact Hq.out.lt j e
        · exact Hq.out.plt
      omega
  · rcases e with e | e
    · exact (Hd.out j hj).2 e
    · have := hqn j e
      have := H.out.lt j hj
      omega
set_option maxHeartbeats 1600000 in
set_option maxRecDepth 100000 in
theorem StNext3_err (h : CSt w0 w F c p b r s) (hx : TryAt w0 w t G c x 2) (hd : ∀ j, cfoot F c p r j → j ≠ t ∧ ¬ G j) (ht : TagOk x.tag) (hl : x.b.length ≤ 1000) (hB : ∀ y ∈ x.b, Byte y) (ha : s.age = x.age) (hfo : x.fo 3 = false) {er : Int} (he : (readE x.b).2.2 = er) (h0 : er ≠ 0) :
    Calls Tryz.prog 61 #[.pointer (some ⟨t, 0, none⟩), .int .i64 3] w fun e w' => e = .returned (.int .i64 er) ∧ NextTo w0 w F c p r t G x 0 s w' := by
  obtain ⟨a, n, k, q, hx0, hx2, hx3⟩ := hx.cell
  simp only [tryCells] at hx0
  obtain ⟨⟨c0, c1, c2, c3, c4, c5, c6, c7⟩, ⟨c8, c9, c10, c11, c12, c13⟩, ⟨f3, f4, f5, f6, f7⟩, tl⟩ := blk14 hx0
  have HAg := Lib.hid (fun (W : World) (hW : Below w.heap.size w W) => CorAge (h.below hW))
  have hbd := (Below.refl w.heap.size w).drew
  rw [hfo] at c11
  obtain ⟨rfl, ho, hg⟩ := hx2 rfl
  have hcap := own_cap ho
  have HM := Lib.hid (fun (W : World) (hW : Below w.heap.size w W) => Make_err x.b x.tag x.base _ a k W rfl (by omega) hcap hB (own_sl (own_below ho hW)) ht he h0)
  have H := Lib.hid h; have Hx := Lib.hid hx; have Hx0 := Lib.hid hx0; have Hd := Lib.hid hd
  clear h hx hx0 hx2 hx3 hd ho hg he h0
  go_enter Tryz.func61, Tryz.ntmps61
  go_wp2_with fail
  refine wp_region_chain 95 [0, 1, 3, 7, 15, 31, 63, 127, 7, 263, 775, 1799, 4095, 8191] [(0, none), (1, none), (2, none), (3, none), (4, none), (5, none), (6, none), (8, none), (9, none), (10, none), (11, none), (7, some [8, 9, 10, 11]), (12, none), (13, none)] (by kernel_rfl) (by kernel_rfl) (by rfl) ?_; simp only [chain, Obs, List.getElem?_toArray, List.getElem?_cons_zero, List.getElem?_cons_succ]
  go_wp2_with (first
    | (with_reducible refine And.intro (by first | with_reducible exact True.intro | with_reducible rfl | go_simp) ?_)
    | (go_at_call 31; refine (HAg.out _ hbd).mono ?_; rintro e w1 ⟨rfl, rfl⟩))
  refine NoPanic.normal ?_
  go_wp2_with fail
  refine wp_region_chain 95 [0, 0, 2, 6, 14, 0, 32, 96, 224, 0, 512, 1536, 3584, 8190, 16382, 32766, 32766, 65535, 196607, 458751, 1048575] [(0, none), (1, none), (2, none), (3, none), (4, none), (5, none), (6, none), (7, none), (8, none), (9, none), (10, none), (11, none), (12, none), (13, some [0]), (14, none), (15, none), (16, none), (17, none), (18, none), (19, some [16]), (20, none)] (by kernel_rfl) (by kernel_rfl) (by rfl) ?_; simp only [chain, Obs, List.getElem?_toArray, List.getElem?_cons_zero, List.getElem?_cons_succ]
  go_wp2_with (first
    | (with_reducible refine And.intro (by first | with_reducible exact True.intro | with_reducible rfl | go_simp) ?_)
    | (go_at_call 81; with_reducible refine (HM.out _ hbd.drew).mono ?_; rintro e w1 ⟨rfl, hb1⟩
       have hb2 := hbd.drew.trans (hb1.mono (Nat.le_refl _))
       have x1 := heap_below Hx0.out hb2
       obtain ⟨⟨c0, c1, c2, c3, c4, c5, c6, c7⟩, ⟨c8, c9, c10, c11, c12, c13⟩, ⟨f3, f4, f5, f6, f7⟩, tl⟩ := blk14 x1
       have X1 := Lib.hid x1; have Hb2 := Lib.hid hb2
       clear x1 hb1 hb2))
  refine NoPanic.normal ?_
  go_wp2_with fail
  go_ret
  have hf : Fr (fun j => j = t) w (w1.setCell ⟨t, 7, none⟩ (.pointer none)) := (Fr.of_below (F := fun j => j = t) Hb2.out).setCell (p := ⟨t, 7, none⟩) (fun _ => rfl) _
  have hsz := hf.size
  exact ⟨rfl, G, F, p, b, H.out.try Hx.out Hd.out hf, ⟨⟨a, _, k, _, heap_set X1.out _, fun e => absurd e (by decide), fun e => e.elim (fun e => absurd e (by decide)) (fun e => absurd e (by decide))⟩, Hx.out.tG, Hx.out.newt, fun j hj => ⟨(Hx.out.new j hj).1, by have := (Hx.out.new j hj).2; omega⟩⟩, hf.mono fun j _ e => .inl e, fun j hj => .inl hj, fun j hj => hj.elim .inl (fun e => .inr (.inl e)), Hd.out⟩
set_option maxHeartbeats 1600000 in
set_option maxRecDepth 100000 in
theorem StNext4_ok {K2 : Int} (h : CSt w0 w F c p b r s) (hx : TryAt w0 w t G c x 3) (hd : ∀ j, cfoot F c p r j → j ≠ t ∧ ¬ G j) (ht : TagOk s.tag) (ht2 : TagOk x.tag) (hk : OkS K s.q) (hk2 : OkS K2 x.S) (hg : goodF (formR s.q) = true) (hr : formR x.S = formR s.q) (ha : s.age = x.age) (hfo : x.fo 4 = false) :
    Calls Tryz.prog 61 #[.pointer (some ⟨t, 0, none⟩), .int .i64 4] w fun e w' => e = .returned (.int .i64 0) ∧ NextTo w0 w F c p r t G x 4 s w' := by
  obtain ⟨a, n, k, q, hx0, hx2, hx3⟩ := hx.cell
  simp only [tryCells] at hx0
  obtain ⟨⟨c0, c1, c2, c3, c4, c5, c6, c7⟩, ⟨c8, c9, c10, c11, c12, c13⟩, ⟨f3, f4, f5, f6, f7⟩, tl⟩ := blk14 hx0
  have HAg := Lib.hid (fun (W : World) (hW : Below w.heap.size w W) => CorAge (h.below hW))
  have hbd := (Below.refl w.heap.size w).drew
  rw [hfo] at c12
  obtain ⟨p2, H2, b2, rfl, hq, hqG⟩ := hx3 (.inl rfl)
  have HM := Lib.hid (fun (W : World) (hW : Below w.heap.size w W) => ShFits (h.below hW) (hq.below hW) ht ht2 hk hk2 rfl hr hg)
  have H := Lib.hid h; have Hx := Lib.hid hx; have Hx0 := Lib.hid hx0; have Hd := Lib.hid hd
  have hx4 : TryAt w0 w t G c x 4 := ⟨⟨a, n, k, _, hx0, fun e => absurd e (by decide), fun _ => ⟨p2, H2, b2, rfl, hq, hqG⟩⟩, hx.tG, hx.newt, hx.new⟩
  have Hx4 := Lib.hid hx4
  clear h hx hx0 hx2 hx3 hd hq hqG hr hx4
  go_enter Tryz.func61, Tryz.ntmps61
  go_wp2_with fail
  refine wp_region_chain 95 [0, 1, 3, 7, 15, 31, 63, 127, 7, 263, 775, 1799, 4095, 8191] [(0, none), (1, none), (2, none), (3, none), (4, none), (5, none), (6, none), (8, none), (9, none), (10, none), (11, none), (7, some [8, 9, 10, 11]), (12, none), (13, none)] (by kernel_rfl) (by kernel_rfl) (by rfl) ?_; simp only [chain, Obs, List.getElem?_toArray, List.getElem?_cons_zero, List.getElem?_cons_succ]
  go_wp2_with (first
    | (with_reducible refine And.intro (by first | with_reducible exact True.intro | with_reducible rfl | go_simp) ?_)
    | (go_at_call 31; refine (HAg.out _ hbd).mono ?_; rintro e w1 ⟨rfl, rfl⟩))
  refine NoPanic.normal ?_
  go_wp2_with fail
  refine wp_region_chain 95 [0, 1, 3, 7, 0, 16, 48, 112, 255, 511, 1023] [(0, none), (1, none), (2, none), (3, none), (4, none), (5, none), (6, none), (7, none), (8, some []), (9, none), (10, none)] (by kernel_rfl) (by kernel_rfl) (by rfl) ?_; simp only [chain, Obs, List.getElem?_toArray, List.getElem?_cons_zero, List.getElem?_cons_succ]
  go_wp2_with (first
    | (with_reducible refine And.intro (by first | with_reducible exact True.intro | with_reducible rfl | go_simp) ?_)
    | (go_at_call 82; with_reducible refine (HM.out _ hbd.drew).mono ?_; rintro e w1 ⟨rfl, hb1⟩
       have Hb2 := Lib.hid (hbd.drew.trans (hb1.mono (Nat.le_refl _)))
       clear hb1))
  refine NoPanic.normal ?_
  go_wp2_with fail
  go_ret
  exact ⟨rfl, NextTo.same H.out Hx4.out Hd.out Hb2.out⟩
set_option maxHeartbeats 1600000 in
set_option maxRecDepth 100000 in
theorem StNext5_ok {K2 : Int} (h : CSt w0 w F c p b r s) (hx : TryAt w0 w t G c x 4) (hd : ∀ j, cfoot F c p r j → j ≠ t ∧ ¬ G j) (ht : TagOk s.tag) (ht2 : TagOk x.tag) (hk : OkS K s.q) (hk2 : OkS K2 x.S) (hr : formR x.S = formR s.q) (ha : s.age = x.age) (hfo : x.fo 5 = false) :
    Calls Tryz.prog 61 #[.pointer (some ⟨t, 0, none⟩), .int .i64 5] w fun e w' => e = .returned (.int .i64 0) ∧ NextTo w0 w F c p r t G x 5 { s with tag := x.tag, q := x.S } w' := by
  obtain ⟨a, n, k, q, hx0, hx2, hx3⟩ := hx.cell
  simp only [tryCells] at hx0
  obtain ⟨⟨c0, c1, c2, c3, c4, c5, c6, c7⟩, ⟨c8, c9, c10, c11, c12, c13⟩, ⟨f3, f4, f5, f6, f7⟩, tl⟩ := blk14 hx0
  have HAg := Lib.hid (fun (W : World) (hW : Below w.heap.size w W) => CorAge (h.below hW))
  have hbd := (Below.refl w.heap.size w).drew
  rw [hfo] at c13
  obtain ⟨p2, H2, b2, rfl, hq, hqG⟩ := hx3 (.inr rfl)
  have HM := Lib.hid (fun (W : World) (hW : Below w.heap.size w W) => CorChange_ok (h.below hW) (hq.below hW) ht ht2 hk hk2 (fun j hj e => (hd j e).2 (hqG j hj)) hr)
  have H := Lib.hid h; have Hx := Lib.hid hx; have Hx0 := Lib.hid hx0; have Hd := Lib.hid hd; have HqG := Lib.hid hqG
  clear h hx hx0 hx2 hx3 hd hq hqG hr
  go_enter Tryz.func61, Tryz.ntmps61
  go_wp2_with fail
  refine wp_region_chain 95 [0, 1, 3, 7, 15, 31, 63, 127, 7, 263, 775, 1799, 4095, 8191] [(0, none), (1, none), (2, none), (3, none), (4, none), (5, none), (6, none), (8, none), (9, none), (10, none), (11, none), (7, some [8, 9, 10, 11]), (12, none), (13, none)] (by kernel_rfl) (by kernel_rfl) (by rfl) ?_; simp only [chain, Obs, List.getElem?_toArray, List.getElem?_cons_zero, List.getElem?_cons_succ]
  go_wp2_with (first
    | (with_reducible refine And.intro (by first | with_reducible exact True.intro | with_reducible rfl | go_simp) ?_)
    | (go_at_call 31; refine (HAg.out _ hbd).mono ?_; rintro e w1 ⟨rfl, rfl⟩))
  refine NoPanic.normal ?_
  go_wp2_with fail
  refine wp_region_chain 95 [0, 1, 3, 7, 0, 16, 48, 112, 255, 511] [(0, none), (1, none), (2, none), (3, none), (4, none), (5, none), (6, none), (7, none), (8, some []), (9, none)] (by kernel_rfl) (by kernel_rfl) (by rfl) ?_; simp only [chain, Obs, List.getElem?_toArray, List.getElem?_cons_zero, List.getElem?_cons_succ]
  go_wp2_with (first
    | (with_reducible refine And.intro (by first | with_reducible exact True.intro | with_reducible rfl | go_simp) ?_)
    | (go_at_call 83; with_reducible refine (HM.out _ hbd.drew).mono ?_; rintro e w1 ⟨rfl, hc1, hf1⟩
       have HC1 := Lib.hid hc1
       have HF1 := Lib.hid hf1
       clear hc1 hf1))
  refine NoPanic.normal ?_
  go_wp2_with fail
  go_ret
  have hf : Fr (fun j => j = t ∨ j = c) w w1 := (Fr.of_below (F := fun j => j = t ∨ j = c) hbd.drew).trans HF1.out (fun _ _ e => .inr e)
  have hct := (Hd.out c (.inr (.inl rfl))).1
  refine ⟨rfl, fun _ => False, H2, p2, b2, HC1.out, ⟨⟨a, n, k, _, (HF1.out.block t Hx.out.tlt (fun e => hct e.symm)).trans Hx0.out, fun e => absurd e (by decide), fun e => e.elim (fun e => absurd e (by decide)) (fun e => absurd e (by decide))⟩, fun e => e, Hx.out.newt, fun j hj => hj.elim⟩, hf.mono fun j _ e => e.imp id .inl, fun j hj => hj.elim, fun j hj => .inr (.inr (HqG.out j hj)), fun j hj => ⟨fun e => ?_, fun e => e⟩⟩
  subst e
  rcases hj with e | e | e | e
  · exact Hx.out.tG (HqG.out _ (.inl e))
  · exact hct e.symm
  · exact Hx.out.tG (HqG.out _ (.inr e))
  · exact (Hd.out _ (.inr (.inr (.inr e)))).1 rfl
end
end Go.Proofs.YtlgkkolgdjgclaaGreat
/- A try's methods: Step, Abort, Stage, Why, New. -/
namespace Go.Proofs.YtlgkkolgdjgclaaGreat
open Go.RowKit
set_option linter.unusedVariables false
set_option linter.unusedSimpArgs false

section
variable {w0 w w' : World} {F : Nat → Prop} {c p b r : Nat} {s : CoreS} {K : Int} {t : Nat} {G : Nat → Prop} {x : TryS} {lv : Int}
theorem TryS.next_is (x : TryS) (s : CoreS) (m : Int) : (x.next s m).1.stage = x.stage ∧ (x.next s m).1.why = x.why ∧ (x.next s m).1.tag = x.tag ∧ (x.next s m).1.base = x.base ∧ (x.next s m).1.fo = x.fo := by
  unfold TryS.next
  repeat' split
  all_goals exact ⟨rfl, rfl, rfl, rfl, rfl⟩
/-- A core's queue, and what a try knows of it. -/
structure TryIn (x : TryS) (s : CoreS) : Prop where
  age : x.age ≤ s.age
  byt : x.stage = 2 → s.age = x.age → x.b = putB s.tag (formR s.q)
  que : 3 ≤ x.stage → x.stage < 5 → s.age = x.age → formR x.S = formR s.q
/-- What the next stage does. -/
theorem StNext (h : CSt w0 w F c p b r s) (hx : TryAt w0 w t G c x x.stage) (hd : ∀ j, cfoot F c p r j → j ≠ t ∧ ¬ G j) (hok : TryOk x) (ht : TagOk s.tag) (hk : OkS K s.q) (hg : goodF (formR s.q) = true) (hlt : x.stage < 5) (hr : 3 ≤ x.stage → s.age = x.age → x.fo (x.stage + 1).toNat = false → formR x.S = formR s.q) :
    Calls Tryz.prog 61 #[.pointer (some ⟨t, 0, none⟩), .int .i64 (x.stage + 1)] w fun e w' => e = .returned (.int .i64 (x.next s (x.stage + 1)).2.2) ∧ NextTo w0 w F c p r t G (x.next s (x.stage + 1)).1 (if (x.next s (x.stage + 1)).2.2 = 0 then x.stage + 1 else 0) (x.next s (x.stage + 1)).2.1 w' := by
  have hst := hok.st
  obtain ⟨m, hm⟩ : ∃ m : Nat, x.stage = m := ⟨x.stage.toNat, by omega⟩
  by_cases hs : 1 < x.stage + 1 ∧ s.age ≠ x.age
  · have e : x.next s (x.stage + 1) = (x, s, 12) := by unfold TryS.next; rw [if_pos hs]
    rw [e]
    simp only
    rw [if_neg (show ¬ (12 : Int) = 0 by decide)]
    exact (StStale h hx (by omega) hs.2).mono fun e w' ⟨a, b⟩ => ⟨a, NextTo.same h (hx.weak (by decide) (by decide) (by decide)) hd b⟩
  · have hage : 1 < x.stage + 1 → s.age = x.age := fun h1 => Classical.byContradiction fun h2 => hs ⟨h1, h2⟩
    by_cases hfo : x.fo (x.stage + 1).toNat = true
    · have e : x.next s (x.stage + 1) = (x, s, 13) := by unfold TryS.next; rw [if_neg hs, if_pos hfo]
      rw [e]
      simp only
      rw [if_neg (show ¬ (13 : Int) = 0 by decide)]
      have hc : ((x.stage + 1).toNat : Int) = x.stage + 1 := by omega
      have := StForce h hx (m := (x.stage + 1).toNat) (by omega) (fun h1 => hage (by omega)) hfo
      rw [hc] at this
      exact this.mono fun e w' ⟨a, b⟩ => ⟨a, NextTo.same h (hx.weak (by decide) (by decide) (by decide)) hd b⟩
    · have hfo' : x.fo (x.stage + 1).toNat = false := by simpa using hfo
      obtain rfl | rfl | rfl | rfl | rfl : m = 0 ∨ m = 1 ∨ m = 2 ∨ m = 3 ∨ m = 4 := by omega
      · have e : x.next s (x.stage + 1) = ({ x with age := s.age }, s, 0) := by unfold TryS.next; rw [if_neg hs, if_neg hfo, hm]; rfl
        rw [e]
        simp only [↓reduceIte]
        rw [show x.stage + 1 = 1 by omega] at hfo' ⊢
        exact StNext1 h hx hd hfo'
      · have e : x.next s (x.stage + 1) = ({ x with b := putB s.tag (formR s.q) }, s, 0) := by unfold TryS.next; rw [if_neg hs, if_neg hfo, hm]; rfl
        rw [e]
        simp only [↓reduceIte]
        have ha := hage (by omega)
        rw [show x.stage + 1 = 2 by omega] at hfo' ⊢
        exact StNext2 h hx hd ht hk hg ha hfo'
      · have ha := hage (by omega)
        have hb : BaseOk x.base := by have := hok.base; unfold BaseOk; omega
        rw [show x.stage = 2 by omega] at hx
        by_cases h0 : (readE x.b).2.2 = 0
        · have e : x.next s (x.stage + 1) = ({ x with S := seedR (readE x.b).2.1 x.base }, s, 0) := by
            unfold TryS.next
            rw [if_neg hs, if_neg hfo, hm, if_neg (by decide), if_neg (by decide), if_pos (by decide), if_pos h0]
          rw [e]
          simp only [↓reduceIte]
          rw [show x.stage + 1 = 3 by omega] at hfo' ⊢
          exact StNext3_ok h hx hd hok.tag hb hok.len hok.byt ha hfo' rfl h0
        · have e : x.next s (x.stage + 1) = (x, s, (readE x.b).2.2) := by
            unfold TryS.next
            rw [if_neg hs, if_neg hfo, hm, if_neg (by decide), if_neg (by decide), if_pos (by decide), if_neg h0]
          rw [e]
          simp only
          rw [if_neg h0]
          rw [show x.stage + 1 = 3 by omega] at hfo' ⊢
          exact StNext3_err h hx hd hok.tag hok.len hok.byt ha hfo' rfl h0
      · have ha := hage (by omega)
        obtain ⟨q1, q2, -⟩ := hok.que (by omega) (by omega)
        have hf := hr (by omega) ha hfo'
        have e : x.next s (x.stage + 1) = (x, s, 0) := by
          unfold TryS.next
          rw [if_neg hs, if_neg hfo, hm, if_neg (by decide), if_neg (by decide), if_neg (by decide), if_pos (by decide), if_pos hf]
        rw [e]
        simp only [↓reduceIte]
        rw [show x.stage = 3 by omega] at hx
        rw [show x.stage + 1 = 4 by omega] at hfo' ⊢
        exact StNext4_ok h hx hd ht hok.tag hk q1 hg hf ha hfo'
      · have ha := hage (by omega)
        obtain ⟨q1, q2, -⟩ := hok.que (by omega) (by omega)
        have hf := hr (by omega) ha hfo'
        have e : x.next s (x.stage + 1) = (x, { s with tag := x.tag, q := x.S }, 0) := by
          unfold TryS.next
          rw [if_neg hs, if_neg hfo, hm, if_neg (by decide), if_neg (by decide), if_neg (by decide), if_neg (by decide), if_pos hf]
        rw [e]
        simp only [↓reduceIte]
        rw [show x.stage = 4 by omega] at hx
        rw [show x.stage + 1 = 5 by omega] at hfo' ⊢
        exact StNext5_ok h hx hd ht hok.tag hk q1 hf ha hfo'
/-- Its stage is written. -/
theorem TryAt.setS (h : TryAt w0 w t G c x lv) (v : Int) : TryAt w0 (w.setCell ⟨t, 3, none⟩ (.int .i64 v)) t G c { x with stage := v } lv := by
  obtain ⟨a, n, k, q, h1, h2, h3⟩ := h.cell
  have hf : Fr (fun j => j = t) w (w.setCell ⟨t, 3, none⟩ (.int .i64 v)) := (Fr.refl (fun j => j = t) w).setCell (p := ⟨t, 3, none⟩) (fun _ => rfl) _
  refine ⟨⟨a, n, k, q, heap_set h1 _, fun e => ?_, fun e => ?_⟩, h.tG, h.newt, fun j hj => ⟨(h.new j hj).1, by have := (h.new j hj).2; simpa using this⟩⟩
  · obtain ⟨g1, g2, g3⟩ := h2 e
    exact ⟨g1, own_fr g2 hf (fun j hj e => by subst e; exact h.tG (g3 _ hj)), g3⟩
  · obtain ⟨p2, H, b2, g1, g2, g3⟩ := h3 e
    exact ⟨p2, H, b2, g1, g2.fr hf (fun j hj e => by subst e; exact h.tG (g3 _ (.inl hj))) (fun e => h.tG (by rw [← e]; exact g3 _ (.inr rfl))) (fun j e => by rw [e]; exact h.newt), g3⟩
theorem TryAt.setW (h : TryAt w0 w t G c x lv) (v : Int) : TryAt w0 (w.setCell ⟨t, 4, none⟩ (.int .i64 v)) t G c { x with why := v } lv := by
  obtain ⟨a, n, k, q, h1, h2, h3⟩ := h.cell
  have hf : Fr (fun j => j = t) w (w.setCell ⟨t, 4, none⟩ (.int .i64 v)) := (Fr.refl (fun j => j = t) w).setCell (p := ⟨t, 4, none⟩) (fun _ => rfl) _
  refine ⟨⟨a, n, k, q, heap_set h1 _, fun e => ?_, fun e => ?_⟩, h.tG, h.newt, fun j hj => ⟨(h.new j hj).1, by have := (h.new j hj).2; simpa using this⟩⟩
  · obtain ⟨g1, g2, g3⟩ := h2 e
    exact ⟨g1, own_fr g2 hf (fun j hj e => by subst e; exact h.tG (g3 _ hj)), g3⟩
  · obtain ⟨p2, H, b2, g1, g2, g3⟩ := h3 e
    exact ⟨p2, H, b2, g1, g2.fr hf (fun j hj e => by subst e; exact h.tG (g3 _ (.inl hj))) (fun e => h.tG (by rw [← e]; exact g3 _ (.inr rfl))) (fun j e => by rw [e]; exact h.newt), g3⟩
/-- One of its own cells is written. -/
theorem NextTo.cell {y z : TryS} {s' : CoreS} {j : Nat} {v : Value} (h : NextTo w0 w F c p r t G y lv s' w') (hx : ∀ G', TryAt w0 w' t G' c y lv → TryAt w0 (w'.setCell ⟨t, j, none⟩ v) t G' c z lv) : NextTo w0 w F c p r t G z lv s' (w'.setCell ⟨t, j, none⟩ v) := by
  obtain ⟨G', F', p', b', a1, a2, a3, a4, a5, a6⟩ := h
  have hf : Fr (fun k => k = t) w' (w'.setCell ⟨t, j, none⟩ v) := (Fr.refl (fun k => k = t) w').setCell (p := ⟨t, j, none⟩) (fun _ => rfl) _
  exact ⟨G', F', p', b', a1.try a2 a6 hf, hx G' a2, a3.trans hf (fun i _ e => .inl e), a4, a5, a6⟩
theorem NextTo.drew {y : TryS} {s' : CoreS} (h : NextTo w0 w F c p r t G y lv s' w') : NextTo w0 w F c p r t G y lv s' w'.drew := by
  obtain ⟨G', F', p', b', a1, a2, a3, a4, a5, a6⟩ := h
  have hb := (Below.refl w'.heap.size w').drew
  exact ⟨G', F', p', b', a1.below hb, a2.below hb, a3.drew, a4, a5, a6⟩
theorem TryAt.cells (h : TryAt w0 w t G c x lv) : (w.cell? ⟨t, 0, none⟩ = some (.pointer (some ⟨c, 0, none⟩)) ∧ w.cell? ⟨t, 3, none⟩ = some (.int .i64 x.stage) ∧ w.cell? ⟨t, 4, none⟩ = some (.int .i64 x.why)) ∧ (w.frozen? ⟨t, 3, none⟩ = false ∧ w.frozen? ⟨t, 4, none⟩ = false) ∧ t < w.heap.size := by
  obtain ⟨a, n, k, q, hx0, -⟩ := h.cell
  simp only [tryCells] at hx0
  obtain ⟨⟨c0, c1, c2, c3, c4, c5, c6, c7⟩, ⟨c8, c9, c10, c11, c12, c13⟩, ⟨f3, f4, f5, f6, f7⟩, tl⟩ := blk14 hx0
  exact ⟨⟨c0, c3, c4⟩, ⟨f3, f4⟩, tl⟩
set_option maxHeartbeats 800000 in
theorem StOver (hx : TryAt w0 w t G c x lv) : Calls Tryz.prog 60 #[.pointer (some ⟨t, 0, none⟩)] w fun e w' => e = .returned (.bool (decide (5 ≤ x.stage))) ∧ w = w' := by
  obtain ⟨⟨c0, c3, c4⟩, ⟨f3, f4⟩, tl⟩ := hx.cells
  clear hx
  go_enter Tryz.func60, Tryz.ntmps60
  go_wp2_with fail
  go_ret
  exact ⟨rfl, rfl⟩
set_option maxHeartbeats 800000 in
theorem StStage (hx : TryAt w0 w t G c x lv) : Calls Tryz.prog 29 #[.pointer (some ⟨t, 0, none⟩)] w fun e w' => e = .returned (.int .i64 x.stage) ∧ w = w' := by
  obtain ⟨⟨c0, c3, c4⟩, ⟨f3, f4⟩, tl⟩ := hx.cells
  clear hx
  go_enter Tryz.func29, Tryz.ntmps29
  go_wp2_with fail
  go_ret
  exact ⟨rfl, rfl⟩
set_option maxHeartbeats 800000 in
theorem StWhy (hx : TryAt w0 w t G c x lv) : Calls Tryz.prog 37 #[.pointer (some ⟨t, 0, none⟩)] w fun e w' => e = .returned (.int .i64 x.why) ∧ w = w' := by
  obtain ⟨⟨c0, c3, c4⟩, ⟨f3, f4⟩, tl⟩ := hx.cells
  clear hx
  go_enter Tryz.func37, Tryz.ntmps37
  go_wp2_with fail
  go_ret
  exact ⟨rfl, rfl⟩
set_option maxHeartbeats 800000 in
theorem StFail {y : TryS} {s' : CoreS} {w1 : World} (hN : NextTo w0 w F c p r t G y lv s' w1) (er : Int) : Calls Tryz.prog 62 #[.pointer (some ⟨t, 0, none⟩), .int .i64 er] w1 fun e w' => (∃ v, e = .returned v) ∧ NextTo w0 w F c p r t G { y with stage := 6, why := er } lv s' w' := by
  have HN := Lib.hid hN
  obtain ⟨G', F', p', b', a1, a2, a3, a4, a5, a6⟩ := hN
  obtain ⟨⟨c0, c3, c4⟩, ⟨f3, f4⟩, tl⟩ := a2.cells
  clear a1 a2 a3 a4 a5 a6
  go_enter Tryz.func62, Tryz.ntmps62
  go_wp2_with fail
  go_end0
  exact ⟨⟨_, rfl⟩, (HN.out.cell (z := { y with stage := 6 }) (fun G' h => h.setS 6)).cell (z := { y with stage := 6, why := er }) (fun G' h => h.setW er)⟩
set_option maxHeartbeats 1600000 in
set_option maxRecDepth 100000 in
theorem StStep_of (h : CSt w0 w F c p b r s) (hx : TryAt w0 w t G c x x.stage) (hd : ∀ j, cfoot F c p r j → j ≠ t ∧ ¬ G j) (hok : TryOk x) (hN : x.stage < 5 → Calls Tryz.prog 61 #[.pointer (some ⟨t, 0, none⟩), .int .i64 (x.stage + 1)] w fun e w' => e = .returned (.int .i64 (x.next s (x.stage + 1)).2.2) ∧ NextTo w0 w F c p r t G (x.next s (x.stage + 1)).1 (if (x.next s (x.stage + 1)).2.2 = 0 then x.stage + 1 else 0) (x.next s (x.stage + 1)).2.1 w') :
    Calls Tryz.prog 36 #[.pointer (some ⟨t, 0, none⟩)] w fun e w' => e = .returned (.tuple #[.int .i64 (x.step s).1.stage, .int .i64 (x.step s).1.why]) ∧ NextTo w0 w F c p r t G (x.step s).1 (x.step s).1.stage (x.step s).2 w' := by
  have HO := Lib.hid (fun (W : World) (hW : Below w.heap.size w W) => StOver (hx.below hW))
  obtain ⟨⟨c0, c3, c4⟩, ⟨f3, f4⟩, tl⟩ := hx.cells
  have hst := hok.st
  by_cases h5 : 5 ≤ x.stage
  · have e : x.step s = (x, s) := by unfold TryS.step; rw [if_pos h5]
    rw [e]
    have HS := Lib.hid (NextTo.same h hx hd (Below.refl _ _).drew)
    rw [decide_eq_true h5] at HO
    clear h hx hd hok hN e
    go_enter Tryz.func36, Tryz.ntmps36
    go_wp2_with (go_at_call 60; refine (HO.out _ (Below.refl _ _)).mono ?_; rintro e w1 ⟨rfl, rfl⟩)
    refine wp_region_chain 35 [0, 1, 3, 7, 0, 16, 48, 112, 15, 511] [(0, none), (1, none), (2, none), (3, none), (4, none), (5, none), (6, none), (7, none), (8, none), (9, none)] (by kernel_rfl) (by kernel_rfl) (by rfl) ?_; simp only [chain, Obs, List.getElem?_toArray, List.getElem?_cons_zero, List.getElem?_cons_succ]
    go_wp2_with (with_reducible refine And.intro (by first | with_reducible exact True.intro | with_reducible rfl | go_simp) ?_)
    refine NoPanic.normal ?_
    go_wp2_with fail
    go_ret2
    exact ⟨rfl, HS.out⟩
  · have HN := Lib.hid (hN (by omega))
    obtain ⟨n1, n2, -, -, -⟩ := x.next_is s (x.stage + 1)
    rw [decide_eq_false h5] at HO
    have hwr : wrap64 (x.stage + 1) = x.stage + 1 := IntWalk.wrap64_in _ (by have := hok.st; omega)
    by_cases he : (x.next s (x.stage + 1)).2.2 = 0
    · have e : x.step s = ({ (x.next s (x.stage + 1)).1 with stage := x.stage + 1 }, (x.next s (x.stage + 1)).2.1) := by unfold TryS.step; rw [if_neg h5, if_pos he]
      rw [e]
      rw [he] at HN
      simp only [↓reduceIte] at HN ⊢
      generalize (x.next s (x.stage + 1)).1 = y at *
      generalize (x.next s (x.stage + 1)).2.1 = s' at *
      have hn1 := n1
      clear n1 n2
      clear h hx hd hok hN e he
      go_enter Tryz.func36, Tryz.ntmps36
      go_wp2_with (first
        | (go_at_call 60; refine (HO.out _ (Below.refl _ _)).mono ?_; rintro e w1 ⟨rfl, rfl⟩)
        | (go_at_call 61; refine HN.out.mono ?_; rintro e w1 ⟨rfl, hn⟩
           have HT := Lib.hid hn
           obtain ⟨G', F', p', b', a1, a2, a3, a4, a5, a6⟩ := hn
           obtain ⟨⟨d0, d3, d4⟩, ⟨g3, g4⟩, tl⟩ := a2.cells
           rw [hn1] at d3
           clear a1 a2 a3 a4 a5 a6))
      refine wp_region_chain 35 [0, 1, 3, 7, 0, 16, 48, 112, 15, 511] [(0, none), (1, none), (2, none), (3, none), (4, none), (5, none), (6, none), (7, none), (8, none), (9, none)] (by kernel_rfl) (by kernel_rfl) (by rfl) ?_; simp only [chain, Obs, List.getElem?_toArray, List.getElem?_cons_zero, List.getElem?_cons_succ]
      go_wp2_with (with_reducible refine And.intro (by first | with_reducible exact True.intro | with_reducible rfl | go_simp) ?_)
      refine NoPanic.normal ?_
      go_wp2_with fail
      go_ret2
      exact ⟨rfl, (HT.out.cell (z := { y with stage := x.stage + 1 }) (fun G' h => h.setS _)).drew⟩
    · have e : x.step s = ({ (x.next s (x.stage + 1)).1 with stage := 6, why := (x.next s (x.stage + 1)).2.2 }, (x.next s (x.stage + 1)).2.1) := by unfold TryS.step; rw [if_neg h5, if_neg he]
      rw [e]
      rw [if_neg he] at HN
      generalize (x.next s (x.stage + 1)).1 = y at *
      generalize (x.next s (x.stage + 1)).2.1 = s' at *
      generalize (x.next s (x.stage + 1)).2.2 = er at *
      have her : ¬ er = 0 := he
      clear h hx hd hok hN e
      go_enter Tryz.func36, Tryz.ntmps36
      go_wp2_with (first
        | (go_at_call 60; refine (HO.out _ (Below.refl _ _)).mono ?_; rintro e w1 ⟨rfl, rfl⟩)
        | (go_at_call 61; refine HN.out.mono ?_; rintro e w1 ⟨rfl, hn⟩
           have HFl := Lib.hid (StFail hn er))
        | (go_at_call 62; refine HFl.out.mono ?_; rintro e w2 ⟨⟨v, rfl⟩, hn⟩
           have HT := Lib.hid hn
           obtain ⟨G', F', p', b', a1, a2, a3, a4, a5, a6⟩ := hn
           obtain ⟨⟨d0, d3, d4⟩, ⟨g3, g4⟩, tl⟩ := a2.cells
           clear a1 a2 a3 a4 a5 a6))
      refine wp_region_chain 35 [0, 1, 3, 7, 0, 16, 48, 112, 15, 511] [(0, none), (1, none), (2, none), (3, none), (4, none), (5, none), (6, none), (7, none), (8, none), (9, none)] (by kernel_rfl) (by kernel_rfl) (by rfl) ?_; simp only [chain, Obs, List.getElem?_toArray, List.getElem?_cons_zero, List.getElem?_cons_succ]
      go_wp2_with (with_reducible refine And.intro (by first | with_reducible exact True.intro | with_reducible rfl | go_simp) ?_)
      refine NoPanic.normal ?_
      go_wp2_with fail
      go_ret2
      exact ⟨rfl, (HT.out.weak (by decide) (by decide) (by decide)).drew⟩
theorem StStep (h : CSt w0 w F c p b r s) (hx : TryAt w0 w t G c x x.stage) (hd : ∀ j, cfoot F c p r j → j ≠ t ∧ ¬ G j) (hok : TryOk x) (ht : TagOk s.tag) (hk : OkS K s.q) (hg : goodF (formR s.q) = true) (hr : 3 ≤ x.stage → x.stage < 5 → s.age = x.age → formR x.S = formR s.q) :
    Calls Tryz.prog 36 #[.pointer (some ⟨t, 0, none⟩)] w fun e w' => e = .returned (.tuple #[.int .i64 (x.step s).1.stage, .int .i64 (x.step s).1.why]) ∧ NextTo w0 w F c p r t G (x.step s).1 (x.step s).1.stage (x.step s).2 w' :=
  StStep_of h hx hd hok (fun hl => StNext h hx hd hok ht hk hg hl (fun h3 ha _ => hr h3 hl ha))
set_option maxHeartbeats 800000 in
theorem StAbort (h : CSt w0 w F c p b r s) (hx : TryAt w0 w t G c x x.stage) (hd : ∀ j, cfoot F c p r j → j ≠ t ∧ ¬ G j) :
    Calls Tryz.prog 44 #[.pointer (some ⟨t, 0, none⟩)] w fun e w' => e = .returned (.bool x.abort.2) ∧ NextTo w0 w F c p r t G x.abort.1 x.abort.1.stage s w' := by
  have HO := Lib.hid (fun (W : World) (hW : Below w.heap.size w W) => StOver (hx.below hW))
  have HS := Lib.hid (NextTo.same h hx hd (Below.refl _ _))
  by_cases h5 : 5 ≤ x.stage
  · have e : x.abort = (x, false) := by unfold TryS.abort; rw [if_pos h5]
    rw [e]
    rw [decide_eq_true h5] at HO
    clear h hx hd e
    go_enter Tryz.func44, Tryz.ntmps44
    go_wp2_with (go_at_call 60; refine (HO.out _ (Below.refl _ _)).mono ?_; rintro e w1 ⟨rfl, rfl⟩)
    go_ret
    exact ⟨rfl, HS.out⟩
  · have e : x.abort = ({ x with stage := 6, why := 13 }, true) := by unfold TryS.abort; rw [if_neg h5]
    rw [e]
    rw [decide_eq_false h5] at HO
    have HF := Lib.hid (StFail HS.out 13)
    clear h hx hd e
    go_enter Tryz.func44, Tryz.ntmps44
    go_wp2_with (first
      | (go_at_call 60; refine (HO.out _ (Below.refl _ _)).mono ?_; rintro e w1 ⟨rfl, rfl⟩)
      | (go_at_call 62; refine HF.out.mono ?_; rintro e w2 ⟨⟨v, rfl⟩, hn⟩; have HT := Lib.hid hn; clear hn))
    go_ret
    exact ⟨rfl, HT.out.weak (by decide) (by decide) (by decide)⟩
set_option maxHeartbeats 1600000 in
set_option maxRecDepth 100000 in
theorem StNew_ok (w : World) (hw : w0.heap.size ≤ w.heap.size) (c : Nat) (tag base : Int) (ht : TagOk tag) (hb : BaseOk base) :
    Calls Tryz.prog 40 #[.pointer (some ⟨c, 0, none⟩), .int .i64 tag, .int .i64 base] w fun e w' => ∃ t, e = .returned (.tuple #[.pointer (some ⟨t, 0, none⟩), .int .i64 0]) ∧ TryAt w0 w' t (fun _ => False) c (TryS.new tag base) 0 ∧ w.heap.size ≤ t ∧ Below w.heap.size w w' := by
  have HP := Lib.hid (PolNew_ok tag base w ht hb)
  have Hw := Lib.hid hw
  clear ht hb hw
  go_enter Tryz.func40, Tryz.ntmps40
  go_wp2_with (first
    | (go_at_call 63; refine HP.out.mono ?_; rintro e w1 ⟨p2, H2, rfl, -, -, hb1⟩; have Hb1 := Lib.hid hb1; clear hb1))
  go_ret2
  have hsz := Hb1.out.size
  have hw := Hw.out
  refine ⟨w1.heap.size, rfl, ⟨⟨none, 0, 0, .pointer none, heap_new w1 _, fun e => absurd e (by decide), fun e => e.elim (fun e => absurd e (by decide)) (fun e => absurd e (by decide))⟩, fun e => e, by omega, fun j hj => hj.elim⟩, hsz, Hb1.out.alloc hsz _⟩
set_option maxHeartbeats 1600000 in
theorem StNew_err (w : World) (c : Nat) (tag base : Int) (h : ¬ (TagOk tag ∧ BaseOk base)) :
    Calls Tryz.prog 40 #[.pointer (some ⟨c, 0, none⟩), .int .i64 tag, .int .i64 base] w fun e w' => e = .returned (.tuple #[.pointer none, .int .i64 1]) ∧ Below w.heap.size w w' := by
  have HP := Lib.hid (PolNew_err tag base w h)
  clear h
  go_enter Tryz.func40, Tryz.ntmps40
  go_wp2_with (first
    | (go_at_call 63; refine HP.out.mono ?_; rintro e w1 ⟨rfl, hb1⟩; have Hb1 := Lib.hid hb1; clear hb1))
  go_ret2
  exact ⟨rfl, Hb1.out⟩
end
end Go.Proofs.YtlgkkolgdjgclaaGreat
