/- Layer 11: a call of the queue and of the document's own: they tell the same. -/
import Derived.Test.YtmhdebkiepfgiaastrideM
import Derived.Test.YtmhdebkiepfgiaaOwnstride
import Derived.Test.YtmhdebkiepfgiaaRefQ
import Derived.Test.YtmhdebkiepfgiaaArg
namespace Go.Proofs.Ytmhdebkiepfgiaa
open Go.RowKit
set_option linter.unusedVariables false
set_option linter.unusedSimpArgs false

/-- What both keep. -/
structure PlayI (i : Nat) (S : Ln) : Prop where
  ok : OkS ((i : Int) * 1125899906842624) S
  days : ∀ x ∈ S.l, DayOk x
theorem PlayI.day {i : Nat} {S : Ln} (h : PlayI i S) : ∀ x ∈ S.l, -4611686018427387904 ≤ x.day ∧ x.day ≤ 4611686018427387904 := fun x hx => by
  have h1 := h.ok.pts x hx
  have h2 := (h.days x hx).le
  have h3 := step_le x.w
  have h4 := h.ok.k1
  omega
theorem days_put {S : Ln} (h : ∀ x ∈ S.l, DayOk x) (id w lag : Int) : ∀ x ∈ (putR S id w lag).l, DayOk x := by
  unfold putR; split
  · intro x hx
    rcases insP_mem.1 hx with rfl | hx
    · exact DayOk.newP _ _ _ _
    · exact h x hx
  · exact h
theorem days_enter {S : Ln} (held : Int → Int) (h : ∀ x ∈ S.l, DayOk x) (id w lag : Int) : ∀ x ∈ (enterR held S id w lag).l, DayOk x := by
  unfold enterR; split
  · exact days_put h _ _ _
  · exact h
theorem days_leave {S : Ln} (h : ∀ x ∈ S.l, DayOk x) (id : Int) : ∀ x ∈ (leaveR S id).1.l, DayOk x := by
  unfold leaveR
  cases at? S id with
  | none => exact h
  | some p => exact fun x hx => h x ((List.eraseIdx_sublist _ _).subset hx)
theorem days_weigh {S : Ln} (h : ∀ x ∈ S.l, DayOk x) (id w : Int) : ∀ x ∈ (weighR S id w).1.l, DayOk x := by
  unfold weighR
  rcases at_cases S id with ⟨e, _⟩ | ⟨j, x, e, _, _, hx, _⟩
  · rw [e]; exact h
  · rw [e]
    simp only
    split
    · intro y hy
      rcases mem_set hx hy with rfl | hy
      · exact DayOk.dayOf _
      · exact h y hy
    · exact h
theorem days_charge {S : Ln} (h : ∀ x ∈ S.l, DayOk x) : ∀ x ∈ (chargeR S).1.l, DayOk x := by
  unfold chargeR
  rcases at_cases S S.cur with ⟨e, _⟩ | ⟨j, x, e, _, _, hx, _⟩
  · rw [e]; exact h
  · rw [e]
    simp only
    split
    · exact h
    · intro y hy
      rcases mem_set hx hy with rfl | hy
      · exact (h x (List.mem_of_getElem? hx)).charge
      · exact h y hy
theorem held_rheld_stride (lag : Int) : heldstride lag = rheld 0 lag := by unfold heldstride rheld; simp
theorem held_may_r_stride {l : List Pt} {id tw lag : Int} (h : mayE l id tw lag = 0) (hl : l.length ≤ 64) : mayE l id tw (heldstride lag) = 0 := held_may_stride h hl

/-- Both behind the call. -/
def TwoAt_stride (w0 : World) (b r : Nat) (i : Nat) (w' : World) : Prop := ∃ F G S, QSt w0 w' F b S ∧ RSt w0 w' G r 0 S ∧ (∀ k, F k → ¬ G k) ∧ PlayI i S

set_option maxHeartbeats 6400000 in
set_option maxRecDepth 100000 in
theorem step0_stride {w0 w : World} {F G : Nat → Prop} {b r i : Nat} {S : Ln} (x : Ac) (hp : QSt w0 w F b S) (hq : RSt w0 w G r 0 S) (hd : ∀ k, F k → ¬ G k) (hI : PlayI i S) (hi : i < 200) (o1 : x.op = 0) :
    Calls Try.prog 40 #[.pointer (some ⟨b, 0, none⟩), .pointer (some ⟨r, 0, none⟩), .agg #[.int .i64 x.op, .int .i64 x.id, .int .i64 x.w, .int .i64 x.lag]] w fun e w' => e = .returned (.bool true) ∧ TwoAt_stride w0 b r (i + 1) w' := by
  have HI := Lib.hid hI
  have Hlt := Lib.hid hp.lt
  have Hp0 := Lib.hid (hp.below ((Below.refl _ _).alloc (Nat.le_refl _) (.cells #[.int .i64 x.op, .int .i64 x.id, .int .i64 x.w, .int .i64 x.lag] 76)))
  have Hq0 := Lib.hid (hq.below ((Below.refl _ _).alloc (Nat.le_refl _) (.cells #[.int .i64 x.op, .int .i64 x.id, .int .i64 x.w, .int .i64 x.lag] 76)))
  have HX0 := Lib.hid (heap_new w (.cells #[.int .i64 x.op, .int .i64 x.id, .int .i64 x.w, .int .i64 x.lag] 76))
  have Hd := Lib.hid hd
  have hK : (i : Int) * 1125899906842624 ≤ 1151795604700004352 := by omega
  have hK2 : ((i + 1 : Nat) : Int) * 1125899906842624 ≤ 1152921504606846976 := by omega
  clear hp hq hd hI
  have b0 : (x.op == 0) = true := by simpa using o1
  have Hp := Lib.hid (Hp0.out.below (Below.refl _ _).drew)
  have Hq := Lib.hid (Hq0.out.below (Below.refl _ _).drew)
  have HX := Lib.hid (heap_drew HX0.out)
  obtain ⟨v, hv⟩ : ∃ v, mayE S.l x.id x.w x.lag = v := ⟨_, rfl⟩
  have hI2 : PlayI (i + 1) (enterR heldstride S x.id x.w x.lag) := ⟨(HI.out.ok.enter heldstride x.id x.w x.lag (by omega)).mono (by omega) hK2, days_enter _ HI.out.days _ _ _⟩
  have HE1 := Lib.hid (callsNext Hp.out (Enter_stride Hp.out.q HI.out.ok hK x.id x.w x.lag hv))
  have HE2 := Lib.hid (fun W G (hW : RSt w0 W G r 0 S) => rEnterS heldstride hW HI.out.ok hK (by omega) held_rheld_stride held_may_r_stride x.id x.w x.lag hv)
  generalize enterR heldstride S x.id x.w x.lag = S2 at hI2 HE1 HE2
  have HI2 := Lib.hid hI2
  clear hv hI2 o1
  go_enter Try.func40, Try.ntmps40
  go_wp2_with fail
  refine wp_region_chain 164 [(0, none), (1, none), (2, none), (3, none), (4, none), (5, none), (6, none), (8, none), (9, none), (10, none), (11, none), (12, none), (13, none), (14, none), (7, some [8, 9, 10, 11, 12, 13, 14]), (15, some []), (16, none)] (by kernel_rfl) (by kernel_rfl) (by rfl) ?_; simp only [chain, Obs, List.getElem?_toArray, List.getElem?_cons_zero, List.getElem?_cons_succ]
  go_wp2_with (first
    | (with_reducible refine And.intro (by first | with_reducible exact True.intro | with_reducible rfl | go_simp) ?_)
    | (go_at_call 35; (with_reducible refine HE1.out.mono ?_)
       rintro e w4 ⟨rfl, F4, hp4, hf4, hs4⟩
       have hxx := heap_fr HX.out hf4 (fun h => by have := Hlt.out _ h; omega)
       obtain ⟨x0, x1, x2, x3, z0, z1, z2, z3, xl⟩ := blk4 hxx
       have Hxx := Lib.hid hxx
       have Hp4 := Lib.hid hp4
       have Hq4 := Lib.hid (Hq.out.fr hf4 (fun k h1 h2 => Hd.out k h2 h1) Hp.out.new)
       have Hd4 := Lib.hid (fun k (h1 : F4 k) (h2 : G k) => (hs4 k h1).elim (fun h => Hd.out k h h2) (fun h => by have := Hq.out.lt k h2; omega) : ∀ k, F4 k → ¬ G k)
       clear hp4 hf4 hs4 hxx)
    | (go_at_call 76; (with_reducible refine (HE2.out _ _ Hq4.out).mono ?_)
       rintro e w5 ⟨rfl, G5, hq5, hf5, hs5⟩
       have Hq5 := Lib.hid hq5
       have Hp5 := Lib.hid (Hp4.out.fr hf5 Hd4.out Hq4.out.new)
       have Hd5 := Lib.hid (fun k (h1 : F4 k) (h2 : G5 k) => (hs5 k h2).elim (fun h => Hd4.out k h1 h) (fun h => by have := Hp4.out.lt k h1; omega) : ∀ k, F4 k → ¬ G5 k)
       clear hq5 hf5 hs5))
  refine NoPanic.normal ?_
  obtain ⟨ra, rc, hrb⟩ := Hq5.out.cells
  obtain ⟨c0, c1, c2, c3, f0, f1, f2, f3, rl⟩ := blk4 hrb
  have HRB := Lib.hid hrb
  have Hq6 := Lib.hid (Hq5.out.below (Below.refl _ _).drew)
  have Hp6 := Lib.hid (Hp5.out.below (Below.refl _ _).drew)
  have HF1 := Lib.hid (Form_stride Hp6.out.q HI2.out.ok)
  have hlen := HI2.out.ok.len
  clear hrb
  go_wp2_with fail
  refine wp_region_chain 164 [(0, none), (3, none), (1, some [3]), (2, some [3]), (4, some []), (5, some []), (6, none), (7, none), (9, none), (10, none), (11, none), (12, none), (8, some [9, 10, 11, 12]), (13, none), (14, none), (15, none)] (by kernel_rfl) (by kernel_rfl) (by rfl) ?_; simp only [chain, Obs, List.getElem?_toArray, List.getElem?_cons_zero, List.getElem?_cons_succ]
  go_wp2_with (first
    | (with_reducible refine And.intro (by first | with_reducible exact True.intro | with_reducible rfl | go_simp) ?_)
    | (go_at_call 38; refine HF1.out.mono ?_; rintro e w6 ⟨a6, k6, rfl, ho, hb6⟩; have Hs6 := Lib.hid (Sl.of_own It.len ho); rw [List.length_map]; have Hq7 := Lib.hid (Hq6.out.below hb6); have Hp7 := Lib.hid (Hp6.out.below hb6); have h7 := heap_below (heap_drew HRB.out) hb6; obtain ⟨c0, c1, c2, c3, f0, f1, f2, f3, rl⟩ := blk4 h7; have HRB7 := Lib.hid h7; clear ho hb6 h7)
    | (go_at_call 47; refine (own_stride S2.cur (S2.l.map (itOf S2.base)) S2.l.length a6 k6 _ (List.length_map _) (by omega) Hs6.out).mono ?_; rintro e w7 ⟨a7, k7, rfl, ho, hb7⟩; have Hs7 := Lib.hid (Sl.of_own It.len ho); rw [List.length_map]; have Hq8 := Lib.hid (Hq7.out.below hb7); have Hp8 := Lib.hid (Hp7.out.below hb7); have h8 := heap_below HRB7.out hb7; obtain ⟨c0, c1, c2, c3, f0, f1, f2, f3, rl⟩ := blk4 h8; have HRB8 := Lib.hid h8; clear ho hb7 h8)
    | (go_at_call 83; refine (rFormS Hq8.out HI2.out.ok).mono ?_; rintro e w8 ⟨a8, k8, rfl, ho, hb8⟩; have Hs8 := Lib.hid (Sl.of_own It.len ho); have Hs78 := Lib.hid (Hs7.out.below hb8); rw [List.length_map]; have Hq9 := Lib.hid (Hq8.out.below hb8); have Hp9 := Lib.hid (Hp8.out.below hb8); have h9 := heap_below HRB8.out hb8; obtain ⟨c0, c1, c2, c3, f0, f1, f2, f3, rl⟩ := blk4 h9; have HRB9 := Lib.hid h9; clear ho hb8 h9)
    | (go_at_call 82; refine (rSame_any S2.cur S2.cur (S2.l.map (itOf S2.base)) (S2.l.map (itOf S2.base)) S2.l.length S2.l.length a7 a8 k7 k8 _ (List.length_map _) (List.length_map _) (by omega) (by omega) Hs78.out Hs8.out rfl).mono ?_; rintro e w9 ⟨rfl, hb9⟩; have Hq10 := Lib.hid (Hq9.out.below hb9); have Hp10 := Lib.hid (Hp9.out.below hb9); have h10 := heap_below HRB9.out hb9; obtain ⟨c0, c1, c2, c3, f0, f1, f2, f3, rl⟩ := blk4 h10; have HRB10 := Lib.hid h10; clear hb9 h10)
    | (go_at_call 42; refine (Base_stride Hp10.out.q).mono ?_; rintro e w11 ⟨rfl, rfl⟩))
  refine NoPanic.normal ?_
  go_wp2_with fail
  go_ret
  exact ⟨rfl, F4, G5, S2, Hp10.out, Hq10.out, Hd5.out, HI2.out⟩
set_option maxHeartbeats 6400000 in
set_option maxRecDepth 100000 in
theorem step1_stride {w0 w : World} {F G : Nat → Prop} {b r i : Nat} {S : Ln} (x : Ac) (hp : QSt w0 w F b S) (hq : RSt w0 w G r 0 S) (hd : ∀ k, F k → ¬ G k) (hI : PlayI i S) (hi : i < 200) (o1 : x.op = 1) :
    Calls Try.prog 40 #[.pointer (some ⟨b, 0, none⟩), .pointer (some ⟨r, 0, none⟩), .agg #[.int .i64 x.op, .int .i64 x.id, .int .i64 x.w, .int .i64 x.lag]] w fun e w' => e = .returned (.bool true) ∧ TwoAt_stride w0 b r (i + 1) w' := by
  have HI := Lib.hid hI
  have Hlt := Lib.hid hp.lt
  have Hp0 := Lib.hid (hp.below ((Below.refl _ _).alloc (Nat.le_refl _) (.cells #[.int .i64 x.op, .int .i64 x.id, .int .i64 x.w, .int .i64 x.lag] 76)))
  have Hq0 := Lib.hid (hq.below ((Below.refl _ _).alloc (Nat.le_refl _) (.cells #[.int .i64 x.op, .int .i64 x.id, .int .i64 x.w, .int .i64 x.lag] 76)))
  have HX0 := Lib.hid (heap_new w (.cells #[.int .i64 x.op, .int .i64 x.id, .int .i64 x.w, .int .i64 x.lag] 76))
  have Hd := Lib.hid hd
  have hK : (i : Int) * 1125899906842624 ≤ 1151795604700004352 := by omega
  have hK2 : ((i + 1 : Nat) : Int) * 1125899906842624 ≤ 1152921504606846976 := by omega
  clear hp hq hd hI
  have b0 : (x.op == 0) = false := by simp; omega
  have b1 : (x.op == 1) = true := by simpa using o1
  have Hp := Lib.hid (Hp0.out.below (Below.refl _ _).drew)
  have Hq := Lib.hid (Hq0.out.below (Below.refl _ _).drew)
  have HX := Lib.hid (heap_drew HX0.out)
  obtain ⟨v, hv⟩ : ∃ v, mayE S.l x.id x.w x.lag = v := ⟨_, rfl⟩
  have hI2 : PlayI (i + 1) (putR S x.id x.w x.lag) := ⟨(HI.out.ok.put x.id x.w x.lag (by omega)).mono (by omega) hK2, days_put HI.out.days _ _ _⟩
  have HE1 := Lib.hid (callsNext Hp.out (Put_stride Hp.out.q HI.out.ok hK x.id x.w x.lag hv))
  have HE2 := Lib.hid (fun W G (hW : RSt w0 W G r 0 S) => rPutS hW HI.out.ok hK (by omega) x.id x.w x.lag hv)
  generalize putR S x.id x.w x.lag = S2 at hI2 HE1 HE2
  have HI2 := Lib.hid hI2
  clear hv hI2 o1
  go_enter Try.func40, Try.ntmps40
  go_wp2_with fail
  refine wp_region_chain 164 [(0, none), (1, none), (2, none), (3, none), (4, none), (5, none), (6, none), (8, none), (9, none), (10, none), (11, none), (12, none), (13, none), (14, none), (7, some [8, 9, 10, 11, 12, 13, 14]), (15, some []), (16, none)] (by kernel_rfl) (by kernel_rfl) (by rfl) ?_; simp only [chain, Obs, List.getElem?_toArray, List.getElem?_cons_zero, List.getElem?_cons_succ]
  go_wp2_with (first
    | (with_reducible refine And.intro (by first | with_reducible exact True.intro | with_reducible rfl | go_simp) ?_)
    | (go_at_call 45; (with_reducible refine HE1.out.mono ?_)
       rintro e w4 ⟨rfl, F4, hp4, hf4, hs4⟩
       have hxx := heap_fr HX.out hf4 (fun h => by have := Hlt.out _ h; omega)
       obtain ⟨x0, x1, x2, x3, z0, z1, z2, z3, xl⟩ := blk4 hxx
       have Hxx := Lib.hid hxx
       have Hp4 := Lib.hid hp4
       have Hq4 := Lib.hid (Hq.out.fr hf4 (fun k h1 h2 => Hd.out k h2 h1) Hp.out.new)
       have Hd4 := Lib.hid (fun k (h1 : F4 k) (h2 : G k) => (hs4 k h1).elim (fun h => Hd.out k h h2) (fun h => by have := Hq.out.lt k h2; omega) : ∀ k, F4 k → ¬ G k)
       clear hp4 hf4 hs4 hxx)
    | (go_at_call 76; (with_reducible refine (HE2.out _ _ Hq4.out).mono ?_)
       rintro e w5 ⟨rfl, G5, hq5, hf5, hs5⟩
       have Hq5 := Lib.hid hq5
       have Hp5 := Lib.hid (Hp4.out.fr hf5 Hd4.out Hq4.out.new)
       have Hd5 := Lib.hid (fun k (h1 : F4 k) (h2 : G5 k) => (hs5 k h2).elim (fun h => Hd4.out k h1 h) (fun h => by have := Hp4.out.lt k h1; omega) : ∀ k, F4 k → ¬ G5 k)
       clear hq5 hf5 hs5))
  refine NoPanic.normal ?_
  obtain ⟨ra, rc, hrb⟩ := Hq5.out.cells
  obtain ⟨c0, c1, c2, c3, f0, f1, f2, f3, rl⟩ := blk4 hrb
  have HRB := Lib.hid hrb
  have Hq6 := Lib.hid (Hq5.out.below (Below.refl _ _).drew)
  have Hp6 := Lib.hid (Hp5.out.below (Below.refl _ _).drew)
  have HF1 := Lib.hid (Form_stride Hp6.out.q HI2.out.ok)
  have hlen := HI2.out.ok.len
  clear hrb
  go_wp2_with fail
  refine wp_region_chain 164 [(0, none), (3, none), (1, some [3]), (2, some [3]), (4, some []), (5, some []), (6, none), (7, none), (9, none), (10, none), (11, none), (12, none), (8, some [9, 10, 11, 12]), (13, none), (14, none), (15, none)] (by kernel_rfl) (by kernel_rfl) (by rfl) ?_; simp only [chain, Obs, List.getElem?_toArray, List.getElem?_cons_zero, List.getElem?_cons_succ]
  go_wp2_with (first
    | (with_reducible refine And.intro (by first | with_reducible exact True.intro | with_reducible rfl | go_simp) ?_)
    | (go_at_call 38; refine HF1.out.mono ?_; rintro e w6 ⟨a6, k6, rfl, ho, hb6⟩; have Hs6 := Lib.hid (Sl.of_own It.len ho); rw [List.length_map]; have Hq7 := Lib.hid (Hq6.out.below hb6); have Hp7 := Lib.hid (Hp6.out.below hb6); have h7 := heap_below (heap_drew HRB.out) hb6; obtain ⟨c0, c1, c2, c3, f0, f1, f2, f3, rl⟩ := blk4 h7; have HRB7 := Lib.hid h7; clear ho hb6 h7)
    | (go_at_call 47; refine (own_stride S2.cur (S2.l.map (itOf S2.base)) S2.l.length a6 k6 _ (List.length_map _) (by omega) Hs6.out).mono ?_; rintro e w7 ⟨a7, k7, rfl, ho, hb7⟩; have Hs7 := Lib.hid (Sl.of_own It.len ho); rw [List.length_map]; have Hq8 := Lib.hid (Hq7.out.below hb7); have Hp8 := Lib.hid (Hp7.out.below hb7); have h8 := heap_below HRB7.out hb7; obtain ⟨c0, c1, c2, c3, f0, f1, f2, f3, rl⟩ := blk4 h8; have HRB8 := Lib.hid h8; clear ho hb7 h8)
    | (go_at_call 83; refine (rFormS Hq8.out HI2.out.ok).mono ?_; rintro e w8 ⟨a8, k8, rfl, ho, hb8⟩; have Hs8 := Lib.hid (Sl.of_own It.len ho); have Hs78 := Lib.hid (Hs7.out.below hb8); rw [List.length_map]; have Hq9 := Lib.hid (Hq8.out.below hb8); have Hp9 := Lib.hid (Hp8.out.below hb8); have h9 := heap_below HRB8.out hb8; obtain ⟨c0, c1, c2, c3, f0, f1, f2, f3, rl⟩ := blk4 h9; have HRB9 := Lib.hid h9; clear ho hb8 h9)
    | (go_at_call 82; refine (rSame_any S2.cur S2.cur (S2.l.map (itOf S2.base)) (S2.l.map (itOf S2.base)) S2.l.length S2.l.length a7 a8 k7 k8 _ (List.length_map _) (List.length_map _) (by omega) (by omega) Hs78.out Hs8.out rfl).mono ?_; rintro e w9 ⟨rfl, hb9⟩; have Hq10 := Lib.hid (Hq9.out.below hb9); have Hp10 := Lib.hid (Hp9.out.below hb9); have h10 := heap_below HRB9.out hb9; obtain ⟨c0, c1, c2, c3, f0, f1, f2, f3, rl⟩ := blk4 h10; have HRB10 := Lib.hid h10; clear hb9 h10)
    | (go_at_call 42; refine (Base_stride Hp10.out.q).mono ?_; rintro e w11 ⟨rfl, rfl⟩))
  refine NoPanic.normal ?_
  go_wp2_with fail
  go_ret
  exact ⟨rfl, F4, G5, S2, Hp10.out, Hq10.out, Hd5.out, HI2.out⟩
set_option maxHeartbeats 6400000 in
set_option maxRecDepth 100000 in
theorem step2_stride {w0 w : World} {F G : Nat → Prop} {b r i : Nat} {S : Ln} (x : Ac) (hp : QSt w0 w F b S) (hq : RSt w0 w G r 0 S) (hd : ∀ k, F k → ¬ G k) (hI : PlayI i S) (hi : i < 200) (o1 : x.op = 2) :
    Calls Try.prog 40 #[.pointer (some ⟨b, 0, none⟩), .pointer (some ⟨r, 0, none⟩), .agg #[.int .i64 x.op, .int .i64 x.id, .int .i64 x.w, .int .i64 x.lag]] w fun e w' => e = .returned (.bool true) ∧ TwoAt_stride w0 b r (i + 1) w' := by
  have HI := Lib.hid hI
  have Hlt := Lib.hid hp.lt
  have Hp0 := Lib.hid (hp.below ((Below.refl _ _).alloc (Nat.le_refl _) (.cells #[.int .i64 x.op, .int .i64 x.id, .int .i64 x.w, .int .i64 x.lag] 76)))
  have Hq0 := Lib.hid (hq.below ((Below.refl _ _).alloc (Nat.le_refl _) (.cells #[.int .i64 x.op, .int .i64 x.id, .int .i64 x.w, .int .i64 x.lag] 76)))
  have HX0 := Lib.hid (heap_new w (.cells #[.int .i64 x.op, .int .i64 x.id, .int .i64 x.w, .int .i64 x.lag] 76))
  have Hd := Lib.hid hd
  have hK : (i : Int) * 1125899906842624 ≤ 1151795604700004352 := by omega
  have hK2 : ((i + 1 : Nat) : Int) * 1125899906842624 ≤ 1152921504606846976 := by omega
  clear hp hq hd hI
  have b0 : (x.op == 0) = false := by simp; omega
  have b1 : (x.op == 1) = false := by simp; omega
  have b2 : (x.op == 2) = true := by simpa using o1
  have Hp := Hp0
  have Hq := Hq0
  have HX := HX0
  obtain ⟨S2, v, f, hv⟩ : ∃ S2 v f, leaveR S x.id = (S2, v, f) := ⟨_, _, _, rfl⟩
  have hI2 : PlayI (i + 1) (leaveR S x.id).1 := ⟨(HI.out.ok.leave x.id).mono (by omega) hK2, days_leave HI.out.days _⟩
  rw [hv] at hI2
  have HE1 := Lib.hid (callsNext Hp.out (Leave_stride Hp.out.q HI.out.ok x.id hv))
  have HE2 := Lib.hid (fun W G (hW : RSt w0 W G r 0 S) => rLeaveS hW HI.out.ok x.id hv)
  have HI2 := Lib.hid hI2
  clear hv hI2 o1
  go_enter Try.func40, Try.ntmps40
  go_wp2_with fail
  skip
  go_wp2_with (first
    | (with_reducible refine And.intro (by first | with_reducible exact True.intro | with_reducible rfl | go_simp) ?_)
    | (go_at_call 43; (with_reducible refine HE1.out.mono ?_)
       rintro e w4 ⟨rfl, F4, hp4, hf4, hs4⟩
       have hxx := heap_fr HX.out hf4 (fun h => by have := Hlt.out _ h; omega)
       obtain ⟨x0, x1, x2, x3, z0, z1, z2, z3, xl⟩ := blk4 hxx
       have Hxx := Lib.hid hxx
       have Hp4 := Lib.hid hp4
       have Hq4 := Lib.hid (Hq.out.fr hf4 (fun k h1 h2 => Hd.out k h2 h1) Hp.out.new)
       have Hd4 := Lib.hid (fun k (h1 : F4 k) (h2 : G k) => (hs4 k h1).elim (fun h => Hd.out k h h2) (fun h => by have := Hq.out.lt k h2; omega) : ∀ k, F4 k → ¬ G k)
       clear hp4 hf4 hs4 hxx)
    | (go_at_call 77; (with_reducible refine (HE2.out _ _ Hq4.out).mono ?_)
       rintro e w5 ⟨rfl, G5, hq5, hf5, hs5⟩
       have Hq5 := Lib.hid hq5
       have Hp5 := Lib.hid (Hp4.out.fr hf5 Hd4.out Hq4.out.new)
       have Hd5 := Lib.hid (fun k (h1 : F4 k) (h2 : G5 k) => (hs5 k h2).elim (fun h => Hd4.out k h1 h) (fun h => by have := Hp4.out.lt k h1; omega) : ∀ k, F4 k → ¬ G5 k)
       clear hq5 hf5 hs5))
  skip
  obtain ⟨ra, rc, hrb⟩ := Hq5.out.cells
  obtain ⟨c0, c1, c2, c3, f0, f1, f2, f3, rl⟩ := blk4 hrb
  have HRB := Lib.hid hrb
  have Hq6 := Lib.hid (Hq5.out.below (Below.refl _ _).drew)
  have Hp6 := Lib.hid (Hp5.out.below (Below.refl _ _).drew)
  have HF1 := Lib.hid (Form_stride Hp6.out.q HI2.out.ok)
  have hlen := HI2.out.ok.len
  clear hrb
  go_wp2_with fail
  refine wp_region_chain 164 [(0, none), (3, none), (1, some [3]), (2, some [3]), (4, some []), (5, some []), (6, none), (7, none), (9, none), (10, none), (11, none), (12, none), (8, some [9, 10, 11, 12]), (13, none), (14, none), (15, none)] (by kernel_rfl) (by kernel_rfl) (by rfl) ?_; simp only [chain, Obs, List.getElem?_toArray, List.getElem?_cons_zero, List.getElem?_cons_succ]
  go_wp2_with (first
    | (with_reducible refine And.intro (by first | with_reducible exact True.intro | with_reducible rfl | go_simp) ?_)
    | (go_at_call 38; refine HF1.out.mono ?_; rintro e w6 ⟨a6, k6, rfl, ho, hb6⟩; have Hs6 := Lib.hid (Sl.of_own It.len ho); rw [List.length_map]; have Hq7 := Lib.hid (Hq6.out.below hb6); have Hp7 := Lib.hid (Hp6.out.below hb6); have h7 := heap_below (heap_drew HRB.out) hb6; obtain ⟨c0, c1, c2, c3, f0, f1, f2, f3, rl⟩ := blk4 h7; have HRB7 := Lib.hid h7; clear ho hb6 h7)
    | (go_at_call 47; refine (own_stride S2.cur (S2.l.map (itOf S2.base)) S2.l.length a6 k6 _ (List.length_map _) (by omega) Hs6.out).mono ?_; rintro e w7 ⟨a7, k7, rfl, ho, hb7⟩; have Hs7 := Lib.hid (Sl.of_own It.len ho); rw [List.length_map]; have Hq8 := Lib.hid (Hq7.out.below hb7); have Hp8 := Lib.hid (Hp7.out.below hb7); have h8 := heap_below HRB7.out hb7; obtain ⟨c0, c1, c2, c3, f0, f1, f2, f3, rl⟩ := blk4 h8; have HRB8 := Lib.hid h8; clear ho hb7 h8)
    | (go_at_call 83; refine (rFormS Hq8.out HI2.out.ok).mono ?_; rintro e w8 ⟨a8, k8, rfl, ho, hb8⟩; have Hs8 := Lib.hid (Sl.of_own It.len ho); have Hs78 := Lib.hid (Hs7.out.below hb8); rw [List.length_map]; have Hq9 := Lib.hid (Hq8.out.below hb8); have Hp9 := Lib.hid (Hp8.out.below hb8); have h9 := heap_below HRB8.out hb8; obtain ⟨c0, c1, c2, c3, f0, f1, f2, f3, rl⟩ := blk4 h9; have HRB9 := Lib.hid h9; clear ho hb8 h9)
    | (go_at_call 82; refine (rSame_any S2.cur S2.cur (S2.l.map (itOf S2.base)) (S2.l.map (itOf S2.base)) S2.l.length S2.l.length a7 a8 k7 k8 _ (List.length_map _) (List.length_map _) (by omega) (by omega) Hs78.out Hs8.out rfl).mono ?_; rintro e w9 ⟨rfl, hb9⟩; have Hq10 := Lib.hid (Hq9.out.below hb9); have Hp10 := Lib.hid (Hp9.out.below hb9); have h10 := heap_below HRB9.out hb9; obtain ⟨c0, c1, c2, c3, f0, f1, f2, f3, rl⟩ := blk4 h10; have HRB10 := Lib.hid h10; clear hb9 h10)
    | (go_at_call 42; refine (Base_stride Hp10.out.q).mono ?_; rintro e w11 ⟨rfl, rfl⟩))
  refine NoPanic.normal ?_
  go_wp2_with fail
  go_ret
  exact ⟨rfl, F4, G5, S2, Hp10.out, Hq10.out, Hd5.out, HI2.out⟩
set_option maxHeartbeats 6400000 in
set_option maxRecDepth 100000 in
theorem step3_stride {w0 w : World} {F G : Nat → Prop} {b r i : Nat} {S : Ln} (x : Ac) (hp : QSt w0 w F b S) (hq : RSt w0 w G r 0 S) (hd : ∀ k, F k → ¬ G k) (hI : PlayI i S) (hi : i < 200) (o1 : x.op = 3) :
    Calls Try.prog 40 #[.pointer (some ⟨b, 0, none⟩), .pointer (some ⟨r, 0, none⟩), .agg #[.int .i64 x.op, .int .i64 x.id, .int .i64 x.w, .int .i64 x.lag]] w fun e w' => e = .returned (.bool true) ∧ TwoAt_stride w0 b r (i + 1) w' := by
  have HI := Lib.hid hI
  have Hlt := Lib.hid hp.lt
  have Hp0 := Lib.hid (hp.below ((Below.refl _ _).alloc (Nat.le_refl _) (.cells #[.int .i64 x.op, .int .i64 x.id, .int .i64 x.w, .int .i64 x.lag] 76)))
  have Hq0 := Lib.hid (hq.below ((Below.refl _ _).alloc (Nat.le_refl _) (.cells #[.int .i64 x.op, .int .i64 x.id, .int .i64 x.w, .int .i64 x.lag] 76)))
  have HX0 := Lib.hid (heap_new w (.cells #[.int .i64 x.op, .int .i64 x.id, .int .i64 x.w, .int .i64 x.lag] 76))
  have Hd := Lib.hid hd
  have hK : (i : Int) * 1125899906842624 ≤ 1151795604700004352 := by omega
  have hK2 : ((i + 1 : Nat) : Int) * 1125899906842624 ≤ 1152921504606846976 := by omega
  clear hp hq hd hI
  have b0 : (x.op == 0) = false := by simp; omega
  have b1 : (x.op == 1) = false := by simp; omega
  have b2 : (x.op == 2) = false := by simp; omega
  have b3 : (x.op == 3) = true := by simpa using o1
  have Hp := Lib.hid (Hp0.out.below (Below.refl _ _).drew)
  have Hq := Lib.hid (Hq0.out.below (Below.refl _ _).drew)
  have HX := Lib.hid (heap_drew HX0.out)
  obtain ⟨S2, v, hv⟩ : ∃ S2 v, weighR S x.id x.w = (S2, v) := ⟨_, _, rfl⟩
  have hI2 : PlayI (i + 1) (weighR S x.id x.w).1 := ⟨(HI.out.ok.weigh x.id x.w).mono (by omega) hK2, days_weigh HI.out.days _ _⟩
  rw [hv] at hI2
  have HE1 := Lib.hid (callsNext Hp.out (Weigh_stride Hp.out.q HI.out.ok x.id x.w hv))
  have HE2 := Lib.hid (fun W G (hW : RSt w0 W G r 0 S) => rWeighS hW HI.out.ok x.id x.w hv)
  have HI2 := Lib.hid hI2
  clear hv hI2 o1
  go_enter Try.func40, Try.ntmps40
  go_wp2_with fail
  refine wp_region_chain 164 [(0, none), (1, none), (2, none), (3, none), (4, none), (6, none), (7, none), (8, none), (9, none), (10, none), (5, some [6, 7, 8, 9, 10]), (11, some []), (12, none)] (by kernel_rfl) (by kernel_rfl) (by rfl) ?_; simp only [chain, Obs, List.getElem?_toArray, List.getElem?_cons_zero, List.getElem?_cons_succ]
  go_wp2_with (first
    | (with_reducible refine And.intro (by first | with_reducible exact True.intro | with_reducible rfl | go_simp) ?_)
    | (go_at_call 44; (with_reducible refine HE1.out.mono ?_)
       rintro e w4 ⟨rfl, F4, hp4, hf4, hs4⟩
       have hxx := heap_fr HX.out hf4 (fun h => by have := Hlt.out _ h; omega)
       obtain ⟨x0, x1, x2, x3, z0, z1, z2, z3, xl⟩ := blk4 hxx
       have Hxx := Lib.hid hxx
       have Hp4 := Lib.hid hp4
       have Hq4 := Lib.hid (Hq.out.fr hf4 (fun k h1 h2 => Hd.out k h2 h1) Hp.out.new)
       have Hd4 := Lib.hid (fun k (h1 : F4 k) (h2 : G k) => (hs4 k h1).elim (fun h => Hd.out k h h2) (fun h => by have := Hq.out.lt k h2; omega) : ∀ k, F4 k → ¬ G k)
       clear hp4 hf4 hs4 hxx)
    | (go_at_call 78; (with_reducible refine (HE2.out _ _ Hq4.out).mono ?_)
       rintro e w5 ⟨rfl, G5, hq5, hf5, hs5⟩
       have Hq5 := Lib.hid hq5
       have Hp5 := Lib.hid (Hp4.out.fr hf5 Hd4.out Hq4.out.new)
       have Hd5 := Lib.hid (fun k (h1 : F4 k) (h2 : G5 k) => (hs5 k h2).elim (fun h => Hd4.out k h1 h) (fun h => by have := Hp4.out.lt k h1; omega) : ∀ k, F4 k → ¬ G5 k)
       clear hq5 hf5 hs5))
  refine NoPanic.normal ?_
  obtain ⟨ra, rc, hrb⟩ := Hq5.out.cells
  obtain ⟨c0, c1, c2, c3, f0, f1, f2, f3, rl⟩ := blk4 hrb
  have HRB := Lib.hid hrb
  have Hq6 := Lib.hid (Hq5.out.below (Below.refl _ _).drew)
  have Hp6 := Lib.hid (Hp5.out.below (Below.refl _ _).drew)
  have HF1 := Lib.hid (Form_stride Hp6.out.q HI2.out.ok)
  have hlen := HI2.out.ok.len
  clear hrb
  go_wp2_with fail
  refine wp_region_chain 164 [(0, none), (3, none), (1, some [3]), (2, some [3]), (4, some []), (5, some []), (6, none), (7, none), (9, none), (10, none), (11, none), (12, none), (8, some [9, 10, 11, 12]), (13, none), (14, none), (15, none)] (by kernel_rfl) (by kernel_rfl) (by rfl) ?_; simp only [chain, Obs, List.getElem?_toArray, List.getElem?_cons_zero, List.getElem?_cons_succ]
  go_wp2_with (first
    | (with_reducible refine And.intro (by first | with_reducible exact True.intro | with_reducible rfl | go_simp) ?_)
    | (go_at_call 38; refine HF1.out.mono ?_; rintro e w6 ⟨a6, k6, rfl, ho, hb6⟩; have Hs6 := Lib.hid (Sl.of_own It.len ho); rw [List.length_map]; have Hq7 := Lib.hid (Hq6.out.below hb6); have Hp7 := Lib.hid (Hp6.out.below hb6); have h7 := heap_below (heap_drew HRB.out) hb6; obtain ⟨c0, c1, c2, c3, f0, f1, f2, f3, rl⟩ := blk4 h7; have HRB7 := Lib.hid h7; clear ho hb6 h7)
    | (go_at_call 47; refine (own_stride S2.cur (S2.l.map (itOf S2.base)) S2.l.length a6 k6 _ (List.length_map _) (by omega) Hs6.out).mono ?_; rintro e w7 ⟨a7, k7, rfl, ho, hb7⟩; have Hs7 := Lib.hid (Sl.of_own It.len ho); rw [List.length_map]; have Hq8 := Lib.hid (Hq7.out.below hb7); have Hp8 := Lib.hid (Hp7.out.below hb7); have h8 := heap_below HRB7.out hb7; obtain ⟨c0, c1, c2, c3, f0, f1, f2, f3, rl⟩ := blk4 h8; have HRB8 := Lib.hid h8; clear ho hb7 h8)
    | (go_at_call 83; refine (rFormS Hq8.out HI2.out.ok).mono ?_; rintro e w8 ⟨a8, k8, rfl, ho, hb8⟩; have Hs8 := Lib.hid (Sl.of_own It.len ho); have Hs78 := Lib.hid (Hs7.out.below hb8); rw [List.length_map]; have Hq9 := Lib.hid (Hq8.out.below hb8); have Hp9 := Lib.hid (Hp8.out.below hb8); have h9 := heap_below HRB8.out hb8; obtain ⟨c0, c1, c2, c3, f0, f1, f2, f3, rl⟩ := blk4 h9; have HRB9 := Lib.hid h9; clear ho hb8 h9)
    | (go_at_call 82; refine (rSame_any S2.cur S2.cur (S2.l.map (itOf S2.base)) (S2.l.map (itOf S2.base)) S2.l.length S2.l.length a7 a8 k7 k8 _ (List.length_map _) (List.length_map _) (by omega) (by omega) Hs78.out Hs8.out rfl).mono ?_; rintro e w9 ⟨rfl, hb9⟩; have Hq10 := Lib.hid (Hq9.out.below hb9); have Hp10 := Lib.hid (Hp9.out.below hb9); have h10 := heap_below HRB9.out hb9; obtain ⟨c0, c1, c2, c3, f0, f1, f2, f3, rl⟩ := blk4 h10; have HRB10 := Lib.hid h10; clear hb9 h10)
    | (go_at_call 42; refine (Base_stride Hp10.out.q).mono ?_; rintro e w11 ⟨rfl, rfl⟩))
  refine NoPanic.normal ?_
  go_wp2_with fail
  go_ret
  exact ⟨rfl, F4, G5, S2, Hp10.out, Hq10.out, Hd5.out, HI2.out⟩
set_option maxHeartbeats 6400000 in
set_option maxRecDepth 100000 in
theorem step4_stride {w0 w : World} {F G : Nat → Prop} {b r i : Nat} {S : Ln} (x : Ac) (hp : QSt w0 w F b S) (hq : RSt w0 w G r 0 S) (hd : ∀ k, F k → ¬ G k) (hI : PlayI i S) (hi : i < 200) (o1 : x.op = 4) :
    Calls Try.prog 40 #[.pointer (some ⟨b, 0, none⟩), .pointer (some ⟨r, 0, none⟩), .agg #[.int .i64 x.op, .int .i64 x.id, .int .i64 x.w, .int .i64 x.lag]] w fun e w' => e = .returned (.bool true) ∧ TwoAt_stride w0 b r (i + 1) w' := by
  have HI := Lib.hid hI
  have Hlt := Lib.hid hp.lt
  have Hp0 := Lib.hid (hp.below ((Below.refl _ _).alloc (Nat.le_refl _) (.cells #[.int .i64 x.op, .int .i64 x.id, .int .i64 x.w, .int .i64 x.lag] 76)))
  have Hq0 := Lib.hid (hq.below ((Below.refl _ _).alloc (Nat.le_refl _) (.cells #[.int .i64 x.op, .int .i64 x.id, .int .i64 x.w, .int .i64 x.lag] 76)))
  have HX0 := Lib.hid (heap_new w (.cells #[.int .i64 x.op, .int .i64 x.id, .int .i64 x.w, .int .i64 x.lag] 76))
  have Hd := Lib.hid hd
  have hK : (i : Int) * 1125899906842624 ≤ 1151795604700004352 := by omega
  have hK2 : ((i + 1 : Nat) : Int) * 1125899906842624 ≤ 1152921504606846976 := by omega
  clear hp hq hd hI
  have b0 : (x.op == 0) = false := by simp; omega
  have b1 : (x.op == 1) = false := by simp; omega
  have b2 : (x.op == 2) = false := by simp; omega
  have b3 : (x.op == 3) = false := by simp; omega
  have b4 : (x.op == 4) = true := by simpa using o1
  have Hp := Hp0
  have Hq := Hq0
  have HX := HX0
  obtain ⟨S2, v, f, hv⟩ : ∃ S2 v f, pickstride S = (S2, v, f) := ⟨_, _, _, rfl⟩
  have hI2 : PlayI (i + 1) (pickstride S).1 := by
    obtain ⟨c, hc⟩ := pickis_stride S
    exact ⟨(pickok_stride HI.out.ok).mono (by omega) hK2, by rw [hc]; exact HI.out.days⟩
  rw [hv] at hI2
  have HE1 := Lib.hid (callsNext Hp.out (Pick_stride Hp.out.q HI.out.ok hv))
  have HE2 := Lib.hid (fun W G (hW : RSt w0 W G r 0 S) => rPickS_stride hW HI.out.ok hv)
  have HI2 := Lib.hid hI2
  clear hv hI2 o1
  go_enter Try.func40, Try.ntmps40
  go_wp2_with fail
  skip
  go_wp2_with (first
    | (with_reducible refine And.intro (by first | with_reducible exact True.intro | with_reducible rfl | go_simp) ?_)
    | (go_at_call 36; (with_reducible refine HE1.out.mono ?_)
       rintro e w4 ⟨rfl, F4, hp4, hf4, hs4⟩
       have hxx := heap_fr HX.out hf4 (fun h => by have := Hlt.out _ h; omega)
       obtain ⟨x0, x1, x2, x3, z0, z1, z2, z3, xl⟩ := blk4 hxx
       have Hxx := Lib.hid hxx
       have Hp4 := Lib.hid hp4
       have Hq4 := Lib.hid (Hq.out.fr hf4 (fun k h1 h2 => Hd.out k h2 h1) Hp.out.new)
       have Hd4 := Lib.hid (fun k (h1 : F4 k) (h2 : G k) => (hs4 k h1).elim (fun h => Hd.out k h h2) (fun h => by have := Hq.out.lt k h2; omega) : ∀ k, F4 k → ¬ G k)
       clear hp4 hf4 hs4 hxx)
    | (go_at_call 79; (with_reducible refine (HE2.out _ _ Hq4.out).mono ?_)
       rintro e w5 ⟨rfl, G5, hq5, hf5, hs5⟩
       have Hq5 := Lib.hid hq5
       have Hp5 := Lib.hid (Hp4.out.fr hf5 Hd4.out Hq4.out.new)
       have Hd5 := Lib.hid (fun k (h1 : F4 k) (h2 : G5 k) => (hs5 k h2).elim (fun h => Hd4.out k h1 h) (fun h => by have := Hp4.out.lt k h1; omega) : ∀ k, F4 k → ¬ G5 k)
       clear hq5 hf5 hs5))
  skip
  obtain ⟨ra, rc, hrb⟩ := Hq5.out.cells
  obtain ⟨c0, c1, c2, c3, f0, f1, f2, f3, rl⟩ := blk4 hrb
  have HRB := Lib.hid hrb
  have Hq6 := Lib.hid (Hq5.out.below (Below.refl _ _).drew)
  have Hp6 := Lib.hid (Hp5.out.below (Below.refl _ _).drew)
  have HF1 := Lib.hid (Form_stride Hp6.out.q HI2.out.ok)
  have hlen := HI2.out.ok.len
  clear hrb
  go_wp2_with fail
  refine wp_region_chain 164 [(0, none), (3, none), (1, some [3]), (2, some [3]), (4, some []), (5, some []), (6, none), (7, none), (9, none), (10, none), (11, none), (12, none), (8, some [9, 10, 11, 12]), (13, none), (14, none), (15, none)] (by kernel_rfl) (by kernel_rfl) (by rfl) ?_; simp only [chain, Obs, List.getElem?_toArray, List.getElem?_cons_zero, List.getElem?_cons_succ]
  go_wp2_with (first
    | (with_reducible refine And.intro (by first | with_reducible exact True.intro | with_reducible rfl | go_simp) ?_)
    | (go_at_call 38; refine HF1.out.mono ?_; rintro e w6 ⟨a6, k6, rfl, ho, hb6⟩; have Hs6 := Lib.hid (Sl.of_own It.len ho); rw [List.length_map]; have Hq7 := Lib.hid (Hq6.out.below hb6); have Hp7 := Lib.hid (Hp6.out.below hb6); have h7 := heap_below (heap_drew HRB.out) hb6; obtain ⟨c0, c1, c2, c3, f0, f1, f2, f3, rl⟩ := blk4 h7; have HRB7 := Lib.hid h7; clear ho hb6 h7)
    | (go_at_call 47; refine (own_stride S2.cur (S2.l.map (itOf S2.base)) S2.l.length a6 k6 _ (List.length_map _) (by omega) Hs6.out).mono ?_; rintro e w7 ⟨a7, k7, rfl, ho, hb7⟩; have Hs7 := Lib.hid (Sl.of_own It.len ho); rw [List.length_map]; have Hq8 := Lib.hid (Hq7.out.below hb7); have Hp8 := Lib.hid (Hp7.out.below hb7); have h8 := heap_below HRB7.out hb7; obtain ⟨c0, c1, c2, c3, f0, f1, f2, f3, rl⟩ := blk4 h8; have HRB8 := Lib.hid h8; clear ho hb7 h8)
    | (go_at_call 83; refine (rFormS Hq8.out HI2.out.ok).mono ?_; rintro e w8 ⟨a8, k8, rfl, ho, hb8⟩; have Hs8 := Lib.hid (Sl.of_own It.len ho); have Hs78 := Lib.hid (Hs7.out.below hb8); rw [List.length_map]; have Hq9 := Lib.hid (Hq8.out.below hb8); have Hp9 := Lib.hid (Hp8.out.below hb8); have h9 := heap_below HRB8.out hb8; obtain ⟨c0, c1, c2, c3, f0, f1, f2, f3, rl⟩ := blk4 h9; have HRB9 := Lib.hid h9; clear ho hb8 h9)
    | (go_at_call 82; refine (rSame_any S2.cur S2.cur (S2.l.map (itOf S2.base)) (S2.l.map (itOf S2.base)) S2.l.length S2.l.length a7 a8 k7 k8 _ (List.length_map _) (List.length_map _) (by omega) (by omega) Hs78.out Hs8.out rfl).mono ?_; rintro e w9 ⟨rfl, hb9⟩; have Hq10 := Lib.hid (Hq9.out.below hb9); have Hp10 := Lib.hid (Hp9.out.below hb9); have h10 := heap_below HRB9.out hb9; obtain ⟨c0, c1, c2, c3, f0, f1, f2, f3, rl⟩ := blk4 h10; have HRB10 := Lib.hid h10; clear hb9 h10)
    | (go_at_call 42; refine (Base_stride Hp10.out.q).mono ?_; rintro e w11 ⟨rfl, rfl⟩))
  refine NoPanic.normal ?_
  go_wp2_with fail
  go_ret
  exact ⟨rfl, F4, G5, S2, Hp10.out, Hq10.out, Hd5.out, HI2.out⟩
set_option maxHeartbeats 6400000 in
set_option maxRecDepth 100000 in
theorem step5_stride {w0 w : World} {F G : Nat → Prop} {b r i : Nat} {S : Ln} (x : Ac) (hp : QSt w0 w F b S) (hq : RSt w0 w G r 0 S) (hd : ∀ k, F k → ¬ G k) (hI : PlayI i S) (hi : i < 200) (o1 : x.op = 5) :
    Calls Try.prog 40 #[.pointer (some ⟨b, 0, none⟩), .pointer (some ⟨r, 0, none⟩), .agg #[.int .i64 x.op, .int .i64 x.id, .int .i64 x.w, .int .i64 x.lag]] w fun e w' => e = .returned (.bool true) ∧ TwoAt_stride w0 b r (i + 1) w' := by
  have HI := Lib.hid hI
  have Hlt := Lib.hid hp.lt
  have Hp0 := Lib.hid (hp.below ((Below.refl _ _).alloc (Nat.le_refl _) (.cells #[.int .i64 x.op, .int .i64 x.id, .int .i64 x.w, .int .i64 x.lag] 76)))
  have Hq0 := Lib.hid (hq.below ((Below.refl _ _).alloc (Nat.le_refl _) (.cells #[.int .i64 x.op, .int .i64 x.id, .int .i64 x.w, .int .i64 x.lag] 76)))
  have HX0 := Lib.hid (heap_new w (.cells #[.int .i64 x.op, .int .i64 x.id, .int .i64 x.w, .int .i64 x.lag] 76))
  have Hd := Lib.hid hd
  have hK : (i : Int) * 1125899906842624 ≤ 1151795604700004352 := by omega
  have hK2 : ((i + 1 : Nat) : Int) * 1125899906842624 ≤ 1152921504606846976 := by omega
  clear hp hq hd hI
  have b0 : (x.op == 0) = false := by simp; omega
  have b1 : (x.op == 1) = false := by simp; omega
  have b2 : (x.op == 2) = false := by simp; omega
  have b3 : (x.op == 3) = false := by simp; omega
  have b4 : (x.op == 4) = false := by simp; omega
  have b5 : (x.op == 5) = true := by simpa using o1
  have Hp := Hp0
  have Hq := Hq0
  have HX := HX0
  obtain ⟨S2, v, f, hv⟩ : ∃ S2 v f, chargeR S = (S2, v, f) := ⟨_, _, _, rfl⟩
  have hI2 : PlayI (i + 1) (chargeR S).1 := ⟨HI.out.ok.charge.mono (by omega) hK2, days_charge HI.out.days⟩
  rw [hv] at hI2
  have HE1 := Lib.hid (callsNext Hp.out (Charge_stride Hp.out.q HI.out.ok hv))
  have HE2 := Lib.hid (fun W G (hW : RSt w0 W G r 0 S) => rChargeS hW HI.out.ok HI.out.day hv)
  have HI2 := Lib.hid hI2
  clear hv hI2 o1
  go_enter Try.func40, Try.ntmps40
  go_wp2_with fail
  skip
  go_wp2_with (first
    | (with_reducible refine And.intro (by first | with_reducible exact True.intro | with_reducible rfl | go_simp) ?_)
    | (go_at_call 37; (with_reducible refine HE1.out.mono ?_)
       rintro e w4 ⟨rfl, F4, hp4, hf4, hs4⟩
       have hxx := heap_fr HX.out hf4 (fun h => by have := Hlt.out _ h; omega)
       obtain ⟨x0, x1, x2, x3, z0, z1, z2, z3, xl⟩ := blk4 hxx
       have Hxx := Lib.hid hxx
       have Hp4 := Lib.hid hp4
       have Hq4 := Lib.hid (Hq.out.fr hf4 (fun k h1 h2 => Hd.out k h2 h1) Hp.out.new)
       have Hd4 := Lib.hid (fun k (h1 : F4 k) (h2 : G k) => (hs4 k h1).elim (fun h => Hd.out k h h2) (fun h => by have := Hq.out.lt k h2; omega) : ∀ k, F4 k → ¬ G k)
       clear hp4 hf4 hs4 hxx)
    | (go_at_call 80; (with_reducible refine (HE2.out _ _ Hq4.out).mono ?_)
       rintro e w5 ⟨rfl, G5, hq5, hf5, hs5⟩
       have Hq5 := Lib.hid hq5
       have Hp5 := Lib.hid (Hp4.out.fr hf5 Hd4.out Hq4.out.new)
       have Hd5 := Lib.hid (fun k (h1 : F4 k) (h2 : G5 k) => (hs5 k h2).elim (fun h => Hd4.out k h1 h) (fun h => by have := Hp4.out.lt k h1; omega) : ∀ k, F4 k → ¬ G5 k)
       clear hq5 hf5 hs5))
  skip
  obtain ⟨ra, rc, hrb⟩ := Hq5.out.cells
  obtain ⟨c0, c1, c2, c3, f0, f1, f2, f3, rl⟩ := blk4 hrb
  have HRB := Lib.hid hrb
  have Hq6 := Lib.hid (Hq5.out.below (Below.refl _ _).drew)
  have Hp6 := Lib.hid (Hp5.out.below (Below.refl _ _).drew)
  have HF1 := Lib.hid (Form_stride Hp6.out.q HI2.out.ok)
  have hlen := HI2.out.ok.len
  clear hrb
  go_wp2_with fail
  refine wp_region_chain 164 [(0, none), (3, none), (1, some [3]), (2, some [3]), (4, some []), (5, some []), (6, none), (7, none), (9, none), (10, none), (11, none), (12, none), (8, some [9, 10, 11, 12]), (13, none), (14, none), (15, none)] (by kernel_rfl) (by kernel_rfl) (by rfl) ?_; simp only [chain, Obs, List.getElem?_toArray, List.getElem?_cons_zero, List.getElem?_cons_succ]
  go_wp2_with (first
    | (with_reducible refine And.intro (by first | with_reducible exact True.intro | with_reducible rfl | go_simp) ?_)
    | (go_at_call 38; refine HF1.out.mono ?_; rintro e w6 ⟨a6, k6, rfl, ho, hb6⟩; have Hs6 := Lib.hid (Sl.of_own It.len ho); rw [List.length_map]; have Hq7 := Lib.hid (Hq6.out.below hb6); have Hp7 := Lib.hid (Hp6.out.below hb6); have h7 := heap_below (heap_drew HRB.out) hb6; obtain ⟨c0, c1, c2, c3, f0, f1, f2, f3, rl⟩ := blk4 h7; have HRB7 := Lib.hid h7; clear ho hb6 h7)
    | (go_at_call 47; refine (own_stride S2.cur (S2.l.map (itOf S2.base)) S2.l.length a6 k6 _ (List.length_map _) (by omega) Hs6.out).mono ?_; rintro e w7 ⟨a7, k7, rfl, ho, hb7⟩; have Hs7 := Lib.hid (Sl.of_own It.len ho); rw [List.length_map]; have Hq8 := Lib.hid (Hq7.out.below hb7); have Hp8 := Lib.hid (Hp7.out.below hb7); have h8 := heap_below HRB7.out hb7; obtain ⟨c0, c1, c2, c3, f0, f1, f2, f3, rl⟩ := blk4 h8; have HRB8 := Lib.hid h8; clear ho hb7 h8)
    | (go_at_call 83; refine (rFormS Hq8.out HI2.out.ok).mono ?_; rintro e w8 ⟨a8, k8, rfl, ho, hb8⟩; have Hs8 := Lib.hid (Sl.of_own It.len ho); have Hs78 := Lib.hid (Hs7.out.below hb8); rw [List.length_map]; have Hq9 := Lib.hid (Hq8.out.below hb8); have Hp9 := Lib.hid (Hp8.out.below hb8); have h9 := heap_below HRB8.out hb8; obtain ⟨c0, c1, c2, c3, f0, f1, f2, f3, rl⟩ := blk4 h9; have HRB9 := Lib.hid h9; clear ho hb8 h9)
    | (go_at_call 82; refine (rSame_any S2.cur S2.cur (S2.l.map (itOf S2.base)) (S2.l.map (itOf S2.base)) S2.l.length S2.l.length a7 a8 k7 k8 _ (List.length_map _) (List.length_map _) (by omega) (by omega) Hs78.out Hs8.out rfl).mono ?_; rintro e w9 ⟨rfl, hb9⟩; have Hq10 := Lib.hid (Hq9.out.below hb9); have Hp10 := Lib.hid (Hp9.out.below hb9); have h10 := heap_below HRB9.out hb9; obtain ⟨c0, c1, c2, c3, f0, f1, f2, f3, rl⟩ := blk4 h10; have HRB10 := Lib.hid h10; clear hb9 h10)
    | (go_at_call 42; refine (Base_stride Hp10.out.q).mono ?_; rintro e w11 ⟨rfl, rfl⟩))
  refine NoPanic.normal ?_
  go_wp2_with fail
  go_ret
  exact ⟨rfl, F4, G5, S2, Hp10.out, Hq10.out, Hd5.out, HI2.out⟩
end Go.Proofs.Ytmhdebkiepfgiaa
