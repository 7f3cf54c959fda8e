/- Layer 13: a call of the queue and of the document's own: they tell the same. -/
import Derived.Test.YtciiookcdkjegaadueM
import Derived.Test.YtciiookcdkjegaaPlay
import Derived.Test.YtciiookcdkjegaaOwndue
import Derived.Test.YtciiookcdkjegaaRefPdue
import Derived.Test.YtciiookcdkjegaaArg
namespace Go.Proofs.Ytciiookcdkjegaa
open Go.RowKit
set_option linter.unusedVariables false
set_option linter.unusedSimpArgs false

theorem held_rheld_due (lag : Int) : helddue lag = rheld 2 lag := by unfold helddue rheld; simp
theorem held_may_r_due {l : List Pt} {id tw lag : Int} (h : mayE l id tw lag = 0) (hl : l.length ≤ 64) : mayE l id tw (helddue lag) = 0 := held_may_due h hl

set_option maxHeartbeats 6400000 in
set_option maxRecDepth 100000 in
theorem step0_due {w0 w : World} {F G : Nat → Prop} {b r i : Nat} {S : Ln} (x : Ac) (hp : QSt w0 w F b S) (hq : RSt w0 w G r 2 S) (hd : ∀ k, F k → ¬ G k) (hI : PlayI i S) (hi : i < 200) (o1 : x.op = 0) :
    Calls Try.prog 44 #[.pointer (some ⟨b, 0, none⟩), .pointer (some ⟨r, 0, none⟩), .agg #[.int .i64 x.op, .int .i64 x.id, .int .i64 x.w, .int .i64 x.lag]] w fun e w' => e = .returned (.bool true) ∧ TwoAt 2 w0 b r (i + 1) w' := by
  have HI := Lib.hid hI
  have Hlt := Lib.hid hp.lt
  have Hp0 := Lib.hid (hp.below ((Below.refl _ _).alloc (Nat.le_refl _) (.cells #[.int .i64 x.op, .int .i64 x.id, .int .i64 x.w, .int .i64 x.lag] 75)))
  have Hq0 := Lib.hid (hq.below ((Below.refl _ _).alloc (Nat.le_refl _) (.cells #[.int .i64 x.op, .int .i64 x.id, .int .i64 x.w, .int .i64 x.lag] 75)))
  have HX0 := Lib.hid (heap_new w (.cells #[.int .i64 x.op, .int .i64 x.id, .int .i64 x.w, .int .i64 x.lag] 75))
  have Hd := Lib.hid hd
  have hK : (i : Int) * 1125899906842624 ≤ 1151795604700004352 := by omega
  have hK2 : ((i + 1 : Nat) : Int) * 1125899906842624 ≤ 1152921504606846976 := by omega
  clear hp hq hd hI
  have b0 : (x.op == 0) = true := by simpa using o1
  have Hp := Lib.hid (Hp0.out.below (Below.refl _ _).drew)
  have Hq := Lib.hid (Hq0.out.below (Below.refl _ _).drew)
  have HX := Lib.hid (heap_drew HX0.out)
  obtain ⟨v, hv⟩ : ∃ v, mayE S.l x.id x.w x.lag = v := ⟨_, rfl⟩
  have hI2 := HI.out.enter hi helddue x.id x.w x.lag
  have HE1 := Lib.hid (callsNext Hp.out (Enter_due Hp.out.q HI.out.ok hK x.id x.w x.lag hv))
  have HE2 := Lib.hid (fun W G (hW : RSt w0 W G r 2 S) => rEnterS helddue hW HI.out.ok hK (by omega) held_rheld_due held_may_r_due x.id x.w x.lag hv)
  generalize enterR helddue S x.id x.w x.lag = S2 at hI2 HE1 HE2
  have HI2 := Lib.hid hI2
  clear hv hI2 o1
  go_enter Try.func44, Try.ntmps44
  go_wp2_with fail
  refine wp_region_chain 164 [0, 0, 2, 0, 8, 0, 32, 127, 0, 0, 512, 0, 2048, 0, 8192, 32767, 65535] [(0, none), (1, none), (2, none), (3, none), (4, none), (5, none), (6, none), (8, none), (9, none), (10, none), (11, none), (12, none), (13, none), (14, none), (7, some [8, 9, 10, 11, 12, 13, 14]), (15, some []), (16, none)] (by kernel_rfl) (by kernel_rfl) (by rfl) ?_; simp only [chain, Obs, List.getElem?_toArray, List.getElem?_cons_zero, List.getElem?_cons_succ]
  go_wp2_with (first
    | (with_reducible refine And.intro (by first | with_reducible exact True.intro | with_reducible rfl | go_simp) ?_)
    | (go_at_call 40; (with_reducible refine HE1.out.mono ?_)
       rintro e w4 ⟨rfl, F4, hp4, hf4, hs4⟩
       have hxx := heap_fr HX.out hf4 (fun h => by have := Hlt.out _ h; omega)
       obtain ⟨x0, x1, x2, x3, z0, z1, z2, z3, xl⟩ := blk4 hxx
       have Hxx := Lib.hid hxx
       have Hp4 := Lib.hid hp4
       have Hq4 := Lib.hid (Hq.out.fr hf4 (fun k h1 h2 => Hd.out k h2 h1) Hp.out.new)
       have Hd4 := Lib.hid (fun k (h1 : F4 k) (h2 : G k) => (hs4 k h1).elim (fun h => Hd.out k h h2) (fun h => by have := Hq.out.lt k h2; omega) : ∀ k, F4 k → ¬ G k)
       clear hp4 hf4 hs4 hxx)
    | (go_at_call 65; (with_reducible refine (HE2.out _ _ Hq4.out).mono ?_)
       rintro e w5 ⟨rfl, G5, hq5, hf5, hs5⟩
       have Hq5 := Lib.hid hq5
       have Hp5 := Lib.hid (Hp4.out.fr hf5 Hd4.out Hq4.out.new)
       have Hd5 := Lib.hid (fun k (h1 : F4 k) (h2 : G5 k) => (hs5 k h2).elim (fun h => Hd4.out k h1 h) (fun h => by have := Hp4.out.lt k h1; omega) : ∀ k, F4 k → ¬ G5 k)
       clear hq5 hf5 hs5))
  refine NoPanic.normal ?_
  obtain ⟨ra, rc, hrb⟩ := Hq5.out.cells
  obtain ⟨c0, c1, c2, c3, f0, f1, f2, f3, rl⟩ := blk4 hrb
  have HRB := Lib.hid hrb
  have Hq6 := Lib.hid (Hq5.out.below (Below.refl _ _).drew)
  have Hp6 := Lib.hid (Hp5.out.below (Below.refl _ _).drew)
  have HF1 := Lib.hid (Form_due Hp6.out.q HI2.out.ok)
  have hlen := HI2.out.ok.len
  clear hrb
  go_wp2_with fail
  refine wp_region_chain 164 [0, 1, 3, 0, 15, 31, 63, 127, 255, 127, 639, 1663, 3711, 8191, 16383, 32767] [(0, none), (3, none), (1, some [3]), (2, some [3]), (4, some []), (5, some []), (6, none), (7, none), (9, none), (10, none), (11, none), (12, none), (8, some [9, 10, 11, 12]), (13, none), (14, none), (15, none)] (by kernel_rfl) (by kernel_rfl) (by rfl) ?_; simp only [chain, Obs, List.getElem?_toArray, List.getElem?_cons_zero, List.getElem?_cons_succ]
  go_wp2_with (first
    | (with_reducible refine And.intro (by first | with_reducible exact True.intro | with_reducible rfl | go_simp) ?_)
    | (go_at_call 43; refine HF1.out.mono ?_; rintro e w6 ⟨a6, k6, rfl, ho, hb6⟩; have Hs6 := Lib.hid (Sl.of_own It.len ho); rw [List.length_map]; have Hq7 := Lib.hid (Hq6.out.below hb6); have Hp7 := Lib.hid (Hp6.out.below hb6); have h7 := heap_below (heap_drew HRB.out) hb6; obtain ⟨c0, c1, c2, c3, f0, f1, f2, f3, rl⟩ := blk4 h7; have HRB7 := Lib.hid h7; clear ho hb6 h7)
    | (go_at_call 50; refine (own_due S2.cur (S2.l.map (itOf S2.base)) S2.l.length a6 k6 _ (List.length_map _) (by omega) Hs6.out).mono ?_; rintro e w7 ⟨a7, k7, rfl, ho, hb7⟩; have Hs7 := Lib.hid (Sl.of_own It.len ho); rw [List.length_map]; have Hq8 := Lib.hid (Hq7.out.below hb7); have Hp8 := Lib.hid (Hp7.out.below hb7); have h8 := heap_below HRB7.out hb7; obtain ⟨c0, c1, c2, c3, f0, f1, f2, f3, rl⟩ := blk4 h8; have HRB8 := Lib.hid h8; clear ho hb7 h8)
    | (go_at_call 75; refine (rFormS Hq8.out HI2.out.ok).mono ?_; rintro e w8 ⟨a8, k8, rfl, ho, hb8⟩; have Hs8 := Lib.hid (Sl.of_own It.len ho); have Hs78 := Lib.hid (Hs7.out.below hb8); rw [List.length_map]; have Hq9 := Lib.hid (Hq8.out.below hb8); have Hp9 := Lib.hid (Hp8.out.below hb8); have h9 := heap_below HRB8.out hb8; obtain ⟨c0, c1, c2, c3, f0, f1, f2, f3, rl⟩ := blk4 h9; have HRB9 := Lib.hid h9; clear ho hb8 h9)
    | (go_at_call 74; refine (rSame_any S2.cur S2.cur (S2.l.map (itOf S2.base)) (S2.l.map (itOf S2.base)) S2.l.length S2.l.length a7 a8 k7 k8 _ (List.length_map _) (List.length_map _) (by omega) (by omega) Hs78.out Hs8.out rfl).mono ?_; rintro e w9 ⟨rfl, hb9⟩; have Hq10 := Lib.hid (Hq9.out.below hb9); have Hp10 := Lib.hid (Hp9.out.below hb9); have h10 := heap_below HRB9.out hb9; obtain ⟨c0, c1, c2, c3, f0, f1, f2, f3, rl⟩ := blk4 h10; have HRB10 := Lib.hid h10; clear hb9 h10)
    | (go_at_call 46; refine (Base_due Hp10.out.q).mono ?_; rintro e w11 ⟨rfl, rfl⟩))
  refine NoPanic.normal ?_
  go_wp2_with fail
  go_ret
  exact ⟨rfl, F4, G5, S2, Hp10.out, Hq10.out, Hd5.out, HI2.out⟩
set_option maxHeartbeats 6400000 in
set_option maxRecDepth 100000 in
theorem step1_due {w0 w : World} {F G : Nat → Prop} {b r i : Nat} {S : Ln} (x : Ac) (hp : QSt w0 w F b S) (hq : RSt w0 w G r 2 S) (hd : ∀ k, F k → ¬ G k) (hI : PlayI i S) (hi : i < 200) (o1 : x.op = 1) :
    Calls Try.prog 44 #[.pointer (some ⟨b, 0, none⟩), .pointer (some ⟨r, 0, none⟩), .agg #[.int .i64 x.op, .int .i64 x.id, .int .i64 x.w, .int .i64 x.lag]] w fun e w' => e = .returned (.bool true) ∧ TwoAt 2 w0 b r (i + 1) w' := by
  have HI := Lib.hid hI
  have Hlt := Lib.hid hp.lt
  have Hp0 := Lib.hid (hp.below ((Below.refl _ _).alloc (Nat.le_refl _) (.cells #[.int .i64 x.op, .int .i64 x.id, .int .i64 x.w, .int .i64 x.lag] 75)))
  have Hq0 := Lib.hid (hq.below ((Below.refl _ _).alloc (Nat.le_refl _) (.cells #[.int .i64 x.op, .int .i64 x.id, .int .i64 x.w, .int .i64 x.lag] 75)))
  have HX0 := Lib.hid (heap_new w (.cells #[.int .i64 x.op, .int .i64 x.id, .int .i64 x.w, .int .i64 x.lag] 75))
  have Hd := Lib.hid hd
  have hK : (i : Int) * 1125899906842624 ≤ 1151795604700004352 := by omega
  have hK2 : ((i + 1 : Nat) : Int) * 1125899906842624 ≤ 1152921504606846976 := by omega
  clear hp hq hd hI
  have b0 : (x.op == 0) = false := by simp; omega
  have b1 : (x.op == 1) = true := by simpa using o1
  have Hp := Lib.hid (Hp0.out.below (Below.refl _ _).drew)
  have Hq := Lib.hid (Hq0.out.below (Below.refl _ _).drew)
  have HX := Lib.hid (heap_drew HX0.out)
  obtain ⟨v, hv⟩ : ∃ v, mayE S.l x.id x.w x.lag = v := ⟨_, rfl⟩
  have hI2 := HI.out.put hi x.id x.w x.lag
  have HE1 := Lib.hid (callsNext Hp.out (Put_due Hp.out.q HI.out.ok hK x.id x.w x.lag hv))
  have HE2 := Lib.hid (fun W G (hW : RSt w0 W G r 2 S) => rPutS hW HI.out.ok hK (by omega) x.id x.w x.lag hv)
  generalize putR S x.id x.w x.lag = S2 at hI2 HE1 HE2
  have HI2 := Lib.hid hI2
  clear hv hI2 o1
  go_enter Try.func44, Try.ntmps44
  go_wp2_with fail
  refine wp_region_chain 164 [0, 0, 2, 0, 8, 0, 32, 127, 0, 0, 512, 0, 2048, 0, 8192, 32767, 65535] [(0, none), (1, none), (2, none), (3, none), (4, none), (5, none), (6, none), (8, none), (9, none), (10, none), (11, none), (12, none), (13, none), (14, none), (7, some [8, 9, 10, 11, 12, 13, 14]), (15, some []), (16, none)] (by kernel_rfl) (by kernel_rfl) (by rfl) ?_; simp only [chain, Obs, List.getElem?_toArray, List.getElem?_cons_zero, List.getElem?_cons_succ]
  go_wp2_with (first
    | (with_reducible refine And.intro (by first | with_reducible exact True.intro | with_reducible rfl | go_simp) ?_)
    | (go_at_call 49; (with_reducible refine HE1.out.mono ?_)
       rintro e w4 ⟨rfl, F4, hp4, hf4, hs4⟩
       have hxx := heap_fr HX.out hf4 (fun h => by have := Hlt.out _ h; omega)
       obtain ⟨x0, x1, x2, x3, z0, z1, z2, z3, xl⟩ := blk4 hxx
       have Hxx := Lib.hid hxx
       have Hp4 := Lib.hid hp4
       have Hq4 := Lib.hid (Hq.out.fr hf4 (fun k h1 h2 => Hd.out k h2 h1) Hp.out.new)
       have Hd4 := Lib.hid (fun k (h1 : F4 k) (h2 : G k) => (hs4 k h1).elim (fun h => Hd.out k h h2) (fun h => by have := Hq.out.lt k h2; omega) : ∀ k, F4 k → ¬ G k)
       clear hp4 hf4 hs4 hxx)
    | (go_at_call 65; (with_reducible refine (HE2.out _ _ Hq4.out).mono ?_)
       rintro e w5 ⟨rfl, G5, hq5, hf5, hs5⟩
       have Hq5 := Lib.hid hq5
       have Hp5 := Lib.hid (Hp4.out.fr hf5 Hd4.out Hq4.out.new)
       have Hd5 := Lib.hid (fun k (h1 : F4 k) (h2 : G5 k) => (hs5 k h2).elim (fun h => Hd4.out k h1 h) (fun h => by have := Hp4.out.lt k h1; omega) : ∀ k, F4 k → ¬ G5 k)
       clear hq5 hf5 hs5))
  refine NoPanic.normal ?_
  obtain ⟨ra, rc, hrb⟩ := Hq5.out.cells
  obtain ⟨c0, c1, c2, c3, f0, f1, f2, f3, rl⟩ := blk4 hrb
  have HRB := Lib.hid hrb
  have Hq6 := Lib.hid (Hq5.out.below (Below.refl _ _).drew)
  have Hp6 := Lib.hid (Hp5.out.below (Below.refl _ _).drew)
  have HF1 := Lib.hid (Form_due Hp6.out.q HI2.out.ok)
  have hlen := HI2.out.ok.len
  clear hrb
  go_wp2_with fail
  refine wp_region_chain 164 [0, 1, 3, 0, 15, 31, 63, 127, 255, 127, 639, 1663, 3711, 8191, 16383, 32767] [(0, none), (3, none), (1, some [3]), (2, some [3]), (4, some []), (5, some []), (6, none), (7, none), (9, none), (10, none), (11, none), (12, none), (8, some [9, 10, 11, 12]), (13, none), (14, none), (15, none)] (by kernel_rfl) (by kernel_rfl) (by rfl) ?_; simp only [chain, Obs, List.getElem?_toArray, List.getElem?_cons_zero, List.getElem?_cons_succ]
  go_wp2_with (first
    | (with_reducible refine And.intro (by first | with_reducible exact True.intro | with_reducible rfl | go_simp) ?_)
    | (go_at_call 43; refine HF1.out.mono ?_; rintro e w6 ⟨a6, k6, rfl, ho, hb6⟩; have Hs6 := Lib.hid (Sl.of_own It.len ho); rw [List.length_map]; have Hq7 := Lib.hid (Hq6.out.below hb6); have Hp7 := Lib.hid (Hp6.out.below hb6); have h7 := heap_below (heap_drew HRB.out) hb6; obtain ⟨c0, c1, c2, c3, f0, f1, f2, f3, rl⟩ := blk4 h7; have HRB7 := Lib.hid h7; clear ho hb6 h7)
    | (go_at_call 50; refine (own_due S2.cur (S2.l.map (itOf S2.base)) S2.l.length a6 k6 _ (List.length_map _) (by omega) Hs6.out).mono ?_; rintro e w7 ⟨a7, k7, rfl, ho, hb7⟩; have Hs7 := Lib.hid (Sl.of_own It.len ho); rw [List.length_map]; have Hq8 := Lib.hid (Hq7.out.below hb7); have Hp8 := Lib.hid (Hp7.out.below hb7); have h8 := heap_below HRB7.out hb7; obtain ⟨c0, c1, c2, c3, f0, f1, f2, f3, rl⟩ := blk4 h8; have HRB8 := Lib.hid h8; clear ho hb7 h8)
    | (go_at_call 75; refine (rFormS Hq8.out HI2.out.ok).mono ?_; rintro e w8 ⟨a8, k8, rfl, ho, hb8⟩; have Hs8 := Lib.hid (Sl.of_own It.len ho); have Hs78 := Lib.hid (Hs7.out.below hb8); rw [List.length_map]; have Hq9 := Lib.hid (Hq8.out.below hb8); have Hp9 := Lib.hid (Hp8.out.below hb8); have h9 := heap_below HRB8.out hb8; obtain ⟨c0, c1, c2, c3, f0, f1, f2, f3, rl⟩ := blk4 h9; have HRB9 := Lib.hid h9; clear ho hb8 h9)
    | (go_at_call 74; refine (rSame_any S2.cur S2.cur (S2.l.map (itOf S2.base)) (S2.l.map (itOf S2.base)) S2.l.length S2.l.length a7 a8 k7 k8 _ (List.length_map _) (List.length_map _) (by omega) (by omega) Hs78.out Hs8.out rfl).mono ?_; rintro e w9 ⟨rfl, hb9⟩; have Hq10 := Lib.hid (Hq9.out.below hb9); have Hp10 := Lib.hid (Hp9.out.below hb9); have h10 := heap_below HRB9.out hb9; obtain ⟨c0, c1, c2, c3, f0, f1, f2, f3, rl⟩ := blk4 h10; have HRB10 := Lib.hid h10; clear hb9 h10)
    | (go_at_call 46; refine (Base_due Hp10.out.q).mono ?_; rintro e w11 ⟨rfl, rfl⟩))
  refine NoPanic.normal ?_
  go_wp2_with fail
  go_ret
  exact ⟨rfl, F4, G5, S2, Hp10.out, Hq10.out, Hd5.out, HI2.out⟩
set_option maxHeartbeats 6400000 in
set_option maxRecDepth 100000 in
theorem step2_due {w0 w : World} {F G : Nat → Prop} {b r i : Nat} {S : Ln} (x : Ac) (hp : QSt w0 w F b S) (hq : RSt w0 w G r 2 S) (hd : ∀ k, F k → ¬ G k) (hI : PlayI i S) (hi : i < 200) (o1 : x.op = 2) :
    Calls Try.prog 44 #[.pointer (some ⟨b, 0, none⟩), .pointer (some ⟨r, 0, none⟩), .agg #[.int .i64 x.op, .int .i64 x.id, .int .i64 x.w, .int .i64 x.lag]] w fun e w' => e = .returned (.bool true) ∧ TwoAt 2 w0 b r (i + 1) w' := by
  have HI := Lib.hid hI
  have Hlt := Lib.hid hp.lt
  have Hp0 := Lib.hid (hp.below ((Below.refl _ _).alloc (Nat.le_refl _) (.cells #[.int .i64 x.op, .int .i64 x.id, .int .i64 x.w, .int .i64 x.lag] 75)))
  have Hq0 := Lib.hid (hq.below ((Below.refl _ _).alloc (Nat.le_refl _) (.cells #[.int .i64 x.op, .int .i64 x.id, .int .i64 x.w, .int .i64 x.lag] 75)))
  have HX0 := Lib.hid (heap_new w (.cells #[.int .i64 x.op, .int .i64 x.id, .int .i64 x.w, .int .i64 x.lag] 75))
  have Hd := Lib.hid hd
  have hK : (i : Int) * 1125899906842624 ≤ 1151795604700004352 := by omega
  have hK2 : ((i + 1 : Nat) : Int) * 1125899906842624 ≤ 1152921504606846976 := by omega
  clear hp hq hd hI
  have b0 : (x.op == 0) = false := by simp; omega
  have b1 : (x.op == 1) = false := by simp; omega
  have b2 : (x.op == 2) = true := by simpa using o1
  have Hp := Hp0
  have Hq := Hq0
  have HX := HX0
  obtain ⟨S2, v, f, hv⟩ : ∃ S2 v f, leaveR S x.id = (S2, v, f) := ⟨_, _, _, rfl⟩
  have hI2 := HI.out.leave hi x.id
  rw [hv] at hI2
  have HE1 := Lib.hid (callsNext Hp.out (Leave_due Hp.out.q HI.out.ok x.id hv))
  have HE2 := Lib.hid (fun W G (hW : RSt w0 W G r 2 S) => rLeaveS hW HI.out.ok x.id hv)
  have HI2 := Lib.hid hI2
  clear hv hI2 o1
  go_enter Try.func44, Try.ntmps44
  go_wp2_with fail
  skip
  go_wp2_with (first
    | (with_reducible refine And.intro (by first | with_reducible exact True.intro | with_reducible rfl | go_simp) ?_)
    | (go_at_call 47; (with_reducible refine HE1.out.mono ?_)
       rintro e w4 ⟨rfl, F4, hp4, hf4, hs4⟩
       have hxx := heap_fr HX.out hf4 (fun h => by have := Hlt.out _ h; omega)
       obtain ⟨x0, x1, x2, x3, z0, z1, z2, z3, xl⟩ := blk4 hxx
       have Hxx := Lib.hid hxx
       have Hp4 := Lib.hid hp4
       have Hq4 := Lib.hid (Hq.out.fr hf4 (fun k h1 h2 => Hd.out k h2 h1) Hp.out.new)
       have Hd4 := Lib.hid (fun k (h1 : F4 k) (h2 : G k) => (hs4 k h1).elim (fun h => Hd.out k h h2) (fun h => by have := Hq.out.lt k h2; omega) : ∀ k, F4 k → ¬ G k)
       clear hp4 hf4 hs4 hxx)
    | (go_at_call 68; (with_reducible refine (HE2.out _ _ Hq4.out).mono ?_)
       rintro e w5 ⟨rfl, G5, hq5, hf5, hs5⟩
       have Hq5 := Lib.hid hq5
       have Hp5 := Lib.hid (Hp4.out.fr hf5 Hd4.out Hq4.out.new)
       have Hd5 := Lib.hid (fun k (h1 : F4 k) (h2 : G5 k) => (hs5 k h2).elim (fun h => Hd4.out k h1 h) (fun h => by have := Hp4.out.lt k h1; omega) : ∀ k, F4 k → ¬ G5 k)
       clear hq5 hf5 hs5))
  skip
  obtain ⟨ra, rc, hrb⟩ := Hq5.out.cells
  obtain ⟨c0, c1, c2, c3, f0, f1, f2, f3, rl⟩ := blk4 hrb
  have HRB := Lib.hid hrb
  have Hq6 := Lib.hid (Hq5.out.below (Below.refl _ _).drew)
  have Hp6 := Lib.hid (Hp5.out.below (Below.refl _ _).drew)
  have HF1 := Lib.hid (Form_due Hp6.out.q HI2.out.ok)
  have hlen := HI2.out.ok.len
  clear hrb
  go_wp2_with fail
  refine wp_region_chain 164 [0, 1, 3, 0, 15, 31, 63, 127, 255, 127, 639, 1663, 3711, 8191, 16383, 32767] [(0, none), (3, none), (1, some [3]), (2, some [3]), (4, some []), (5, some []), (6, none), (7, none), (9, none), (10, none), (11, none), (12, none), (8, some [9, 10, 11, 12]), (13, none), (14, none), (15, none)] (by kernel_rfl) (by kernel_rfl) (by rfl) ?_; simp only [chain, Obs, List.getElem?_toArray, List.getElem?_cons_zero, List.getElem?_cons_succ]
  go_wp2_with (first
    | (with_reducible refine And.intro (by first | with_reducible exact True.intro | with_reducible rfl | go_simp) ?_)
    | (go_at_call 43; refine HF1.out.mono ?_; rintro e w6 ⟨a6, k6, rfl, ho, hb6⟩; have Hs6 := Lib.hid (Sl.of_own It.len ho); rw [List.length_map]; have Hq7 := Lib.hid (Hq6.out.below hb6); have Hp7 := Lib.hid (Hp6.out.below hb6); have h7 := heap_below (heap_drew HRB.out) hb6; obtain ⟨c0, c1, c2, c3, f0, f1, f2, f3, rl⟩ := blk4 h7; have HRB7 := Lib.hid h7; clear ho hb6 h7)
    | (go_at_call 50; refine (own_due S2.cur (S2.l.map (itOf S2.base)) S2.l.length a6 k6 _ (List.length_map _) (by omega) Hs6.out).mono ?_; rintro e w7 ⟨a7, k7, rfl, ho, hb7⟩; have Hs7 := Lib.hid (Sl.of_own It.len ho); rw [List.length_map]; have Hq8 := Lib.hid (Hq7.out.below hb7); have Hp8 := Lib.hid (Hp7.out.below hb7); have h8 := heap_below HRB7.out hb7; obtain ⟨c0, c1, c2, c3, f0, f1, f2, f3, rl⟩ := blk4 h8; have HRB8 := Lib.hid h8; clear ho hb7 h8)
    | (go_at_call 75; refine (rFormS Hq8.out HI2.out.ok).mono ?_; rintro e w8 ⟨a8, k8, rfl, ho, hb8⟩; have Hs8 := Lib.hid (Sl.of_own It.len ho); have Hs78 := Lib.hid (Hs7.out.below hb8); rw [List.length_map]; have Hq9 := Lib.hid (Hq8.out.below hb8); have Hp9 := Lib.hid (Hp8.out.below hb8); have h9 := heap_below HRB8.out hb8; obtain ⟨c0, c1, c2, c3, f0, f1, f2, f3, rl⟩ := blk4 h9; have HRB9 := Lib.hid h9; clear ho hb8 h9)
    | (go_at_call 74; refine (rSame_any S2.cur S2.cur (S2.l.map (itOf S2.base)) (S2.l.map (itOf S2.base)) S2.l.length S2.l.length a7 a8 k7 k8 _ (List.length_map _) (List.length_map _) (by omega) (by omega) Hs78.out Hs8.out rfl).mono ?_; rintro e w9 ⟨rfl, hb9⟩; have Hq10 := Lib.hid (Hq9.out.below hb9); have Hp10 := Lib.hid (Hp9.out.below hb9); have h10 := heap_below HRB9.out hb9; obtain ⟨c0, c1, c2, c3, f0, f1, f2, f3, rl⟩ := blk4 h10; have HRB10 := Lib.hid h10; clear hb9 h10)
    | (go_at_call 46; refine (Base_due Hp10.out.q).mono ?_; rintro e w11 ⟨rfl, rfl⟩))
  refine NoPanic.normal ?_
  go_wp2_with fail
  go_ret
  exact ⟨rfl, F4, G5, S2, Hp10.out, Hq10.out, Hd5.out, HI2.out⟩
set_option maxHeartbeats 6400000 in
set_option maxRecDepth 100000 in
theorem step3_due {w0 w : World} {F G : Nat → Prop} {b r i : Nat} {S : Ln} (x : Ac) (hp : QSt w0 w F b S) (hq : RSt w0 w G r 2 S) (hd : ∀ k, F k → ¬ G k) (hI : PlayI i S) (hi : i < 200) (o1 : x.op = 3) :
    Calls Try.prog 44 #[.pointer (some ⟨b, 0, none⟩), .pointer (some ⟨r, 0, none⟩), .agg #[.int .i64 x.op, .int .i64 x.id, .int .i64 x.w, .int .i64 x.lag]] w fun e w' => e = .returned (.bool true) ∧ TwoAt 2 w0 b r (i + 1) w' := by
  have HI := Lib.hid hI
  have Hlt := Lib.hid hp.lt
  have Hp0 := Lib.hid (hp.below ((Below.refl _ _).alloc (Nat.le_refl _) (.cells #[.int .i64 x.op, .int .i64 x.id, .int .i64 x.w, .int .i64 x.lag] 75)))
  have Hq0 := Lib.hid (hq.below ((Below.refl _ _).alloc (Nat.le_refl _) (.cells #[.int .i64 x.op, .int .i64 x.id, .int .i64 x.w, .int .i64 x.lag] 75)))
  have HX0 := Lib.hid (heap_new w (.cells #[.int .i64 x.op, .int .i64 x.id, .int .i64 x.w, .int .i64 x.lag] 75))
  have Hd := Lib.hid hd
  have hK : (i : Int) * 1125899906842624 ≤ 1151795604700004352 := by omega
  have hK2 : ((i + 1 : Nat) : Int) * 1125899906842624 ≤ 1152921504606846976 := by omega
  clear hp hq hd hI
  have b0 : (x.op == 0) = false := by simp; omega
  have b1 : (x.op == 1) = false := by simp; omega
  have b2 : (x.op == 2) = false := by simp; omega
  have b3 : (x.op == 3) = true := by simpa using o1
  have Hp := Lib.hid (Hp0.out.below (Below.refl _ _).drew)
  have Hq := Lib.hid (Hq0.out.below (Below.refl _ _).drew)
  have HX := Lib.hid (heap_drew HX0.out)
  obtain ⟨S2, v, hv⟩ : ∃ S2 v, weighR S x.id x.w = (S2, v) := ⟨_, _, rfl⟩
  have hI2 := HI.out.weigh hi x.id x.w
  rw [hv] at hI2
  have HE1 := Lib.hid (callsNext Hp.out (Weigh_due Hp.out.q HI.out.ok x.id x.w hv))
  have HE2 := Lib.hid (fun W G (hW : RSt w0 W G r 2 S) => rWeighS hW HI.out.ok x.id x.w hv)
  have HI2 := Lib.hid hI2
  clear hv hI2 o1
  go_enter Try.func44, Try.ntmps44
  go_wp2_with fail
  refine wp_region_chain 164 [0, 0, 2, 0, 8, 31, 0, 0, 128, 0, 512, 2047, 4095] [(0, none), (1, none), (2, none), (3, none), (4, none), (6, none), (7, none), (8, none), (9, none), (10, none), (5, some [6, 7, 8, 9, 10]), (11, some []), (12, none)] (by kernel_rfl) (by kernel_rfl) (by rfl) ?_; simp only [chain, Obs, List.getElem?_toArray, List.getElem?_cons_zero, List.getElem?_cons_succ]
  go_wp2_with (first
    | (with_reducible refine And.intro (by first | with_reducible exact True.intro | with_reducible rfl | go_simp) ?_)
    | (go_at_call 48; (with_reducible refine HE1.out.mono ?_)
       rintro e w4 ⟨rfl, F4, hp4, hf4, hs4⟩
       have hxx := heap_fr HX.out hf4 (fun h => by have := Hlt.out _ h; omega)
       obtain ⟨x0, x1, x2, x3, z0, z1, z2, z3, xl⟩ := blk4 hxx
       have Hxx := Lib.hid hxx
       have Hp4 := Lib.hid hp4
       have Hq4 := Lib.hid (Hq.out.fr hf4 (fun k h1 h2 => Hd.out k h2 h1) Hp.out.new)
       have Hd4 := Lib.hid (fun k (h1 : F4 k) (h2 : G k) => (hs4 k h1).elim (fun h => Hd.out k h h2) (fun h => by have := Hq.out.lt k h2; omega) : ∀ k, F4 k → ¬ G k)
       clear hp4 hf4 hs4 hxx)
    | (go_at_call 70; (with_reducible refine (HE2.out _ _ Hq4.out).mono ?_)
       rintro e w5 ⟨rfl, G5, hq5, hf5, hs5⟩
       have Hq5 := Lib.hid hq5
       have Hp5 := Lib.hid (Hp4.out.fr hf5 Hd4.out Hq4.out.new)
       have Hd5 := Lib.hid (fun k (h1 : F4 k) (h2 : G5 k) => (hs5 k h2).elim (fun h => Hd4.out k h1 h) (fun h => by have := Hp4.out.lt k h1; omega) : ∀ k, F4 k → ¬ G5 k)
       clear hq5 hf5 hs5))
  refine NoPanic.normal ?_
  obtain ⟨ra, rc, hrb⟩ := Hq5.out.cells
  obtain ⟨c0, c1, c2, c3, f0, f1, f2, f3, rl⟩ := blk4 hrb
  have HRB := Lib.hid hrb
  have Hq6 := Lib.hid (Hq5.out.below (Below.refl _ _).drew)
  have Hp6 := Lib.hid (Hp5.out.below (Below.refl _ _).drew)
  have HF1 := Lib.hid (Form_due Hp6.out.q HI2.out.ok)
  have hlen := HI2.out.ok.len
  clear hrb
  go_wp2_with fail
  refine wp_region_chain 164 [0, 1, 3, 0, 15, 31, 63, 127, 255, 127, 639, 1663, 3711, 8191, 16383, 32767] [(0, none), (3, none), (1, some [3]), (2, some [3]), (4, some []), (5, some []), (6, none), (7, none), (9, none), (10, none), (11, none), (12, none), (8, some [9, 10, 11, 12]), (13, none), (14, none), (15, none)] (by kernel_rfl) (by kernel_rfl) (by rfl) ?_; simp only [chain, Obs, List.getElem?_toArray, List.getElem?_cons_zero, List.getElem?_cons_succ]
  go_wp2_with (first
    | (with_reducible refine And.intro (by first | with_reducible exact True.intro | with_reducible rfl | go_simp) ?_)
    | (go_at_call 43; refine HF1.out.mono ?_; rintro e w6 ⟨a6, k6, rfl, ho, hb6⟩; have Hs6 := Lib.hid (Sl.of_own It.len ho); rw [List.length_map]; have Hq7 := Lib.hid (Hq6.out.below hb6); have Hp7 := Lib.hid (Hp6.out.below hb6); have h7 := heap_below (heap_drew HRB.out) hb6; obtain ⟨c0, c1, c2, c3, f0, f1, f2, f3, rl⟩ := blk4 h7; have HRB7 := Lib.hid h7; clear ho hb6 h7)
    | (go_at_call 50; refine (own_due S2.cur (S2.l.map (itOf S2.base)) S2.l.length a6 k6 _ (List.length_map _) (by omega) Hs6.out).mono ?_; rintro e w7 ⟨a7, k7, rfl, ho, hb7⟩; have Hs7 := Lib.hid (Sl.of_own It.len ho); rw [List.length_map]; have Hq8 := Lib.hid (Hq7.out.below hb7); have Hp8 := Lib.hid (Hp7.out.below hb7); have h8 := heap_below HRB7.out hb7; obtain ⟨c0, c1, c2, c3, f0, f1, f2, f3, rl⟩ := blk4 h8; have HRB8 := Lib.hid h8; clear ho hb7 h8)
    | (go_at_call 75; refine (rFormS Hq8.out HI2.out.ok).mono ?_; rintro e w8 ⟨a8, k8, rfl, ho, hb8⟩; have Hs8 := Lib.hid (Sl.of_own It.len ho); have Hs78 := Lib.hid (Hs7.out.below hb8); rw [List.length_map]; have Hq9 := Lib.hid (Hq8.out.below hb8); have Hp9 := Lib.hid (Hp8.out.below hb8); have h9 := heap_below HRB8.out hb8; obtain ⟨c0, c1, c2, c3, f0, f1, f2, f3, rl⟩ := blk4 h9; have HRB9 := Lib.hid h9; clear ho hb8 h9)
    | (go_at_call 74; refine (rSame_any S2.cur S2.cur (S2.l.map (itOf S2.base)) (S2.l.map (itOf S2.base)) S2.l.length S2.l.length a7 a8 k7 k8 _ (List.length_map _) (List.length_map _) (by omega) (by omega) Hs78.out Hs8.out rfl).mono ?_; rintro e w9 ⟨rfl, hb9⟩; have Hq10 := Lib.hid (Hq9.out.below hb9); have Hp10 := Lib.hid (Hp9.out.below hb9); have h10 := heap_below HRB9.out hb9; obtain ⟨c0, c1, c2, c3, f0, f1, f2, f3, rl⟩ := blk4 h10; have HRB10 := Lib.hid h10; clear hb9 h10)
    | (go_at_call 46; refine (Base_due Hp10.out.q).mono ?_; rintro e w11 ⟨rfl, rfl⟩))
  refine NoPanic.normal ?_
  go_wp2_with fail
  go_ret
  exact ⟨rfl, F4, G5, S2, Hp10.out, Hq10.out, Hd5.out, HI2.out⟩
set_option maxHeartbeats 6400000 in
set_option maxRecDepth 100000 in
theorem step4_due {w0 w : World} {F G : Nat → Prop} {b r i : Nat} {S : Ln} (x : Ac) (hp : QSt w0 w F b S) (hq : RSt w0 w G r 2 S) (hd : ∀ k, F k → ¬ G k) (hI : PlayI i S) (hi : i < 200) (o1 : x.op = 4) :
    Calls Try.prog 44 #[.pointer (some ⟨b, 0, none⟩), .pointer (some ⟨r, 0, none⟩), .agg #[.int .i64 x.op, .int .i64 x.id, .int .i64 x.w, .int .i64 x.lag]] w fun e w' => e = .returned (.bool true) ∧ TwoAt 2 w0 b r (i + 1) w' := by
  have HI := Lib.hid hI
  have Hlt := Lib.hid hp.lt
  have Hp0 := Lib.hid (hp.below ((Below.refl _ _).alloc (Nat.le_refl _) (.cells #[.int .i64 x.op, .int .i64 x.id, .int .i64 x.w, .int .i64 x.lag] 75)))
  have Hq0 := Lib.hid (hq.below ((Below.refl _ _).alloc (Nat.le_refl _) (.cells #[.int .i64 x.op, .int .i64 x.id, .int .i64 x.w, .int .i64 x.lag] 75)))
  have HX0 := Lib.hid (heap_new w (.cells #[.int .i64 x.op, .int .i64 x.id, .int .i64 x.w, .int .i64 x.lag] 75))
  have Hd := Lib.hid hd
  have hK : (i : Int) * 1125899906842624 ≤ 1151795604700004352 := by omega
  have hK2 : ((i + 1 : Nat) : Int) * 1125899906842624 ≤ 1152921504606846976 := by omega
  clear hp hq hd hI
  have b0 : (x.op == 0) = false := by simp; omega
  have b1 : (x.op == 1) = false := by simp; omega
  have b2 : (x.op == 2) = false := by simp; omega
  have b3 : (x.op == 3) = false := by simp; omega
  have b4 : (x.op == 4) = true := by simpa using o1
  have Hp := Hp0
  have Hq := Hq0
  have HX := HX0
  obtain ⟨S2, v, f, hv⟩ : ∃ S2 v f, pickdue S = (S2, v, f) := ⟨_, _, _, rfl⟩
  have hI2 := HI.out.pick hi (pickok_due HI.out.ok) (pickis_due S)
  rw [hv] at hI2
  have HE1 := Lib.hid (callsNext Hp.out (Pick_due Hp.out.q HI.out.ok hv))
  have HE2 := Lib.hid (fun W G (hW : RSt w0 W G r 2 S) => rPickS_due hW HI.out.ok HI.out.far (by omega) hv)
  have HI2 := Lib.hid hI2
  clear hv hI2 o1
  go_enter Try.func44, Try.ntmps44
  go_wp2_with fail
  skip
  go_wp2_with (first
    | (with_reducible refine And.intro (by first | with_reducible exact True.intro | with_reducible rfl | go_simp) ?_)
    | (go_at_call 41; (with_reducible refine HE1.out.mono ?_)
       rintro e w4 ⟨rfl, F4, hp4, hf4, hs4⟩
       have hxx := heap_fr HX.out hf4 (fun h => by have := Hlt.out _ h; omega)
       obtain ⟨x0, x1, x2, x3, z0, z1, z2, z3, xl⟩ := blk4 hxx
       have Hxx := Lib.hid hxx
       have Hp4 := Lib.hid hp4
       have Hq4 := Lib.hid (Hq.out.fr hf4 (fun k h1 h2 => Hd.out k h2 h1) Hp.out.new)
       have Hd4 := Lib.hid (fun k (h1 : F4 k) (h2 : G k) => (hs4 k h1).elim (fun h => Hd.out k h h2) (fun h => by have := Hq.out.lt k h2; omega) : ∀ k, F4 k → ¬ G k)
       clear hp4 hf4 hs4 hxx)
    | (go_at_call 71; (with_reducible refine (HE2.out _ _ Hq4.out).mono ?_)
       rintro e w5 ⟨rfl, G5, hq5, hf5, hs5⟩
       have Hq5 := Lib.hid hq5
       have Hp5 := Lib.hid (Hp4.out.fr hf5 Hd4.out Hq4.out.new)
       have Hd5 := Lib.hid (fun k (h1 : F4 k) (h2 : G5 k) => (hs5 k h2).elim (fun h => Hd4.out k h1 h) (fun h => by have := Hp4.out.lt k h1; omega) : ∀ k, F4 k → ¬ G5 k)
       clear hq5 hf5 hs5))
  skip
  obtain ⟨ra, rc, hrb⟩ := Hq5.out.cells
  obtain ⟨c0, c1, c2, c3, f0, f1, f2, f3, rl⟩ := blk4 hrb
  have HRB := Lib.hid hrb
  have Hq6 := Lib.hid (Hq5.out.below (Below.refl _ _).drew)
  have Hp6 := Lib.hid (Hp5.out.below (Below.refl _ _).drew)
  have HF1 := Lib.hid (Form_due Hp6.out.q HI2.out.ok)
  have hlen := HI2.out.ok.len
  clear hrb
  go_wp2_with fail
  refine wp_region_chain 164 [0, 1, 3, 0, 15, 31, 63, 127, 255, 127, 639, 1663, 3711, 8191, 16383, 32767] [(0, none), (3, none), (1, some [3]), (2, some [3]), (4, some []), (5, some []), (6, none), (7, none), (9, none), (10, none), (11, none), (12, none), (8, some [9, 10, 11, 12]), (13, none), (14, none), (15, none)] (by kernel_rfl) (by kernel_rfl) (by rfl) ?_; simp only [chain, Obs, List.getElem?_toArray, List.getElem?_cons_zero, List.getElem?_cons_succ]
  go_wp2_with (first
    | (with_reducible refine And.intro (by first | with_reducible exact True.intro | with_reducible rfl | go_simp) ?_)
    | (go_at_call 43; refine HF1.out.mono ?_; rintro e w6 ⟨a6, k6, rfl, ho, hb6⟩; have Hs6 := Lib.hid (Sl.of_own It.len ho); rw [List.length_map]; have Hq7 := Lib.hid (Hq6.out.below hb6); have Hp7 := Lib.hid (Hp6.out.below hb6); have h7 := heap_below (heap_drew HRB.out) hb6; obtain ⟨c0, c1, c2, c3, f0, f1, f2, f3, rl⟩ := blk4 h7; have HRB7 := Lib.hid h7; clear ho hb6 h7)
    | (go_at_call 50; refine (own_due S2.cur (S2.l.map (itOf S2.base)) S2.l.length a6 k6 _ (List.length_map _) (by omega) Hs6.out).mono ?_; rintro e w7 ⟨a7, k7, rfl, ho, hb7⟩; have Hs7 := Lib.hid (Sl.of_own It.len ho); rw [List.length_map]; have Hq8 := Lib.hid (Hq7.out.below hb7); have Hp8 := Lib.hid (Hp7.out.below hb7); have h8 := heap_below HRB7.out hb7; obtain ⟨c0, c1, c2, c3, f0, f1, f2, f3, rl⟩ := blk4 h8; have HRB8 := Lib.hid h8; clear ho hb7 h8)
    | (go_at_call 75; refine (rFormS Hq8.out HI2.out.ok).mono ?_; rintro e w8 ⟨a8, k8, rfl, ho, hb8⟩; have Hs8 := Lib.hid (Sl.of_own It.len ho); have Hs78 := Lib.hid (Hs7.out.below hb8); rw [List.length_map]; have Hq9 := Lib.hid (Hq8.out.below hb8); have Hp9 := Lib.hid (Hp8.out.below hb8); have h9 := heap_below HRB8.out hb8; obtain ⟨c0, c1, c2, c3, f0, f1, f2, f3, rl⟩ := blk4 h9; have HRB9 := Lib.hid h9; clear ho hb8 h9)
    | (go_at_call 74; refine (rSame_any S2.cur S2.cur (S2.l.map (itOf S2.base)) (S2.l.map (itOf S2.base)) S2.l.length S2.l.length a7 a8 k7 k8 _ (List.length_map _) (List.length_map _) (by omega) (by omega) Hs78.out Hs8.out rfl).mono ?_; rintro e w9 ⟨rfl, hb9⟩; have Hq10 := Lib.hid (Hq9.out.below hb9); have Hp10 := Lib.hid (Hp9.out.below hb9); have h10 := heap_below HRB9.out hb9; obtain ⟨c0, c1, c2, c3, f0, f1, f2, f3, rl⟩ := blk4 h10; have HRB10 := Lib.hid h10; clear hb9 h10)
    | (go_at_call 46; refine (Base_due Hp10.out.q).mono ?_; rintro e w11 ⟨rfl, rfl⟩))
  refine NoPanic.normal ?_
  go_wp2_with fail
  go_ret
  exact ⟨rfl, F4, G5, S2, Hp10.out, Hq10.out, Hd5.out, HI2.out⟩
set_option maxHeartbeats 6400000 in
set_option maxRecDepth 100000 in
theorem step5_due {w0 w : World} {F G : Nat → Prop} {b r i : Nat} {S : Ln} (x : Ac) (hp : QSt w0 w F b S) (hq : RSt w0 w G r 2 S) (hd : ∀ k, F k → ¬ G k) (hI : PlayI i S) (hi : i < 200) (o1 : x.op = 5) :
    Calls Try.prog 44 #[.pointer (some ⟨b, 0, none⟩), .pointer (some ⟨r, 0, none⟩), .agg #[.int .i64 x.op, .int .i64 x.id, .int .i64 x.w, .int .i64 x.lag]] w fun e w' => e = .returned (.bool true) ∧ TwoAt 2 w0 b r (i + 1) w' := by
  have HI := Lib.hid hI
  have Hlt := Lib.hid hp.lt
  have Hp0 := Lib.hid (hp.below ((Below.refl _ _).alloc (Nat.le_refl _) (.cells #[.int .i64 x.op, .int .i64 x.id, .int .i64 x.w, .int .i64 x.lag] 75)))
  have Hq0 := Lib.hid (hq.below ((Below.refl _ _).alloc (Nat.le_refl _) (.cells #[.int .i64 x.op, .int .i64 x.id, .int .i64 x.w, .int .i64 x.lag] 75)))
  have HX0 := Lib.hid (heap_new w (.cells #[.int .i64 x.op, .int .i64 x.id, .int .i64 x.w, .int .i64 x.lag] 75))
  have Hd := Lib.hid hd
  have hK : (i : Int) * 1125899906842624 ≤ 1151795604700004352 := by omega
  have hK2 : ((i + 1 : Nat) : Int) * 1125899906842624 ≤ 1152921504606846976 := by omega
  clear hp hq hd hI
  have b0 : (x.op == 0) = false := by simp; omega
  have b1 : (x.op == 1) = false := by simp; omega
  have b2 : (x.op == 2) = false := by simp; omega
  have b3 : (x.op == 3) = false := by simp; omega
  have b4 : (x.op == 4) = false := by simp; omega
  have b5 : (x.op == 5) = true := by simpa using o1
  have Hp := Hp0
  have Hq := Hq0
  have HX := HX0
  obtain ⟨S2, v, f, hv⟩ : ∃ S2 v f, chargeR S = (S2, v, f) := ⟨_, _, _, rfl⟩
  have hI2 := HI.out.charge hi
  rw [hv] at hI2
  have HE1 := Lib.hid (callsNext Hp.out (Charge_due Hp.out.q HI.out.ok hv))
  have HE2 := Lib.hid (fun W G (hW : RSt w0 W G r 2 S) => rChargeS hW HI.out.ok HI.out.day hv)
  have HI2 := Lib.hid hI2
  clear hv hI2 o1
  go_enter Try.func44, Try.ntmps44
  go_wp2_with fail
  skip
  go_wp2_with (first
    | (with_reducible refine And.intro (by first | with_reducible exact True.intro | with_reducible rfl | go_simp) ?_)
    | (go_at_call 42; (with_reducible refine HE1.out.mono ?_)
       rintro e w4 ⟨rfl, F4, hp4, hf4, hs4⟩
       have hxx := heap_fr HX.out hf4 (fun h => by have := Hlt.out _ h; omega)
       obtain ⟨x0, x1, x2, x3, z0, z1, z2, z3, xl⟩ := blk4 hxx
       have Hxx := Lib.hid hxx
       have Hp4 := Lib.hid hp4
       have Hq4 := Lib.hid (Hq.out.fr hf4 (fun k h1 h2 => Hd.out k h2 h1) Hp.out.new)
       have Hd4 := Lib.hid (fun k (h1 : F4 k) (h2 : G k) => (hs4 k h1).elim (fun h => Hd.out k h h2) (fun h => by have := Hq.out.lt k h2; omega) : ∀ k, F4 k → ¬ G k)
       clear hp4 hf4 hs4 hxx)
    | (go_at_call 72; (with_reducible refine (HE2.out _ _ Hq4.out).mono ?_)
       rintro e w5 ⟨rfl, G5, hq5, hf5, hs5⟩
       have Hq5 := Lib.hid hq5
       have Hp5 := Lib.hid (Hp4.out.fr hf5 Hd4.out Hq4.out.new)
       have Hd5 := Lib.hid (fun k (h1 : F4 k) (h2 : G5 k) => (hs5 k h2).elim (fun h => Hd4.out k h1 h) (fun h => by have := Hp4.out.lt k h1; omega) : ∀ k, F4 k → ¬ G5 k)
       clear hq5 hf5 hs5))
  skip
  obtain ⟨ra, rc, hrb⟩ := Hq5.out.cells
  obtain ⟨c0, c1, c2, c3, f0, f1, f2, f3, rl⟩ := blk4 hrb
  have HRB := Lib.hid hrb
  have Hq6 := Lib.hid (Hq5.out.below (Below.refl _ _).drew)
  have Hp6 := Lib.hid (Hp5.out.below (Below.refl _ _).drew)
  have HF1 := Lib.hid (Form_due Hp6.out.q HI2.out.ok)
  have hlen := HI2.out.ok.len
  clear hrb
  go_wp2_with fail
  refine wp_region_chain 164 [0, 1, 3, 0, 15, 31, 63, 127, 255, 127, 639, 1663, 3711, 8191, 16383, 32767] [(0, none), (3, none), (1, some [3]), (2, some [3]), (4, some []), (5, some []), (6, none), (7, none), (9, none), (10, none), (11, none), (12, none), (8, some [9, 10, 11, 12]), (13, none), (14, none), (15, none)] (by kernel_rfl) (by kernel_rfl) (by rfl) ?_; simp only [chain, Obs, List.getElem?_toArray, List.getElem?_cons_zero, List.getElem?_cons_succ]
  go_wp2_with (first
    | (with_reducible refine And.intro (by first | with_reducible exact True.intro | with_reducible rfl | go_simp) ?_)
    | (go_at_call 43; refine HF1.out.mono ?_; rintro e w6 ⟨a6, k6, rfl, ho, hb6⟩; have Hs6 := Lib.hid (Sl.of_own It.len ho); rw [List.length_map]; have Hq7 := Lib.hid (Hq6.out.below hb6); have Hp7 := Lib.hid (Hp6.out.below hb6); have h7 := heap_below (heap_drew HRB.out) hb6; obtain ⟨c0, c1, c2, c3, f0, f1, f2, f3, rl⟩ := blk4 h7; have HRB7 := Lib.hid h7; clear ho hb6 h7)
    | (go_at_call 50; refine (own_due S2.cur (S2.l.map (itOf S2.base)) S2.l.length a6 k6 _ (List.length_map _) (by omega) Hs6.out).mono ?_; rintro e w7 ⟨a7, k7, rfl, ho, hb7⟩; have Hs7 := Lib.hid (Sl.of_own It.len ho); rw [List.length_map]; have Hq8 := Lib.hid (Hq7.out.below hb7); have Hp8 := Lib.hid (Hp7.out.below hb7); have h8 := heap_below HRB7.out hb7; obtain ⟨c0, c1, c2, c3, f0, f1, f2, f3, rl⟩ := blk4 h8; have HRB8 := Lib.hid h8; clear ho hb7 h8)
    | (go_at_call 75; refine (rFormS Hq8.out HI2.out.ok).mono ?_; rintro e w8 ⟨a8, k8, rfl, ho, hb8⟩; have Hs8 := Lib.hid (Sl.of_own It.len ho); have Hs78 := Lib.hid (Hs7.out.below hb8); rw [List.length_map]; have Hq9 := Lib.hid (Hq8.out.below hb8); have Hp9 := Lib.hid (Hp8.out.below hb8); have h9 := heap_below HRB8.out hb8; obtain ⟨c0, c1, c2, c3, f0, f1, f2, f3, rl⟩ := blk4 h9; have HRB9 := Lib.hid h9; clear ho hb8 h9)
    | (go_at_call 74; refine (rSame_any S2.cur S2.cur (S2.l.map (itOf S2.base)) (S2.l.map (itOf S2.base)) S2.l.length S2.l.length a7 a8 k7 k8 _ (List.length_map _) (List.length_map _) (by omega) (by omega) Hs78.out Hs8.out rfl).mono ?_; rintro e w9 ⟨rfl, hb9⟩; have Hq10 := Lib.hid (Hq9.out.below hb9); have Hp10 := Lib.hid (Hp9.out.below hb9); have h10 := heap_below HRB9.out hb9; obtain ⟨c0, c1, c2, c3, f0, f1, f2, f3, rl⟩ := blk4 h10; have HRB10 := Lib.hid h10; clear hb9 h10)
    | (go_at_call 46; refine (Base_due Hp10.out.q).mono ?_; rintro e w11 ⟨rfl, rfl⟩))
  refine NoPanic.normal ?_
  go_wp2_with fail
  go_ret
  exact ⟨rfl, F4, G5, S2, Hp10.out, Hq10.out, Hd5.out, HI2.out⟩
end Go.Proofs.Ytciiookcdkjegaa
