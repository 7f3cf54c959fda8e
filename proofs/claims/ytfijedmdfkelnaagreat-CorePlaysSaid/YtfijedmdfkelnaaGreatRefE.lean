/- The document's own queue: Enter. -/
import Derived.Test.YtfijedmdfkelnaaGreatRefD
namespace Go.Proofs.YtfijedmdfkelnaaGreat
open Go.RowKit
set_option linter.unusedVariables false
set_option linter.unusedSimpArgs false

theorem insP_at {x : Pt} : ∀ {l : List Pt} {k : Nat}, (∀ i, i < k → ∀ y, l[i]? = some y → y.id < x.id) → k ≤ l.length → (∀ y, l[k]? = some y → x.id < y.id) → insP x l = l.take k ++ x :: l.drop k
  | [], k, _, hk, _ => by
    have : k = 0 := by simpa using hk
    subst this; rfl
  | y :: t, 0, _, _, h2 => by
    have := h2 y rfl
    simp only [insP, if_pos this, List.take_zero, List.drop_zero, List.nil_append]
  | y :: t, k + 1, h1, hk, h2 => by
    have h0 := h1 0 (by omega) y rfl
    have := insP_at (x := x) (l := t) (k := k) (fun i hi z hz => h1 (i + 1) (by omega) z (by simpa using hz)) (by simpa using hk) (fun z hz => h2 z (by simpa using hz))
    simp only [insP, if_neg (show ¬ x.id < y.id by omega), this, List.take_succ_cons, List.drop_succ_cons, List.cons_append]
theorem RAt.addr {w : World} {b c : Nat} {a : Option Addr} {tag : Int} {S : Ln} (h : RAt w b a c tag S) : (a = none ∧ S.l = [] ∧ c = 0) ∨ ∃ r, a = some ⟨r, 0, none⟩ ∧ r ≠ b ∧ r < w.heap.size := by
  rcases h.row.2 with ⟨hv, h0⟩ | ⟨g, cap, cu, hv, _, hg, _⟩
  · simp at hv; exact .inl ⟨hv.1, hv.2.1, hv.2.2⟩
  · simp at hv
    obtain ⟨rfl, _⟩ := hv
    exact .inr ⟨g, rfl, h.apart _ rfl, (Array.getElem?_eq_some_iff.1 hg).1⟩

theorem rEnter_err {w : World} {b c : Nat} {a : Option Addr} {tag : Int} {S : Ln} (h : RAt w b a c tag S) (hl : S.l.length ≤ 64) (id tw lag : Int) (ex : Bool) {v : Int} (hv : mayE S.l id tw lag = v) (h0 : v ≠ 0) :
    Calls Tryz.prog 11 #[.pointer (some ⟨b, 0, none⟩), .int .i64 id, .int .i64 tw, .int .i64 lag, .bool ex] w fun e w' => e = .returned (.int .i64 v) ∧ w = w' := by
  obtain ⟨c0, c1, c2, c3, f0, f1, f2, f3, hlt⟩ := blk4 h.blk
  by_cases hm : mayB id tw lag = true
  · obtain ⟨m1, m2, m3, m4, m5, m6⟩ := mayB_true hm
    have hg : goodW tw = true := by unfold goodW; simp; omega
    have Hg := Lib.hid hg
    rcases fi_cases (isId id) S.l with ⟨h1, h2⟩ | ⟨j, x, h1, hj, hx, hp, _⟩
    · have ha : S.l.any (isId id) = false := by rw [List.any_eq_false]; intro x hx; rw [h2 x hx]; simp
      have h64 : S.l.length = 64 := by
        unfold mayE at hv
        rw [if_pos hm, ha, if_neg (by simp)] at hv
        split at hv
        · assumption
        · omega
      have hv3 : v = 3 := by rw [← hv]; unfold mayE; rw [if_pos hm, ha, if_neg (by simp), if_pos h64]
      have Hf := Lib.hid (rat_any h hl id h1)
      have h64i : (64 : Int) ≤ S.l.length := by omega
      rw [hv3]
      clear h hv h0 hv3 h64 ha h2 h1 hm hg
      go_enter Tryz.func11, Tryz.ntmps11
      go_wp2_with (first
        | (go_at_call 47; refine (rGood_any _ _ Hg.out).mono ?_; rintro e w1 ⟨rfl, rfl⟩)
        | (go_at_call 48; refine Hf.out.mono ?_; rintro e w2 ⟨rfl, rfl⟩))
      go_ret
      exact ⟨rfl, rfl⟩
    · have ha : S.l.any (isId id) = true := List.any_eq_true.2 ⟨x, List.mem_of_getElem? hx, hp⟩
      have hv4 : v = 4 := by rw [← hv]; unfold mayE; rw [if_pos hm, ha, if_pos rfl]
      have Hf := Lib.hid (rat_any h hl id h1)
      have hj0 : (0 : Int) ≤ j := by omega
      rw [hv4]
      clear h hv h0 hv4 ha h1 hm hx hp hg
      go_enter Tryz.func11, Tryz.ntmps11
      go_wp2_with (first
        | (go_at_call 47; refine (rGood_any _ _ Hg.out).mono ?_; rintro e w1 ⟨rfl, rfl⟩)
        | (go_at_call 48; refine Hf.out.mono ?_; rintro e w2 ⟨rfl, rfl⟩))
      go_ret
      exact ⟨rfl, rfl⟩
  · have hv1 : v = 1 := by rw [← hv]; unfold mayE; rw [if_neg hm]
    have hcase : id < 0 ∨ (0 ≤ id ∧ 1073741824 < id) ∨ (0 ≤ id ∧ id ≤ 1073741824 ∧ goodW tw = false) ∨ (0 ≤ id ∧ id ≤ 1073741824 ∧ goodW tw = true ∧ lag < -1125899906842624) ∨ (0 ≤ id ∧ id ≤ 1073741824 ∧ goodW tw = true ∧ -1125899906842624 ≤ lag ∧ 1125899906842624 < lag) := by
      have hn : ¬ (0 ≤ id ∧ id ≤ 1073741824 ∧ 1 ≤ tw ∧ tw ≤ 20 ∧ -1125899906842624 ≤ lag ∧ lag ≤ 1125899906842624) := fun h => hm (by unfold mayB; simp only [decide_eq_true_eq]; exact h)
      cases hg : goodW tw with
      | true => obtain ⟨g1, g2⟩ := goodW_true hg; simp; omega
      | false => simp; omega
    rw [hv1]
    clear h hv h0 hv1 hm
    rcases hcase with q1 | ⟨q1, q2⟩ | ⟨q1, q2, q3⟩ | ⟨q1, q2, q3, q4⟩ | ⟨q1, q2, q3, q4, q5⟩
    · go_enter Tryz.func11, Tryz.ntmps11
      go_wp2_with fail
      go_ret
      exact ⟨rfl, rfl⟩
    · go_enter Tryz.func11, Tryz.ntmps11
      go_wp2_with fail
      go_ret
      exact ⟨rfl, rfl⟩
    all_goals
      have Hg := Lib.hid q3
      clear q3
      go_enter Tryz.func11, Tryz.ntmps11
      go_wp2_with (go_at_call 47; refine (rGood_any _ _ Hg.out).mono ?_; rintro e w1 ⟨rfl, rfl⟩)
      go_ret
      exact ⟨rfl, rfl⟩

set_option maxHeartbeats 6400000 in
set_option maxRecDepth 100000 in
theorem rEnter_go {w : World} {b c : Nat} {a : Option Addr} {tag : Int} {S : Ln} (h : RAt w b a c tag S) (hl : S.l.length ≤ 64) (id tw lag : Int) (ex : Bool) (lg : Int) (hm : mayE S.l id tw lag = 0) (ht : tag = 0 ∨ tag = 1 ∨ tag = 2) (hlg : (if ex = true then lag else rheld tag lag) = lg)
    (hb1 : -2305843009213693952 ≤ S.base) (hb2 : S.base ≤ 4611686018427387904) :
    Calls Tryz.prog 11 #[.pointer (some ⟨b, 0, none⟩), .int .i64 id, .int .i64 tw, .int .i64 lag, .bool ex] w fun e w' => e = .returned (.int .i64 0) ∧
      RNew w b tag ⟨growB S.base (insP (newP S.base id tw lg) S.l), S.cur, insP (newP S.base id tw lg) S.l⟩ w' := by
  obtain ⟨hm1, hm2, hm3⟩ := mayE_zero hl hm
  obtain ⟨m1, m2, g1, g2, m5, m6⟩ := mayB_true hm1
  have hs := step_le tw
  have hlg2 : -1125899906842624 ≤ lg ∧ lg ≤ 1125899906842624 := by
    rw [← hlg]; unfold rheld; split
    · omega
    · split
      · omega
      · split <;> omega
  have hg : goodW tw = true := by unfold goodW; simp; omega
  have Hg := Lib.hid hg
  have h1 : fi (isId id) S.l = -1 := fi_neg fun x hx => by have := hm2 x hx; simpa [isId] using this
  have Hf := Lib.hid (rat_any h hl id h1)
  obtain ⟨c0, c1, c2, c3, f0, f1, f2, f3, hlt⟩ := blk4 h.blk
  obtain ⟨hc1, hc2⟩ := h.caps
  have h64 : (S.l.length : Int) < 64 := by omega
  have HB := Lib.hid h.blk
  have Hsl := Lib.hid h.sl
  have Hcc := Lib.hid hc1
  have Hidn := Lib.hid hm2
  have Hlg := Lib.hid hlg
  have HE := Lib.hid h.elem
  have hadr := h.addr
  have hwv : IntKind.i64.wrap (S.base - lg) = S.base - lg := IntWalk.i64_in _ (by omega)
  have hwd : IntKind.i64.wrap (S.base - lg + 4 * step tw) = S.base - lg + 4 * step tw := IntWalk.i64_in _ (by omega)
  obtain ⟨i0, hi0, hz0, hz1, hz2⟩ := info_parts infoTask
  have HH := Lib.hid (fun W => rHeld_any tag lag W ht (by omega))
  have tok1 : True := trivial
  have tok2 : True := trivial
  clear h hm hm1 hm2 hlg hg h1 ht
  have hadr' : (a = none ∧ S.l.length = 0 ∧ c = 0) ∨ ∃ r, a = some ⟨r, 0, none⟩ ∧ r ≠ b ∧ r < w.heap.size := by
    rcases hadr with ⟨h1, h2, h3⟩ | h1
    · exact .inl ⟨h1, by rw [h2]; rfl, h3⟩
    · exact .inr h1
  clear hadr
  have Hadr := Lib.hid hadr'
  clear hadr'
  go_enter Tryz.func11, Tryz.ntmps11
  go_upto_if 46 with (first
    | (go_at_call 47; refine (rGood_any _ _ Hg.out).mono ?_; rintro e w1 ⟨rfl, rfl⟩)
    | (go_at_call 48; refine Hf.out.mono ?_; rintro e w2 ⟨rfl, rfl⟩))
  go_cut [3] (fun lx wx => lx = .int .i64 lg ∧ w = wx)
  case first =>
    cases ex with
    | true =>
      go_wp2_with fail
      go_meet
      exact ⟨by rw [show lag = lg from Hlg.out], rfl⟩
    | false =>
      have hlg3 : rheld tag lag = lg := Hlg.out
      rw [hlg3] at HH
      clear hlg3
      go_wp2_with (go_at_call 21; refine (HH.out _).mono ?_; rintro e w3 ⟨rfl, rfl⟩)
      go_meet
      exact ⟨rfl, rfl⟩
  case rest =>
    obtain ⟨rfl, rfl⟩ := hcut
    go_wp2_with fail
    go_loop [11] (fun kx => ∃ k : Nat, k ≤ S.l.length ∧ kx = .int .i64 k ∧ ∀ i, i < k → ∀ y, S.l[i]? = some y → y.id < id) (fun kx => S.l.length - (intOf kx).toNat)
    case atStart => exact ⟨0, Nat.zero_le _, rfl, fun i hi => absurd hi (Nat.not_lt_zero _)⟩
    case round =>
      obtain ⟨k, hk, rfl, hno⟩ := hrel
      have Hno := Lib.hid hno
      clear hno
      by_cases hgo : k < S.l.length ∧ ∀ y, S.l[k]? = some y → y.id < id
      · obtain ⟨hlk, hgo⟩ := hgo
        obtain ⟨x, hx⟩ : ∃ x, S.l[k]? = some x := ⟨_, List.getElem?_eq_getElem hlk⟩
        have hxi := hgo x hx
        obtain ⟨r, rfl, d0, _⟩ := HE.out k x hx
        have Hx := Lib.hid hx
        have hki : (k : Int) < S.l.length := by omega
        clear hx hgo
        go_wp2_with fail
        go_round
        case rel => exact ⟨k + 1, hlk, by go_num, fun i hi z hz => by
          rcases Nat.lt_or_ge i k with h | h
          · exact Hno.out i h z hz
          · obtain rfl : i = k := by omega
            rw [Hx.out] at hz; cases hz; exact hxi⟩
        case measure => simp [intOf]; omega
      · have hstop : ∀ y, S.l[k]? = some y → id < y.id := fun y hy => by
          have h1 := Hidn.out y (List.mem_of_getElem? hy)
          rcases Int.lt_or_le y.id id with h2 | h2
          · exact absurd ⟨(List.getElem?_eq_some_iff.1 hy).1, fun z hz => by rw [hy] at hz; cases hz; exact h2⟩ hgo
          · omega
        have hins := insP_at (x := newP S.base id tw lg) (l := S.l) (k := k) (fun i hi y hy => Hno.out i hi y hy) hk (fun y hy => hstop y hy)
        have hap : flat Pt.enc (S.l.take k) ++ Pt.enc (newP S.base id tw lg) ++ flat Pt.enc (S.l.drop k) = flat Pt.enc (insP (newP S.base id tw lg) S.l) := by rw [hins, flat_append, List.append_assoc]; rfl
        have hfl1 : (flat Pt.enc (S.l.take k)).length = k * 4 := by rw [flat_length Pt.len, List.length_take]; congr 1; omega
        have hfl2 : (flat Pt.enc (S.l.drop k)).length = (S.l.length - k) * 4 := by rw [flat_length Pt.len, List.length_drop]
        have Hfl1 := Lib.hid hfl1
        have Hfl2 := Lib.hid hfl2
        have Hap := Lib.hid hap
        have hkc : k ≤ c := by omega
        have hkl : (k : Int) ≤ S.l.length := by omega
        have hd : k = S.l.length ∨ (k < S.l.length ∧ ∃ y r, S.l[k]? = some y ∧ a = some ⟨r, 0, none⟩ ∧ w.cell? ⟨r, k * 4, none⟩ = some (.int .i64 y.id) ∧ id < y.id) := by
          rcases Nat.lt_or_ge k S.l.length with h1 | h1
          · obtain ⟨y, hy⟩ : ∃ x, S.l[k]? = some x := ⟨_, List.getElem?_eq_getElem h1⟩
            obtain ⟨r, hr, d0, _⟩ := HE.out k y hy
            exact .inr ⟨h1, y, r, hy, hr, d0, hstop y hy⟩
          · exact .inl (by omega)
        clear hfl1 hfl2 hap hins hstop hgo
        rcases Hadr.out with ⟨rfl, hn0, rfl⟩ | ⟨r, rfl, hrb, hr⟩
        · obtain rfl : k = 0 := by omega
          have hf2 := Hfl2.out
          have hb2 := HB.out
          rw [hn0] at hb2 hf2 c3
          have HB := Lib.hid hb2
          have Hfl2 := Lib.hid hf2
          have hn1 : S.l.length ≤ 0 := by omega
          clear hd hn0 hkl hkc hk hl hc1 h64 hm3 hb2 hf2
          go_wp2_with fail
          refine wp_region_chain 110 [0, 0, 0, 4, 12, 28, 0, 124, 254, 0, 0, 0, 0, 0, 8702, 29182, 65534, 131070, 262142, 0, 524288, 1572864, 3670016, 0, 16252928, 33554430, 67108863, 134217727, 268435455] [(0, none), (2, none), (3, none), (4, none), (5, none), (6, none), (7, none), (9, none), (10, none), (11, none), (12, none), (13, none), (19, none), (20, none), (21, none), (22, none), (23, none), (24, none), (1, some [0, 2, 3, 4, 5, 6, 7, 9, 10, 11, 12, 13, 19, 20, 21, 22, 23, 24]), (8, some [0, 9, 10, 11, 12, 13, 19, 20, 21, 22, 23, 24]), (14, some [0, 9, 10, 11, 12, 19, 20, 21, 22, 23, 24]), (15, none), (16, none), (17, some [0, 19, 20, 21, 22, 23, 24]), (18, some [0, 19, 20, 21, 22, 23, 24]), (25, some [0]), (26, none), (27, none), (28, some [])] (by kernel_rfl) (by kernel_rfl) (by rfl) ?_; simp only [chain, Obs, List.getElem?_toArray, List.getElem?_cons_zero, List.getElem?_cons_succ]
          go_wp2_with (first
            | (with_reducible refine And.intro (by first | with_reducible exact True.intro | with_reducible rfl | go_simp) ?_)
            | (go_at_call 46; refine (rday_any _ _ g1 g2).mono ?_; rintro e wd ⟨rfl, rfl⟩)
            | (at_builtin; have _t := tok1
               go_loud (refine wpList_append_cut (by rfl) _ _ _ (by rfl) (B := w.heap.size) Tryz.underlying53 hi0 hz0 hz1 hz2 rfl (by omega) (by rfl) (own_empty (heap_new w _) (Nat.le_refl _)) (A := none) (m := 0) (c := 0) (by rfl) Hfl1.out (fun _ => rfl) ((Hsl.out.below ((Below.refl _ _).alloc (Nat.le_refl _) _)).srcTake 0) (ptOne _) (by unfold maxLen; omega) (by omega) (by simp) ?_)
               intro a1 k1 w2 hown hgrow
               try (rw [show 0 + k = k from Nat.zero_add k] at hown ⊢)
               go_loud (have hfr : Fr (fun k => k = w.heap.size) (w.alloc (.cells #[] 82)) w2 := ((Fr.refl _ _).drew).trans (Fr.of_grown hgrow) (fun k _ hk => by simpa [Value.ownBlock, eq_comm] using hk))
               go_loud (have hB2 := heap_fr (heap_alloc HB.out _) hfr (by omega))
               obtain ⟨q0, q1, q2, q3, u0, u1, u2, u3, ul⟩ := blk4 hB2
               have HB2 := Lib.hid hB2
               go_loud (have Hs2 := Lib.hid ((Hsl.out.below ((Below.refl _ _).alloc (Nat.le_refl _) _)).fr hfr (fun p hp => by cases hp)))
               have Hfr := Lib.hid hfr
               have Hown := Lib.hid hown
               have hsz2 : w.heap.size + 1 ≤ w2.heap.size := by have := hfr.size; simpa using this
               clear tok1 hB2 hfr hown hgrow)
            | (at_builtin; have _t := tok2
               go_loud (refine wpList_append_cut (by rfl) _ _ _ (by rfl) (B := w.heap.size) Tryz.underlying53 hi0 hz0 hz1 hz2 rfl (by omega) (by rfl) (own_fr (F := fun _ => False) Hown.out ((Fr.refl _ _).alloc _) (fun _ _ h => h)) (A := some ⟨w2.heap.size, 0, none⟩) (m := 1) (c := 1) (news := Pt.enc (newP S.base id tw lg)) (by rfl) (by rfl) (fun h => by cases h) (fun ad had => by cases had; exact World.news_of_block (heap_new w2 (.cells #[.int .i64 id, .int .i64 tw, .int .i64 (S.base - lg), .int .i64 (S.base - lg + 4 * step tw)] 82))) (by intro u hu; simp [Pt.enc] at hu; rcases hu with rfl | rfl | rfl | rfl <;> rfl) (by unfold maxLen; omega) (by omega) (by simp; omega) ?_)
               intro a3 k3 w3 hown3 hgrow3
               have hlt0 := fun q hq => (Hown.out.lt q hq)
               go_loud (have hfr3 : Fr (fun k => w.heap.size ≤ k) w2 w3 := ((Fr.refl (fun k => w.heap.size ≤ k) w2).alloc _).trans (Fr.of_grown hgrow3) (fun q _ hq => (hlt0 q hq).1))
               go_loud (have hB3 := heap_fr HB2.out hfr3 (by omega))
               obtain ⟨q0, q1, q2, q3, u0, u1, u2, u3, ul⟩ := blk4 hB3
               have HB3 := Lib.hid hB3
               go_loud (have Hs3 := Lib.hid (Hs2.out.fr hfr3 (fun p hp => by cases hp)))
               have Hfr3 := Lib.hid hfr3
               have Hown3 := Lib.hid hown3
               have hsz3 := hfr3.size
               clear tok2 hB3 hfr3 hown3 hgrow3 hlt0)
            | (at_builtin
               go_loud (refine wpList_append_cut (by rfl) _ _ _ (by rfl) (B := w.heap.size) Tryz.underlying53 hi0 hz0 hz1 hz2 rfl (by omega) (by rfl) Hown3.out (A := none) (m := 0) (c := 0 - 0) (by rfl) Hfl2.out (fun _ => rfl) (fun ad had => by cases had) (ptOne _) (by unfold maxLen; omega) (by omega) (by omega) ?_)
               intro a2 k2 w4 hown4 hgrow4
               go_loud (first | rw [show 0 + 0 + 1 + (0) = S.l.length + 1 by omega] at hown4 ⊢ | rw [show 0 + 1 + (0) = S.l.length + 1 by omega] at hown4 ⊢)
               go_loud (rw [List.nil_append, Hap.out] at hown4)
               have hfr4 : Fr (fun k => w.heap.size ≤ k) w3 w4 := (Fr.of_grown hgrow4).mono' (fun q hq => (Hown3.out.lt q hq).1)
               have hB4 := heap_fr HB3.out hfr4 (by omega)
               obtain ⟨q0, q1, q2, q3, u0, u1, u2, u3, ul⟩ := blk4 hB4
               have hlt4 := hown4.lt
               have hne4 : (Value.slice a2 (S.l.length + 1) k2).ownBlock ≠ some b := fun e => by have := (hlt4 b e).1; omega
               have HR := Lib.hid (RAt.mk (w := w4.setCell ⟨b, 3, none⟩ (.slice a2 (S.l.length + 1) k2)) (b := b) (a := a2) (c := k2) (tag := tag) (S := ⟨S.base, S.cur, insP (newP S.base id tw lg) S.l⟩) (by simp only; rw [insP_len]; exact heap_set hB4 _) (by simp only; rw [insP_len]; exact own_base (own_set hown4 hne4) (Nat.zero_le _)) (fun p hp e => hne4 (by subst hp; simp [Value.ownBlock, e])))
               have Hnew := Lib.hid (fun p (hp : a2 = some p) => (hlt4 p.block (by subst hp; rfl)).1 : ∀ p, a2 = some p → w.heap.size ≤ p.block)
               have Hf3 := Lib.hid ((((Fr.refl (fun k => k = b) w).alloc (.cells #[] 82)).trans ((Hfr.out.trans Hfr3.out (fun k hk h => by simp at hk; omega)).trans hfr4 (fun k hk h => by simp at hk; omega)) (fun k hk h => by omega)).setCell (p := ⟨b, 3, none⟩) (fun _ => rfl) (.slice a2 (S.l.length + 1) k2))
               clear hB4 hown4 hgrow4 hfr4 hlt4 hne4))
          refine NoPanic.normal ?_
          have HG := Lib.hid (rgrow_any HR.out (by simp only; rw [insP_len]; omega))
          go_wp2_with (go_at_call 49; refine HG.out.mono ?_; rintro e w5 ⟨rfl, hr5, hf5⟩; have Hr5 := Lib.hid hr5; have Hf5 := Lib.hid hf5; clear hr5 hf5)
          go_ret
          exact ⟨rfl, a2, k2, Hr5.out, Hnew.out, Hf3.out.trans Hf5.out (fun k _ e => e)⟩
        · rcases hd with hkn | ⟨hlk, y, r', hy, hr', d0, hyi⟩
          · obtain ⟨A2, hA⟩ : ∃ A : Addr, (if c = k then some (⟨r, 0, none⟩ : Addr) else some ⟨r, k * 4, none⟩) = some A := by split <;> exact ⟨_, rfl⟩
            have HA := Lib.hid hA
            have hkge : (S.l.length : Int) ≤ k := by omega
            clear hkn
            go_wp2_with fail
            refine wp_region_chain 110 [0, 0, 0, 4, 12, 28, 0, 124, 254, 0, 0, 0, 0, 0, 8702, 29182, 65534, 131070, 262142, 0, 524288, 1572864, 3670016, 0, 16252928, 33554430, 67108863, 134217727, 268435455] [(0, none), (2, none), (3, none), (4, none), (5, none), (6, none), (7, none), (9, none), (10, none), (11, none), (12, none), (13, none), (19, none), (20, none), (21, none), (22, none), (23, none), (24, none), (1, some [0, 2, 3, 4, 5, 6, 7, 9, 10, 11, 12, 13, 19, 20, 21, 22, 23, 24]), (8, some [0, 9, 10, 11, 12, 13, 19, 20, 21, 22, 23, 24]), (14, some [0, 9, 10, 11, 12, 19, 20, 21, 22, 23, 24]), (15, none), (16, none), (17, some [0, 19, 20, 21, 22, 23, 24]), (18, some [0, 19, 20, 21, 22, 23, 24]), (25, some [0]), (26, none), (27, none), (28, some [])] (by kernel_rfl) (by kernel_rfl) (by rfl) ?_; simp only [chain, Obs, List.getElem?_toArray, List.getElem?_cons_zero, List.getElem?_cons_succ]
            go_wp2_with (first
              | (with_reducible refine And.intro (by first | with_reducible exact True.intro | with_reducible rfl | go_simp) ?_)
              | (go_at_call 46; refine (rday_any _ _ g1 g2).mono ?_; rintro e wd ⟨rfl, rfl⟩)
              | (at_builtin; have _t := tok1
                 go_loud (refine wpList_append_cut (by rfl) _ _ _ (by rfl) (B := w.heap.size) Tryz.underlying53 hi0 hz0 hz1 hz2 rfl (by omega) (by rfl) (own_empty (heap_new w _) (Nat.le_refl _)) (A := (some ⟨r, 0, none⟩)) (m := k) (c := c) (by rfl) Hfl1.out (fun h => by cases h) ((Hsl.out.below ((Below.refl _ _).alloc (Nat.le_refl _) _)).srcTake k) (ptOne _) (by unfold maxLen; omega) (by omega) (by simp) ?_)
                 intro a1 k1 w2 hown hgrow
                 try (rw [show 0 + k = k from Nat.zero_add k] at hown ⊢)
                 go_loud (have hfr : Fr (fun k => k = w.heap.size) (w.alloc (.cells #[] 82)) w2 := ((Fr.refl _ _).drew).trans (Fr.of_grown hgrow) (fun k _ hk => by simpa [Value.ownBlock, eq_comm] using hk))
                 go_loud (have hB2 := heap_fr (heap_alloc HB.out _) hfr (by omega))
                 obtain ⟨q0, q1, q2, q3, u0, u1, u2, u3, ul⟩ := blk4 hB2
                 have HB2 := Lib.hid hB2
                 go_loud (have Hs2 := Lib.hid ((Hsl.out.below ((Below.refl _ _).alloc (Nat.le_refl _) _)).fr hfr (fun p hp => by cases hp; simp only; omega)))
                 have Hfr := Lib.hid hfr
                 have Hown := Lib.hid hown
                 have hsz2 : w.heap.size + 1 ≤ w2.heap.size := by have := hfr.size; simpa using this
                 clear tok1 hB2 hfr hown hgrow)
              | (at_builtin; have _t := tok2
                 go_loud (refine wpList_append_cut (by rfl) _ _ _ (by rfl) (B := w.heap.size) Tryz.underlying53 hi0 hz0 hz1 hz2 rfl (by omega) (by rfl) (own_fr (F := fun _ => False) Hown.out ((Fr.refl _ _).alloc _) (fun _ _ h => h)) (A := some ⟨w2.heap.size, 0, none⟩) (m := 1) (c := 1) (news := Pt.enc (newP S.base id tw lg)) (by rfl) (by rfl) (fun h => by cases h) (fun ad had => by cases had; exact World.news_of_block (heap_new w2 (.cells #[.int .i64 id, .int .i64 tw, .int .i64 (S.base - lg), .int .i64 (S.base - lg + 4 * step tw)] 82))) (by intro u hu; simp [Pt.enc] at hu; rcases hu with rfl | rfl | rfl | rfl <;> rfl) (by unfold maxLen; omega) (by omega) (by simp; omega) ?_)
                 intro a3 k3 w3 hown3 hgrow3
                 have hlt0 := fun q hq => (Hown.out.lt q hq)
                 go_loud (have hfr3 : Fr (fun k => w.heap.size ≤ k) w2 w3 := ((Fr.refl (fun k => w.heap.size ≤ k) w2).alloc _).trans (Fr.of_grown hgrow3) (fun q _ hq => (hlt0 q hq).1))
                 go_loud (have hB3 := heap_fr HB2.out hfr3 (by omega))
                 obtain ⟨q0, q1, q2, q3, u0, u1, u2, u3, ul⟩ := blk4 hB3
                 have HB3 := Lib.hid hB3
                 go_loud (have Hs3 := Lib.hid (Hs2.out.fr hfr3 (fun p hp => by cases hp; simp only; omega)))
                 have Hfr3 := Lib.hid hfr3
                 have Hown3 := Lib.hid hown3
                 have hsz3 := hfr3.size
                 clear tok2 hB3 hfr3 hown3 hgrow3 hlt0)
              | (at_builtin
                 go_loud (refine wpList_append_cut (by rfl) _ _ _ (by rfl) (B := w.heap.size) Tryz.underlying53 hi0 hz0 hz1 hz2 rfl (by omega) (by rfl) Hown3.out (A := (some A2)) (m := (S.l.length - k)) (c := c - k) (by rfl) Hfl2.out (fun h => by cases h) (fun ad had => by cases had; exact Hs3.out.srcDrop _ c Hcc.out HA.out) (ptOne _) (by unfold maxLen; omega) (by omega) (by omega) ?_)
                 intro a2 k2 w4 hown4 hgrow4
                 go_loud (first | rw [show 0 + k + 1 + ((S.l.length - k)) = S.l.length + 1 by omega] at hown4 ⊢ | rw [show k + 1 + ((S.l.length - k)) = S.l.length + 1 by omega] at hown4 ⊢)
                 go_loud (rw [List.nil_append, Hap.out] at hown4)
                 have hfr4 : Fr (fun k => w.heap.size ≤ k) w3 w4 := (Fr.of_grown hgrow4).mono' (fun q hq => (Hown3.out.lt q hq).1)
                 have hB4 := heap_fr HB3.out hfr4 (by omega)
                 obtain ⟨q0, q1, q2, q3, u0, u1, u2, u3, ul⟩ := blk4 hB4
                 have hlt4 := hown4.lt
                 have hne4 : (Value.slice a2 (S.l.length + 1) k2).ownBlock ≠ some b := fun e => by have := (hlt4 b e).1; omega
                 have HR := Lib.hid (RAt.mk (w := w4.setCell ⟨b, 3, none⟩ (.slice a2 (S.l.length + 1) k2)) (b := b) (a := a2) (c := k2) (tag := tag) (S := ⟨S.base, S.cur, insP (newP S.base id tw lg) S.l⟩) (by simp only; rw [insP_len]; exact heap_set hB4 _) (by simp only; rw [insP_len]; exact own_base (own_set hown4 hne4) (Nat.zero_le _)) (fun p hp e => hne4 (by subst hp; simp [Value.ownBlock, e])))
                 have Hnew := Lib.hid (fun p (hp : a2 = some p) => (hlt4 p.block (by subst hp; rfl)).1 : ∀ p, a2 = some p → w.heap.size ≤ p.block)
                 have Hf3 := Lib.hid ((((Fr.refl (fun k => k = b) w).alloc (.cells #[] 82)).trans ((Hfr.out.trans Hfr3.out (fun k hk h => by simp at hk; omega)).trans hfr4 (fun k hk h => by simp at hk; omega)) (fun k hk h => by omega)).setCell (p := ⟨b, 3, none⟩) (fun _ => rfl) (.slice a2 (S.l.length + 1) k2))
                 clear hB4 hown4 hgrow4 hfr4 hlt4 hne4))
            refine NoPanic.normal ?_
            have HG := Lib.hid (rgrow_any HR.out (by simp only; rw [insP_len]; omega))
            go_wp2_with (go_at_call 49; refine HG.out.mono ?_; rintro e w5 ⟨rfl, hr5, hf5⟩; have Hr5 := Lib.hid hr5; have Hf5 := Lib.hid hf5; clear hr5 hf5)
            go_ret
            exact ⟨rfl, a2, k2, Hr5.out, Hnew.out, Hf3.out.trans Hf5.out (fun k _ e => e)⟩
          · cases hr'
            have hki : (k : Int) < S.l.length := by omega
            have hck : ¬ c = k := by omega
            have HA := Lib.hid (show (if c = k then some (⟨r, 0, none⟩ : Addr) else some ⟨r, k * 4, none⟩) = some ⟨r, k * 4, none⟩ from if_neg hck)
            clear hy
            go_wp2_with fail
            refine wp_region_chain 110 [0, 0, 0, 4, 12, 28, 0, 124, 254, 0, 0, 0, 0, 0, 8702, 29182, 65534, 131070, 262142, 0, 524288, 1572864, 3670016, 0, 16252928, 33554430, 67108863, 134217727, 268435455] [(0, none), (2, none), (3, none), (4, none), (5, none), (6, none), (7, none), (9, none), (10, none), (11, none), (12, none), (13, none), (19, none), (20, none), (21, none), (22, none), (23, none), (24, none), (1, some [0, 2, 3, 4, 5, 6, 7, 9, 10, 11, 12, 13, 19, 20, 21, 22, 23, 24]), (8, some [0, 9, 10, 11, 12, 13, 19, 20, 21, 22, 23, 24]), (14, some [0, 9, 10, 11, 12, 19, 20, 21, 22, 23, 24]), (15, none), (16, none), (17, some [0, 19, 20, 21, 22, 23, 24]), (18, some [0, 19, 20, 21, 22, 23, 24]), (25, some [0]), (26, none), (27, none), (28, some [])] (by kernel_rfl) (by kernel_rfl) (by rfl) ?_; simp only [chain, Obs, List.getElem?_toArray, List.getElem?_cons_zero, List.getElem?_cons_succ]
            go_wp2_with (first
              | (with_reducible refine And.intro (by first | with_reducible exact True.intro | with_reducible rfl | go_simp) ?_)
              | (go_at_call 46; refine (rday_any _ _ g1 g2).mono ?_; rintro e wd ⟨rfl, rfl⟩)
              | (at_builtin; have _t := tok1
                 go_loud (refine wpList_append_cut (by rfl) _ _ _ (by rfl) (B := w.heap.size) Tryz.underlying53 hi0 hz0 hz1 hz2 rfl (by omega) (by rfl) (own_empty (heap_new w _) (Nat.le_refl _)) (A := (some ⟨r, 0, none⟩)) (m := k) (c := c) (by rfl) Hfl1.out (fun h => by cases h) ((Hsl.out.below ((Below.refl _ _).alloc (Nat.le_refl _) _)).srcTake k) (ptOne _) (by unfold maxLen; omega) (by omega) (by simp) ?_)
                 intro a1 k1 w2 hown hgrow
                 try (rw [show 0 + k = k from Nat.zero_add k] at hown ⊢)
                 go_loud (have hfr : Fr (fun k => k = w.heap.size) (w.alloc (.cells #[] 82)) w2 := ((Fr.refl _ _).drew).trans (Fr.of_grown hgrow) (fun k _ hk => by simpa [Value.ownBlock, eq_comm] using hk))
                 go_loud (have hB2 := heap_fr (heap_alloc HB.out _) hfr (by omega))
                 obtain ⟨q0, q1, q2, q3, u0, u1, u2, u3, ul⟩ := blk4 hB2
                 have HB2 := Lib.hid hB2
                 go_loud (have Hs2 := Lib.hid ((Hsl.out.below ((Below.refl _ _).alloc (Nat.le_refl _) _)).fr hfr (fun p hp => by cases hp; simp only; omega)))
                 have Hfr := Lib.hid hfr
                 have Hown := Lib.hid hown
                 have hsz2 : w.heap.size + 1 ≤ w2.heap.size := by have := hfr.size; simpa using this
                 clear tok1 hB2 hfr hown hgrow)
              | (at_builtin; have _t := tok2
                 go_loud (refine wpList_append_cut (by rfl) _ _ _ (by rfl) (B := w.heap.size) Tryz.underlying53 hi0 hz0 hz1 hz2 rfl (by omega) (by rfl) (own_fr (F := fun _ => False) Hown.out ((Fr.refl _ _).alloc _) (fun _ _ h => h)) (A := some ⟨w2.heap.size, 0, none⟩) (m := 1) (c := 1) (news := Pt.enc (newP S.base id tw lg)) (by rfl) (by rfl) (fun h => by cases h) (fun ad had => by cases had; exact World.news_of_block (heap_new w2 (.cells #[.int .i64 id, .int .i64 tw, .int .i64 (S.base - lg), .int .i64 (S.base - lg + 4 * step tw)] 82))) (by intro u hu; simp [Pt.enc] at hu; rcases hu with rfl | rfl | rfl | rfl <;> rfl) (by unfold maxLen; omega) (by omega) (by simp; omega) ?_)
                 intro a3 k3 w3 hown3 hgrow3
                 have hlt0 := fun q hq => (Hown.out.lt q hq)
                 go_loud (have hfr3 : Fr (fun k => w.heap.size ≤ k) w2 w3 := ((Fr.refl (fun k => w.heap.size ≤ k) w2).alloc _).trans (Fr.of_grown hgrow3) (fun q _ hq => (hlt0 q hq).1))
                 go_loud (have hB3 := heap_fr HB2.out hfr3 (by omega))
                 obtain ⟨q0, q1, q2, q3, u0, u1, u2, u3, ul⟩ := blk4 hB3
                 have HB3 := Lib.hid hB3
                 go_loud (have Hs3 := Lib.hid (Hs2.out.fr hfr3 (fun p hp => by cases hp; simp only; omega)))
                 have Hfr3 := Lib.hid hfr3
                 have Hown3 := Lib.hid hown3
                 have hsz3 := hfr3.size
                 clear tok2 hB3 hfr3 hown3 hgrow3 hlt0)
              | (at_builtin
                 go_loud (refine wpList_append_cut (by rfl) _ _ _ (by rfl) (B := w.heap.size) Tryz.underlying53 hi0 hz0 hz1 hz2 rfl (by omega) (by rfl) Hown3.out (A := (some ⟨r, k * 4, none⟩)) (m := (S.l.length - k)) (c := c - k) (by rfl) Hfl2.out (fun h => by cases h) (fun ad had => by cases had; exact Hs3.out.srcDrop _ c Hcc.out HA.out) (ptOne _) (by unfold maxLen; omega) (by omega) (by omega) ?_)
                 intro a2 k2 w4 hown4 hgrow4
                 go_loud (first | rw [show 0 + k + 1 + ((S.l.length - k)) = S.l.length + 1 by omega] at hown4 ⊢ | rw [show k + 1 + ((S.l.length - k)) = S.l.length + 1 by omega] at hown4 ⊢)
                 go_loud (rw [List.nil_append, Hap.out] at hown4)
                 have hfr4 : Fr (fun k => w.heap.size ≤ k) w3 w4 := (Fr.of_grown hgrow4).mono' (fun q hq => (Hown3.out.lt q hq).1)
                 have hB4 := heap_fr HB3.out hfr4 (by omega)
                 obtain ⟨q0, q1, q2, q3, u0, u1, u2, u3, ul⟩ := blk4 hB4
                 have hlt4 := hown4.lt
                 have hne4 : (Value.slice a2 (S.l.length + 1) k2).ownBlock ≠ some b := fun e => by have := (hlt4 b e).1; omega
                 have HR := Lib.hid (RAt.mk (w := w4.setCell ⟨b, 3, none⟩ (.slice a2 (S.l.length + 1) k2)) (b := b) (a := a2) (c := k2) (tag := tag) (S := ⟨S.base, S.cur, insP (newP S.base id tw lg) S.l⟩) (by simp only; rw [insP_len]; exact heap_set hB4 _) (by simp only; rw [insP_len]; exact own_base (own_set hown4 hne4) (Nat.zero_le _)) (fun p hp e => hne4 (by subst hp; simp [Value.ownBlock, e])))
                 have Hnew := Lib.hid (fun p (hp : a2 = some p) => (hlt4 p.block (by subst hp; rfl)).1 : ∀ p, a2 = some p → w.heap.size ≤ p.block)
                 have Hf3 := Lib.hid ((((Fr.refl (fun k => k = b) w).alloc (.cells #[] 82)).trans ((Hfr.out.trans Hfr3.out (fun k hk h => by simp at hk; omega)).trans hfr4 (fun k hk h => by simp at hk; omega)) (fun k hk h => by omega)).setCell (p := ⟨b, 3, none⟩) (fun _ => rfl) (.slice a2 (S.l.length + 1) k2))
                 clear hB4 hown4 hgrow4 hfr4 hlt4 hne4))
            refine NoPanic.normal ?_
            have HG := Lib.hid (rgrow_any HR.out (by simp only; rw [insP_len]; omega))
            go_wp2_with (go_at_call 49; refine HG.out.mono ?_; rintro e w5 ⟨rfl, hr5, hf5⟩; have Hr5 := Lib.hid hr5; have Hf5 := Lib.hid hf5; clear hr5 hf5)
            go_ret
            exact ⟨rfl, a2, k2, Hr5.out, Hnew.out, Hf3.out.trans Hf5.out (fun k _ e => e)⟩
end Go.Proofs.YtfijedmdfkelnaaGreat
