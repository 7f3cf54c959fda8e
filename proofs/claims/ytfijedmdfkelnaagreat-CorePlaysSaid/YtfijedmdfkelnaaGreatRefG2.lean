/- The document's own queue: Pick, by days. -/
import Derived.Test.YtfijedmdfkelnaaGreatRefG
import Derived.Test.YtfijedmdfkelnaaGreatDueM
namespace Go.Proofs.YtfijedmdfkelnaaGreat
open Go.RowKit
set_option linter.unusedVariables false
set_option linter.unusedSimpArgs false

set_option maxHeartbeats 6400000 in
set_option maxRecDepth 100000 in
theorem rPick_2 {w : World} {b c : Nat} {a : Option Addr} {S : Ln} (h : RAt w b a c 2 S) (hl : S.l.length ≤ 64) (z : Pt) (hz : duePick S.l = some z)
    (hp : ∀ (j : Nat) (x : Pt), S.l[j]? = some x → -1127000000000000 ≤ x.v - S.base ∧ x.v - S.base ≤ 1127000000000000 ∧ 1 ≤ x.w ∧ x.w ≤ 20) :
    Calls Tryz.prog 14 #[.pointer (some ⟨b, 0, none⟩)] w fun e w' => e = .returned (.tuple #[.int .i64 z.id, .bool true]) ∧ RPost w b a c 2 ⟨S.base, z.id, S.l⟩ w' := by
  obtain ⟨base, cur, l⟩ := S
  simp only at hl hz hp ⊢
  have hne : l ≠ [] := by rintro rfl; simp [duePick, least] at hz
  rw [duePick_from base l] at hz
  have Hz := Lib.hid hz
  have HP := Lib.hid hp
  have hn0 : 0 < l.length := List.length_pos_iff.2 hne
  obtain ⟨c0, c1, c2, c3, f0, f1, f2, f3, hlt⟩ := blk4 h.blk
  simp only at c1 c2 c3
  have HE := Lib.hid h.elem
  simp only at HE
  have H0 := Lib.hid h
  generalize hn : l.length = n at c3 hn0
  have hn64 : n ≤ 64 := by omega
  have Hn := Lib.hid hn
  have Hn0 := Lib.hid hn0
  have hn1 : ((n : Int) == 0) = false := by simp; omega
  clear h hz hn hp hl hne
  go_enter Tryz.func14, Tryz.ntmps14
  go_wp2_with fail
  go_loopw [4, 6, 7, 8] (fun fx sx ax ix wr => ∃ (k f : Nat) (s al : Int), k ≤ n ∧ f < n ∧ fx = .int .i64 f ∧ sx = .int .i64 s ∧ ax = .int .i64 al ∧ ix = .int .i64 k ∧ Below w.heap.size w wr ∧ DueT base l k al s) (fun _ _ _ ix _ => n - (intOf ix).toNat)
  case atStart => exact ⟨0, 0, 0, 0, Nat.zero_le _, Hn0.out, rfl, rfl, rfl, rfl, Below.refl _ _, DueT.start _ _⟩
  case round =>
    obtain ⟨k, f, s, al, hk, hf, rfl, rfl, rfl, rfl, hb, hD⟩ := hrel
    have Hb := Lib.hid hb
    have HD := Lib.hid hD
    have t0 := hD.t0
    have t1 := hD.t1
    have s0 := hD.d0
    have s1 := hD.d1
    obtain ⟨hc, hfz⟩ := bcell hb
    clear hb hD
    have hfi : (f : Int) < n := by omega
    have hf0 : (0 : Int) ≤ f := by omega
    by_cases hlk : k < n
    · obtain ⟨x, hx⟩ : ∃ x, l[k]? = some x := ⟨_, List.getElem?_eq_getElem (by rw [Hn.out]; exact hlk)⟩
      obtain ⟨y, hy⟩ : ∃ y, l[f]? = some y := ⟨_, List.getElem?_eq_getElem (by rw [Hn.out]; exact hf)⟩
      obtain ⟨r0, hr0, _, e1, e2, _, _, _, _, _, hrb, hrl⟩ := HE.out k x hx
      obtain ⟨r1, hr1, _, _, d2, _⟩ := HE.out f y hy
      have hkk : (k : Int) < n := by omega
      have hk0 : (0 : Int) ≤ k := by omega
      obtain ⟨p0, p1, p2, p3⟩ := HP.out k x hx
      have hpb := prod_abs (B := 1127000000000000) (M := 20) p0 p1 (by omega) p3 (by omega)
      have HD2 := Lib.hid (HD.out.next hx p0 p1 p2 p3)
      have u1 : IntKind.i64.wrap (x.v - base) = x.v - base := IntWalk.i64_in _ (by omega)
      have u2 : IntKind.i64.wrap ((x.v - base) * x.w) = (x.v - base) * x.w := IntWalk.i64_in _ (by omega)
      have u3 : IntKind.i64.wrap (s + (x.v - base) * x.w) = s + (x.v - base) * x.w := IntWalk.i64_in _ (by omega)
      have u4 : IntKind.i64.wrap (al + x.w) = al + x.w := IntWalk.i64_in _ (by omega)
      clear hx hy
      subst hr0
      cases hr1
      by_cases hlt : x.v < y.v
      all_goals
        go_wp2_with fail
        refine wp_region_chain 187 [0, 1, 3, 7, 0, 31, 63, 127, 0, 256, 768, 1792, 0, 7936, 16128, 32512, 65535] [(0, none), (1, none), (2, none), (3, none), (4, none), (5, none), (6, none), (7, none), (8, none), (9, none), (10, none), (11, none), (12, none), (13, none), (14, none), (15, none), (16, none)] (by kernel_rfl) (by kernel_rfl) (by rfl) ?_; simp only [chain, Obs, List.getElem?_toArray, List.getElem?_cons_zero, List.getElem?_cons_succ]
        go_wp2_with (first
          | (with_reducible refine And.intro (by first | with_reducible exact True.intro | with_reducible rfl | go_simp) ?_))
        refine NoPanic.normal ?_
        go_wp2_with fail
        refine wp_region_chain 187 [0, 0, 2, 6, 14, 0, 62, 126, 254, 0, 512, 1536, 3584, 8190, 0, 16384, 49152, 114688, 0, 507904, 1032192, 2080768, 4194302, 8388607, 16777215] [(0, none), (1, none), (2, none), (3, none), (4, none), (5, none), (6, none), (7, none), (8, none), (9, none), (10, none), (11, none), (12, none), (13, none), (14, none), (15, none), (16, none), (17, none), (18, none), (19, none), (20, none), (21, none), (22, none), (23, none), (24, none)] (by kernel_rfl) (by kernel_rfl) (by rfl) ?_; simp only [chain, Obs, List.getElem?_toArray, List.getElem?_cons_zero, List.getElem?_cons_succ]
        go_wp2_with (first
          | (with_reducible refine And.intro (by first | with_reducible exact True.intro | with_reducible rfl | go_simp) ?_))
        refine NoPanic.normal ?_
        go_wp2_with fail
        go_roundw
        case measure => simp [intOf]; omega
      · exact ⟨k + 1, k, _, _, hlk, hlk, rfl, rfl, rfl, by go_num, Hb.out.drew.drew, HD2.out⟩
      · exact ⟨k + 1, f, _, _, hlk, hf, rfl, rfl, rfl, by go_num, Hb.out.drew.drew, HD2.out⟩
    · obtain rfl : k = n := by omega
      rename World => wl
      have etk : l.take k = l := List.take_of_length_le (by rw [Hn.out]; exact Nat.le_refl _)
      have Ht := Lib.hid (show totW l = al by have := HD.out.t; rw [etk] at this; exact this)
      have Hd := Lib.hid (show farW base l = s by have := HD.out.d; rw [etk] at this; exact this)
      clear etk
      go_wp2_with fail
      go_loopw [10, 5] (fun ix sx wr => ∃ (i : Nat) (so : Int) (bi : Option Pt), i ≤ k ∧ ix = .int .i64 i ∧ sx = .int .i64 so ∧ ((bi = none ∧ so = -1) ∨ ∃ (q : Nat) (y : Pt), bi = some y ∧ so = q ∧ l[q]? = some y) ∧ Below w.heap.size w wr ∧ dueB base (totW l) (farW base l) (l.drop i) bi = some z) (fun ix _ _ => k - (intOf ix).toNat)
      case atStart => exact ⟨0, -1, none, Nat.zero_le _, rfl, rfl, .inl ⟨rfl, rfl⟩, Hb.out, Hz.out⟩
      case round =>
        obtain ⟨i, so, bi, hik, rfl, rfl, hso, hbt, hB2⟩ := hrel
        have HB2 := Lib.hid hB2
        have Hbt := Lib.hid hbt
        have HSO := Lib.hid hso
        clear hc hfz
        obtain ⟨hc, hfz⟩ := bcell hbt
        clear hB2 hbt hso
        by_cases hlk2 : i < k
        · obtain ⟨x, hx⟩ : ∃ x, l[i]? = some x := ⟨_, List.getElem?_eq_getElem (by rw [Hn.out]; exact hlk2)⟩
          obtain ⟨r0, hr0, _, e1, e2, e3, _, _, _, _, hrb, hrl⟩ := HE.out i x hx
          have hki : (i : Int) < k := by omega
          obtain ⟨p0, p1, p2, p3⟩ := HP.out i x hx
          have hpb := prod_abs (B := 1127000000000000) (M := 1280) p0 p1 t0 (by omega) (by omega)
          have u1 : IntKind.i64.wrap (x.v - base) = x.v - base := IntWalk.i64_in _ (by omega)
          have u2 : IntKind.i64.wrap ((x.v - base) * al) = (x.v - base) * al := IntWalk.i64_in _ (by omega)
          have hel : eligW base (totW l) (farW base l) x = decide ((x.v - base) * al ≤ s) := by unfold eligW; rw [Ht.out, Hd.out]
          have hst := dueB_drop (m := base) (tot := totW l) (far := farW base l) hx bi
          rw [hel, HB2.out] at hst
          have Hst := Lib.hid hst
          have Hx := Lib.hid hx
          clear hx hel hst HB2
          subst hr0
          by_cases c1 : (x.v - base) * al ≤ s
          · have Hst2 := Lib.hid (show some z = dueB base (totW l) (farW base l) (l.drop (i + 1)) (if laterW bi x = true then some x else bi) by have h1 := Hst.out; rw [decide_eq_true c1, Bool.true_and] at h1; exact h1)
            clear Hst
            have c1d := decide_eq_true c1
            rcases HSO.out with ⟨rfl, rfl⟩ | ⟨q, y, rfl, rfl, hq⟩
            · skip
              go_wp2_with fail
              refine wp_region_chain 187 [0, 1, 3, 7, 0, 31, 63, 127, 0, 256, 768, 1792, 4095, 0, 16383, 0, 65535, 131071, 262143, 524287, 1048575, 2097151, 4194303, 8388607, 16777215, 2097151, 67108863, 134217727, 268435455, 2097151, 538968063, 1612709887, 3760193535, 2097151, 16645095423, 33824964607, 68184702975, 137438953471, 274877906943, 549755813887] [(0, none), (1, none), (2, none), (3, none), (4, none), (5, none), (6, none), (7, none), (8, none), (9, none), (10, none), (11, none), (12, none), (13, none), (14, none), (15, none), (16, none), (17, none), (18, none), (19, none), (20, none), (21, none), (22, none), (23, none), (24, none), (25, none), (26, none), (27, none), (28, none), (29, none), (30, none), (31, none), (32, none), (33, none), (34, none), (35, none), (36, none), (37, none), (38, none), (39, none)] (by kernel_rfl) (by kernel_rfl) (by rfl) ?_; simp only [chain, Obs, List.getElem?_toArray, List.getElem?_cons_zero, List.getElem?_cons_succ]
              go_wp2_with (first
                | (with_reducible refine And.intro (by first | with_reducible exact True.intro | with_reducible rfl | go_simp) ?_))
              refine NoPanic.normal ?_
              go_wp2_with fail
              go_roundw
              case measure => simp [intOf]; omega
              case rel => exact ⟨i + 1, i, some x, hlk2, by go_num, rfl, .inr ⟨i, x, rfl, rfl, Hx.out⟩, Hbt.out.drew, by have h1 := Hst2.out; rw [show laterW none x = true from rfl, if_pos rfl] at h1; exact h1.symm⟩
            · obtain ⟨r1, hr1, _, _, _, d3, _⟩ := HE.out q y hq
              have hqk : (q : Int) < k := by have h1 := (List.getElem?_eq_some_iff.1 hq).1; rw [Hn.out] at h1; omega
              have hq0 : decide ((q : Int) < 0) = false := by simp
              have Hq := Lib.hid hq
              clear hq
              cases hr1
              by_cases hday : x.day < y.day
              · have hdd := decide_eq_true hday
                go_wp2_with fail
                refine wp_region_chain 187 [0, 1, 3, 7, 0, 31, 63, 127, 0, 256, 768, 1792, 4095, 0, 16383, 0, 65535, 131071, 262143, 524287, 1048575, 2097151, 4194303, 8388607, 16777215, 2097151, 67108863, 134217727, 268435455, 2097151, 538968063, 1612709887, 3760193535, 2097151, 16645095423, 33824964607, 68184702975, 137438953471, 274877906943, 549755813887] [(0, none), (1, none), (2, none), (3, none), (4, none), (5, none), (6, none), (7, none), (8, none), (9, none), (10, none), (11, none), (12, none), (13, none), (14, none), (15, none), (16, none), (17, none), (18, none), (19, none), (20, none), (21, none), (22, none), (23, none), (24, none), (25, none), (26, none), (27, none), (28, none), (29, none), (30, none), (31, none), (32, none), (33, none), (34, none), (35, none), (36, none), (37, none), (38, none), (39, none)] (by kernel_rfl) (by kernel_rfl) (by rfl) ?_; simp only [chain, Obs, List.getElem?_toArray, List.getElem?_cons_zero, List.getElem?_cons_succ]
                go_wp2_with (first
                  | (with_reducible refine And.intro (by first | with_reducible exact True.intro | with_reducible rfl | go_simp) ?_))
                refine NoPanic.normal ?_
                go_wp2_with fail
                go_roundw
                case measure => simp [intOf]; omega
                case rel => exact ⟨i + 1, i, some x, hlk2, by go_num, rfl, .inr ⟨i, x, rfl, rfl, Hx.out⟩, Hbt.out.drew, by have h1 := Hst2.out; rw [show laterW (some y) x = true from decide_eq_true hday, if_pos rfl] at h1; exact h1.symm⟩
              · have hdd := decide_eq_false hday
                go_wp2_with fail
                refine wp_region_chain 187 [0, 1, 3, 7, 0, 31, 63, 127, 0, 256, 768, 1792, 4095, 0, 16383, 0, 65535, 131071, 262143, 524287, 1048575, 2097151, 4194303, 8388607, 16777215, 2097151, 67108863, 134217727, 268435455, 2097151, 538968063, 1612709887, 3760193535, 2097151, 16645095423, 33824964607, 68184702975, 137438953471, 274877906943, 549755813887] [(0, none), (1, none), (2, none), (3, none), (4, none), (5, none), (6, none), (7, none), (8, none), (9, none), (10, none), (11, none), (12, none), (13, none), (14, none), (15, none), (16, none), (17, none), (18, none), (19, none), (20, none), (21, none), (22, none), (23, none), (24, none), (25, none), (26, none), (27, none), (28, none), (29, none), (30, none), (31, none), (32, none), (33, none), (34, none), (35, none), (36, none), (37, none), (38, none), (39, none)] (by kernel_rfl) (by kernel_rfl) (by rfl) ?_; simp only [chain, Obs, List.getElem?_toArray, List.getElem?_cons_zero, List.getElem?_cons_succ]
                go_wp2_with (first
                  | (with_reducible refine And.intro (by first | with_reducible exact True.intro | with_reducible rfl | go_simp) ?_))
                refine NoPanic.normal ?_
                go_wp2_with fail
                go_roundw
                case measure => simp [intOf]; omega
                case rel => exact ⟨i + 1, q, some y, hlk2, by go_num, rfl, .inr ⟨q, y, rfl, rfl, Hq.out⟩, Hbt.out.drew, by have h1 := Hst2.out; rw [show laterW (some y) x = false from decide_eq_false (Int.not_lt.2 hday), if_neg (by decide)] at h1; exact h1.symm⟩
          · have Hst2 := Lib.hid (show some z = dueB base (totW l) (farW base l) (l.drop (i + 1)) bi by have h1 := Hst.out; rw [decide_eq_false c1, Bool.false_and] at h1; simpa using h1)
            clear Hst
            have c1d := decide_eq_false c1
            go_wp2_with fail
            refine wp_region_chain 187 [0, 1, 3, 7, 0, 31, 63, 127, 0, 256, 768, 1792, 4095, 0, 16383, 0, 65535, 131071, 262143, 524287, 1048575, 2097151, 4194303, 8388607, 16777215, 2097151, 67108863, 134217727, 268435455, 2097151, 538968063, 1612709887, 3760193535, 2097151, 16645095423, 33824964607, 68184702975, 137438953471, 274877906943, 549755813887] [(0, none), (1, none), (2, none), (3, none), (4, none), (5, none), (6, none), (7, none), (8, none), (9, none), (10, none), (11, none), (12, none), (13, none), (14, none), (15, none), (16, none), (17, none), (18, none), (19, none), (20, none), (21, none), (22, none), (23, none), (24, none), (25, none), (26, none), (27, none), (28, none), (29, none), (30, none), (31, none), (32, none), (33, none), (34, none), (35, none), (36, none), (37, none), (38, none), (39, none)] (by kernel_rfl) (by kernel_rfl) (by rfl) ?_; simp only [chain, Obs, List.getElem?_toArray, List.getElem?_cons_zero, List.getElem?_cons_succ]
            go_wp2_with (first
              | (with_reducible refine And.intro (by first | with_reducible exact True.intro | with_reducible rfl | go_simp) ?_))
            refine NoPanic.normal ?_
            go_wp2_with fail
            go_roundw
            case measure => simp [intOf]; omega
            case rel => exact ⟨i + 1, so, bi, hlk2, by go_num, rfl, HSO.out, Hbt.out.drew, Hst2.out.symm⟩
        · obtain rfl : i = k := by omega
          have edr : l.drop i = [] := List.drop_of_length_le (by rw [Hn.out]; exact Nat.le_refl _)
          have hb3 : bi = some z := by have h1 := HB2.out; rw [edr] at h1; exact h1
          subst hb3
          obtain ⟨q, hso2, hq⟩ : ∃ q : Nat, so = q ∧ l[q]? = some z := by
            rcases HSO.out with ⟨h1, _⟩ | ⟨q, y, h1, h2, h3⟩
            · cases h1
            · cases h1; exact ⟨q, h2, h3⟩
          subst hso2
          obtain ⟨r0, hr0, dz, _, _, _, _, _, _, _, hrb, hrl⟩ := HE.out q z hq
          have hqk : (q : Int) < i := by have h1 := (List.getElem?_eq_some_iff.1 hq).1; rw [Hn.out] at h1; omega
          have hq0 : (0 : Int) ≤ q := by omega
          clear hq edr HSO
          subst hr0
          go_wp2_with fail
          go_ret2
          exact ⟨rfl, (H0.out.below Hbt.out).cur z.id, (Fr.of_below (F := foot b (some ⟨r0, 0, none⟩)) Hbt.out).setCell (p := ⟨b, 2, none⟩) (fun _ => .inl rfl) _⟩
end Go.Proofs.YtfijedmdfkelnaaGreat
