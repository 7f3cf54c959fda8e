/- Package due: who comes in, who is picked. -/
import Derived.Test.YtlgkkolgdjgclaaGreatQdue
import Derived.Test.YtlgkkolgdjgclaaGreatPickM
import Derived.Test.YtlgkkolgdjgclaaGreatBits
namespace Go.Proofs.YtlgkkolgdjgclaaGreat
open Go.RowKit
set_option linter.unusedVariables false
set_option linter.unusedSimpArgs false

set_option maxHeartbeats 400000 in
theorem Held_due (lag : Int) (w : World) : Calls Tryz.prog 233 #[.int .i64 lag] w fun e w' => e = .returned (.int .i64 (helddue lag)) ∧ w = w' := by
  go_enter Tryz.func233, Tryz.ntmps233
  go_wp2_with (go_at_call 236; refine (wHeld_any _ _ _ _ (by decide) rfl).mono ?_; rintro e w1 ⟨rfl, rfl⟩)
  go_ret
  exact ⟨rfl, rfl⟩
/-- The best so far, as it lies in memory. -/
def ptC : Option Pt → Array Value
  | none => #[.int .i64 0, .int .i64 0, .int .i64 0, .int .i64 0]
  | some y => #[.int .i64 y.id, .int .i64 y.w, .int .i64 y.v, .int .i64 y.day]
theorem leastV_is (l : List Pt) : ∃ i0 i1 m i3 q, leastV (least l) = .tuple #[.agg #[.int .i64 i0, .int .i64 i1, .int .i64 m, .int .i64 i3], .bool q] ∧ ∀ z, least l = some z → z.v = m := by
  cases least l with
  | none => exact ⟨0, 0, 0, 0, false, rfl, fun z hz => by cases hz⟩
  | some z => exact ⟨z.id, z.w, z.v, z.day, true, rfl, fun y hy => by cases hy; rfl⟩
theorem due_pt {K : Int} {S : Ln} (hk : OkS K S) {m : Int} (hm : ∀ z, least S.l = some z → z.v = m) (j : Nat) (x : Pt) (hx : S.l[j]? = some x) :
    0 ≤ x.v - m ∧ x.v - m ≤ 4700000000000000000 ∧ 1 ≤ x.w ∧ x.w ≤ 20 ∧ -1154047404513689600 ≤ x.v ∧ x.v ≤ 3458764513820540928 := by
  have hxm := List.mem_of_getElem? hx
  have h1 := hk.pts x hxm
  have h2 := hk.k1
  cases hz : least S.l with
  | none => rw [least_none.1 hz] at hxm; cases hxm
  | some z =>
    have h3 := hm z hz
    have h4 := least_le hz x hxm
    have h5 := hk.pts z (least_mem hz)
    omega
section
variable {w : World} {F : Nat → Prop} {b : Nat} {S S' : Ln} {K : Int}
set_option maxHeartbeats 6400000 in
set_option maxRecDepth 100000 in
theorem Pick_due (h : Qm w F b S) (hk : OkS K S) {v : Int} {r : Bool} (hr : pickdue S = (S', v, r)) :
    Calls Tryz.prog 230 #[.pointer (some ⟨b, 0, none⟩)] w fun e w' => e = .returned (.tuple #[.int .i64 v, .bool r]) ∧ QPost w F b S' w' := by
  have H0 := Lib.hid h
  have HL0 := leastL h hk rfl
  obtain ⟨i0, i1, m, i3, q, hLV, hm⟩ := leastV_is S.l
  rw [hLV] at HL0
  have HL := Lib.hid HL0
  have HX := Lib.hid (due_pt hk hm)
  unfold pickdue at hr
  rw [duePick_is hm] at hr
  obtain ⟨a, c, hl, hF⟩ := h
  obtain ⟨T, hT⟩ := hl.blk
  obtain ⟨c0, c1, c2, f0, f1, f2, hlt⟩ := blk3 hT
  have HE := Lib.hid hl.elem
  have HB := Lib.hid hT
  have hlen := hk.len
  have Hr := Lib.hid hr
  clear HL0 hLV hm hr hl hT hk hF
  generalize hn : S.l.length = n at c2 hlen
  have Hn := Lib.hid hn
  clear hn
  go_enter Tryz.func230, Tryz.ntmps230
  go_wp2_with (go_at_call 190; refine HL.out.mono ?_; rintro e w1 ⟨rfl, hb1⟩; have c2w := (hb1.cell (p := ⟨b, 2, none⟩) hlt).trans c2; have hs1 := hb1.size; have hne1 : b ≠ w1.heap.size := (by omega); have hl1 : b < w1.heap.size := (by omega))
  have HB1 := Lib.hid hb1
  clear c2w
  go_loopw [34, 6, 7, 8] (fun ix tx hx lx wr => ∃ (k : Nat) (tot dh dl : Int), k ≤ n ∧ ix = .int .i64 k ∧ tx = .int .u64 tot ∧ hx = .int .u64 dh ∧ lx = .int .u64 dl ∧ Below (w1.heap.size + 1) (w1.alloc (.cells #[.int .i64 i0, .int .i64 i1, .int .i64 m, .int .i64 i3] 248)) wr ∧ DueS m S.l k tot dh dl) (fun ix _ _ _ _ => n - (intOf ix).toNat)
  case atStart => exact ⟨0, 0, 0, 0, Nat.zero_le _, rfl, rfl, rfl, rfl, Below.refl _ _, DueS.start _ _⟩
  case round =>
    obtain ⟨k, tot, dh, dl, hkn, rfl, rfl, rfl, rfl, hbA, hD⟩ := hrel
    have HG := Lib.hid (heap_below (w := w1.alloc (.cells #[.int .i64 i0, .int .i64 i1, .int .i64 m, .int .i64 i3] 248)) (heap_new w1 _) (by simpa using hbA))
    obtain ⟨g0, g1, g2, g3, y0, y1, y2, y3, gl⟩ := blk4 HG.out
    have hbw : Below w.heap.size w wr := (HB1.out.alloc hs1 _).trans (hbA.mono (by omega))
    have Hbw := Lib.hid hbw
    have HD := Lib.hid hD
    have HbA := Lib.hid hbA
    have hszw := hbw.size
    clear hbA hD hb1
    by_cases hlk : k < n
    · obtain ⟨x, hx⟩ : ∃ x, S.l[k]? = some x := ⟨_, List.getElem?_eq_getElem (by rw [Hn.out]; exact hlk)⟩
      obtain ⟨rr, rfl, d0, d1, d2, d3, _, _, _, _, hrb, hrl⟩ := HE.out k x hx
      have e0 := (hbw.cell (p := ⟨rr, k * 4, none⟩) hrl).trans d0
      have e1 := (hbw.cell (p := ⟨rr, k * 4 + 1, none⟩) hrl).trans d1
      have e2 := (hbw.cell (p := ⟨rr, k * 4 + 2, none⟩) hrl).trans d2
      have e3 := (hbw.cell (p := ⟨rr, k * 4 + 3, none⟩) hrl).trans d3
      have hki : (k : Int) < n := by omega
      have hrw : rr ≠ wr.heap.size := by omega
      have hgw : w1.heap.size ≠ wr.heap.size := by omega
      have hgl : w1.heap.size < wr.heap.size := by omega
      obtain ⟨p0, p1, p2, p3, p4, p5⟩ := HX.out k x hx
      have hpb := prod_le p0 p1 p2 p3
      obtain ⟨ph, pl, hP, pl0, pl1⟩ := halves ((x.v - m) * x.w)
      rw [hP] at hpb
      have t0 := HD.out.t0
      have t1 := HD.out.t1
      have l0 := HD.out.l0
      have l1 := HD.out.l1
      have dd0 := HD.out.d0
      have dd1 := HD.out.d1
      obtain ⟨cc, s, hS, s0, s1⟩ := halves (dl + pl)
      have HM := Lib.hid (fun W => mul64_any (x.v - m) x.w p0 (by omega) (by omega) (by omega) hP pl0 pl1 W)
      have hadd := fun W => add64_any dl pl l0 pl0 hS s0 s1 W
      have u1 : IntKind.u64.wrap x.w = x.w := IntWalk.u64_in _ (by omega)
      have u2 : IntKind.i64.wrap (x.v - m) = x.v - m := IntWalk.i64_in _ (by omega)
      have u3 : IntKind.u64.wrap (x.v - m) = x.v - m := IntWalk.u64_in _ (by omega)
      have u4 : IntKind.u64.wrap (tot + x.w) = tot + x.w := IntWalk.u64_in _ (by omega)
      have u5 : IntKind.u64.wrap (ph + cc) = ph + cc := IntWalk.u64_in _ (by omega)
      have u6 : IntKind.u64.wrap (dh + (ph + cc)) = dh + (ph + cc) := IntWalk.u64_in _ (by omega)
      have HN := Lib.hid (HD.out.next hx p0 p1 p2 p3 hP pl0 pl1 hS s0 s1)
      have Hx := Lib.hid hx
      clear hx d0 d1 d2 d3 hbw
      go_wp2_with (first
        | (go_at_call 234; refine (HM.out _).mono ?_; rintro e wm ⟨rfl, rfl⟩)
        | simp only [hadd])
      go_roundw
      case rel => exact ⟨k + 1, _, _, _, hlk, by go_num, rfl, rfl, rfl, HbA.out.alloc (by omega) _, HN.out⟩
      case measure => simp [intOf]; omega
    · obtain rfl : k = n := by omega
      rename World => wl
      have etk : S.l.take k = S.l := List.take_of_length_le (by rw [Hn.out]; exact Nat.le_refl _)
      have Ht := Lib.hid (show totW S.l = tot by have := HD.out.t; rw [etk] at this; exact this)
      have Hd := Lib.hid (show farW m S.l = dh * 18446744073709551616 + dl by have := HD.out.d; rw [etk] at this; exact this)
      have l0 := HD.out.l0
      have l1 := HD.out.l1
      have t0 := HD.out.t0
      have t1 := HD.out.t1
      have Ht0 := Lib.hid t0
      obtain ⟨bo, hbo⟩ : ∃ bo, dueB m (totW S.l) (farW m S.l) S.l none = bo := ⟨_, rfl⟩
      have Hbo := Lib.hid hbo
      have c2w := (hbw.cell (p := ⟨b, 2, none⟩) hlt).trans c2
      have hnew : b ≠ wl.heap.size := by omega
      have hlw : b < wl.heap.size := by omega
      clear hbo etk
      go_wp2_with fail
      go_loopw [74, 15] (fun ix sx wr => ∃ (i : Nat) (bi : Option Pt), i ≤ k ∧ ix = .int .i64 i ∧ sx = .bool bi.isSome ∧ Below wl.heap.size wl wr ∧ wr.heap[wl.heap.size]? = some (.cells (ptC bi) 248 (0, 0)) ∧ dueB m (totW S.l) (farW m S.l) (S.l.drop i) bi = bo) (fun ix _ _ => k - (intOf ix).toNat)
      case atStart => exact ⟨0, none, Nat.zero_le _, rfl, rfl, (Below.refl _ _).alloc (Nat.le_refl _) _, heap_new _ _, Hbo.out⟩
      case round =>
        obtain ⟨i, bi, hik, rfl, rfl, hbt, hG2, hB2⟩ := hrel
        clear c2w
        have HG2 := Lib.hid hG2
        have HB2 := Lib.hid hB2
        have Hbt := Lib.hid hbt
        have hlt2 : wl.heap.size < wr.heap.size := (Array.getElem?_eq_some_iff.1 hG2).1
        obtain ⟨hct, hft⟩ := bcell hbt
        have gg2 := (hct _ 2 gl).trans g2
        clear hG2 hB2 hbt hct hft
        by_cases hlk2 : i < k
        · obtain ⟨x, hx⟩ : ∃ x, S.l[i]? = some x := ⟨_, List.getElem?_eq_getElem (by rw [Hn.out]; exact hlk2)⟩
          obtain ⟨rr, rfl, d0, d1, d2, d3, _, _, _, _, hrb, hrl⟩ := HE.out i x hx
          have hbwt := Hbw.out.trans (Hbt.out.mono hszw)
          have e0 := (hbwt.cell (p := ⟨rr, i * 4, none⟩) hrl).trans d0
          have e1 := (hbwt.cell (p := ⟨rr, i * 4 + 1, none⟩) hrl).trans d1
          have e2 := (hbwt.cell (p := ⟨rr, i * 4 + 2, none⟩) hrl).trans d2
          have e3 := (hbwt.cell (p := ⟨rr, i * 4 + 3, none⟩) hrl).trans d3
          have hki : (i : Int) < k := by omega
          have hrw : rr ≠ wr.heap.size := by omega
          have hgw : w1.heap.size ≠ wr.heap.size := by omega
          have hgw2 : wl.heap.size ≠ wr.heap.size := by omega
          have hgl2 : w1.heap.size < wr.heap.size := by omega
          obtain ⟨p0, p1, p2, p3, p4, p5⟩ := HX.out i x hx
          obtain ⟨ph, pl, hQ, q0, q1⟩ := halves ((x.v - m) * tot)
          have hel : eligW m (totW S.l) (farW m S.l) x = true ↔ ¬ (dh < ph ∨ (ph = dh ∧ dl < pl)) := by
            unfold eligW
            rw [decide_eq_true_eq, Ht.out, Hd.out]
            exact words_gt hQ rfl q0 q1 l0 l1
          have HM2 := Lib.hid (fun W => mul64_any (x.v - m) tot p0 (by omega) Ht0.out (by omega) hQ q0 q1 W)
          have u2 : IntKind.i64.wrap (x.v - m) = x.v - m := IntWalk.i64_in _ (by omega)
          have u3 : IntKind.u64.wrap (x.v - m) = x.v - m := IntWalk.u64_in _ (by omega)
          have hst := dueB_drop (m := m) (tot := totW S.l) (far := farW m S.l) hx bi
          have Hel := Lib.hid hel
          have Hst := Lib.hid hst
          clear hx d0 d1 d2 d3 hbwt hel hst
          by_cases c1 : dh < ph ∨ (ph = dh ∧ dl < pl)
          · have hne : eligW m (totW S.l) (farW m S.l) x = false := by
              cases he : eligW m (totW S.l) (farW m S.l) x with
              | false => rfl
              | true => exact absurd c1 (Hel.out.1 he)
            have Hrest := Lib.hid (show dueB m (totW S.l) (farW m S.l) (S.l.drop (i + 1)) bi = bo by have h1 := Hst.out; rw [hne] at h1; simp only [Bool.false_and, Bool.false_eq_true, if_false] at h1; rw [← h1]; exact HB2.out)
            clear hne
            generalize hbb : bi.isSome = bb
            have Hbb := Lib.hid hbb
            clear hbb
            rcases c1 with c1 | ⟨c1, c2⟩
            · go_wp2_with (go_at_call 234; refine (HM2.out _).mono ?_; rintro e wm ⟨rfl, rfl⟩)
              go_roundw
              case measure => simp [intOf]; omega
              case rel => exact ⟨i + 1, bi, hlk2, by go_num, by rw [Hbb.out], Hbt.out.alloc (by omega) _, heap_alloc HG2.out _, Hrest.out⟩
            · subst c1
              go_wp2_with (go_at_call 234; refine (HM2.out _).mono ?_; rintro e wm ⟨rfl, rfl⟩)
              go_roundw
              case measure => simp [intOf]; omega
              case rel => exact ⟨i + 1, bi, hlk2, by go_num, by rw [Hbb.out], Hbt.out.alloc (by omega) _, heap_alloc HG2.out _, Hrest.out⟩
          · have hyes : eligW m (totW S.l) (farW m S.l) x = true := Hel.out.2 c1
            have h1 := Hst.out
            rw [hyes, Bool.true_and, HB2.out] at h1
            have c3 : decide (dh < ph) = false := decide_eq_false fun h => c1 (.inl h)
            cases bi with
            | none =>
              have Hrest := Lib.hid (show dueB m (totW S.l) (farW m S.l) (S.l.drop (i + 1)) (some x) = bo by rw [h1]; rfl)
              obtain ⟨z0, z1, z2, z3, v0, v1, v2, v3, _⟩ := blk4 HG2.out
              simp only [Option.isSome_none]
              clear h1 hyes
              by_cases c2 : ph = dh
              · subst c2
                have c4 : decide (dl < pl) = false := decide_eq_false fun h => c1 (.inr ⟨rfl, h⟩)
                clear c1
                go_wp2_with (go_at_call 234; refine (HM2.out _).mono ?_; rintro e wm ⟨rfl, rfl⟩)
                go_roundw
                case measure => simp [intOf]; omega
                case rel => exact ⟨i + 1, some x, hlk2, by go_num, rfl, ((((Hbt.out.setCell (Nat.le_refl _) _).setCell (Nat.le_refl _) _).setCell (Nat.le_refl _) _).setCell (Nat.le_refl _) _).alloc (by simp; omega) _, heap_alloc (heap_set (heap_set (heap_set (heap_set HG2.out _) _) _) _) _, Hrest.out⟩
              · have c4 : (ph == dh) = false := by simpa using c2
                clear c1 c2
                go_wp2_with (go_at_call 234; refine (HM2.out _).mono ?_; rintro e wm ⟨rfl, rfl⟩)
                go_roundw
                case measure => simp [intOf]; omega
                case rel => exact ⟨i + 1, some x, hlk2, by go_num, rfl, ((((Hbt.out.setCell (Nat.le_refl _) _).setCell (Nat.le_refl _) _).setCell (Nat.le_refl _) _).setCell (Nat.le_refl _) _).alloc (by simp; omega) _, heap_alloc (heap_set (heap_set (heap_set (heap_set HG2.out _) _) _) _) _, Hrest.out⟩
            | some y =>
              obtain ⟨z0, z1, z2, z3, v0, v1, v2, v3, _⟩ := blk4 HG2.out
              simp only [Option.isSome_some]
              by_cases hday : x.day < y.day
              · have Hrest := Lib.hid (show dueB m (totW S.l) (farW m S.l) (S.l.drop (i + 1)) (some x) = bo by rw [h1]; unfold laterW; simp only; rw [if_pos (decide_eq_true hday)])
                clear h1 hyes
                by_cases c2 : ph = dh
                · subst c2
                  have c4 : decide (dl < pl) = false := decide_eq_false fun h => c1 (.inr ⟨rfl, h⟩)
                  clear c1
                  go_wp2_with (go_at_call 234; refine (HM2.out _).mono ?_; rintro e wm ⟨rfl, rfl⟩)
                  go_roundw
                  case measure => simp [intOf]; omega
                  case rel => exact ⟨i + 1, some x, hlk2, by go_num, rfl, ((((Hbt.out.setCell (Nat.le_refl _) _).setCell (Nat.le_refl _) _).setCell (Nat.le_refl _) _).setCell (Nat.le_refl _) _).alloc (by simp; omega) _, heap_alloc (heap_set (heap_set (heap_set (heap_set HG2.out _) _) _) _) _, Hrest.out⟩
                · have c4 : (ph == dh) = false := by simpa using c2
                  clear c1 c2
                  go_wp2_with (go_at_call 234; refine (HM2.out _).mono ?_; rintro e wm ⟨rfl, rfl⟩)
                  go_roundw
                  case measure => simp [intOf]; omega
                  case rel => exact ⟨i + 1, some x, hlk2, by go_num, rfl, ((((Hbt.out.setCell (Nat.le_refl _) _).setCell (Nat.le_refl _) _).setCell (Nat.le_refl _) _).setCell (Nat.le_refl _) _).alloc (by simp; omega) _, heap_alloc (heap_set (heap_set (heap_set (heap_set HG2.out _) _) _) _) _, Hrest.out⟩
              · have Hrest := Lib.hid (show dueB m (totW S.l) (farW m S.l) (S.l.drop (i + 1)) (some y) = bo by rw [h1]; unfold laterW; simp only; rw [if_neg (by simpa using hday)])
                clear h1 hyes
                by_cases c2 : ph = dh
                · subst c2
                  have c4 : decide (dl < pl) = false := decide_eq_false fun h => c1 (.inr ⟨rfl, h⟩)
                  clear c1
                  go_wp2_with (go_at_call 234; refine (HM2.out _).mono ?_; rintro e wm ⟨rfl, rfl⟩)
                  go_roundw
                  case measure => simp [intOf]; omega
                  case rel => exact ⟨i + 1, some y, hlk2, by go_num, rfl, Hbt.out.alloc (by omega) _, heap_alloc HG2.out _, Hrest.out⟩
                · have c4 : (ph == dh) = false := by simpa using c2
                  clear c1 c2
                  go_wp2_with (go_at_call 234; refine (HM2.out _).mono ?_; rintro e wm ⟨rfl, rfl⟩)
                  go_roundw
                  case measure => simp [intOf]; omega
                  case rel => exact ⟨i + 1, some y, hlk2, by go_num, rfl, Hbt.out.alloc (by omega) _, heap_alloc HG2.out _, Hrest.out⟩
        · obtain rfl : i = k := by omega
          have edr : S.l.drop i = [] := List.drop_of_length_le (by rw [Hn.out]; exact Nat.le_refl _)
          have hb3 : bi = bo := by have h1 := HB2.out; rw [edr] at h1; exact h1
          subst hb3
          have Hr2 := Lib.hid (show takeR S bi = (S', v, r) by have h1 := Hr.out; rw [Hbo.out] at h1; exact h1)
          have hbwt := Hbw.out.trans (Hbt.out.mono hszw)
          obtain ⟨hcz, hfz⟩ := bcell hbwt
          have Hbwt := Lib.hid hbwt
          clear edr hbwt
          cases bi with
          | none =>
            obtain ⟨z0, z1, z2, z3, v0, v1, v2, v3, _⟩ := blk4 HG2.out
            simp only [Option.isSome_none]
            go_wp2_with fail
            refine wp_region_chain 125 [0, 1, 3, 0, 0, 31, 63, 63, 255, 511] [(0, none), (1, none), (2, none), (3, none), (4, none), (5, some []), (6, none), (7, none), (8, none), (9, none)] (by kernel_rfl) (by kernel_rfl) (by rfl) ?_; simp only [chain, Obs, List.getElem?_toArray, List.getElem?_cons_zero, List.getElem?_cons_succ]
            go_wp2_with (first
              | (with_reducible refine And.intro (by first | with_reducible exact True.intro | with_reducible rfl | go_simp) ?_)
              | (go_at_call 189; refine (takeL (H0.out.below Hbwt.out.drew) none Hr2.out _ _ rfl).mono ?_; rintro e w3 ⟨rfl, hq⟩; have hq := QPost.after Hbwt.out.drew hq))
            refine NoPanic.normal ?_
            go_wp2_with fail
            go_ret2
            exact ⟨rfl, hq⟩
          | some y =>
            obtain ⟨z0, z1, z2, z3, v0, v1, v2, v3, _⟩ := blk4 HG2.out
            simp only [Option.isSome_some]
            go_wp2_with fail
            refine wp_region_chain 125 [0, 1, 3, 0, 0, 31, 63, 63, 255, 511] [(0, none), (1, none), (2, none), (3, none), (4, none), (5, some []), (6, none), (7, none), (8, none), (9, none)] (by kernel_rfl) (by kernel_rfl) (by rfl) ?_; simp only [chain, Obs, List.getElem?_toArray, List.getElem?_cons_zero, List.getElem?_cons_succ]
            go_wp2_with (first
              | (with_reducible refine And.intro (by first | with_reducible exact True.intro | with_reducible rfl | go_simp) ?_)
              | (go_at_call 189; refine (takeL (H0.out.below Hbwt.out.drew) (some y) Hr2.out _ _ rfl).mono ?_; rintro e w3 ⟨rfl, hq⟩; have hq := QPost.after Hbwt.out.drew hq))
            refine NoPanic.normal ?_
            go_wp2_with fail
            go_ret2
            exact ⟨rfl, hq⟩
end
end Go.Proofs.YtlgkkolgdjgclaaGreat
