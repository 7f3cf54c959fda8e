/- CoreLoads walked. -/
import Derived.Test.YtfijedmdfkelnaaGreatLoadsM
import Derived.Test.YtfijedmdfkelnaaGreatAct15
import Derived.Test.YtfijedmdfkelnaaGreatAw15
import Derived.Test.YtfijedmdfkelnaaGreatFind
import Derived.Test.YtfijedmdfkelnaaGreatCor
import Derived.Test.YtfijedmdfkelnaaGreatRf
namespace Go.Proofs.YtfijedmdfkelnaaGreat
open Go.RowKit
set_option linter.unusedVariables false
set_option linter.unusedSimpArgs false

set_option maxHeartbeats 12800000 in
set_option maxRecDepth 100000 in
theorem CoreLoads_walk (tag : Int) (acts : List Ad) (m : Nat) (aa : Option Addr) (ac : Nat) (w : World) (htag : I64 tag) (hna : acts.length = m) (hma : m ≤ maxLen) (hac : Sl Ad.enc 6 w aa acts) :
    Calls Tryz.prog 4 #[.int .i64 tag, .slice aa m ac] w fun e w' => e = .returned (.bool true) ∧ Below w.heap.size w w' := by
  have HA := Lib.hid hac
  have HM := Lib.hid hna
  unfold maxLen at hma
  clear hac hna
  by_cases h1 : (80 : Int) < m
  · go_enter Tryz.func4, Tryz.ntmps4
    go_wp2_with (first
      | (go_at_call 22; refine (awakeC _).mono ?_; rintro e w1 ⟨rfl, hb1⟩; have Hb1 := Lib.hid hb1; clear hb1)
      )
    go_ret
    exact ⟨rfl, Hb1.out⟩
  · by_cases ht : TagOk tag
    case neg =>
      have HN := Lib.hid (fun W => CorNew_err tag 0 W fun h => ht h.1)
      clear ht
      go_enter Tryz.func4, Tryz.ntmps4
      go_wp2_with (first
        | (go_at_call 22; refine (awakeC _).mono ?_; rintro e w1 ⟨rfl, hb1⟩; have Hb1 := Lib.hid hb1; clear hb1)
        | (go_at_call 23; refine (HN.out _).mono ?_; rintro e w2 ⟨rfl, hb2⟩; have Hb2 := Lib.hid hb2; clear hb2))
      go_ret
      exact ⟨rfl, Hb1.out.trans (Hb2.out.mono Hb1.out.size)⟩
    case pos =>
      have HN := Lib.hid (fun W => CorNew_ok tag 0 W ht (by decide))
      have HI0 := Lib.hid (show CoreOk 0 (((0 : Nat) : Int) * 1125899906842624) (⟨tag, ⟨0, -1, []⟩, fun _ => 0, 0, 0, 0⟩ : CoreS) from ⟨ht, OkS.new (by decide) (by decide), Int.le_refl _, Int.le_refl _, Int.le_refl _, Int.le_refl _, fun _ => Int.le_refl _, fun _ => Int.le_refl _, Nat.le_refl _⟩)
      clear ht
      go_enter Tryz.func4, Tryz.ntmps4
      go_wp2_with (first
        | (go_at_call 22; refine (awakeC _).mono ?_; rintro e w1 ⟨rfl, hb1⟩; have Hb1 := Lib.hid hb1; clear hb1)
        | (go_at_call 23; refine (HN.out _).mono ?_; go_loud (rintro e w2 hnp); obtain ⟨c, p, b, r, F, rfl, hc, _, _⟩ := hnp.st Hb1.out; have Hc := Lib.hid hc; clear hc hnp))
      go_loopw [7] (fun ix wr => ∃ (i : Nat) (F : Nat → Prop) (s : CoreS), i ≤ m ∧ ix = .int .i64 i ∧ CSt w wr F c p b r s ∧ CoreOk i ((i : Int) * 1125899906842624) s) (fun ix _ => m - (intOf ix).toNat)
      case atStart => exact ⟨0, F, _, Nat.zero_le _, rfl, Hc.out, HI0.out⟩
      case round =>
        obtain ⟨i, F, s, hi, rfl, hc, hI⟩ := hrel
        have Hc := Lib.hid hc
        have HI := Lib.hid hI
        clear hc hI HI0 HN
        by_cases hlt : i < m
        case neg =>
          have Hold := Lib.hid Hc.out.old
          clear Hc HI
          go_wp2_with fail
          go_ret
          exact ⟨rfl, Hold.out⟩
        case pos =>
          obtain ⟨r0, off, rfl, hr, hcc⟩ := HA.out (by intro h; have h1 := HM.out; rw [h] at h1; simp at h1; omega)
          obtain ⟨x, hx⟩ : ∃ y, acts[i]? = some y := ⟨_, List.getElem?_eq_getElem (by rw [HM.out]; exact hlt)⟩
          have Hcc := Lib.hid (fun W (hW : Below w.heap.size w W) => (⟨trivial, fun k u hu => (hW.cell (p := ⟨r0, off + i * 6 + k, none⟩) hr).trans (hcc i x hx k u hu)⟩ : True ∧ ∀ k u, x.enc[k]? = some u → W.cell? ⟨r0, off + i * 6 + k, none⟩ = some u))
          have hki : (i : Int) < m := by omega
          have HT := Lib.hid HI.out.tag
          have HO := Lib.hid HI.out.ok
          have Hlt := Lib.hid Hc.out.lt
          have hrz : r0 < wr.heap.size := by have := Hc.out.old.size; omega
          have hlen := HI.out.ok.len
          have htot := tot_ok HI.out.ok
          have e0 := (Hcc.out _ Hc.out.old).2 0 _ rfl
          have e1 := (Hcc.out _ Hc.out.old).2 1 _ rfl
          have e2 := (Hcc.out _ Hc.out.old).2 2 _ rfl
          have e3 := (Hcc.out _ Hc.out.old).2 3 _ rfl
          have e4 := (Hcc.out _ Hc.out.old).2 4 _ rfl
          have e5 := (Hcc.out _ Hc.out.old).2 5 _ rfl
          simp only [Nat.add_zero] at e0
          clear hcc hx
          by_cases o1 : x.op = 1
          case pos =>
            have b1 : (x.op == 1) = true := by simpa using o1
            rcases loads_leave HI.out.ok x.id with ⟨hf, hl⟩ | ⟨j, y, S', v, hf, hj, hl, htw, hy1, hy2⟩
            · as_aux_lemma =>
              have HFi := Lib.hid (fun W a2 c2 (hW : Sl It.enc 3 W a2 (s.q.l.map (itOf s.q.base))) => FindF_none s.q.cur x.id (s.q.l.map (itOf s.q.base)) s.q.l.length a2 c2 W (List.length_map _) (by omega) hW hf)
              have HLv := Lib.hid (fun W (hW : CSt w W F c p b r s) => CorLeave hW HI.out (by omega) x.id hl)
              clear hf hl
              go_wp2_with (go_at_call 24; refine (CorLoad Hc.out HT.out HO.out).mono ?_; rintro e w2 ⟨rfl, hb2⟩; have Hc2 := Lib.hid (Hc.out.below hb2); have hz2 := hb2.size
                           have e0 := (Hcc.out _ Hc2.out.old).2 0 _ rfl
                           have e1 := (Hcc.out _ Hc2.out.old).2 1 _ rfl
                           have e2 := (Hcc.out _ Hc2.out.old).2 2 _ rfl
                           have e3 := (Hcc.out _ Hc2.out.old).2 3 _ rfl
                           have e4 := (Hcc.out _ Hc2.out.old).2 4 _ rfl
                           have e5 := (Hcc.out _ Hc2.out.old).2 5 _ rfl
                           simp only [Nat.add_zero] at e0
                           clear hb2)
              refine wp_region_tree 126 [0, 1, 0, 0, 12, 28, 60, 127, 255, 511, 511, 0, 3071, 8191] (.one 0 (.one 2 (.one 3 (.one 4 (.one 5 (.one 6 (.fork 1 [2, 3, 4, 5, 6] (.fork 7 [] (.one 8 (.one 9 (.one 10 (.act 11 [8, 9, 10] (.act 12 [10] (.one 13 .done)))))) 11 [2, 3, 4, 5, 6] (.act 7 [] (.one 8 (.one 9 (.one 10 (.act 12 [10] (.one 13 .done))))))) 11 [0, 2, 3, 4, 5, 6] (.act 1 [2, 3, 4, 5, 6] (.act 7 [] (.one 8 (.one 9 (.one 10 (.act 12 [10] (.one 13 .done)))))))))))))) (by kernel_rfl) (by kernel_rfl) (by rfl) ?_; simp only [chainT, Obs, List.getElem?_toArray, List.getElem?_cons_zero, List.getElem?_cons_succ]
              have Hc2d := Lib.hid (Hc2.out.below (Below.refl _ _).drew)
              have hd2 : w2.drew.heap.size = w2.heap.size := rfl
              go_wp2_with (first
                | (with_reducible refine And.intro True.intro ?_)
                | (with_reducible refine And.intro rfl ?_)
                )
              refine And.intro ?_ ?_
              · go_wp2_with (first
                  | (with_reducible refine And.intro True.intro ?_)
                  | (with_reducible refine And.intro rfl ?_)
                  | (with_reducible refine And.intro (show _ = _ by go_simp) ?_)
                  | (go_at_call 26; refine (CorForm Hc2d.out HT.out HO.out).mono ?_; rintro e w3 ⟨a3, k3, rfl, ho, hb3⟩; rw [List.length_map] at ho ⊢; have Hs3 := Lib.hid (Sl.of_own (l := s.q.l.map (itOf s.q.base)) It.len (by rw [List.length_map]; exact ho)); have Hc3 := Lib.hid (Hc2d.out.below hb3); have Hb3 := Lib.hid hb3; have hz3 := hb3.size
                     have e0 := (Hcc.out _ Hc3.out.old).2 0 _ rfl
                     have e1 := (Hcc.out _ Hc3.out.old).2 1 _ rfl
                     have e2 := (Hcc.out _ Hc3.out.old).2 2 _ rfl
                     have e3 := (Hcc.out _ Hc3.out.old).2 3 _ rfl
                     have e4 := (Hcc.out _ Hc3.out.old).2 4 _ rfl
                     have e5 := (Hcc.out _ Hc3.out.old).2 5 _ rfl
                     simp only [Nat.add_zero] at e0
                     skip
                     clear ho hb3)
                  )
                refine And.intro ?_ ?_
                · go_wp2_with (first
                    | (with_reducible refine And.intro True.intro ?_)
                    | (with_reducible refine And.intro rfl ?_)
                    | (with_reducible refine And.intro (show _ = _ by go_simp) ?_)
                    | (go_at_call 25; refine (HFi.out _ a3 k3 Hs3.out).mono ?_; rintro e w4 ⟨rfl, hb4⟩; have Hc4 := Lib.hid (Hc3.out.below hb4); have Hb4 := Lib.hid hb4; have hz4 := hb4.size
                       have e0 := (Hcc.out _ Hc4.out.old).2 0 _ rfl
                       have e1 := (Hcc.out _ Hc4.out.old).2 1 _ rfl
                       have e2 := (Hcc.out _ Hc4.out.old).2 2 _ rfl
                       have e3 := (Hcc.out _ Hc4.out.old).2 3 _ rfl
                       have e4 := (Hcc.out _ Hc4.out.old).2 4 _ rfl
                       have e5 := (Hcc.out _ Hc4.out.old).2 5 _ rfl
                       simp only [Nat.add_zero] at e0
                       skip
                       clear hb4)
                    )
                  refine NoPanic.normal ?_
                  have hk9 : wr.heap.size ≤ w4.heap.size := by omega
                  have hr9 : r0 ≠ w4.heap.size := by omega
                  have e0 := (Hcc.out _ (Hc4.out.old.trans ((Below.refl _ _).alloc Hc4.out.old.size (.cells #[.int .i64 0, .int .i64 0, .int .i64 0] 69)))).2 0 _ rfl
                  have e1 := (Hcc.out _ (Hc4.out.old.trans ((Below.refl _ _).alloc Hc4.out.old.size (.cells #[.int .i64 0, .int .i64 0, .int .i64 0] 69)))).2 1 _ rfl
                  have e2 := (Hcc.out _ (Hc4.out.old.trans ((Below.refl _ _).alloc Hc4.out.old.size (.cells #[.int .i64 0, .int .i64 0, .int .i64 0] 69)))).2 2 _ rfl
                  have e3 := (Hcc.out _ (Hc4.out.old.trans ((Below.refl _ _).alloc Hc4.out.old.size (.cells #[.int .i64 0, .int .i64 0, .int .i64 0] 69)))).2 3 _ rfl
                  have e4 := (Hcc.out _ (Hc4.out.old.trans ((Below.refl _ _).alloc Hc4.out.old.size (.cells #[.int .i64 0, .int .i64 0, .int .i64 0] 69)))).2 4 _ rfl
                  have e5 := (Hcc.out _ (Hc4.out.old.trans ((Below.refl _ _).alloc Hc4.out.old.size (.cells #[.int .i64 0, .int .i64 0, .int .i64 0] 69)))).2 5 _ rfl
                  simp only [Nat.add_zero] at e0
                  go_wp2_with (go_at_call 27; refine (HLv.out _ (by first | exact Hc4.out | exact Hc4.out.below ((Below.refl _ _).alloc (Nat.le_refl _) _) | exact (Hc4.out.below ((Below.refl _ w4).alloc (Nat.le_refl _) (.cells #[.int .i64 0, .int .i64 0, .int .i64 0] 69))))).mono ?_; rintro e w6 ⟨rfl, F6, hc6, _, _⟩; have Hc6 := Lib.hid hc6; clear hc6)
                  refine wp_region_chain 126 [0, 1, 0, 7, 15, 31, 63, 127, 255, 127, 127, 1151, 3711, 8191, 16383, 32767] [(0, none), (1, none), (2, none), (3, none), (4, none), (5, none), (6, none), (7, none), (9, none), (10, none), (11, none), (12, none), (8, some [9, 10, 11, 12]), (13, none), (14, none), (15, none)] (by kernel_rfl) (by kernel_rfl) (by rfl) ?_; simp only [chain, Obs, List.getElem?_toArray, List.getElem?_cons_zero, List.getElem?_cons_succ]
                  have Hc7 := Lib.hid (Hc6.out.below (Below.refl _ _).drew)
                  go_wp2_with (first
                    | (with_reducible refine And.intro True.intro ?_)
                    | (with_reducible refine And.intro rfl ?_)
                    | (with_reducible refine And.intro (show _ = _ by go_simp) ?_)
                    )
                  refine NoPanic.normal ?_
                  go_wp2_with fail
                  go_roundw
                  case rel => exact ⟨i + 1, F6, _, hlt, by go_num, Hc7.out, (HI.out.leave x.id).mono (Nat.le_refl _) (by omega) (by omega)⟩
                  case measure => simp [intOf]; omega
                · have hr9 : r0 ≠ w3.heap.size := by omega
                  have hda : (w3.alloc (.cells #[.int .i64 0, .int .i64 0, .int .i64 0] 69)).heap.size = w3.heap.size + 1 := by simp
                  have ea1 := (Hcc.out _ (Hc3.out.old.trans ((Below.refl _ _).alloc Hc3.out.old.size (.cells #[.int .i64 0, .int .i64 0, .int .i64 0] 69)))).2 1 _ rfl
                  have Hc3a := Lib.hid (Hc3.out.below ((Below.refl _ _).alloc (Nat.le_refl _) (.cells #[.int .i64 0, .int .i64 0, .int .i64 0] 69)))
                  have HX3 := Lib.hid (heap_new w3 (.cells #[.int .i64 0, .int .i64 0, .int .i64 0] 69))
                  go_wp2_with (first
                    | (with_reducible refine And.intro True.intro ?_)
                    | (with_reducible refine And.intro rfl ?_)
                    | (with_reducible refine And.intro (show _ = _ by go_simp) ?_)
                    | (go_at_call 25; refine (HFi.out _ a3 k3 (Hs3.out.below ((Below.refl _ _).alloc (Nat.le_refl _) _))).mono ?_; rintro e w4 ⟨rfl, hb4⟩; have Hc4 := Lib.hid (Hc3a.out.below hb4); have Hb4 := Lib.hid hb4; have hz4 := hb4.size
                       have e0 := (Hcc.out _ Hc4.out.old).2 0 _ rfl
                       have e1 := (Hcc.out _ Hc4.out.old).2 1 _ rfl
                       have e2 := (Hcc.out _ Hc4.out.old).2 2 _ rfl
                       have e3 := (Hcc.out _ Hc4.out.old).2 3 _ rfl
                       have e4 := (Hcc.out _ Hc4.out.old).2 4 _ rfl
                       have e5 := (Hcc.out _ Hc4.out.old).2 5 _ rfl
                       simp only [Nat.add_zero] at e0
                       have hx4 := heap_below HX3.out hb4; obtain ⟨z0, z1, z2, y0, y1, y2, zl⟩ := blk3 hx4; have HX4 := Lib.hid hx4
                       clear hb4)
                    )
                  refine NoPanic.normal ?_
                  have hk9 : wr.heap.size ≤ w3.heap.size := by omega
                  go_wp2_with (go_at_call 27; refine (HLv.out _ (by first | exact Hc4.out | exact Hc4.out.below ((Below.refl _ _).alloc (Nat.le_refl _) _) | exact (Hc3.out.below ((((((Below.refl _ w3).alloc (Nat.le_refl _) (.cells #[.int .i64 0, .int .i64 0, .int .i64 0] 69)).trans (Hb4.out.mono (by simp))).setCell (by simp) _).setCell (by simp) _).setCell (by simp) _)))).mono ?_; rintro e w6 ⟨rfl, F6, hc6, _, _⟩; have Hc6 := Lib.hid hc6; clear hc6)
                  refine wp_region_chain 126 [0, 1, 0, 7, 15, 31, 63, 127, 255, 127, 127, 1151, 3711, 8191, 16383, 32767] [(0, none), (1, none), (2, none), (3, none), (4, none), (5, none), (6, none), (7, none), (9, none), (10, none), (11, none), (12, none), (8, some [9, 10, 11, 12]), (13, none), (14, none), (15, none)] (by kernel_rfl) (by kernel_rfl) (by rfl) ?_; simp only [chain, Obs, List.getElem?_toArray, List.getElem?_cons_zero, List.getElem?_cons_succ]
                  have Hc7 := Lib.hid (Hc6.out.below (Below.refl _ _).drew)
                  go_wp2_with (first
                    | (with_reducible refine And.intro True.intro ?_)
                    | (with_reducible refine And.intro rfl ?_)
                    | (with_reducible refine And.intro (show _ = _ by go_simp) ?_)
                    )
                  refine NoPanic.normal ?_
                  go_wp2_with fail
                  go_roundw
                  case rel => exact ⟨i + 1, F6, _, hlt, by go_num, Hc7.out, (HI.out.leave x.id).mono (Nat.le_refl _) (by omega) (by omega)⟩
                  case measure => simp [intOf]; omega
              · have hr9 : r0 ≠ w2.heap.size := by omega
                have hda : (w2.drew.alloc (.cells #[.int .i64 0, .int .i64 0, .int .i64 0] 69)).heap.size = w2.heap.size + 1 := by simp [hd2]
                have ea1 := (Hcc.out _ (Hc2.out.old.trans ((Below.refl _ _).alloc Hc2.out.old.size (.cells #[.int .i64 0, .int .i64 0, .int .i64 0] 69)))).2 1 _ rfl
                have Hc2a := Lib.hid (Hc2d.out.below ((Below.refl _ _).alloc (Nat.le_refl _) (.cells #[.int .i64 0, .int .i64 0, .int .i64 0] 69)))
                have hx2 := heap_new w2.drew (.cells #[.int .i64 0, .int .i64 0, .int .i64 0] 69)
                rw [hd2] at hx2
                have HX2 := Lib.hid hx2
                clear hx2
                go_wp2_with (first
                  | (with_reducible refine And.intro True.intro ?_)
                  | (with_reducible refine And.intro rfl ?_)
                  | (with_reducible refine And.intro (show _ = _ by go_simp) ?_)
                  | (go_at_call 26; refine (CorForm Hc2a.out HT.out HO.out).mono ?_; rintro e w3 ⟨a3, k3, rfl, ho, hb3⟩; rw [List.length_map] at ho ⊢; have Hs3 := Lib.hid (Sl.of_own (l := s.q.l.map (itOf s.q.base)) It.len (by rw [List.length_map]; exact ho)); have Hc3 := Lib.hid (Hc2a.out.below hb3); have Hb3 := Lib.hid hb3; have hz3 := hb3.size
                     have e0 := (Hcc.out _ Hc3.out.old).2 0 _ rfl
                     have e1 := (Hcc.out _ Hc3.out.old).2 1 _ rfl
                     have e2 := (Hcc.out _ Hc3.out.old).2 2 _ rfl
                     have e3 := (Hcc.out _ Hc3.out.old).2 3 _ rfl
                     have e4 := (Hcc.out _ Hc3.out.old).2 4 _ rfl
                     have e5 := (Hcc.out _ Hc3.out.old).2 5 _ rfl
                     simp only [Nat.add_zero] at e0
                     have HX3 := Lib.hid (heap_below HX2.out hb3)
                     clear ho hb3)
                  | (go_at_call 25; refine (HFi.out _ a3 k3 Hs3.out).mono ?_; rintro e w4 ⟨rfl, hb4⟩; have Hc4 := Lib.hid (Hc3.out.below hb4); have Hb4 := Lib.hid hb4; have hz4 := hb4.size
                     have e0 := (Hcc.out _ Hc4.out.old).2 0 _ rfl
                     have e1 := (Hcc.out _ Hc4.out.old).2 1 _ rfl
                     have e2 := (Hcc.out _ Hc4.out.old).2 2 _ rfl
                     have e3 := (Hcc.out _ Hc4.out.old).2 3 _ rfl
                     have e4 := (Hcc.out _ Hc4.out.old).2 4 _ rfl
                     have e5 := (Hcc.out _ Hc4.out.old).2 5 _ rfl
                     simp only [Nat.add_zero] at e0
                     have hx4 := heap_below HX3.out hb4; obtain ⟨z0, z1, z2, y0, y1, y2, zl⟩ := blk3 hx4; have HX4 := Lib.hid hx4
                     clear hb4)
                  )
                refine NoPanic.normal ?_
                have hk9 : wr.heap.size ≤ w2.heap.size := by omega
                go_wp2_with (go_at_call 27; refine (HLv.out _ (by first | exact Hc4.out | exact Hc4.out.below ((Below.refl _ _).alloc (Nat.le_refl _) _) | exact (Hc2d.out.below (((((((Below.refl _ w2.drew).alloc (Nat.le_refl _) (.cells #[.int .i64 0, .int .i64 0, .int .i64 0] 69)).trans (Hb3.out.mono (by simp))).trans (Hb4.out.mono (by omega))).setCell (by simp) _).setCell (by simp) _).setCell (by simp) _)))).mono ?_; rintro e w6 ⟨rfl, F6, hc6, _, _⟩; have Hc6 := Lib.hid hc6; clear hc6)
                refine wp_region_chain 126 [0, 1, 0, 7, 15, 31, 63, 127, 255, 127, 127, 1151, 3711, 8191, 16383, 32767] [(0, none), (1, none), (2, none), (3, none), (4, none), (5, none), (6, none), (7, none), (9, none), (10, none), (11, none), (12, none), (8, some [9, 10, 11, 12]), (13, none), (14, none), (15, none)] (by kernel_rfl) (by kernel_rfl) (by rfl) ?_; simp only [chain, Obs, List.getElem?_toArray, List.getElem?_cons_zero, List.getElem?_cons_succ]
                have Hc7 := Lib.hid (Hc6.out.below (Below.refl _ _).drew)
                go_wp2_with (first
                  | (with_reducible refine And.intro True.intro ?_)
                  | (with_reducible refine And.intro rfl ?_)
                  | (with_reducible refine And.intro (show _ = _ by go_simp) ?_)
                  )
                refine NoPanic.normal ?_
                go_wp2_with fail
                go_roundw
                case rel => exact ⟨i + 1, F6, _, hlt, by go_num, Hc7.out, (HI.out.leave x.id).mono (Nat.le_refl _) (by omega) (by omega)⟩
                case measure => simp [intOf]; omega
            · as_aux_lemma =>
              have HFi := Lib.hid (fun W a2 c2 (hW : Sl It.enc 3 W a2 (s.q.l.map (itOf s.q.base))) => FindF_some s.q.cur x.id (s.q.l.map (itOf s.q.base)) s.q.l.length a2 c2 W (List.length_map _) (by omega) hW j (itOf s.q.base y) hf hj)
              have HLv := Lib.hid (fun W (hW : CSt w W F c p b r s) => CorLeave hW HI.out (by omega) x.id hl)
              have HIL := Lib.hid (HI.out.leave x.id)
              have hql : (s.leave x.id).q = S' := by
                have h1 : (s.leave x.id).q = (leaveR s.q x.id).1 := by unfold CoreS.leave CoreS.done; split <;> rfl
                rw [h1, hl]
              have HTW := Lib.hid (show totW (s.leave x.id).q.l = totW s.q.l - (itOf s.q.base y).w by rw [hql]; exact htw)
              have hwr : IntKind.i64.wrap (totW s.q.l - (itOf s.q.base y).w) = totW s.q.l - (itOf s.q.base y).w := IntWalk.i64_in _ (by show -9223372036854775808 ≤ totW s.q.l - y.w ∧ totW s.q.l - y.w ≤ 9223372036854775807; omega)
              have hwr2 : wrap64 (totW s.q.l - (itOf s.q.base y).w) = totW s.q.l - (itOf s.q.base y).w := by
                unfold wrap64
                rw [show (itOf s.q.base y).w = y.w from rfl]
                omega
              generalize itOf s.q.base y = yy at HFi HTW hwr hwr2
              clear hf hl hj hql htw
              go_wp2_with (go_at_call 24; refine (CorLoad Hc.out HT.out HO.out).mono ?_; rintro e w2 ⟨rfl, hb2⟩; have Hc2 := Lib.hid (Hc.out.below hb2); have hz2 := hb2.size
                           have e0 := (Hcc.out _ Hc2.out.old).2 0 _ rfl
                           have e1 := (Hcc.out _ Hc2.out.old).2 1 _ rfl
                           have e2 := (Hcc.out _ Hc2.out.old).2 2 _ rfl
                           have e3 := (Hcc.out _ Hc2.out.old).2 3 _ rfl
                           have e4 := (Hcc.out _ Hc2.out.old).2 4 _ rfl
                           have e5 := (Hcc.out _ Hc2.out.old).2 5 _ rfl
                           simp only [Nat.add_zero] at e0
                           clear hb2)
              refine wp_region_tree 126 [0, 1, 0, 0, 12, 28, 60, 127, 255, 511, 511, 0, 3071, 8191] (.one 0 (.one 2 (.one 3 (.one 4 (.one 5 (.one 6 (.fork 1 [2, 3, 4, 5, 6] (.fork 7 [] (.one 8 (.one 9 (.one 10 (.act 11 [8, 9, 10] (.act 12 [10] (.one 13 .done)))))) 11 [2, 3, 4, 5, 6] (.act 7 [] (.one 8 (.one 9 (.one 10 (.act 12 [10] (.one 13 .done))))))) 11 [0, 2, 3, 4, 5, 6] (.act 1 [2, 3, 4, 5, 6] (.act 7 [] (.one 8 (.one 9 (.one 10 (.act 12 [10] (.one 13 .done)))))))))))))) (by kernel_rfl) (by kernel_rfl) (by rfl) ?_; simp only [chainT, Obs, List.getElem?_toArray, List.getElem?_cons_zero, List.getElem?_cons_succ]
              have Hc2d := Lib.hid (Hc2.out.below (Below.refl _ _).drew)
              have hd2 : w2.drew.heap.size = w2.heap.size := rfl
              go_wp2_with (first
                | (with_reducible refine And.intro True.intro ?_)
                | (with_reducible refine And.intro rfl ?_)
                )
              refine And.intro ?_ ?_
              · go_wp2_with (first
                  | (with_reducible refine And.intro True.intro ?_)
                  | (with_reducible refine And.intro rfl ?_)
                  | (with_reducible refine And.intro (show _ = _ by go_simp) ?_)
                  | (go_at_call 26; refine (CorForm Hc2d.out HT.out HO.out).mono ?_; rintro e w3 ⟨a3, k3, rfl, ho, hb3⟩; rw [List.length_map] at ho ⊢; have Hs3 := Lib.hid (Sl.of_own (l := s.q.l.map (itOf s.q.base)) It.len (by rw [List.length_map]; exact ho)); have Hc3 := Lib.hid (Hc2d.out.below hb3); have Hb3 := Lib.hid hb3; have hz3 := hb3.size
                     have e0 := (Hcc.out _ Hc3.out.old).2 0 _ rfl
                     have e1 := (Hcc.out _ Hc3.out.old).2 1 _ rfl
                     have e2 := (Hcc.out _ Hc3.out.old).2 2 _ rfl
                     have e3 := (Hcc.out _ Hc3.out.old).2 3 _ rfl
                     have e4 := (Hcc.out _ Hc3.out.old).2 4 _ rfl
                     have e5 := (Hcc.out _ Hc3.out.old).2 5 _ rfl
                     simp only [Nat.add_zero] at e0
                     skip
                     clear ho hb3)
                  )
                refine And.intro ?_ ?_
                · go_wp2_with (first
                    | (with_reducible refine And.intro True.intro ?_)
                    | (with_reducible refine And.intro rfl ?_)
                    | (with_reducible refine And.intro (show _ = _ by go_simp) ?_)
                    | (go_at_call 25; refine (HFi.out _ a3 k3 Hs3.out).mono ?_; rintro e w4 ⟨rfl, hb4⟩; have Hc4 := Lib.hid (Hc3.out.below hb4); have Hb4 := Lib.hid hb4; have hz4 := hb4.size
                       have e0 := (Hcc.out _ Hc4.out.old).2 0 _ rfl
                       have e1 := (Hcc.out _ Hc4.out.old).2 1 _ rfl
                       have e2 := (Hcc.out _ Hc4.out.old).2 2 _ rfl
                       have e3 := (Hcc.out _ Hc4.out.old).2 3 _ rfl
                       have e4 := (Hcc.out _ Hc4.out.old).2 4 _ rfl
                       have e5 := (Hcc.out _ Hc4.out.old).2 5 _ rfl
                       simp only [Nat.add_zero] at e0
                       skip
                       clear hb4)
                    )
                  refine NoPanic.normal ?_
                  have hk9 : wr.heap.size ≤ w4.heap.size := by omega
                  have hr9 : r0 ≠ w4.heap.size := by omega
                  have e0 := (Hcc.out _ (Hc4.out.old.trans ((Below.refl _ _).alloc Hc4.out.old.size (.cells #[.int .i64 yy.id, .int .i64 yy.w, .int .i64 yy.lag] 69)))).2 0 _ rfl
                  have e1 := (Hcc.out _ (Hc4.out.old.trans ((Below.refl _ _).alloc Hc4.out.old.size (.cells #[.int .i64 yy.id, .int .i64 yy.w, .int .i64 yy.lag] 69)))).2 1 _ rfl
                  have e2 := (Hcc.out _ (Hc4.out.old.trans ((Below.refl _ _).alloc Hc4.out.old.size (.cells #[.int .i64 yy.id, .int .i64 yy.w, .int .i64 yy.lag] 69)))).2 2 _ rfl
                  have e3 := (Hcc.out _ (Hc4.out.old.trans ((Below.refl _ _).alloc Hc4.out.old.size (.cells #[.int .i64 yy.id, .int .i64 yy.w, .int .i64 yy.lag] 69)))).2 3 _ rfl
                  have e4 := (Hcc.out _ (Hc4.out.old.trans ((Below.refl _ _).alloc Hc4.out.old.size (.cells #[.int .i64 yy.id, .int .i64 yy.w, .int .i64 yy.lag] 69)))).2 4 _ rfl
                  have e5 := (Hcc.out _ (Hc4.out.old.trans ((Below.refl _ _).alloc Hc4.out.old.size (.cells #[.int .i64 yy.id, .int .i64 yy.w, .int .i64 yy.lag] 69)))).2 5 _ rfl
                  simp only [Nat.add_zero] at e0
                  go_wp2_with (go_at_call 27; go_loud (refine (HLv.out _ (Hc4.out.below ((Below.refl _ w4).alloc (Nat.le_refl _) (.cells #[.int .i64 yy.id, .int .i64 yy.w, .int .i64 yy.lag] 69)))).mono ?_); rintro e w6 ⟨rfl, F6, hc6, hf6, hs6⟩; have hx6 := heap_fr (heap_new w4 (.cells #[.int .i64 yy.id, .int .i64 yy.w, .int .i64 yy.lag] 69)) hf6 (fun h => by rcases h with h | h | h; (have := Hlt.out _ (.inl h); omega); (have := Hlt.out _ (.inr (.inl h)); omega); (have := Hlt.out _ (.inr (.inr (.inr h))); omega)); have Hc6 := Lib.hid hc6; have HX6 := Lib.hid hx6; obtain ⟨z0, z1, z2, y0, y1, y2, zl⟩ := blk3 hx6; clear hc6 hf6 hs6 hx6)
                  refine wp_region_chain 126 [0, 1, 0, 7, 15, 31, 63, 127, 255, 127, 127, 1151, 3711, 8191, 16383, 32767] [(0, none), (1, none), (2, none), (3, none), (4, none), (5, none), (6, none), (7, none), (9, none), (10, none), (11, none), (12, none), (8, some [9, 10, 11, 12]), (13, none), (14, none), (15, none)] (by kernel_rfl) (by kernel_rfl) (by rfl) ?_; simp only [chain, Obs, List.getElem?_toArray, List.getElem?_cons_zero, List.getElem?_cons_succ]
                  have Hc7 := Lib.hid (Hc6.out.below (Below.refl _ _).drew)
                  have HX7 := Lib.hid (heap_drew HX6.out)
                  go_wp2_with (first
                    | (with_reducible refine And.intro True.intro ?_)
                    | (with_reducible refine And.intro rfl ?_)
                    | (with_reducible refine And.intro (show _ = _ by go_simp) ?_)
                    | (go_at_call 24; refine (CorLoad Hc7.out HIL.out.tag HIL.out.ok).mono ?_; rw [HTW.out]; rintro e w8 ⟨rfl, hb8⟩; have Hc8 := Lib.hid (Hc7.out.below hb8); obtain ⟨z0, z1, z2, y0, y1, y2, zl⟩ := blk3 (heap_below HX7.out hb8); clear hb8))
                  refine NoPanic.normal ?_
                  go_wp2_with fail
                  go_roundw
                  case rel => exact ⟨i + 1, F6, _, hlt, by go_num, Hc8.out, HIL.out.mono (Nat.le_refl _) (by omega) (by omega)⟩
                  case measure => simp [intOf]; omega
                · have hr9 : r0 ≠ w3.heap.size := by omega
                  have hda : (w3.alloc (.cells #[.int .i64 0, .int .i64 0, .int .i64 0] 69)).heap.size = w3.heap.size + 1 := by simp
                  have ea1 := (Hcc.out _ (Hc3.out.old.trans ((Below.refl _ _).alloc Hc3.out.old.size (.cells #[.int .i64 0, .int .i64 0, .int .i64 0] 69)))).2 1 _ rfl
                  have Hc3a := Lib.hid (Hc3.out.below ((Below.refl _ _).alloc (Nat.le_refl _) (.cells #[.int .i64 0, .int .i64 0, .int .i64 0] 69)))
                  have HX3 := Lib.hid (heap_new w3 (.cells #[.int .i64 0, .int .i64 0, .int .i64 0] 69))
                  go_wp2_with (first
                    | (with_reducible refine And.intro True.intro ?_)
                    | (with_reducible refine And.intro rfl ?_)
                    | (with_reducible refine And.intro (show _ = _ by go_simp) ?_)
                    | (go_at_call 25; refine (HFi.out _ a3 k3 (Hs3.out.below ((Below.refl _ _).alloc (Nat.le_refl _) _))).mono ?_; rintro e w4 ⟨rfl, hb4⟩; have Hc4 := Lib.hid (Hc3a.out.below hb4); have Hb4 := Lib.hid hb4; have hz4 := hb4.size
                       have e0 := (Hcc.out _ Hc4.out.old).2 0 _ rfl
                       have e1 := (Hcc.out _ Hc4.out.old).2 1 _ rfl
                       have e2 := (Hcc.out _ Hc4.out.old).2 2 _ rfl
                       have e3 := (Hcc.out _ Hc4.out.old).2 3 _ rfl
                       have e4 := (Hcc.out _ Hc4.out.old).2 4 _ rfl
                       have e5 := (Hcc.out _ Hc4.out.old).2 5 _ rfl
                       simp only [Nat.add_zero] at e0
                       have hx4 := heap_below HX3.out hb4; obtain ⟨z0, z1, z2, y0, y1, y2, zl⟩ := blk3 hx4; have HX4 := Lib.hid hx4
                       clear hb4)
                    )
                  refine NoPanic.normal ?_
                  have hk9 : wr.heap.size ≤ w3.heap.size := by omega
                  go_wp2_with (go_at_call 27; go_loud (refine (HLv.out _ (Hc3.out.below ((((((Below.refl _ w3).alloc (Nat.le_refl _) (.cells #[.int .i64 0, .int .i64 0, .int .i64 0] 69)).trans (Hb4.out.mono (by simp))).setCell (by simp) _).setCell (by simp) _).setCell (by simp) _))).mono ?_); rintro e w6 ⟨rfl, F6, hc6, hf6, hs6⟩; have hx6 := heap_fr (heap_set (heap_set (heap_set HX4.out _) _) _) hf6 (fun h => by rcases h with h | h | h; (have := Hlt.out _ (.inl h); omega); (have := Hlt.out _ (.inr (.inl h)); omega); (have := Hlt.out _ (.inr (.inr (.inr h))); omega)); have Hc6 := Lib.hid hc6; have HX6 := Lib.hid hx6; obtain ⟨z0, z1, z2, y0, y1, y2, zl⟩ := blk3 hx6; clear hc6 hf6 hs6 hx6)
                  refine wp_region_chain 126 [0, 1, 0, 7, 15, 31, 63, 127, 255, 127, 127, 1151, 3711, 8191, 16383, 32767] [(0, none), (1, none), (2, none), (3, none), (4, none), (5, none), (6, none), (7, none), (9, none), (10, none), (11, none), (12, none), (8, some [9, 10, 11, 12]), (13, none), (14, none), (15, none)] (by kernel_rfl) (by kernel_rfl) (by rfl) ?_; simp only [chain, Obs, List.getElem?_toArray, List.getElem?_cons_zero, List.getElem?_cons_succ]
                  have Hc7 := Lib.hid (Hc6.out.below (Below.refl _ _).drew)
                  have HX7 := Lib.hid (heap_drew HX6.out)
                  go_wp2_with (first
                    | (with_reducible refine And.intro True.intro ?_)
                    | (with_reducible refine And.intro rfl ?_)
                    | (with_reducible refine And.intro (show _ = _ by go_simp) ?_)
                    | (go_at_call 24; refine (CorLoad Hc7.out HIL.out.tag HIL.out.ok).mono ?_; rw [HTW.out]; rintro e w8 ⟨rfl, hb8⟩; have Hc8 := Lib.hid (Hc7.out.below hb8); obtain ⟨z0, z1, z2, y0, y1, y2, zl⟩ := blk3 (heap_below HX7.out hb8); clear hb8))
                  refine NoPanic.normal ?_
                  go_wp2_with fail
                  go_roundw
                  case rel => exact ⟨i + 1, F6, _, hlt, by go_num, Hc8.out, HIL.out.mono (Nat.le_refl _) (by omega) (by omega)⟩
                  case measure => simp [intOf]; omega
              · have hr9 : r0 ≠ w2.heap.size := by omega
                have hda : (w2.drew.alloc (.cells #[.int .i64 0, .int .i64 0, .int .i64 0] 69)).heap.size = w2.heap.size + 1 := by simp [hd2]
                have ea1 := (Hcc.out _ (Hc2.out.old.trans ((Below.refl _ _).alloc Hc2.out.old.size (.cells #[.int .i64 0, .int .i64 0, .int .i64 0] 69)))).2 1 _ rfl
                have Hc2a := Lib.hid (Hc2d.out.below ((Below.refl _ _).alloc (Nat.le_refl _) (.cells #[.int .i64 0, .int .i64 0, .int .i64 0] 69)))
                have hx2 := heap_new w2.drew (.cells #[.int .i64 0, .int .i64 0, .int .i64 0] 69)
                rw [hd2] at hx2
                have HX2 := Lib.hid hx2
                clear hx2
                go_wp2_with (first
                  | (with_reducible refine And.intro True.intro ?_)
                  | (with_reducible refine And.intro rfl ?_)
                  | (with_reducible refine And.intro (show _ = _ by go_simp) ?_)
                  | (go_at_call 26; refine (CorForm Hc2a.out HT.out HO.out).mono ?_; rintro e w3 ⟨a3, k3, rfl, ho, hb3⟩; rw [List.length_map] at ho ⊢; have Hs3 := Lib.hid (Sl.of_own (l := s.q.l.map (itOf s.q.base)) It.len (by rw [List.length_map]; exact ho)); have Hc3 := Lib.hid (Hc2a.out.below hb3); have Hb3 := Lib.hid hb3; have hz3 := hb3.size
                     have e0 := (Hcc.out _ Hc3.out.old).2 0 _ rfl
                     have e1 := (Hcc.out _ Hc3.out.old).2 1 _ rfl
                     have e2 := (Hcc.out _ Hc3.out.old).2 2 _ rfl
                     have e3 := (Hcc.out _ Hc3.out.old).2 3 _ rfl
                     have e4 := (Hcc.out _ Hc3.out.old).2 4 _ rfl
                     have e5 := (Hcc.out _ Hc3.out.old).2 5 _ rfl
                     simp only [Nat.add_zero] at e0
                     have HX3 := Lib.hid (heap_below HX2.out hb3)
                     clear ho hb3)
                  | (go_at_call 25; refine (HFi.out _ a3 k3 Hs3.out).mono ?_; rintro e w4 ⟨rfl, hb4⟩; have Hc4 := Lib.hid (Hc3.out.below hb4); have Hb4 := Lib.hid hb4; have hz4 := hb4.size
                     have e0 := (Hcc.out _ Hc4.out.old).2 0 _ rfl
                     have e1 := (Hcc.out _ Hc4.out.old).2 1 _ rfl
                     have e2 := (Hcc.out _ Hc4.out.old).2 2 _ rfl
                     have e3 := (Hcc.out _ Hc4.out.old).2 3 _ rfl
                     have e4 := (Hcc.out _ Hc4.out.old).2 4 _ rfl
                     have e5 := (Hcc.out _ Hc4.out.old).2 5 _ rfl
                     simp only [Nat.add_zero] at e0
                     have hx4 := heap_below HX3.out hb4; obtain ⟨z0, z1, z2, y0, y1, y2, zl⟩ := blk3 hx4; have HX4 := Lib.hid hx4
                     clear hb4)
                  )
                refine NoPanic.normal ?_
                have hk9 : wr.heap.size ≤ w2.heap.size := by omega
                go_wp2_with (go_at_call 27; go_loud (refine (HLv.out _ (Hc2d.out.below (((((((Below.refl _ w2.drew).alloc (Nat.le_refl _) (.cells #[.int .i64 0, .int .i64 0, .int .i64 0] 69)).trans (Hb3.out.mono (by simp))).trans (Hb4.out.mono (by omega))).setCell (by simp) _).setCell (by simp) _).setCell (by simp) _))).mono ?_); rintro e w6 ⟨rfl, F6, hc6, hf6, hs6⟩; have hx6 := heap_fr (heap_set (heap_set (heap_set HX4.out _) _) _) hf6 (fun h => by rcases h with h | h | h; (have := Hlt.out _ (.inl h); omega); (have := Hlt.out _ (.inr (.inl h)); omega); (have := Hlt.out _ (.inr (.inr (.inr h))); omega)); have Hc6 := Lib.hid hc6; have HX6 := Lib.hid hx6; obtain ⟨z0, z1, z2, y0, y1, y2, zl⟩ := blk3 hx6; clear hc6 hf6 hs6 hx6)
                refine wp_region_chain 126 [0, 1, 0, 7, 15, 31, 63, 127, 255, 127, 127, 1151, 3711, 8191, 16383, 32767] [(0, none), (1, none), (2, none), (3, none), (4, none), (5, none), (6, none), (7, none), (9, none), (10, none), (11, none), (12, none), (8, some [9, 10, 11, 12]), (13, none), (14, none), (15, none)] (by kernel_rfl) (by kernel_rfl) (by rfl) ?_; simp only [chain, Obs, List.getElem?_toArray, List.getElem?_cons_zero, List.getElem?_cons_succ]
                have Hc7 := Lib.hid (Hc6.out.below (Below.refl _ _).drew)
                have HX7 := Lib.hid (heap_drew HX6.out)
                go_wp2_with (first
                  | (with_reducible refine And.intro True.intro ?_)
                  | (with_reducible refine And.intro rfl ?_)
                  | (with_reducible refine And.intro (show _ = _ by go_simp) ?_)
                  | (go_at_call 24; refine (CorLoad Hc7.out HIL.out.tag HIL.out.ok).mono ?_; rw [HTW.out]; rintro e w8 ⟨rfl, hb8⟩; have Hc8 := Lib.hid (Hc7.out.below hb8); obtain ⟨z0, z1, z2, y0, y1, y2, zl⟩ := blk3 (heap_below HX7.out hb8); clear hb8))
                refine NoPanic.normal ?_
                go_wp2_with fail
                go_roundw
                case rel => exact ⟨i + 1, F6, _, hlt, by go_num, Hc8.out, HIL.out.mono (Nat.le_refl _) (by omega) (by omega)⟩
                case measure => simp [intOf]; omega
          case neg =>
            have b1 : (x.op == 1) = false := by simpa using o1
            rcases loads_enter HI.out x.id x.w x.lag x.exact with ⟨hm, hf, htw, hx1, hx2⟩ | ⟨hm, htw⟩
            · as_aux_lemma =>
              have HFi := Lib.hid (fun W a2 c2 (hW : Sl It.enc 3 W a2 (s.q.l.map (itOf s.q.base))) => FindF_none s.q.cur x.id (s.q.l.map (itOf s.q.base)) s.q.l.length a2 c2 W (List.length_map _) (by omega) hW hf)
              have HE := Lib.hid (fun W (hW : CSt w W F c p b r s) => CorEnter hW HI.out (by omega) (by omega) x.id x.w x.lag x.exact hm)
              have HIL := Lib.hid (HI.out.enter (by omega) x.id x.w x.lag x.exact)
              have HTW := Lib.hid htw
              have hwr : IntKind.i64.wrap (totW s.q.l + x.w) = totW s.q.l + x.w := IntWalk.i64_in _ (by omega)
              have hwr2 : wrap64 (totW s.q.l + x.w) = totW s.q.l + x.w := by
                unfold wrap64
                omega
              clear hm hf htw
              go_wp2_with (go_at_call 24; refine (CorLoad Hc.out HT.out HO.out).mono ?_; rintro e w2 ⟨rfl, hb2⟩; have Hc2 := Lib.hid (Hc.out.below hb2); have hz2 := hb2.size
                           have e0 := (Hcc.out _ Hc2.out.old).2 0 _ rfl
                           have e1 := (Hcc.out _ Hc2.out.old).2 1 _ rfl
                           have e2 := (Hcc.out _ Hc2.out.old).2 2 _ rfl
                           have e3 := (Hcc.out _ Hc2.out.old).2 3 _ rfl
                           have e4 := (Hcc.out _ Hc2.out.old).2 4 _ rfl
                           have e5 := (Hcc.out _ Hc2.out.old).2 5 _ rfl
                           simp only [Nat.add_zero] at e0
                           clear hb2)
              refine wp_region_tree 126 [0, 1, 0, 0, 12, 28, 60, 127, 255, 511, 511, 0, 3071, 8191] (.one 0 (.one 2 (.one 3 (.one 4 (.one 5 (.one 6 (.fork 1 [2, 3, 4, 5, 6] (.fork 7 [] (.one 8 (.one 9 (.one 10 (.act 11 [8, 9, 10] (.act 12 [10] (.one 13 .done)))))) 11 [2, 3, 4, 5, 6] (.act 7 [] (.one 8 (.one 9 (.one 10 (.act 12 [10] (.one 13 .done))))))) 11 [0, 2, 3, 4, 5, 6] (.act 1 [2, 3, 4, 5, 6] (.act 7 [] (.one 8 (.one 9 (.one 10 (.act 12 [10] (.one 13 .done)))))))))))))) (by kernel_rfl) (by kernel_rfl) (by rfl) ?_; simp only [chainT, Obs, List.getElem?_toArray, List.getElem?_cons_zero, List.getElem?_cons_succ]
              have Hc2d := Lib.hid (Hc2.out.below (Below.refl _ _).drew)
              have hd2 : w2.drew.heap.size = w2.heap.size := rfl
              go_wp2_with (first
                | (with_reducible refine And.intro True.intro ?_)
                | (with_reducible refine And.intro rfl ?_)
                )
              refine And.intro ?_ ?_
              · go_wp2_with (first
                  | (with_reducible refine And.intro True.intro ?_)
                  | (with_reducible refine And.intro rfl ?_)
                  | (with_reducible refine And.intro (show _ = _ by go_simp) ?_)
                  | (go_at_call 26; refine (CorForm Hc2d.out HT.out HO.out).mono ?_; rintro e w3 ⟨a3, k3, rfl, ho, hb3⟩; rw [List.length_map] at ho ⊢; have Hs3 := Lib.hid (Sl.of_own (l := s.q.l.map (itOf s.q.base)) It.len (by rw [List.length_map]; exact ho)); have Hc3 := Lib.hid (Hc2d.out.below hb3); have Hb3 := Lib.hid hb3; have hz3 := hb3.size
                     have e0 := (Hcc.out _ Hc3.out.old).2 0 _ rfl
                     have e1 := (Hcc.out _ Hc3.out.old).2 1 _ rfl
                     have e2 := (Hcc.out _ Hc3.out.old).2 2 _ rfl
                     have e3 := (Hcc.out _ Hc3.out.old).2 3 _ rfl
                     have e4 := (Hcc.out _ Hc3.out.old).2 4 _ rfl
                     have e5 := (Hcc.out _ Hc3.out.old).2 5 _ rfl
                     simp only [Nat.add_zero] at e0
                     skip
                     clear ho hb3)
                  )
                refine And.intro ?_ ?_
                · go_wp2_with (first
                    | (with_reducible refine And.intro True.intro ?_)
                    | (with_reducible refine And.intro rfl ?_)
                    | (with_reducible refine And.intro (show _ = _ by go_simp) ?_)
                    | (go_at_call 25; refine (HFi.out _ a3 k3 Hs3.out).mono ?_; rintro e w4 ⟨rfl, hb4⟩; have Hc4 := Lib.hid (Hc3.out.below hb4); have Hb4 := Lib.hid hb4; have hz4 := hb4.size
                       have e0 := (Hcc.out _ Hc4.out.old).2 0 _ rfl
                       have e1 := (Hcc.out _ Hc4.out.old).2 1 _ rfl
                       have e2 := (Hcc.out _ Hc4.out.old).2 2 _ rfl
                       have e3 := (Hcc.out _ Hc4.out.old).2 3 _ rfl
                       have e4 := (Hcc.out _ Hc4.out.old).2 4 _ rfl
                       have e5 := (Hcc.out _ Hc4.out.old).2 5 _ rfl
                       simp only [Nat.add_zero] at e0
                       skip
                       clear hb4)
                    )
                  refine NoPanic.normal ?_
                  have hk9 : wr.heap.size ≤ w4.heap.size := by omega
                  have hr9 : r0 ≠ w4.heap.size := by omega
                  have e0 := (Hcc.out _ (Hc4.out.old.trans ((Below.refl _ _).alloc Hc4.out.old.size (.cells #[.int .i64 0, .int .i64 0, .int .i64 0] 69)))).2 0 _ rfl
                  have e1 := (Hcc.out _ (Hc4.out.old.trans ((Below.refl _ _).alloc Hc4.out.old.size (.cells #[.int .i64 0, .int .i64 0, .int .i64 0] 69)))).2 1 _ rfl
                  have e2 := (Hcc.out _ (Hc4.out.old.trans ((Below.refl _ _).alloc Hc4.out.old.size (.cells #[.int .i64 0, .int .i64 0, .int .i64 0] 69)))).2 2 _ rfl
                  have e3 := (Hcc.out _ (Hc4.out.old.trans ((Below.refl _ _).alloc Hc4.out.old.size (.cells #[.int .i64 0, .int .i64 0, .int .i64 0] 69)))).2 3 _ rfl
                  have e4 := (Hcc.out _ (Hc4.out.old.trans ((Below.refl _ _).alloc Hc4.out.old.size (.cells #[.int .i64 0, .int .i64 0, .int .i64 0] 69)))).2 4 _ rfl
                  have e5 := (Hcc.out _ (Hc4.out.old.trans ((Below.refl _ _).alloc Hc4.out.old.size (.cells #[.int .i64 0, .int .i64 0, .int .i64 0] 69)))).2 5 _ rfl
                  simp only [Nat.add_zero] at e0
                  go_wp2_with fail
                  refine wp_region_chain 126 [0, 0, 0, 6, 14, 30, 0, 0, 192, 448, 960, 0, 0, 6144, 14336, 30720, 0, 0, 196608, 458752, 983040, 2097151, 4194303] [(0, none), (1, none), (2, none), (3, none), (4, none), (5, none), (6, none), (7, none), (8, none), (9, none), (10, none), (11, none), (12, none), (13, none), (14, none), (15, none), (16, none), (17, none), (18, none), (19, none), (20, none), (21, some []), (22, none)] (by kernel_rfl) (by kernel_rfl) (by rfl) ?_; simp only [chain, Obs, List.getElem?_toArray, List.getElem?_cons_zero, List.getElem?_cons_succ]
                  go_wp2_with (first
                    | (with_reducible refine And.intro (by first | with_reducible exact True.intro | with_reducible rfl | (go_simp; done) | (go_simp; intro h; simp [undef] at h)) ?_)
                    | (go_at_call 28; refine (HE.out _ (by first | exact Hc4.out.below (Below.refl _ _).drew | exact ((Hc4.out.below ((Below.refl _ w4).alloc (Nat.le_refl _) (.cells #[.int .i64 0, .int .i64 0, .int .i64 0] 69)))).below (Below.refl _ _).drew)).mono ?_; rintro e w6 ⟨rfl, F6, hc6, _, _⟩; have Hc6 := Lib.hid hc6
                       have e0 := (Hcc.out _ Hc6.out.old).2 0 _ rfl
                       have e1 := (Hcc.out _ Hc6.out.old).2 1 _ rfl
                       have e2 := (Hcc.out _ Hc6.out.old).2 2 _ rfl
                       have e3 := (Hcc.out _ Hc6.out.old).2 3 _ rfl
                       have e4 := (Hcc.out _ Hc6.out.old).2 4 _ rfl
                       have e5 := (Hcc.out _ Hc6.out.old).2 5 _ rfl
                       simp only [Nat.add_zero] at e0
                       clear hc6))
                  refine NoPanic.normal ?_
                  go_wp2_with fail
                  refine wp_region_chain 126 [0, 1, 3, 7, 15, 31, 63, 31, 31, 31, 799, 1823, 3871, 8095, 16383, 32767, 65535, 131071, 262143, 524287, 1048575, 2097151, 4194303, 2097151, 16777215, 33554431, 67108863] [(0, none), (1, none), (2, none), (3, none), (4, none), (5, none), (7, none), (8, none), (9, none), (10, none), (11, none), (12, none), (13, none), (6, some [7, 8, 9, 10, 11, 12, 13]), (14, none), (15, none), (16, none), (17, none), (18, none), (19, none), (20, none), (21, none), (23, none), (22, some [23]), (24, none), (25, none), (26, none)] (by kernel_rfl) (by kernel_rfl) (by rfl) ?_; simp only [chain, Obs, List.getElem?_toArray, List.getElem?_cons_zero, List.getElem?_cons_succ]
                  have Hc7 := Lib.hid (Hc6.out.below (Below.refl _ _).drew)
                  go_wp2_with (first
                    | (with_reducible refine And.intro (by first | with_reducible exact True.intro | with_reducible rfl | (go_simp; done) | (go_simp; intro h; simp [undef] at h)) ?_)
                    | (go_at_call 24; refine (CorLoad Hc7.out HIL.out.tag HIL.out.ok).mono ?_; rw [HTW.out]; rintro e w8 ⟨rfl, hb8⟩; have Hc8 := Lib.hid (Hc7.out.below hb8)
                       have e0 := (Hcc.out _ Hc8.out.old).2 0 _ rfl
                       have e1 := (Hcc.out _ Hc8.out.old).2 1 _ rfl
                       have e2 := (Hcc.out _ Hc8.out.old).2 2 _ rfl
                       have e3 := (Hcc.out _ Hc8.out.old).2 3 _ rfl
                       have e4 := (Hcc.out _ Hc8.out.old).2 4 _ rfl
                       have e5 := (Hcc.out _ Hc8.out.old).2 5 _ rfl
                       simp only [Nat.add_zero] at e0
                       clear hb8))
                  refine NoPanic.normal ?_
                  go_wp2_with fail
                  go_roundw
                  case rel => exact ⟨i + 1, F6, _, hlt, by go_num, Hc8.out, HIL.out.mono (Nat.le_refl _) (by omega) (by omega)⟩
                  case measure => simp [intOf]; omega
                · have hr9 : r0 ≠ w3.heap.size := by omega
                  have hda : (w3.alloc (.cells #[.int .i64 0, .int .i64 0, .int .i64 0] 69)).heap.size = w3.heap.size + 1 := by simp
                  have ea1 := (Hcc.out _ (Hc3.out.old.trans ((Below.refl _ _).alloc Hc3.out.old.size (.cells #[.int .i64 0, .int .i64 0, .int .i64 0] 69)))).2 1 _ rfl
                  have Hc3a := Lib.hid (Hc3.out.below ((Below.refl _ _).alloc (Nat.le_refl _) (.cells #[.int .i64 0, .int .i64 0, .int .i64 0] 69)))
                  have HX3 := Lib.hid (heap_new w3 (.cells #[.int .i64 0, .int .i64 0, .int .i64 0] 69))
                  go_wp2_with (first
                    | (with_reducible refine And.intro True.intro ?_)
                    | (with_reducible refine And.intro rfl ?_)
                    | (with_reducible refine And.intro (show _ = _ by go_simp) ?_)
                    | (go_at_call 25; refine (HFi.out _ a3 k3 (Hs3.out.below ((Below.refl _ _).alloc (Nat.le_refl _) _))).mono ?_; rintro e w4 ⟨rfl, hb4⟩; have Hc4 := Lib.hid (Hc3a.out.below hb4); have Hb4 := Lib.hid hb4; have hz4 := hb4.size
                       have e0 := (Hcc.out _ Hc4.out.old).2 0 _ rfl
                       have e1 := (Hcc.out _ Hc4.out.old).2 1 _ rfl
                       have e2 := (Hcc.out _ Hc4.out.old).2 2 _ rfl
                       have e3 := (Hcc.out _ Hc4.out.old).2 3 _ rfl
                       have e4 := (Hcc.out _ Hc4.out.old).2 4 _ rfl
                       have e5 := (Hcc.out _ Hc4.out.old).2 5 _ rfl
                       simp only [Nat.add_zero] at e0
                       have hx4 := heap_below HX3.out hb4; obtain ⟨z0, z1, z2, y0, y1, y2, zl⟩ := blk3 hx4; have HX4 := Lib.hid hx4
                       clear hb4)
                    )
                  refine NoPanic.normal ?_
                  have hk9 : wr.heap.size ≤ w3.heap.size := by omega
                  go_wp2_with fail
                  refine wp_region_chain 126 [0, 0, 0, 6, 14, 30, 0, 0, 192, 448, 960, 0, 0, 6144, 14336, 30720, 0, 0, 196608, 458752, 983040, 2097151, 4194303] [(0, none), (1, none), (2, none), (3, none), (4, none), (5, none), (6, none), (7, none), (8, none), (9, none), (10, none), (11, none), (12, none), (13, none), (14, none), (15, none), (16, none), (17, none), (18, none), (19, none), (20, none), (21, some []), (22, none)] (by kernel_rfl) (by kernel_rfl) (by rfl) ?_; simp only [chain, Obs, List.getElem?_toArray, List.getElem?_cons_zero, List.getElem?_cons_succ]
                  go_wp2_with (first
                    | (with_reducible refine And.intro (by first | with_reducible exact True.intro | with_reducible rfl | (go_simp; done) | (go_simp; intro h; simp [undef] at h)) ?_)
                    | (go_at_call 28; refine (HE.out _ (by first | exact Hc4.out.below (Below.refl _ _).drew | exact ((Hc3.out.below ((((((Below.refl _ w3).alloc (Nat.le_refl _) (.cells #[.int .i64 0, .int .i64 0, .int .i64 0] 69)).trans (Hb4.out.mono (by simp))).setCell (by simp) _).setCell (by simp) _).setCell (by simp) _))).below (Below.refl _ _).drew)).mono ?_; rintro e w6 ⟨rfl, F6, hc6, _, _⟩; have Hc6 := Lib.hid hc6
                       have e0 := (Hcc.out _ Hc6.out.old).2 0 _ rfl
                       have e1 := (Hcc.out _ Hc6.out.old).2 1 _ rfl
                       have e2 := (Hcc.out _ Hc6.out.old).2 2 _ rfl
                       have e3 := (Hcc.out _ Hc6.out.old).2 3 _ rfl
                       have e4 := (Hcc.out _ Hc6.out.old).2 4 _ rfl
                       have e5 := (Hcc.out _ Hc6.out.old).2 5 _ rfl
                       simp only [Nat.add_zero] at e0
                       clear hc6))
                  refine NoPanic.normal ?_
                  go_wp2_with fail
                  refine wp_region_chain 126 [0, 1, 3, 7, 15, 31, 63, 31, 31, 31, 799, 1823, 3871, 8095, 16383, 32767, 65535, 131071, 262143, 524287, 1048575, 2097151, 4194303, 2097151, 16777215, 33554431, 67108863] [(0, none), (1, none), (2, none), (3, none), (4, none), (5, none), (7, none), (8, none), (9, none), (10, none), (11, none), (12, none), (13, none), (6, some [7, 8, 9, 10, 11, 12, 13]), (14, none), (15, none), (16, none), (17, none), (18, none), (19, none), (20, none), (21, none), (23, none), (22, some [23]), (24, none), (25, none), (26, none)] (by kernel_rfl) (by kernel_rfl) (by rfl) ?_; simp only [chain, Obs, List.getElem?_toArray, List.getElem?_cons_zero, List.getElem?_cons_succ]
                  have Hc7 := Lib.hid (Hc6.out.below (Below.refl _ _).drew)
                  go_wp2_with (first
                    | (with_reducible refine And.intro (by first | with_reducible exact True.intro | with_reducible rfl | (go_simp; done) | (go_simp; intro h; simp [undef] at h)) ?_)
                    | (go_at_call 24; refine (CorLoad Hc7.out HIL.out.tag HIL.out.ok).mono ?_; rw [HTW.out]; rintro e w8 ⟨rfl, hb8⟩; have Hc8 := Lib.hid (Hc7.out.below hb8)
                       have e0 := (Hcc.out _ Hc8.out.old).2 0 _ rfl
                       have e1 := (Hcc.out _ Hc8.out.old).2 1 _ rfl
                       have e2 := (Hcc.out _ Hc8.out.old).2 2 _ rfl
                       have e3 := (Hcc.out _ Hc8.out.old).2 3 _ rfl
                       have e4 := (Hcc.out _ Hc8.out.old).2 4 _ rfl
                       have e5 := (Hcc.out _ Hc8.out.old).2 5 _ rfl
                       simp only [Nat.add_zero] at e0
                       clear hb8))
                  refine NoPanic.normal ?_
                  go_wp2_with fail
                  go_roundw
                  case rel => exact ⟨i + 1, F6, _, hlt, by go_num, Hc8.out, HIL.out.mono (Nat.le_refl _) (by omega) (by omega)⟩
                  case measure => simp [intOf]; omega
              · have hr9 : r0 ≠ w2.heap.size := by omega
                have hda : (w2.drew.alloc (.cells #[.int .i64 0, .int .i64 0, .int .i64 0] 69)).heap.size = w2.heap.size + 1 := by simp [hd2]
                have ea1 := (Hcc.out _ (Hc2.out.old.trans ((Below.refl _ _).alloc Hc2.out.old.size (.cells #[.int .i64 0, .int .i64 0, .int .i64 0] 69)))).2 1 _ rfl
                have Hc2a := Lib.hid (Hc2d.out.below ((Below.refl _ _).alloc (Nat.le_refl _) (.cells #[.int .i64 0, .int .i64 0, .int .i64 0] 69)))
                have hx2 := heap_new w2.drew (.cells #[.int .i64 0, .int .i64 0, .int .i64 0] 69)
                rw [hd2] at hx2
                have HX2 := Lib.hid hx2
                clear hx2
                go_wp2_with (first
                  | (with_reducible refine And.intro True.intro ?_)
                  | (with_reducible refine And.intro rfl ?_)
                  | (with_reducible refine And.intro (show _ = _ by go_simp) ?_)
                  | (go_at_call 26; refine (CorForm Hc2a.out HT.out HO.out).mono ?_; rintro e w3 ⟨a3, k3, rfl, ho, hb3⟩; rw [List.length_map] at ho ⊢; have Hs3 := Lib.hid (Sl.of_own (l := s.q.l.map (itOf s.q.base)) It.len (by rw [List.length_map]; exact ho)); have Hc3 := Lib.hid (Hc2a.out.below hb3); have Hb3 := Lib.hid hb3; have hz3 := hb3.size
                     have e0 := (Hcc.out _ Hc3.out.old).2 0 _ rfl
                     have e1 := (Hcc.out _ Hc3.out.old).2 1 _ rfl
                     have e2 := (Hcc.out _ Hc3.out.old).2 2 _ rfl
                     have e3 := (Hcc.out _ Hc3.out.old).2 3 _ rfl
                     have e4 := (Hcc.out _ Hc3.out.old).2 4 _ rfl
                     have e5 := (Hcc.out _ Hc3.out.old).2 5 _ rfl
                     simp only [Nat.add_zero] at e0
                     have HX3 := Lib.hid (heap_below HX2.out hb3)
                     clear ho hb3)
                  | (go_at_call 25; refine (HFi.out _ a3 k3 Hs3.out).mono ?_; rintro e w4 ⟨rfl, hb4⟩; have Hc4 := Lib.hid (Hc3.out.below hb4); have Hb4 := Lib.hid hb4; have hz4 := hb4.size
                     have e0 := (Hcc.out _ Hc4.out.old).2 0 _ rfl
                     have e1 := (Hcc.out _ Hc4.out.old).2 1 _ rfl
                     have e2 := (Hcc.out _ Hc4.out.old).2 2 _ rfl
                     have e3 := (Hcc.out _ Hc4.out.old).2 3 _ rfl
                     have e4 := (Hcc.out _ Hc4.out.old).2 4 _ rfl
                     have e5 := (Hcc.out _ Hc4.out.old).2 5 _ rfl
                     simp only [Nat.add_zero] at e0
                     have hx4 := heap_below HX3.out hb4; obtain ⟨z0, z1, z2, y0, y1, y2, zl⟩ := blk3 hx4; have HX4 := Lib.hid hx4
                     clear hb4)
                  )
                refine NoPanic.normal ?_
                have hk9 : wr.heap.size ≤ w2.heap.size := by omega
                go_wp2_with fail
                refine wp_region_chain 126 [0, 0, 0, 6, 14, 30, 0, 0, 192, 448, 960, 0, 0, 6144, 14336, 30720, 0, 0, 196608, 458752, 983040, 2097151, 4194303] [(0, none), (1, none), (2, none), (3, none), (4, none), (5, none), (6, none), (7, none), (8, none), (9, none), (10, none), (11, none), (12, none), (13, none), (14, none), (15, none), (16, none), (17, none), (18, none), (19, none), (20, none), (21, some []), (22, none)] (by kernel_rfl) (by kernel_rfl) (by rfl) ?_; simp only [chain, Obs, List.getElem?_toArray, List.getElem?_cons_zero, List.getElem?_cons_succ]
                go_wp2_with (first
                  | (with_reducible refine And.intro (by first | with_reducible exact True.intro | with_reducible rfl | (go_simp; done) | (go_simp; intro h; simp [undef] at h)) ?_)
                  | (go_at_call 28; refine (HE.out _ (by first | exact Hc4.out.below (Below.refl _ _).drew | exact ((Hc2d.out.below (((((((Below.refl _ w2.drew).alloc (Nat.le_refl _) (.cells #[.int .i64 0, .int .i64 0, .int .i64 0] 69)).trans (Hb3.out.mono (by simp))).trans (Hb4.out.mono (by omega))).setCell (by simp) _).setCell (by simp) _).setCell (by simp) _))).below (Below.refl _ _).drew)).mono ?_; rintro e w6 ⟨rfl, F6, hc6, _, _⟩; have Hc6 := Lib.hid hc6
                     have e0 := (Hcc.out _ Hc6.out.old).2 0 _ rfl
                     have e1 := (Hcc.out _ Hc6.out.old).2 1 _ rfl
                     have e2 := (Hcc.out _ Hc6.out.old).2 2 _ rfl
                     have e3 := (Hcc.out _ Hc6.out.old).2 3 _ rfl
                     have e4 := (Hcc.out _ Hc6.out.old).2 4 _ rfl
                     have e5 := (Hcc.out _ Hc6.out.old).2 5 _ rfl
                     simp only [Nat.add_zero] at e0
                     clear hc6))
                refine NoPanic.normal ?_
                go_wp2_with fail
                refine wp_region_chain 126 [0, 1, 3, 7, 15, 31, 63, 31, 31, 31, 799, 1823, 3871, 8095, 16383, 32767, 65535, 131071, 262143, 524287, 1048575, 2097151, 4194303, 2097151, 16777215, 33554431, 67108863] [(0, none), (1, none), (2, none), (3, none), (4, none), (5, none), (7, none), (8, none), (9, none), (10, none), (11, none), (12, none), (13, none), (6, some [7, 8, 9, 10, 11, 12, 13]), (14, none), (15, none), (16, none), (17, none), (18, none), (19, none), (20, none), (21, none), (23, none), (22, some [23]), (24, none), (25, none), (26, none)] (by kernel_rfl) (by kernel_rfl) (by rfl) ?_; simp only [chain, Obs, List.getElem?_toArray, List.getElem?_cons_zero, List.getElem?_cons_succ]
                have Hc7 := Lib.hid (Hc6.out.below (Below.refl _ _).drew)
                go_wp2_with (first
                  | (with_reducible refine And.intro (by first | with_reducible exact True.intro | with_reducible rfl | (go_simp; done) | (go_simp; intro h; simp [undef] at h)) ?_)
                  | (go_at_call 24; refine (CorLoad Hc7.out HIL.out.tag HIL.out.ok).mono ?_; rw [HTW.out]; rintro e w8 ⟨rfl, hb8⟩; have Hc8 := Lib.hid (Hc7.out.below hb8)
                     have e0 := (Hcc.out _ Hc8.out.old).2 0 _ rfl
                     have e1 := (Hcc.out _ Hc8.out.old).2 1 _ rfl
                     have e2 := (Hcc.out _ Hc8.out.old).2 2 _ rfl
                     have e3 := (Hcc.out _ Hc8.out.old).2 3 _ rfl
                     have e4 := (Hcc.out _ Hc8.out.old).2 4 _ rfl
                     have e5 := (Hcc.out _ Hc8.out.old).2 5 _ rfl
                     simp only [Nat.add_zero] at e0
                     clear hb8))
                refine NoPanic.normal ?_
                go_wp2_with fail
                go_roundw
                case rel => exact ⟨i + 1, F6, _, hlt, by go_num, Hc8.out, HIL.out.mono (Nat.le_refl _) (by omega) (by omega)⟩
                case measure => simp [intOf]; omega
            · as_aux_lemma =>
              obtain ⟨yy, th, hFi⟩ : ∃ (yy : It) (th : Bool), ∀ (W : World) (a2 : Option Addr) (c2 : Nat), Sl It.enc 3 W a2 (s.q.l.map (itOf s.q.base)) → Calls Tryz.prog 25 #[.agg #[.int .i64 s.q.cur, .slice a2 s.q.l.length c2], .int .i64 x.id] W fun e w' => e = .returned (.tuple #[.agg #[.int .i64 yy.id, .int .i64 yy.w, .int .i64 yy.lag], .bool th]) ∧ Below W.heap.size W w' := by
                rcases find_cases (s.q.l.map (itOf s.q.base)) x.id with hf | ⟨j, y, hf, hj⟩
                · exact ⟨⟨0, 0, 0⟩, false, fun W a2 c2 hW => FindF_none s.q.cur x.id (s.q.l.map (itOf s.q.base)) s.q.l.length a2 c2 W (List.length_map _) (by omega) hW hf⟩
                · exact ⟨y, true, fun W a2 c2 hW => FindF_some s.q.cur x.id (s.q.l.map (itOf s.q.base)) s.q.l.length a2 c2 W (List.length_map _) (by omega) hW j y hf hj⟩
              have HFi := Lib.hid hFi
              obtain ⟨v, hv⟩ : ∃ v, mayE s.q.l x.id x.w x.lag = v := ⟨_, rfl⟩
              have HE := Lib.hid (fun W (hW : CSt w W F c p b r s) => CorEnter hW HI.out (by omega) (by omega) x.id x.w x.lag x.exact hv)
              have HIL := Lib.hid (HI.out.enter (by omega) x.id x.w x.lag x.exact)
              have HTW := Lib.hid htw
              rw [hv] at hm
              have bv : (v == 0) = false := by simpa using hm
              have bv2 : (v != 0) = true := by simpa using hm
              clear hm hv htw hFi
              go_wp2_with (go_at_call 24; refine (CorLoad Hc.out HT.out HO.out).mono ?_; rintro e w2 ⟨rfl, hb2⟩; have Hc2 := Lib.hid (Hc.out.below hb2); have hz2 := hb2.size
                           have e0 := (Hcc.out _ Hc2.out.old).2 0 _ rfl
                           have e1 := (Hcc.out _ Hc2.out.old).2 1 _ rfl
                           have e2 := (Hcc.out _ Hc2.out.old).2 2 _ rfl
                           have e3 := (Hcc.out _ Hc2.out.old).2 3 _ rfl
                           have e4 := (Hcc.out _ Hc2.out.old).2 4 _ rfl
                           have e5 := (Hcc.out _ Hc2.out.old).2 5 _ rfl
                           simp only [Nat.add_zero] at e0
                           clear hb2)
              refine wp_region_tree 126 [0, 1, 0, 0, 12, 28, 60, 127, 255, 511, 511, 0, 3071, 8191] (.one 0 (.one 2 (.one 3 (.one 4 (.one 5 (.one 6 (.fork 1 [2, 3, 4, 5, 6] (.fork 7 [] (.one 8 (.one 9 (.one 10 (.act 11 [8, 9, 10] (.act 12 [10] (.one 13 .done)))))) 11 [2, 3, 4, 5, 6] (.act 7 [] (.one 8 (.one 9 (.one 10 (.act 12 [10] (.one 13 .done))))))) 11 [0, 2, 3, 4, 5, 6] (.act 1 [2, 3, 4, 5, 6] (.act 7 [] (.one 8 (.one 9 (.one 10 (.act 12 [10] (.one 13 .done)))))))))))))) (by kernel_rfl) (by kernel_rfl) (by rfl) ?_; simp only [chainT, Obs, List.getElem?_toArray, List.getElem?_cons_zero, List.getElem?_cons_succ]
              have Hc2d := Lib.hid (Hc2.out.below (Below.refl _ _).drew)
              have hd2 : w2.drew.heap.size = w2.heap.size := rfl
              go_wp2_with (first
                | (with_reducible refine And.intro True.intro ?_)
                | (with_reducible refine And.intro rfl ?_)
                )
              refine And.intro ?_ ?_
              · go_wp2_with (first
                  | (with_reducible refine And.intro True.intro ?_)
                  | (with_reducible refine And.intro rfl ?_)
                  | (with_reducible refine And.intro (show _ = _ by go_simp) ?_)
                  | (go_at_call 26; refine (CorForm Hc2d.out HT.out HO.out).mono ?_; rintro e w3 ⟨a3, k3, rfl, ho, hb3⟩; rw [List.length_map] at ho ⊢; have Hs3 := Lib.hid (Sl.of_own (l := s.q.l.map (itOf s.q.base)) It.len (by rw [List.length_map]; exact ho)); have Hc3 := Lib.hid (Hc2d.out.below hb3); have Hb3 := Lib.hid hb3; have hz3 := hb3.size
                     have e0 := (Hcc.out _ Hc3.out.old).2 0 _ rfl
                     have e1 := (Hcc.out _ Hc3.out.old).2 1 _ rfl
                     have e2 := (Hcc.out _ Hc3.out.old).2 2 _ rfl
                     have e3 := (Hcc.out _ Hc3.out.old).2 3 _ rfl
                     have e4 := (Hcc.out _ Hc3.out.old).2 4 _ rfl
                     have e5 := (Hcc.out _ Hc3.out.old).2 5 _ rfl
                     simp only [Nat.add_zero] at e0
                     skip
                     clear ho hb3)
                  )
                refine And.intro ?_ ?_
                · go_wp2_with (first
                    | (with_reducible refine And.intro True.intro ?_)
                    | (with_reducible refine And.intro rfl ?_)
                    | (with_reducible refine And.intro (show _ = _ by go_simp) ?_)
                    | (go_at_call 25; refine (HFi.out _ a3 k3 Hs3.out).mono ?_; rintro e w4 ⟨rfl, hb4⟩; have Hc4 := Lib.hid (Hc3.out.below hb4); have Hb4 := Lib.hid hb4; have hz4 := hb4.size
                       have e0 := (Hcc.out _ Hc4.out.old).2 0 _ rfl
                       have e1 := (Hcc.out _ Hc4.out.old).2 1 _ rfl
                       have e2 := (Hcc.out _ Hc4.out.old).2 2 _ rfl
                       have e3 := (Hcc.out _ Hc4.out.old).2 3 _ rfl
                       have e4 := (Hcc.out _ Hc4.out.old).2 4 _ rfl
                       have e5 := (Hcc.out _ Hc4.out.old).2 5 _ rfl
                       simp only [Nat.add_zero] at e0
                       skip
                       clear hb4)
                    )
                  refine NoPanic.normal ?_
                  have hk9 : wr.heap.size ≤ w4.heap.size := by omega
                  have hr9 : r0 ≠ w4.heap.size := by omega
                  have e0 := (Hcc.out _ (Hc4.out.old.trans ((Below.refl _ _).alloc Hc4.out.old.size (.cells #[.int .i64 yy.id, .int .i64 yy.w, .int .i64 yy.lag] 69)))).2 0 _ rfl
                  have e1 := (Hcc.out _ (Hc4.out.old.trans ((Below.refl _ _).alloc Hc4.out.old.size (.cells #[.int .i64 yy.id, .int .i64 yy.w, .int .i64 yy.lag] 69)))).2 1 _ rfl
                  have e2 := (Hcc.out _ (Hc4.out.old.trans ((Below.refl _ _).alloc Hc4.out.old.size (.cells #[.int .i64 yy.id, .int .i64 yy.w, .int .i64 yy.lag] 69)))).2 2 _ rfl
                  have e3 := (Hcc.out _ (Hc4.out.old.trans ((Below.refl _ _).alloc Hc4.out.old.size (.cells #[.int .i64 yy.id, .int .i64 yy.w, .int .i64 yy.lag] 69)))).2 3 _ rfl
                  have e4 := (Hcc.out _ (Hc4.out.old.trans ((Below.refl _ _).alloc Hc4.out.old.size (.cells #[.int .i64 yy.id, .int .i64 yy.w, .int .i64 yy.lag] 69)))).2 4 _ rfl
                  have e5 := (Hcc.out _ (Hc4.out.old.trans ((Below.refl _ _).alloc Hc4.out.old.size (.cells #[.int .i64 yy.id, .int .i64 yy.w, .int .i64 yy.lag] 69)))).2 5 _ rfl
                  simp only [Nat.add_zero] at e0
                  go_wp2_with fail
                  refine wp_region_chain 126 [0, 0, 0, 6, 14, 30, 0, 0, 192, 448, 960, 0, 0, 6144, 14336, 30720, 0, 0, 196608, 458752, 983040, 2097151, 4194303] [(0, none), (1, none), (2, none), (3, none), (4, none), (5, none), (6, none), (7, none), (8, none), (9, none), (10, none), (11, none), (12, none), (13, none), (14, none), (15, none), (16, none), (17, none), (18, none), (19, none), (20, none), (21, some []), (22, none)] (by kernel_rfl) (by kernel_rfl) (by rfl) ?_; simp only [chain, Obs, List.getElem?_toArray, List.getElem?_cons_zero, List.getElem?_cons_succ]
                  go_wp2_with (first
                    | (with_reducible refine And.intro (by first | with_reducible exact True.intro | with_reducible rfl | (go_simp; done) | (go_simp; intro h; simp [undef] at h)) ?_)
                    | (go_at_call 28; refine (HE.out _ (by first | exact Hc4.out.below (Below.refl _ _).drew | exact ((Hc4.out.below ((Below.refl _ w4).alloc (Nat.le_refl _) (.cells #[.int .i64 yy.id, .int .i64 yy.w, .int .i64 yy.lag] 69)))).below (Below.refl _ _).drew)).mono ?_; rintro e w6 ⟨rfl, F6, hc6, _, _⟩; have Hc6 := Lib.hid hc6
                       have e0 := (Hcc.out _ Hc6.out.old).2 0 _ rfl
                       have e1 := (Hcc.out _ Hc6.out.old).2 1 _ rfl
                       have e2 := (Hcc.out _ Hc6.out.old).2 2 _ rfl
                       have e3 := (Hcc.out _ Hc6.out.old).2 3 _ rfl
                       have e4 := (Hcc.out _ Hc6.out.old).2 4 _ rfl
                       have e5 := (Hcc.out _ Hc6.out.old).2 5 _ rfl
                       simp only [Nat.add_zero] at e0
                       clear hc6))
                  refine NoPanic.normal ?_
                  go_wp2_with fail
                  refine wp_region_chain 126 [0, 1, 3, 7, 15, 31, 63, 31, 31, 31, 799, 1823, 3871, 8095, 16383, 32767, 65535, 131071, 262143, 524287, 1048575, 2097151, 4194303, 2097151, 16777215, 33554431, 67108863] [(0, none), (1, none), (2, none), (3, none), (4, none), (5, none), (7, none), (8, none), (9, none), (10, none), (11, none), (12, none), (13, none), (6, some [7, 8, 9, 10, 11, 12, 13]), (14, none), (15, none), (16, none), (17, none), (18, none), (19, none), (20, none), (21, none), (23, none), (22, some [23]), (24, none), (25, none), (26, none)] (by kernel_rfl) (by kernel_rfl) (by rfl) ?_; simp only [chain, Obs, List.getElem?_toArray, List.getElem?_cons_zero, List.getElem?_cons_succ]
                  have Hc7 := Lib.hid (Hc6.out.below (Below.refl _ _).drew)
                  go_wp2_with (first
                    | (with_reducible refine And.intro (by first | with_reducible exact True.intro | with_reducible rfl | (go_simp; done) | (go_simp; intro h; simp [undef] at h)) ?_)
                    | (go_at_call 24; refine (CorLoad Hc7.out HIL.out.tag HIL.out.ok).mono ?_; rw [HTW.out]; rintro e w8 ⟨rfl, hb8⟩; have Hc8 := Lib.hid (Hc7.out.below hb8)
                       have e0 := (Hcc.out _ Hc8.out.old).2 0 _ rfl
                       have e1 := (Hcc.out _ Hc8.out.old).2 1 _ rfl
                       have e2 := (Hcc.out _ Hc8.out.old).2 2 _ rfl
                       have e3 := (Hcc.out _ Hc8.out.old).2 3 _ rfl
                       have e4 := (Hcc.out _ Hc8.out.old).2 4 _ rfl
                       have e5 := (Hcc.out _ Hc8.out.old).2 5 _ rfl
                       simp only [Nat.add_zero] at e0
                       clear hb8))
                  refine NoPanic.normal ?_
                  go_wp2_with fail
                  go_roundw
                  case rel => exact ⟨i + 1, F6, _, hlt, by go_num, Hc8.out, HIL.out.mono (Nat.le_refl _) (by omega) (by omega)⟩
                  case measure => simp [intOf]; omega
                · have hr9 : r0 ≠ w3.heap.size := by omega
                  have hda : (w3.alloc (.cells #[.int .i64 0, .int .i64 0, .int .i64 0] 69)).heap.size = w3.heap.size + 1 := by simp
                  have ea1 := (Hcc.out _ (Hc3.out.old.trans ((Below.refl _ _).alloc Hc3.out.old.size (.cells #[.int .i64 0, .int .i64 0, .int .i64 0] 69)))).2 1 _ rfl
                  have Hc3a := Lib.hid (Hc3.out.below ((Below.refl _ _).alloc (Nat.le_refl _) (.cells #[.int .i64 0, .int .i64 0, .int .i64 0] 69)))
                  have HX3 := Lib.hid (heap_new w3 (.cells #[.int .i64 0, .int .i64 0, .int .i64 0] 69))
                  go_wp2_with (first
                    | (with_reducible refine And.intro True.intro ?_)
                    | (with_reducible refine And.intro rfl ?_)
                    | (with_reducible refine And.intro (show _ = _ by go_simp) ?_)
                    | (go_at_call 25; refine (HFi.out _ a3 k3 (Hs3.out.below ((Below.refl _ _).alloc (Nat.le_refl _) _))).mono ?_; rintro e w4 ⟨rfl, hb4⟩; have Hc4 := Lib.hid (Hc3a.out.below hb4); have Hb4 := Lib.hid hb4; have hz4 := hb4.size
                       have e0 := (Hcc.out _ Hc4.out.old).2 0 _ rfl
                       have e1 := (Hcc.out _ Hc4.out.old).2 1 _ rfl
                       have e2 := (Hcc.out _ Hc4.out.old).2 2 _ rfl
                       have e3 := (Hcc.out _ Hc4.out.old).2 3 _ rfl
                       have e4 := (Hcc.out _ Hc4.out.old).2 4 _ rfl
                       have e5 := (Hcc.out _ Hc4.out.old).2 5 _ rfl
                       simp only [Nat.add_zero] at e0
                       have hx4 := heap_below HX3.out hb4; obtain ⟨z0, z1, z2, y0, y1, y2, zl⟩ := blk3 hx4; have HX4 := Lib.hid hx4
                       clear hb4)
                    )
                  refine NoPanic.normal ?_
                  have hk9 : wr.heap.size ≤ w3.heap.size := by omega
                  go_wp2_with fail
                  refine wp_region_chain 126 [0, 0, 0, 6, 14, 30, 0, 0, 192, 448, 960, 0, 0, 6144, 14336, 30720, 0, 0, 196608, 458752, 983040, 2097151, 4194303] [(0, none), (1, none), (2, none), (3, none), (4, none), (5, none), (6, none), (7, none), (8, none), (9, none), (10, none), (11, none), (12, none), (13, none), (14, none), (15, none), (16, none), (17, none), (18, none), (19, none), (20, none), (21, some []), (22, none)] (by kernel_rfl) (by kernel_rfl) (by rfl) ?_; simp only [chain, Obs, List.getElem?_toArray, List.getElem?_cons_zero, List.getElem?_cons_succ]
                  go_wp2_with (first
                    | (with_reducible refine And.intro (by first | with_reducible exact True.intro | with_reducible rfl | (go_simp; done) | (go_simp; intro h; simp [undef] at h)) ?_)
                    | (go_at_call 28; refine (HE.out _ (by first | exact Hc4.out.below (Below.refl _ _).drew | exact ((Hc3.out.below ((((((Below.refl _ w3).alloc (Nat.le_refl _) (.cells #[.int .i64 0, .int .i64 0, .int .i64 0] 69)).trans (Hb4.out.mono (by simp))).setCell (by simp) _).setCell (by simp) _).setCell (by simp) _))).below (Below.refl _ _).drew)).mono ?_; rintro e w6 ⟨rfl, F6, hc6, _, _⟩; have Hc6 := Lib.hid hc6
                       have e0 := (Hcc.out _ Hc6.out.old).2 0 _ rfl
                       have e1 := (Hcc.out _ Hc6.out.old).2 1 _ rfl
                       have e2 := (Hcc.out _ Hc6.out.old).2 2 _ rfl
                       have e3 := (Hcc.out _ Hc6.out.old).2 3 _ rfl
                       have e4 := (Hcc.out _ Hc6.out.old).2 4 _ rfl
                       have e5 := (Hcc.out _ Hc6.out.old).2 5 _ rfl
                       simp only [Nat.add_zero] at e0
                       clear hc6))
                  refine NoPanic.normal ?_
                  go_wp2_with fail
                  refine wp_region_chain 126 [0, 1, 3, 7, 15, 31, 63, 31, 31, 31, 799, 1823, 3871, 8095, 16383, 32767, 65535, 131071, 262143, 524287, 1048575, 2097151, 4194303, 2097151, 16777215, 33554431, 67108863] [(0, none), (1, none), (2, none), (3, none), (4, none), (5, none), (7, none), (8, none), (9, none), (10, none), (11, none), (12, none), (13, none), (6, some [7, 8, 9, 10, 11, 12, 13]), (14, none), (15, none), (16, none), (17, none), (18, none), (19, none), (20, none), (21, none), (23, none), (22, some [23]), (24, none), (25, none), (26, none)] (by kernel_rfl) (by kernel_rfl) (by rfl) ?_; simp only [chain, Obs, List.getElem?_toArray, List.getElem?_cons_zero, List.getElem?_cons_succ]
                  have Hc7 := Lib.hid (Hc6.out.below (Below.refl _ _).drew)
                  go_wp2_with (first
                    | (with_reducible refine And.intro (by first | with_reducible exact True.intro | with_reducible rfl | (go_simp; done) | (go_simp; intro h; simp [undef] at h)) ?_)
                    | (go_at_call 24; refine (CorLoad Hc7.out HIL.out.tag HIL.out.ok).mono ?_; rw [HTW.out]; rintro e w8 ⟨rfl, hb8⟩; have Hc8 := Lib.hid (Hc7.out.below hb8)
                       have e0 := (Hcc.out _ Hc8.out.old).2 0 _ rfl
                       have e1 := (Hcc.out _ Hc8.out.old).2 1 _ rfl
                       have e2 := (Hcc.out _ Hc8.out.old).2 2 _ rfl
                       have e3 := (Hcc.out _ Hc8.out.old).2 3 _ rfl
                       have e4 := (Hcc.out _ Hc8.out.old).2 4 _ rfl
                       have e5 := (Hcc.out _ Hc8.out.old).2 5 _ rfl
                       simp only [Nat.add_zero] at e0
                       clear hb8))
                  refine NoPanic.normal ?_
                  go_wp2_with fail
                  go_roundw
                  case rel => exact ⟨i + 1, F6, _, hlt, by go_num, Hc8.out, HIL.out.mono (Nat.le_refl _) (by omega) (by omega)⟩
                  case measure => simp [intOf]; omega
              · have hr9 : r0 ≠ w2.heap.size := by omega
                have hda : (w2.drew.alloc (.cells #[.int .i64 0, .int .i64 0, .int .i64 0] 69)).heap.size = w2.heap.size + 1 := by simp [hd2]
                have ea1 := (Hcc.out _ (Hc2.out.old.trans ((Below.refl _ _).alloc Hc2.out.old.size (.cells #[.int .i64 0, .int .i64 0, .int .i64 0] 69)))).2 1 _ rfl
                have Hc2a := Lib.hid (Hc2d.out.below ((Below.refl _ _).alloc (Nat.le_refl _) (.cells #[.int .i64 0, .int .i64 0, .int .i64 0] 69)))
                have hx2 := heap_new w2.drew (.cells #[.int .i64 0, .int .i64 0, .int .i64 0] 69)
                rw [hd2] at hx2
                have HX2 := Lib.hid hx2
                clear hx2
                go_wp2_with (first
                  | (with_reducible refine And.intro True.intro ?_)
                  | (with_reducible refine And.intro rfl ?_)
                  | (with_reducible refine And.intro (show _ = _ by go_simp) ?_)
                  | (go_at_call 26; refine (CorForm Hc2a.out HT.out HO.out).mono ?_; rintro e w3 ⟨a3, k3, rfl, ho, hb3⟩; rw [List.length_map] at ho ⊢; have Hs3 := Lib.hid (Sl.of_own (l := s.q.l.map (itOf s.q.base)) It.len (by rw [List.length_map]; exact ho)); have Hc3 := Lib.hid (Hc2a.out.below hb3); have Hb3 := Lib.hid hb3; have hz3 := hb3.size
                     have e0 := (Hcc.out _ Hc3.out.old).2 0 _ rfl
                     have e1 := (Hcc.out _ Hc3.out.old).2 1 _ rfl
                     have e2 := (Hcc.out _ Hc3.out.old).2 2 _ rfl
                     have e3 := (Hcc.out _ Hc3.out.old).2 3 _ rfl
                     have e4 := (Hcc.out _ Hc3.out.old).2 4 _ rfl
                     have e5 := (Hcc.out _ Hc3.out.old).2 5 _ rfl
                     simp only [Nat.add_zero] at e0
                     have HX3 := Lib.hid (heap_below HX2.out hb3)
                     clear ho hb3)
                  | (go_at_call 25; refine (HFi.out _ a3 k3 Hs3.out).mono ?_; rintro e w4 ⟨rfl, hb4⟩; have Hc4 := Lib.hid (Hc3.out.below hb4); have Hb4 := Lib.hid hb4; have hz4 := hb4.size
                     have e0 := (Hcc.out _ Hc4.out.old).2 0 _ rfl
                     have e1 := (Hcc.out _ Hc4.out.old).2 1 _ rfl
                     have e2 := (Hcc.out _ Hc4.out.old).2 2 _ rfl
                     have e3 := (Hcc.out _ Hc4.out.old).2 3 _ rfl
                     have e4 := (Hcc.out _ Hc4.out.old).2 4 _ rfl
                     have e5 := (Hcc.out _ Hc4.out.old).2 5 _ rfl
                     simp only [Nat.add_zero] at e0
                     have hx4 := heap_below HX3.out hb4; obtain ⟨z0, z1, z2, y0, y1, y2, zl⟩ := blk3 hx4; have HX4 := Lib.hid hx4
                     clear hb4)
                  )
                refine NoPanic.normal ?_
                have hk9 : wr.heap.size ≤ w2.heap.size := by omega
                go_wp2_with fail
                refine wp_region_chain 126 [0, 0, 0, 6, 14, 30, 0, 0, 192, 448, 960, 0, 0, 6144, 14336, 30720, 0, 0, 196608, 458752, 983040, 2097151, 4194303] [(0, none), (1, none), (2, none), (3, none), (4, none), (5, none), (6, none), (7, none), (8, none), (9, none), (10, none), (11, none), (12, none), (13, none), (14, none), (15, none), (16, none), (17, none), (18, none), (19, none), (20, none), (21, some []), (22, none)] (by kernel_rfl) (by kernel_rfl) (by rfl) ?_; simp only [chain, Obs, List.getElem?_toArray, List.getElem?_cons_zero, List.getElem?_cons_succ]
                go_wp2_with (first
                  | (with_reducible refine And.intro (by first | with_reducible exact True.intro | with_reducible rfl | (go_simp; done) | (go_simp; intro h; simp [undef] at h)) ?_)
                  | (go_at_call 28; refine (HE.out _ (by first | exact Hc4.out.below (Below.refl _ _).drew | exact ((Hc2d.out.below (((((((Below.refl _ w2.drew).alloc (Nat.le_refl _) (.cells #[.int .i64 0, .int .i64 0, .int .i64 0] 69)).trans (Hb3.out.mono (by simp))).trans (Hb4.out.mono (by omega))).setCell (by simp) _).setCell (by simp) _).setCell (by simp) _))).below (Below.refl _ _).drew)).mono ?_; rintro e w6 ⟨rfl, F6, hc6, _, _⟩; have Hc6 := Lib.hid hc6
                     have e0 := (Hcc.out _ Hc6.out.old).2 0 _ rfl
                     have e1 := (Hcc.out _ Hc6.out.old).2 1 _ rfl
                     have e2 := (Hcc.out _ Hc6.out.old).2 2 _ rfl
                     have e3 := (Hcc.out _ Hc6.out.old).2 3 _ rfl
                     have e4 := (Hcc.out _ Hc6.out.old).2 4 _ rfl
                     have e5 := (Hcc.out _ Hc6.out.old).2 5 _ rfl
                     simp only [Nat.add_zero] at e0
                     clear hc6))
                refine NoPanic.normal ?_
                go_wp2_with fail
                refine wp_region_chain 126 [0, 1, 3, 7, 15, 31, 63, 31, 31, 31, 799, 1823, 3871, 8095, 16383, 32767, 65535, 131071, 262143, 524287, 1048575, 2097151, 4194303, 2097151, 16777215, 33554431, 67108863] [(0, none), (1, none), (2, none), (3, none), (4, none), (5, none), (7, none), (8, none), (9, none), (10, none), (11, none), (12, none), (13, none), (6, some [7, 8, 9, 10, 11, 12, 13]), (14, none), (15, none), (16, none), (17, none), (18, none), (19, none), (20, none), (21, none), (23, none), (22, some [23]), (24, none), (25, none), (26, none)] (by kernel_rfl) (by kernel_rfl) (by rfl) ?_; simp only [chain, Obs, List.getElem?_toArray, List.getElem?_cons_zero, List.getElem?_cons_succ]
                have Hc7 := Lib.hid (Hc6.out.below (Below.refl _ _).drew)
                go_wp2_with (first
                  | (with_reducible refine And.intro (by first | with_reducible exact True.intro | with_reducible rfl | (go_simp; done) | (go_simp; intro h; simp [undef] at h)) ?_)
                  | (go_at_call 24; refine (CorLoad Hc7.out HIL.out.tag HIL.out.ok).mono ?_; rw [HTW.out]; rintro e w8 ⟨rfl, hb8⟩; have Hc8 := Lib.hid (Hc7.out.below hb8)
                     have e0 := (Hcc.out _ Hc8.out.old).2 0 _ rfl
                     have e1 := (Hcc.out _ Hc8.out.old).2 1 _ rfl
                     have e2 := (Hcc.out _ Hc8.out.old).2 2 _ rfl
                     have e3 := (Hcc.out _ Hc8.out.old).2 3 _ rfl
                     have e4 := (Hcc.out _ Hc8.out.old).2 4 _ rfl
                     have e5 := (Hcc.out _ Hc8.out.old).2 5 _ rfl
                     simp only [Nat.add_zero] at e0
                     clear hb8))
                refine NoPanic.normal ?_
                go_wp2_with fail
                go_roundw
                case rel => exact ⟨i + 1, F6, _, hlt, by go_num, Hc8.out, HIL.out.mono (Nat.le_refl _) (by omega) (by omega)⟩
                case measure => simp [intOf]; omega
end Go.Proofs.YtfijedmdfkelnaaGreat
