/- The walk of FateSum. -/
import Derived.Test.YtlgkkolgdjgclaaGreatFt
import Derived.Test.YtlgkkolgdjgclaaGreatMd26
namespace Go.Proofs.YtlgkkolgdjgclaaGreat
open Go.RowKit Go.Shelf Go.Maps
set_option linter.unusedVariables false
set_option linter.unusedSimpArgs false

theorem slB2 (w : World) (op st ix y : Int) (zs : Array Value) (T : TypeId) : Sl Bl.enc 4 (w.alloc (.cells (#[.int .i64 op, .int .i64 st, .int .i64 ix, .int .u8 y] ++ (#[.int .i64 op, .int .i64 st, .int .i64 ix, .int .u8 y] ++ zs)) T)) (some ⟨w.heap.size, 0, none⟩) [⟨op, st, ix, y⟩, ⟨op, st, ix, y⟩] := fun _ => by
  have hh := heap_new w (.cells (#[.int .i64 op, .int .i64 st, .int .i64 ix, .int .u8 y] ++ (#[.int .i64 op, .int .i64 st, .int .i64 ix, .int .u8 y] ++ zs)) T)
  refine ⟨w.heap.size, 0, rfl, by simp, fun j z hj i u hi => ?_⟩
  have hj2 : j < 2 := by have := (List.getElem?_eq_some_iff.1 hj).1; simpa using this
  have hz : z = ⟨op, st, ix, y⟩ := by
    obtain rfl | rfl : j = 0 ∨ j = 1 := by omega
    all_goals (simp at hj; exact hj.symm)
  subst hz
  have hi4 : i < 4 := by have := (List.getElem?_eq_some_iff.1 hi).1; simpa [Bl.enc] using this
  have hc : (w.alloc (.cells (#[.int .i64 op, .int .i64 st, .int .i64 ix, .int .u8 y] ++ (#[.int .i64 op, .int .i64 st, .int .i64 ix, .int .u8 y] ++ zs)) T)).cell? ⟨w.heap.size, 0 + j * 4 + i, none⟩ = (#[.int .i64 op, .int .i64 st, .int .i64 ix, .int .u8 y] ++ (#[.int .i64 op, .int .i64 st, .int .i64 ix, .int .u8 y] ++ zs))[0 + j * 4 + i]? := by
    unfold World.cell?
    rw [hh]
    rfl
  rw [hc]
  obtain rfl | rfl : j = 0 ∨ j = 1 := by omega
  all_goals
    obtain rfl | rfl | rfl | rfl : i = 0 ∨ i = 1 ∨ i = 2 ∨ i = 3 := by omega
    all_goals
      simp [Bl.enc] at hi
      subst hi
      simp [Array.getElem?_append]
theorem blInfo : (Tryz.prog.info? 44).map (fun i => (i.zero, i.size, i.bytes)) = some (some (.agg #[.int .i64 0, .int .i64 0, .int .i64 0, .int .u8 0]), 4, 32) := by kernel_rfl
set_option maxHeartbeats 6400000 in
set_option maxRecDepth 100000 in
theorem fateSum_walk (tag : Int) (l2 : List Int) (n2 : Nat) (a2 : Option Addr) (c2 : Nat) (tot at' y : Int) (tw : Bool) (w : World)
    (hi0 : I63 tag) (hn2 : l2.length = n2) (hm2 : n2 ≤ maxLen) (hs2 : Sl int1 1 w a2 l2) (hi2 : I63 tot) (hi3 : I63 at') (hy : Byte y) :
    Calls Tryz.prog 4 #[.int .i64 tag, .slice a2 n2 c2, .int .i64 tot, .int .i64 at', .int .u8 y, .bool tw] w fun e w' => e = .returned (.bool true) ∧ Below w.heap.size w w' := by
  have HA := Lib.hid (fun (W : World) => awake26 W)
  have HM := Lib.hid (fun (W : World) (h12 : n2 ≤ 12) (h2 : Sl int1 1 W a2 l2) => made26 tag l2 n2 a2 c2 W hn2 h12 h2)
  have HS2 := Lib.hid hs2
  clear hn2 hs2
  by_cases b3 : (12 : Int) < n2
  · skip
    go_enter Tryz.func4, Tryz.ntmps4
    go_wp2_with (first
      | (go_at_call 17; refine (HA.out _).mono ?_; rintro e w1 ⟨rfl, hb1⟩; have Hb1 := Lib.hid hb1; clear hb1)
      )
    go_ret
    exact ⟨rfl, Hb1.out⟩
  by_cases b4 : tot < 0
  · skip
    go_enter Tryz.func4, Tryz.ntmps4
    go_wp2_with (first
      | (go_at_call 17; refine (HA.out _).mono ?_; rintro e w1 ⟨rfl, hb1⟩; have Hb1 := Lib.hid hb1; clear hb1)
      )
    go_ret
    exact ⟨rfl, Hb1.out⟩
  by_cases b5 : (2 : Int) < tot
  · skip
    go_enter Tryz.func4, Tryz.ntmps4
    go_wp2_with (first
      | (go_at_call 17; refine (HA.out _).mono ?_; rintro e w1 ⟨rfl, hb1⟩; have Hb1 := Lib.hid hb1; clear hb1)
      )
    go_ret
    exact ⟨rfl, Hb1.out⟩
  have ht : TagOk tot := by unfold TagOk; omega
  by_cases hg : newGood [tag]
  · replace HM := Lib.hid (fun (W : World) (h2 : Sl int1 1 W a2 l2) => (HM.out W (by omega) h2).mono (fun e w' h => h.resolve_right (fun h => h.1 hg)))
    clear hg
    have hbB := bsB1
    have hfd := fieldForm
    cases tw with
    | false =>
      go_enter Tryz.func4, Tryz.ntmps4
      go_wp2_with (first
        | (go_at_call 17; refine (HA.out _).mono ?_; rintro e w1 ⟨rfl, hb1⟩; have Hb1 := Lib.hid hb1; clear hb1)
        | (go_at_call 18; refine (HM.out _ (HS2.out.below Hb1.out)).mono ?_
           rintro e w2 ⟨-, ow, L, oz, M, s, rfl, h2, hok, hfr, htg, -⟩
           have hl1 : s.cores.length = 1 := hfr.len
           have hin : 0 ≤ (0 : Int) ∧ (0 : Int) < s.cores.length := (by rw [hl1]; decide)
           obtain ⟨d, hd, hde, hdf⟩ := hok.core hin
           obtain ⟨bl, F, p, q, r, hbl, hcst, how⟩ := h2.sys.cor 0 d hd
           have HC := Lib.hid (YCore h2.sys hin (bl := bl) hbl)
           have HF := Lib.hid (CorForm hcst hdf.tag (hdf.q.ok (by decide)))
           have hgc := good_core hdf (by decide)
           have hlen := hdf.q.len
           have HAt := Lib.hid (fun (W : World) (hW : Below w2.heap.size w2 W) (l : List Bl) (n : Nat) (a : Option Addr) (k : Nat) (hn : l.length = n) (hm : n ≤ 1000000) (hs : Sl Bl.enc 4 W a l) (hap : ∀ p, a = some p → w2.heap.size ≤ p.block) (hy : ∀ b ∈ l, Byte b.y) => SwAttempt (h2.below hW) (SwKx.new _) hok (by decide) (by decide) (c := 0) (by unfold I63; decide) tot l n a k hn hm hs (fun _ p hp => h2.free (hap p hp)) hy)
           have hIs := fun l => attT_is (l := l) hin (EndZ.shut (EndZ.new 1) 0) ht
           rw [hde] at hIs
           have HIs := Lib.hid hIs
           clear hIs
           have HO2 := Lib.hid h2.sys.old
           have HGc := Lib.hid hgc
           clear h2 hok hfr htg hin hd hde hdf hgc hbl hcst how)
        | (go_at_call 14; refine HC.out.mono ?_; rintro e w3 ⟨rfl, rfl⟩)
        | (go_at_call 19; refine HF.out.mono ?_; rintro e w4 ⟨a4, c4, rfl, ho4, hb4⟩; have Hb4 := Lib.hid hb4; clear ho4 hb4)
        )
      go_at_call 20
      have hA := HAt.out (w4.alloc (.cells #[.int .i64 1, .int .i64 2, .int .i64 at', .int .u8 y] 44)) (Hb4.out.alloc Hb4.out.size _) [⟨1, 2, at', y⟩] 1 (some ⟨w4.heap.size, 0, none⟩) 1 rfl (by decide) (slB1 w4 1 2 at' y _) (fun p hp => by cases hp; exact Hb4.out.size) (fun b hb => by simp at hb; subst hb; exact hy)
      rw [HIs.out] at hA
      simp only at hA
      by_cases k1 : at' < 0
      · skip
        have hfx := fate_sum_ok (tag := tot) (base := 1000 * ((SwS.new.all.length : Nat) : Int)) HGc.out hy false (i := at') (.inl k1)
        simp only [Bool.false_eq_true, if_false, if_true] at hfx
        rw [hfx, (fx_stage (Nat.le_refl 5)).1, (fx_stage (Nat.le_refl 5)).2, show decide (((5 : Nat) : Int) = 5) = true from rfl] at hA
        refine hA.mono ?_
        rintro e w5 ⟨rfl, ow5, oz5, M5, -, -, h5, -, -⟩
        have HB5 := Lib.hid h5.sys.old
        clear h5 hA
        go_wp2_with fail
        go_ret
        exact ⟨rfl, Hb1.out.trans (HB5.out.mono Hb1.out.size)⟩
      · by_cases k2 : (13 + 13 * (d.q.l.length : Int)) ≤ at'
        · skip
          have hfx := fate_sum_ok (tag := tot) (base := 1000 * ((SwS.new.all.length : Nat) : Int)) HGc.out hy false (i := at') (.inr (.inl (by simpa [formR] using k2)))
          simp only [Bool.false_eq_true, if_false, if_true] at hfx
          rw [hfx, (fx_stage (Nat.le_refl 5)).1, (fx_stage (Nat.le_refl 5)).2, show decide (((5 : Nat) : Int) = 5) = true from rfl] at hA
          refine hA.mono ?_
          rintro e w5 ⟨rfl, ow5, oz5, M5, -, -, h5, -, -⟩
          have HB5 := Lib.hid h5.sys.old
          clear h5 hA
          go_wp2_with fail
          go_ret
          exact ⟨rfl, Hb1.out.trans (HB5.out.mono Hb1.out.size)⟩
        · by_cases k3 : y = 0
          · subst k3
            have hfx := fate_sum_ok (tag := tot) (base := 1000 * ((SwS.new.all.length : Nat) : Int)) HGc.out hy false (i := at') (.inr (.inr (.inl rfl)))
            simp only [Bool.false_eq_true, if_false, if_true] at hfx
            rw [hfx, (fx_stage (Nat.le_refl 5)).1, (fx_stage (Nat.le_refl 5)).2, show decide (((5 : Nat) : Int) = 5) = true from rfl] at hA
            refine hA.mono ?_
            rintro e w5 ⟨rfl, ow5, oz5, M5, -, -, h5, -, -⟩
            have HB5 := Lib.hid h5.sys.old
            clear h5 hA
            go_wp2_with fail
            go_ret
            exact ⟨rfl, Hb1.out.trans (HB5.out.mono Hb1.out.size)⟩
          · have htl := fate_sum_told (tag := tot) (base := 1000 * ((SwS.new.all.length : Nat) : Int)) HGc.out hy (i := at') (by omega) (by simp [formR]; omega) k3
            rw [htl.1, htl.2, show decide ((6 : Int) = 5) = false from rfl] at hA
            have k4 : (y == 0) = false := beq_eq_false_iff_ne.2 k3
            have k5 : decide (y = 0) = false := decide_eq_false k3
            clear htl
            refine hA.mono ?_
            rintro e w5 ⟨rfl, ow5, oz5, M5, -, -, h5, -, -⟩
            have HB5 := Lib.hid h5.sys.old
            clear h5 hA
            go_wp2_with fail
            go_ret
            exact ⟨rfl, Hb1.out.trans (HB5.out.mono Hb1.out.size)⟩
    | true =>
      go_enter Tryz.func4, Tryz.ntmps4
      go_wp2_with (first
        | (go_at_call 17; refine (HA.out _).mono ?_; rintro e w1 ⟨rfl, hb1⟩; have Hb1 := Lib.hid hb1; clear hb1)
        | (go_at_call 18; refine (HM.out _ (HS2.out.below Hb1.out)).mono ?_
           rintro e w2 ⟨-, ow, L, oz, M, s, rfl, h2, hok, hfr, htg, -⟩
           have hl1 : s.cores.length = 1 := hfr.len
           have hin : 0 ≤ (0 : Int) ∧ (0 : Int) < s.cores.length := (by rw [hl1]; decide)
           obtain ⟨d, hd, hde, hdf⟩ := hok.core hin
           obtain ⟨bl, F, p, q, r, hbl, hcst, how⟩ := h2.sys.cor 0 d hd
           have HC := Lib.hid (YCore h2.sys hin (bl := bl) hbl)
           have HF := Lib.hid (CorForm hcst hdf.tag (hdf.q.ok (by decide)))
           have hgc := good_core hdf (by decide)
           have hlen := hdf.q.len
           have HAt := Lib.hid (fun (W : World) (hW : Below w2.heap.size w2 W) (l : List Bl) (n : Nat) (a : Option Addr) (k : Nat) (hn : l.length = n) (hm : n ≤ 1000000) (hs : Sl Bl.enc 4 W a l) (hap : ∀ p, a = some p → w2.heap.size ≤ p.block) (hy : ∀ b ∈ l, Byte b.y) => SwAttempt (h2.below hW) (SwKx.new _) hok (by decide) (by decide) (c := 0) (by unfold I63; decide) tot l n a k hn hm hs (fun _ p hp => h2.free (hap p hp)) hy)
           have hIs := fun l => attT_is (l := l) hin (EndZ.shut (EndZ.new 1) 0) ht
           rw [hde] at hIs
           have HIs := Lib.hid hIs
           clear hIs
           have HO2 := Lib.hid h2.sys.old
           have HGc := Lib.hid hgc
           clear h2 hok hfr htg hin hd hde hdf hgc hbl hcst how)
        | (go_at_call 14; refine HC.out.mono ?_; rintro e w3 ⟨rfl, rfl⟩)
        | (go_at_call 19; refine HF.out.mono ?_; rintro e w4 ⟨a4, c4, rfl, ho4, hb4⟩; have Hb4 := Lib.hid hb4; clear ho4 hb4)
        )
      go_at_call 20
      have hsl := slB2 ((w4.alloc (.cells #[.int .i64 1, .int .i64 2, .int .i64 at', .int .u8 y] 44)).alloc (.cells #[.int .i64 1, .int .i64 2, .int .i64 at', .int .u8 y] 44)) 1 2 at' y (Builtin.zeroCells #[Value.int IntKind.i64 0, Value.int IntKind.i64 0, Value.int IntKind.i64 0, Value.int IntKind.u8 0] ((Question.appendCap 2 1 44).cut (w4.tape w4.drawn (Question.appendCap 2 1 44)) - 2)) 44
      have hsz : ((w4.alloc (.cells #[.int .i64 1, .int .i64 2, .int .i64 at', .int .u8 y] 44)).alloc (.cells #[.int .i64 1, .int .i64 2, .int .i64 at', .int .u8 y] 44)).heap.size = w4.heap.size + 1 + 1 := by simp
      have hW := (((Hb4.out.alloc Hb4.out.size (.cells #[.int .i64 1, .int .i64 2, .int .i64 at', .int .u8 y] 44)).alloc (by simp; have := Hb4.out.size; omega) (.cells #[.int .i64 1, .int .i64 2, .int .i64 at', .int .u8 y] 44)).alloc (by rw [hsz]; have := Hb4.out.size; omega) (.cells (#[.int .i64 1, .int .i64 2, .int .i64 at', .int .u8 y] ++ (#[.int .i64 1, .int .i64 2, .int .i64 at', .int .u8 y] ++ Builtin.zeroCells #[Value.int IntKind.i64 0, Value.int IntKind.i64 0, Value.int IntKind.i64 0, Value.int IntKind.u8 0] ((Question.appendCap 2 1 44).cut (w4.tape w4.drawn (Question.appendCap 2 1 44)) - 2))) 44)).drew
      rw [hsz] at hsl
      have hA := HAt.out _ hW [⟨1, 2, at', y⟩, ⟨1, 2, at', y⟩] 2 (some ⟨w4.heap.size + 1 + 1, 0, none⟩) ((Question.appendCap 2 1 44).cut (w4.tape w4.drawn (Question.appendCap 2 1 44))) rfl (by decide) (hsl.below (Below.refl _ _).drew) (fun p hp => by cases hp; show w2.heap.size ≤ w4.heap.size + 1 + 1; have := Hb4.out.size; omega) (fun b hb => by simp at hb; subst hb; exact hy)
      rw [HIs.out] at hA
      simp only at hA
      clear hsl hsz hW
      by_cases k1 : at' < 0
      · skip
        have hfx := fate_sum_ok (tag := tot) (base := 1000 * ((SwS.new.all.length : Nat) : Int)) HGc.out hy true (i := at') (.inr (.inr (.inr rfl)))
        simp only [Bool.false_eq_true, if_false, if_true] at hfx
        rw [hfx, (fx_stage (Nat.le_refl 5)).1, (fx_stage (Nat.le_refl 5)).2, show decide (((5 : Nat) : Int) = 5) = true from rfl] at hA
        refine hA.mono ?_
        rintro e w5 ⟨rfl, ow5, oz5, M5, -, -, h5, -, -⟩
        have HB5 := Lib.hid h5.sys.old
        clear h5 hA
        go_wp2_with fail
        go_ret
        exact ⟨rfl, Hb1.out.trans (HB5.out.mono Hb1.out.size)⟩
      · by_cases k2 : (13 + 13 * (d.q.l.length : Int)) ≤ at'
        · skip
          have hfx := fate_sum_ok (tag := tot) (base := 1000 * ((SwS.new.all.length : Nat) : Int)) HGc.out hy true (i := at') (.inr (.inr (.inr rfl)))
          simp only [Bool.false_eq_true, if_false, if_true] at hfx
          rw [hfx, (fx_stage (Nat.le_refl 5)).1, (fx_stage (Nat.le_refl 5)).2, show decide (((5 : Nat) : Int) = 5) = true from rfl] at hA
          refine hA.mono ?_
          rintro e w5 ⟨rfl, ow5, oz5, M5, -, -, h5, -, -⟩
          have HB5 := Lib.hid h5.sys.old
          clear h5 hA
          go_wp2_with fail
          go_ret
          exact ⟨rfl, Hb1.out.trans (HB5.out.mono Hb1.out.size)⟩
        · by_cases k3 : y = 0
          · subst k3
            have hfx := fate_sum_ok (tag := tot) (base := 1000 * ((SwS.new.all.length : Nat) : Int)) HGc.out hy true (i := at') (.inr (.inr (.inr rfl)))
            simp only [Bool.false_eq_true, if_false, if_true] at hfx
            rw [hfx, (fx_stage (Nat.le_refl 5)).1, (fx_stage (Nat.le_refl 5)).2, show decide (((5 : Nat) : Int) = 5) = true from rfl] at hA
            refine hA.mono ?_
            rintro e w5 ⟨rfl, ow5, oz5, M5, -, -, h5, -, -⟩
            have HB5 := Lib.hid h5.sys.old
            clear h5 hA
            go_wp2_with fail
            go_ret
            exact ⟨rfl, Hb1.out.trans (HB5.out.mono Hb1.out.size)⟩
          · have k4 : (y == 0) = false := beq_eq_false_iff_ne.2 k3
            have k5 : decide (y = 0) = false := decide_eq_false k3
            have hfx := fate_sum_ok (tag := tot) (base := 1000 * ((SwS.new.all.length : Nat) : Int)) HGc.out hy true (i := at') (.inr (.inr (.inr rfl)))
            simp only [Bool.false_eq_true, if_false, if_true] at hfx
            rw [hfx, (fx_stage (Nat.le_refl 5)).1, (fx_stage (Nat.le_refl 5)).2, show decide (((5 : Nat) : Int) = 5) = true from rfl] at hA
            refine hA.mono ?_
            rintro e w5 ⟨rfl, ow5, oz5, M5, -, -, h5, -, -⟩
            have HB5 := Lib.hid h5.sys.old
            clear h5 hA
            go_wp2_with fail
            go_ret
            exact ⟨rfl, Hb1.out.trans (HB5.out.mono Hb1.out.size)⟩
  · replace HM := Lib.hid (fun (W : World) (h2 : Sl int1 1 W a2 l2) => (HM.out W (by omega) h2).mono (fun e w' h => h.resolve_left (fun h => hg h.1)))
    go_enter Tryz.func4, Tryz.ntmps4
    go_wp2_with (first
      | (go_at_call 17; refine (HA.out _).mono ?_; rintro e w1 ⟨rfl, hb1⟩; have Hb1 := Lib.hid hb1; clear hb1)
      | (go_at_call 18; refine (HM.out _ (HS2.out.below Hb1.out)).mono ?_; rintro e w2 ⟨-, rfl, hb2⟩; have Hb2 := Lib.hid hb2; clear hb2))
    go_ret
    exact ⟨rfl, Hb1.out.trans (Hb2.out.mono Hb1.out.size)⟩
end Go.Proofs.YtlgkkolgdjgclaaGreat
