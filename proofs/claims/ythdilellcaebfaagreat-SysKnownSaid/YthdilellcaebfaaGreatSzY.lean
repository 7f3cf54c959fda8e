/- A system's methods: Tick. -/
import Derived.Test.YthdilellcaebfaaGreatSzX
namespace Go.Proofs.YthdilellcaebfaaGreat
open Go.RowKit Go.Shelf
set_option linter.unusedVariables false
set_option linter.unusedSimpArgs false

section
variable {w0 w : World} {ow : Nat → Option Own} {L : Lay} {s : SysS} {T : Nat}
def SysS.tickK (s : SysS) (n : Int) (j : Nat) : SysS := { s with grps := s.grps.mapIdx fun i p => if i < j then (p.1, (p.2.tick n).1) else p }
theorem SysS.tickK_zero (n : Int) : s.tickK n 0 = s := by
  unfold SysS.tickK
  have : (s.grps.mapIdx fun i p => if i < 0 then (p.1, (p.2.tick n).1) else p) = s.grps := by
    refine List.ext_getElem? fun i => ?_
    rw [List.getElem?_mapIdx]
    cases s.grps[i]? <;> simp
  rw [this]
theorem SysS.tickK_all (n : Int) : s.tickK n s.grps.length = s.tickG n := by
  unfold SysS.tickK SysS.tickG
  simp only [SysS.mk.injEq, true_and, and_true]
  refine List.ext_getElem? fun i => ?_
  rw [List.getElem?_mapIdx, List.getElem?_map]
  cases hq : s.grps[i]? with
  | none => rfl
  | some p =>
    have := (List.getElem?_eq_some_iff.1 hq).1
    simp [this]
theorem SysS.tickK_succ (n : Int) {j : Nat} (hj : j < s.grps.length) : (s.tickK n j).setA j ((s.acc j).tick n).1 = s.tickK n (j + 1) := by
  unfold SysS.tickK SysS.setA
  simp only [SysS.mk.injEq, true_and, and_true]
  refine List.ext_getElem? fun i => ?_
  rw [List.getElem?_modify, List.getElem?_mapIdx, List.getElem?_mapIdx]
  cases hq : s.grps[i]? with
  | none => simp
  | some p =>
    simp only [Option.map_some, Option.map_eq_map, Option.some.injEq]
    by_cases e : j = i
    · subst e
      have : s.acc j = p.2 := by unfold SysS.acc; rw [hq]
      simp [this]
    · by_cases h2 : i < j
      · simp [e, h2, show i < j + 1 by omega]
      · simp [e, h2, show ¬ i < j + 1 by omega]
theorem SysS.tickK_acc (n : Int) (j : Nat) : (s.tickK n j).acc j = s.acc j := by
  unfold SysS.acc SysS.tickK
  simp only [List.getElem?_mapIdx]
  cases hq : s.grps[j]? with
  | none => rfl
  | some p => simp
theorem SysS.tickK_len (n : Int) (j : Nat) : (s.tickK n j).grps.length = s.grps.length := by unfold SysS.tickK; simp
theorem flat_int1 (l : List Int) : flat int1 l = l.map (Value.int .i64) := by
  induction l with
  | nil => rfl
  | cons x t ih => simp only [List.map_cons, ← ih]; rfl
set_option maxHeartbeats 3200000 in
set_option maxRecDepth 100000 in
theorem YTick (h : SysIn w0 w ow L s) (hk : SysOk T s) (hT : T ≤ 8000000) {n : Int} (hn : I63 n) : Calls Tryz.prog 20 #[.pointer (some ⟨L.b, 0, none⟩), .int .i64 n] w fun e w' => e = .returned (.int .i64 (s.tick n).2) ∧ SysTo w0 w ow L (s.tick n).1 w' := by
  have H := Lib.hid h
  by_cases hneg : n < 0
  · have e1 : s.tick n = (s, 1) := by unfold SysS.tick; rw [if_pos hneg]
    rw [e1]
    clear h hk e1
    go_enter Tryz.func20, Tryz.ntmps20
    go_wp2_with fail
    go_ret
    exact ⟨rfl, H.out.same (Below.refl _ _)⟩
  · have e1 : s.tick n = ((s.tickG n).tickL (s.tickG n).ids, 0) := by unfold SysS.tick; rw [if_neg hneg]
    rw [e1]
    have HA := Lib.hid (GAll h.grp)
    have hl : s.ups.length = s.grps.length := by unfold SysS.ups; rw [List.length_map]
    rw [hl] at HA
    obtain ⟨⟨q0, q1, q2, q3⟩, ⟨z0, z1, z2, z3⟩, hlt⟩ := h.tops
    have hg16 := hk.g16
    have hacc := hk.accs
    have hk1 := hk.tickG n
    have HK := Lib.hid hk
    have HK1 := Lib.hid hk1
    have HSo := Lib.hid (fun (W : World) (hW : SysIn w0 W ow L (s.tickG n)) => YSorted hW hk1 (by omega))
    have HAc := Lib.hid (fun (j : Nat) (hj : j < 16) (W : World) => AcTick (s.acc j) n W (hacc j hj) (by omega) hn.2)
    clear h hk hk1 e1 hacc
    generalize hm : s.grps.length = m at *
    have Hm := Lib.hid hm
    clear hm hl
    go_enter Tryz.func20, Tryz.ntmps20
    go_wp2_with (first
      | (go_at_call 60; refine HA.out.mono ?_; rintro e w1 ⟨va, vc, rfl, hown, hb1⟩; rw [rangeI_len] at hown ⊢
         have Hown := Lib.hid hown; have Hb1 := Lib.hid hb1; clear hown hb1))
    have hsl : Sl int1 1 w1 va (rangeI m) := Sl.of_own (enc := int1) (B := w.heap.size) (e := 3) (n := m) (c := vc) (fun _ => rfl) (by rw [flat_int1, rangeI_len]; exact Hown.out)
    have hown0 := Hown.out.lt
    have hvb : ∀ p, va = some p → 0 < m → p.block ≠ L.b := fun p hp h0 e => by
      obtain ⟨r, off, rfl, hr, hc⟩ := hsl (by intro h; have := congrArg List.length h; rw [rangeI_len] at this; simp at this; omega)
      have := hown0 r (by simp [Value.ownBlock])
      simp at hp
      subst hp
      simp only at e
      omega
    have HSl := Lib.hid hsl; have HVb := Lib.hid hvb
    have hold := H.out.old.size
    clear hsl hvb hown0
    go_loopw [18] (fun ix wr => ∃ j : Nat, j ≤ m ∧ ix = .int .i64 j ∧ SysIn w0 wr ow L (s.tickK n j) ∧ Fr (fun b => b = L.b) w1 wr) (fun ix _ => m - (intOf ix).toNat)
    case atStart => exact ⟨0, Nat.zero_le _, rfl, by rw [SysS.tickK_zero]; exact H.out.below Hb1.out, Fr.refl _ _⟩
    case round =>
      obtain ⟨j, hj, rfl, h, hf⟩ := hrel
      have hj0 : (0 : Int) ≤ j := by omega
      by_cases hlt2 : j < m
      · have hjm : (j : Int) < m := by omega
        have hj16 : j < 16 := by omega
        have hj16' : (j : Int) < 16 := by omega
        obtain ⟨r, off, rfl, hr, hc⟩ := HSl.out (by intro h; have := congrArg List.length h; rw [rangeI_len] at this; simp at this; omega)
        have e0 := (hf.cell (p := ⟨r, off + j * 1 + 0, none⟩) hr (fun e => HVb.out ⟨r, off, none⟩ rfl (by omega) e)).trans (hc j j (by simp [rangeI, hlt2]) 0 _ rfl)
        simp only [Nat.mul_one, Nat.add_zero] at e0
        have hst := SysS.tickK_succ (s := s) n (j := j) (by rw [Hm.out]; exact hlt2)
        have hln := SysS.tickK_len (s := s) n j
        have hac := SysS.tickK_acc (s := s) n j
        rw [Hm.out] at hln
        have HAj := Lib.hid (fun (W : World) => HAc.out j hj16 W)
        rw [← hac] at HAj hst
        have HSt := Lib.hid hst
        have HLn := Lib.hid hln
        have HF := Lib.hid hf
        have HH := Lib.hid h
        generalize s.tickK n j = s1 at *
        obtain ⟨⟨a0, a1, a2, a3⟩, ⟨f0, f1, f2, f3⟩⟩ := h.accs hj16
        obtain ⟨-, -, hlt1⟩ := h.tops
        generalize ((s1.acc j).tick n).1 = ua at *
        generalize ((s1.acc j).tick n).2 = ub at *
        clear h hf hc hst hln hac
        go_wp2_with fail
        refine wp_region_chain 64 [0, 0, 0, 0, 4, 20, 60, 124, 0, 508, 1020, 2044, 2044, 1, 8193, 28671, 61439] [(0, none), (1, none), (2, none), (3, none), (4, none), (5, none), (6, none), (7, none), (8, none), (13, none), (14, none), (9, some [0, 1, 13, 14]), (10, none), (11, none), (12, none), (15, none), (16, some [12])] (by kernel_rfl) (by kernel_rfl) (by rfl) ?_; simp only [chain, Obs, List.getElem?_toArray, List.getElem?_cons_zero, List.getElem?_cons_succ]
        go_wp2_with (first
          | (with_reducible refine And.intro (by first | with_reducible exact True.intro | with_reducible rfl | go_simp) ?_)
          | (go_at_call 61; refine (HAj.out _).mono ?_; rintro e w5 ⟨rfl, hb5x⟩
             have hb5 : Below wr.heap.size wr w5 := ((Below.refl wr.heap.size wr).drew).trans (hb5x.mono (Nat.le_refl _))
             clear hb5x
             have g5 := HH.out.below hb5
             obtain ⟨⟨a0, a1, a2, a3⟩, ⟨b0, b1, b2, b3⟩⟩ := g5.accs hj16
             have hs5 := hb5.size
             have hlb5 : L.b < w5.heap.size := (by omega)
             have hlb6 : L.b ≠ w5.heap.size := (by omega)
             have G5 := Lib.hid g5; have HB5 := Lib.hid hb5; clear hb5 g5))
        refine NoPanic.normal ?_
        go_wp2_with fail
        have hG := G5.out.setA (g := j) (by rw [HLn.out]; exact hlt2) hj16 ua
        rw [HSt.out] at hG
        exact ⟨⟨j + 1, hlt2, by go_num, hG, HF.out.trans ((Fr.of_below HB5.out).trans (fr_acn w5 L.b j ua) (fun _ _ h => h)) (fun _ _ h => h)⟩, by simp [intOf]; omega⟩
      · obtain rfl : j = m := by omega
        rw [← Hm.out, SysS.tickK_all] at h
        have hn : s.grps.length = j := Hm.out
        have HSo1 := Lib.hid (HSo.out _ h)
        have H1 := Lib.hid h
        have HF1 := Lib.hid hf
        clear h hf
        go_wp2_with (first
          | (go_at_call 62; refine HSo1.out.mono ?_; rintro e w2 ⟨vb, vd, rfl, hs2, hva, hb2⟩; have HS2 := Lib.hid hs2; have HVa := Lib.hid hva; have Hb2 := Lib.hid hb2; clear hs2 hva hb2))
        have hun : ∀ b, w1.heap.size ≤ b → ow b = none := fun b hb => by
          rcases Option.eq_none_or_eq_some (ow b) with e | ⟨o, e⟩
          · exact e
          · have := (H.out.lt _ _ e).2; have := Hb1.out.size; omega
        have HUn := Lib.hid hun
        have hgs := HF1.out.size
        have hfw : Fr (fun b => ow b ≠ none) w wr := (Fr.of_below Hb1.out).trans (HF1.out.mono fun i _ e => by subst e; rw [H.out.oT]; simp) (fun _ _ h => h)
        have HFw := Lib.hid hfw
        clear hun hfw
        generalize hs1x : s.tickG n = s1 at *
        have HS1x := Lib.hid hs1x
        clear hs1x
        have h64 := HK1.out.all64
        have hids := ids_len s1
        generalize hN : s1.all.length = N at *
        have HN := Lib.hid hN
        clear hN
        go_loopw [42] (fun ix wr => ∃ (k : Nat) (ow' : Nat → Option Own), k ≤ N ∧ ix = .int .i64 k ∧ SysIn w0 wr ow' L (s1.tickL (s1.ids.take k)) ∧ Fr (fun b => ow b ≠ none) w2 wr ∧ (∀ b, ow' b ≠ none → ow b ≠ none ∨ w2.heap.size ≤ b) ∧ Sl (ptrE L.tb) 1 wr vb s1.ids) (fun ix _ => N - (intOf ix).toNat)
        case atStart => exact ⟨0, ow, Nat.zero_le _, rfl, H1.out.below Hb2.out, Fr.refl _ _, fun b hb => .inl hb, HS2.out⟩
        case round =>
          obtain ⟨k, ow2, hk, rfl, h, hf, ho, hs⟩ := hrel
          have hk0 : (0 : Int) ≤ k := by omega
          by_cases hlt3 : k < N
          · have hkn : (k : Int) < N := by omega
            obtain ⟨id, t, hid, htf, rfl, hk1, hst⟩ := HK1.out.tick_at (by omega) (k := k) (by rw [HN.out]; exact hlt3)
            obtain ⟨r, off, rfl, hr, hc⟩ := hs (by intro e; rw [e] at hid; simp at hid)
            have e0 := hc k t.id hid 0 _ rfl
            simp only [Nat.mul_one, Nat.add_zero] at e0
            have hvn : ow2 r = none := by
              rcases Option.eq_none_or_eq_some (ow2 r) with e | ⟨o, e⟩
              · exact e
              · have hv := HVa.out ⟨r, off, none⟩ rfl
                simp only at hv
                rcases ho r (by rw [e]; simp) with e2 | e2
                · exact absurd (HUn.out r (by omega)) e2
                · omega
            generalize s1.tickL (s1.ids.take k) = s2 at h hk1 hst htf
            obtain ⟨⟨c0, c1, c2, c3, c4, c5, c6⟩, -, hkl⟩ := TkAt.cells (h.tsk _ t htf).1
            obtain ⟨hok, -, -⟩ := hk1.tk htf
            have HSt := Lib.hid hst
            have HF := Lib.hid hf
            have HO := Lib.hid ho
            have HS := Lib.hid hs
            have HH := Lib.hid h
            have HVn := Lib.hid hvn
            by_cases h5 : t.st = 5
            · have HSp := Lib.hid (YSpent h hk1.accs (h.tsk _ t htf).1)
              cases hsp : s2.spentG t.grp with
              | true =>
                have e1 : s2.tick1 t.id = s2 := by unfold SysS.tick1; rw [htf]; simp only; rw [if_neg (by rw [hsp]; simp)]
                rw [e1] at hst
                rw [hsp] at HSp
                have HSt := Lib.hid hst
                clear h hf ho hs hk1 hst htf hc hvn hok hsp e1
                go_wp2_with (first
                  | (go_at_call 63; refine HSp.out.mono ?_; rintro e w3 ⟨rfl, hb3⟩; have HB3 := Lib.hid hb3; clear hb3))
                exact ⟨⟨k + 1, ow2, hlt3, by go_num, by rw [HSt.out]; exact HH.out.below HB3.out, HF.out.trans (Fr.of_below HB3.out) (fun _ _ h => h), HO.out, HS.out.fr (F := fun _ => False) (Fr.of_below HB3.out) (fun _ _ h => h)⟩, by simp [intOf]; omega⟩
              | false =>
                have e1 : s2.tick1 t.id = s2.enterT t true := by unfold SysS.tick1; rw [htf]; simp only; rw [if_pos ⟨h5, hsp⟩]
                rw [e1] at hst
                rw [hsp] at HSp
                have HSt := Lib.hid hst
                obtain ⟨l0, l1⟩ := hok.old (by omega)
                obtain ⟨c, hcc, hce, hcf⟩ := hk1.core ⟨l0, l1⟩
                have hm := hk1.mayE (by omega) htf (by omega) hcc hok.w hok.lag
                have HE := Lib.hid (fun (W : World) (hW : Below wr.heap.size wr W) =>
                  YEnter (t := t) (c := c) (h.below hW) hk1.accs htf hok.st (act := 7) (.inr (.inr (.inr (.inr (.inl rfl))))) (by rw [h5]; decide) l0 hcc (hcf.ok (by omega)) (by omega) (by decide) true (by exact hm))
                clear h hf ho hs hk1 hst htf hc hok hsp e1 hcc hce hcf hm
                go_wp2_with (first
                  | (go_at_call 63; refine HSp.out.mono ?_; rintro e w3 ⟨rfl, hb3⟩; have HEq := Lib.hid (HE.out _ hb3); have HB3 := Lib.hid hb3; clear hb3)
                  | (go_at_call 46; refine HEq.out.mono ?_; rintro e w4 ⟨rfl, ow4, h4, hf4, ho4⟩; have H4 := Lib.hid h4; have HF4 := Lib.hid hf4; have HO4 := Lib.hid ho4; clear h4 hf4 ho4))
                have hfx := (Fr.of_below (F := fun b => ow2 b ≠ none) HB3.out).trans HF4.out (fun _ _ h => h)
                refine ⟨⟨k + 1, ow4, hlt3, by go_num, by rw [HSt.out]; exact H4.out, ?_, fun b hb => ?_, HS.out.fr hfx (fun p hp e => ?_)⟩, by simp [intOf]; omega⟩
                · refine HF.out.trans hfx fun b hb hx => ?_
                  rcases HO.out b hx with e | e
                  · exact e
                  · omega
                · have := HF.out.size
                  have := HB3.out.size
                  rcases HO4.out b hb with e | e
                  · exact HO.out b e
                  · exact .inr (by omega)
                · simp only [Option.some.injEq] at hp
                  subst hp
                  exact e HVn.out
            · have e1 : s2.tick1 t.id = s2 := by unfold SysS.tick1; rw [htf]; simp only; rw [if_neg (fun h => h5 h.1)]
              rw [e1] at hst
              have HSt := Lib.hid hst
              clear h hf ho hs hk1 hst htf hc hvn hok e1
              go_wp2_with fail
              exact ⟨⟨k + 1, ow2, hlt3, by go_num, by rw [HSt.out]; exact HH.out, HF.out, HO.out, HS.out⟩, by simp [intOf]; omega⟩
          · obtain rfl : k = N := by omega
            have hfin : s1.tickL s1.ids = s1.tickL (s1.ids.take k) := by rw [← hids, List.take_length]
            have HFin := Lib.hid hfin
            have HH := Lib.hid h
            have HF := Lib.hid hf
            have HO := Lib.hid ho
            clear h hf ho hs hfin
            go_wp2_with fail
            go_ret
            have hfx := (HFw.out.trans (Fr.of_below (F := fun b => ow b ≠ none) Hb2.out) (fun _ _ h => h)).trans HF.out (fun _ _ h => h)
            have := HFw.out.size
            have := Hb2.out.size
            rw [HS1x.out, HFin.out]
            exact ⟨rfl, ow2, HH.out, hfx, fun b hb => (HO.out b hb).imp id fun e => by omega⟩
end
end Go.Proofs.YthdilellcaebfaaGreat
