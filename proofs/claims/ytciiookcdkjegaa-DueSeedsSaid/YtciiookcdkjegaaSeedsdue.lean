/- DueSeeds walked. -/
import Derived.Test.YtciiookcdkjegaaPlaysdue
import Derived.Test.YtciiookcdkjegaaRefS
import Derived.Test.YtciiookcdkjegaaK
namespace Go.Proofs.Ytciiookcdkjegaa
open Go.RowKit
set_option linter.unusedVariables false
set_option linter.unusedSimpArgs false

set_option maxHeartbeats 6400000 in
set_option maxRecDepth 100000 in
theorem DueSeeds_walk (cu : Int) (l : List It) (n : Nat) (a : Option Addr) (c : Nat) (base : Int) (acts : List Ac) (m : Nat) (aa : Option Addr) (ac : Nat) (w : World) (hn : l.length = n) (hm : n ≤ maxLen) (hs : Sl It.enc 3 w a l) (hbs : I64 base) (hna : acts.length = m) (hma : m ≤ maxLen) (hac : Sl Ac.enc 4 w aa acts) :
    Calls Try.prog 13 #[.agg #[.int .i64 cu, .slice a n c], .int .i64 base, .slice aa m ac] w fun e w' => e = .returned (.bool true) ∧ Below w.heap.size w w' := by
  have HS := Lib.hid hs
  have Hn := Lib.hid hn
  have HA := Lib.hid hac
  have Hm := Lib.hid hna
  unfold maxLen at hm hma
  clear hs hn hac hna
  by_cases h1 : (70 : Int) < n
  · go_enter Try.func13, Try.ntmps13
    go_wp2_with (first
      | (go_at_call 38; refine (awake13 _).mono ?_; rintro e w1 ⟨rfl, hb⟩; have X1 := Lib.hid (heap_below (heap_new w _) hb); obtain ⟨g0, g1, y0, y1, gl⟩ := blk2 X1.out; have hb1 := ((Below.refl w.heap.size w).alloc (Nat.le_refl _) _).trans (hb.mono (by simp)))
      )
    go_ret
    exact ⟨rfl, hb1⟩
  · by_cases h2 : (100 : Int) < m
    · go_enter Try.func13, Try.ntmps13
      go_wp2_with (first
        | (go_at_call 38; refine (awake13 _).mono ?_; rintro e w1 ⟨rfl, hb⟩; have X1 := Lib.hid (heap_below (heap_new w _) hb); obtain ⟨g0, g1, y0, y1, gl⟩ := blk2 X1.out; have hb1 := ((Below.refl w.heap.size w).alloc (Nat.le_refl _) _).trans (hb.mono (by simp)))
        )
      go_ret
      exact ⟨rfl, hb1⟩
    · have HO := Lib.hid (fun W (hW : Below w.heap.size w W) => own_due cu l n a c W Hn.out (by omega) (HS.out.below hW))
      by_cases hB : BaseOk base ∧ goodF ⟨cu, l⟩ = true
      · have HE := Lib.hid (fun W (hW : Below w.heap.size w W) => Seed_ok_due ⟨cu, l⟩ n a c base W Hn.out (HS.out.below hW) hB.1 hB.2)
        have HR := Lib.hid (fun W a2 c2 (hW : Sl It.enc 3 W a2 l) => rSeed_ok 2 cu l n a2 c2 base W Hn.out hW (by omega) hB.1 hB.2)
        have hK : OkS 0 (seedR ⟨cu, l⟩ base) := OkS.seed hB.1.1 hB.1.2 hB.2
        have hI : PlayI 0 (seedR ⟨cu, l⟩ base) := PlayI.seed hB.1 hB.2
        have HK := Lib.hid hK
        have HI := Lib.hid hI
        have Hsb := Lib.hid (show (seedR ⟨cu, l⟩ base).base = base from rfl)
        have eF : ∀ W, FormPost W (seedR ⟨cu, l⟩ base).cur ((seedR ⟨cu, l⟩ base).l.map (itOf (seedR ⟨cu, l⟩ base).base)) = FormPost W cu l := fun W => by
          have e2 : (seedR ⟨cu, l⟩ base).l.map (itOf (seedR ⟨cu, l⟩ base).base) = l := congrArg Fm.l (form_seed ⟨cu, l⟩ base)
          rw [e2]; rfl
        have EF := Lib.hid eF
        generalize seedR ⟨cu, l⟩ base = S0 at HE HR HK HI EF Hsb
        clear hB hK hI eF
        go_enter Try.func13, Try.ntmps13
        go_wp2_with (first
          | (go_at_call 38; refine (awake13 _).mono ?_; rintro e w1 ⟨rfl, hb⟩; have X1 := Lib.hid (heap_below (heap_new w _) hb); obtain ⟨g0, g1, y0, y1, gl⟩ := blk2 X1.out; have hb1 := ((Below.refl w.heap.size w).alloc (Nat.le_refl _) _).trans (hb.mono (by simp)))
          | (go_at_call 45; refine (HE.out _ hb1).mono ?_; go_loud (rintro e w2 hnp); obtain ⟨b, F, rfl, hp, _, hb2⟩ := hnp.st hb1; have Hp := Lib.hid hp; have X2 := Lib.hid (heap_below X1.out hb2); obtain ⟨g0, g1, y0, y1, gl⟩ := blk2 X2.out; clear hp hnp hb2)
          | (go_at_call 50; refine (HO.out _ Hp.out.old).mono ?_; rintro e w3 ⟨a3, c3, rfl, ho, hb3⟩; have Hs3 := Lib.hid (Sl.of_own It.len ho); rw [Hn.out]; have Hp3 := Lib.hid (Hp.out.below hb3); have X3 := Lib.hid (heap_below X2.out hb3); clear ho hb3)
          | (go_at_call 17; refine (HR.out _ _ _ Hs3.out).mono ?_
             rintro e w4 ⟨r, a4, c4, rfl, hra, hnew, hb4⟩
             have Hp4 := Lib.hid (Hp3.out.below hb4)
             have Hq4 := Lib.hid (RSt.mk (w0 := w) (w := w4) (G := foot r a4) (r := r) (tag := 2) (S := S0) ⟨a4, c4, hra, rfl⟩ (fun k hk => Nat.le_trans Hp3.out.old.size (hnew k hk)) Hp4.out.old)
             have hd0 : ∀ k, F k → ¬ foot r a4 k := fun k h1 h2 => by
               have h3 := Hp3.out.lt k h1
               have h4 := hnew k h2
               omega
             have Hd := Lib.hid hd0
             have X4 := Lib.hid (heap_below X3.out hb4)
             obtain ⟨g0, g1, y0, y1, gl⟩ := blk2 X4.out
             clear hra hnew hd0 hb4))
        have Hp5 := Lib.hid (Hp4.out.below (Below.refl _ _).drew)
        have Hq5 := Lib.hid (Hq4.out.below (Below.refl _ _).drew)
        have hF1 := Form_due Hp5.out.q HK.out
        rw [EF.out] at hF1
        have HF1 := Lib.hid hF1
        clear hF1
        refine wp_region_chain 75 [0, 1, 0, 7, 15, 31, 63, 127, 63, 511, 1023] [(0, none), (2, none), (1, some [2]), (3, some []), (4, none), (5, none), (6, none), (8, none), (7, some [8]), (9, none), (10, none)] (by kernel_rfl) (by kernel_rfl) (by rfl) ?_; simp only [chain, Obs, List.getElem?_toArray, List.getElem?_cons_zero, List.getElem?_cons_succ]
        go_wp2_with (first
          | (with_reducible refine And.intro (by first | with_reducible exact True.intro | with_reducible rfl | go_simp) ?_)
          | (go_at_call 43; refine HF1.out.mono ?_; rintro e w6 ⟨a6, c6, rfl, ho, hb6⟩; have Hs6 := Lib.hid (Sl.of_own It.len ho); rw [Hn.out]; have Hp6 := Lib.hid (Hp5.out.below hb6); have Hq6 := Lib.hid (Hq5.out.below hb6); have X6 := Lib.hid (heap_below (heap_drew X4.out) hb6); obtain ⟨g0, g1, y0, y1, gl⟩ := blk2 X6.out; clear ho hb6)
          | (go_at_call 19; refine (SameF_any cu cu l l n n a6 a c6 c _ Hn.out Hn.out (by omega) (by omega) Hs6.out (HS.out.below Hp6.out.old) (decide_eq_true rfl)).mono ?_; rintro e w7 ⟨rfl, hb7⟩; have Hp7 := Lib.hid (Hp6.out.below hb7); have Hq7 := Lib.hid (Hq6.out.below hb7); clear hb7)
          | (go_at_call 46; refine (Base_due Hp7.out.q).mono ?_; rw [Hsb.out]; rintro e w8 ⟨rfl, rfl⟩))
        refine NoPanic.normal ?_
        go_wp2_with fail
        go_loopw [11] (fun ix wr => ∃ i : Nat, i ≤ m ∧ ix = .int .i64 i ∧ TwoAt 2 w b r i wr) (fun ix _ => m - (intOf ix).toNat)
        case atStart => exact ⟨0, Nat.zero_le _, rfl, F, _, S0, Hp7.out, Hq7.out, Hd.out, HI.out⟩
        case round =>
          clear X1 X2 X3 X4
          obtain ⟨i, hi, rfl, hT⟩ := hrel
          by_cases hlt : i < m
          · obtain ⟨r0, off, rfl, hr, hcc⟩ := HA.out (by intro h; have h1 := Hm.out; rw [h] at h1; simp at h1; omega)
            obtain ⟨x, hx⟩ : ∃ y, acts[i]? = some y := ⟨_, List.getElem?_eq_getElem (by rw [Hm.out]; exact hlt)⟩
            have e0 := (hT.old.cell (p := ⟨r0, off + i * 4 + 0, none⟩) hr).trans (hcc i x hx 0 _ rfl)
            have e1 := (hT.old.cell (p := ⟨r0, off + i * 4 + 1, none⟩) hr).trans (hcc i x hx 1 _ rfl)
            have e2 := (hT.old.cell (p := ⟨r0, off + i * 4 + 2, none⟩) hr).trans (hcc i x hx 2 _ rfl)
            have e3 := (hT.old.cell (p := ⟨r0, off + i * 4 + 3, none⟩) hr).trans (hcc i x hx 3 _ rfl)
            simp only [Nat.add_zero] at e0
            have hki : (i : Int) < m := by omega
            have HSt := Lib.hid (step_due x hT (by omega))
            clear hcc hx hT
            go_wp2_with (go_at_call 44; refine HSt.out.mono ?_; rintro e w5 ⟨rfl, hT5⟩; have HT5 := Lib.hid hT5; clear hT5)
            go_roundw
            case rel => exact ⟨i + 1, hlt, by go_num, HT5.out⟩
            case measure => simp [intOf]; omega
          · have HT := Lib.hid hT
            clear hT
            go_wp2_with fail
            go_ret
            exact ⟨rfl, HT.out.old⟩
      · have hB2 : ¬ BaseOk base ∨ goodF ⟨cu, l⟩ = false := by
          by_cases h : BaseOk base
          · right
            cases hg : goodF ⟨cu, l⟩ with
            | false => rfl
            | true => exact absurd ⟨h, hg⟩ hB
          · exact .inl h
        have HE := Lib.hid (fun W (hW : Below w.heap.size w W) => Seed_err_due ⟨cu, l⟩ n a c base W Hn.out (by omega) (HS.out.below hW) hB2)
        have hB3 : ¬ (((2 : Int) = 0 ∨ (2 : Int) = 1 ∨ (2 : Int) = 2) ∧ BaseOk base) ∨ goodF ⟨cu, l⟩ = false := by
          rcases hB2 with h | h
          · exact .inl fun h2 => h h2.2
          · exact .inr h
        have HR := Lib.hid (fun W a2 c2 (hW : Sl It.enc 3 W a2 l) => rSeed_err 2 cu l n a2 c2 base W Hn.out (by omega) hW hB3)
        clear hB hB2 hB3
        go_enter Try.func13, Try.ntmps13
        go_wp2_with (first
          | (go_at_call 38; refine (awake13 _).mono ?_; rintro e w1 ⟨rfl, hb⟩; have X1 := Lib.hid (heap_below (heap_new w _) hb); obtain ⟨g0, g1, y0, y1, gl⟩ := blk2 X1.out; have hb1 := ((Below.refl w.heap.size w).alloc (Nat.le_refl _) _).trans (hb.mono (by simp)))
          | (go_at_call 45; refine (HE.out _ hb1).mono ?_; rintro e w2 ⟨rfl, hb2⟩; have X2 := Lib.hid (heap_below X1.out hb2); obtain ⟨g0, g1, y0, y1, gl⟩ := blk2 X2.out; have hb1 := hb1.trans (hb2.mono hb1.size))
          | (go_at_call 50; refine (HO.out _ hb1).mono ?_; rintro e w3 ⟨a3, c3, rfl, ho, hb3⟩; have Hs3 := Lib.hid (Sl.of_own It.len ho); rw [Hn.out]; have hb1 := hb1.trans (hb3.mono hb1.size); clear ho)
          | (go_at_call 17; refine (HR.out _ _ _ Hs3.out).mono ?_; rintro e w4 ⟨rfl, hb4⟩; have hb1 := hb1.trans (hb4.mono hb1.size)))
        go_ret
        exact ⟨rfl, hb1⟩
end Go.Proofs.Ytciiookcdkjegaa
