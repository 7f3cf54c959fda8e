/- The law's functions of layer 14. -/
import Derived.Test.YtmhdebkiepfgiaaV
namespace Go.Proofs.Ytmhdebkiepfgiaa
open Go.RowKit
set_option linter.unusedVariables false
set_option linter.unusedSimpArgs false

set_option maxHeartbeats 1600000 in
theorem awake14 (w : World) : Calls Try.prog 13 #[] w fun e w' => e = .returned (.bool true) ∧ Below w.heap.size w w' := by
  have h0 : TagOk 0 := by decide
  have h1 : BaseOk 0 := by decide
  have hk : OkS 0 ⟨0, -1, []⟩ := OkS.new (by decide) (by decide)
  have hr1 : pickstride ⟨0, -1, []⟩ = (⟨0, -1, []⟩, 0, false) := rfl
  have hr2 : chargeR ⟨0, -1, []⟩ = (⟨0, -1, []⟩, 0, 14) := rfl
  have n1 : nameT 1 = ⟨#[102, 97, 105, 114]⟩ := rfl
  have Hk := Lib.hid hk
  have Hr1 := Lib.hid hr1
  have Hr2 := Lib.hid hr2
  have H0 := Lib.hid h0
  have H1 := Lib.hid h1
  clear hk hr1 hr2 h0 h1
  go_enter Try.func13, Try.ntmps13
  go_wp2_with (first
    | (go_at_call 14; refine (PolNew_ok _ _ _ H0.out H1.out).mono ?_; rintro e w1 ⟨p, F, rfl, hq, hF, hb⟩; have Hq := Lib.hid hq; have HF := Lib.hid hF; clear hq hF)
    | (go_at_call 48; refine (PolRun_0 Hq.out Hk.out Hr1.out Hr2.out).mono ?_; rintro e w2 ⟨rfl, F2, hq2, hs2, hf2⟩; have Hq2 := Lib.hid hq2; have Hf2 := Lib.hid hf2; clear hq2 hs2 hf2)
    | (go_at_call 19; refine (PolTag Hq2.out).mono ?_; rintro e w3 ⟨rfl, rfl⟩)
    | (go_at_call 17; refine (PolName _ _ rfl).mono ?_; rintro e w4 ⟨rfl, hb4⟩)
    | (go_at_call 16; refine (PolGood _ _ rfl).mono ?_; rintro e w5 ⟨rfl, rfl⟩))
  go_ret
  exact ⟨rfl, (hb.trans ((Hf2.out.below hb.size fun k hk => HF.out k hk))).trans (hb4.mono (Nat.le_trans hb.size Hf2.out.size))⟩

set_option maxHeartbeats 400000 in
set_option maxRecDepth 100000 in
theorem PolicyKnown_walk (w : World) : Calls Try.prog 3 #[] w fun e w' => e = .returned (.bool true) ∧ Below w.heap.size w w' := by
  have hk : OkS 0 ⟨0, -1, []⟩ := OkS.new (by decide) (by decide)
  have T0 := Lib.hid (show TagOk 0 by decide)
  have T1 := Lib.hid (show TagOk 1 by decide)
  have T2 := Lib.hid (show TagOk 2 by decide)
  have B0 := Lib.hid (show BaseOk 0 by decide)
  have n0 : nameT 0 = ⟨#[115, 116, 114, 105, 100, 101]⟩ := rfl
  have n2 : nameT 2 = ⟨#[100, 117, 101]⟩ := rfl
  have n3 : nameT 3 = ⟨#[63]⟩ := rfl
  have k0 : heldT 0 5 = 0 := by decide +kernel
  have k1 : heldT 0 (-5) = -5 := by decide +kernel
  have k2 : heldT 1 1099511627776 = 698377680 := by decide +kernel
  have k3 : heldT 1 (-1099511627776) = -1099511627776 := by decide +kernel
  have k4 : heldT 2 1099511627776 = 698377680 := by decide +kernel
  have k5 : heldT 2 (-1099511627776) = -698377680 := by decide +kernel
  have k6 : heldT 2 7 = 7 := by decide +kernel
  have hc := Below.refl w.heap.size w
  have E3 : ¬ (TagOk 3 ∧ BaseOk 0) := fun h => by have := h.1; unfold TagOk at this; omega
  have E1 : ¬ (TagOk (-1) ∧ BaseOk 0) := fun h => by have := h.1; unfold TagOk at this; omega
  have S3 : ¬ (TagOk 3 ∧ BaseOk 0 ∧ goodF ⟨-1, []⟩ = true) := fun h => by have := h.1; unfold TagOk at this; omega
  have S0 : ¬ (TagOk 0 ∧ BaseOk 0 ∧ goodF ⟨0, []⟩ = true) := fun h => by
    have hg : GoodP ⟨0, []⟩ := of_decide_eq_true h.2.2
    rcases hg.2.1 with h | ⟨x, hx, _⟩
    · simp at h
    · cases hx
  have C1 := Lib.hid (fun W => PolNew_err 3 0 W E3)
  have C2 := Lib.hid (fun W => PolNew_err (-1) 0 W E1)
  have C3 := Lib.hid (fun W => PolSeed_err 3 ⟨-1, []⟩ 0 none 0 0 W rfl (by omega) Sl.nil S3)
  have C4 := Lib.hid (fun W => PolSeed_err 0 ⟨0, []⟩ 0 none 0 0 W rfl (by omega) Sl.nil S0)
  have C5 := Lib.hid (fun W => PolNew_ok 0 0 W T0.out B0.out)
  have C6 := Lib.hid (fun W => PolNew_ok 1 0 W T1.out B0.out)
  have C7 := Lib.hid (fun W => PolNew_ok 2 0 W T2.out B0.out)
  clear hk E3 E1 S3 S0
  go_enter Try.func3, Try.ntmps3
  go_wp2_with (first
    | (go_at_call 13; refine (awake14 _).mono ?_; rintro e w1 ⟨rfl, hb⟩; have hc := hc.trans (hb.mono hc.size))
    | (go_at_call 14; first
      | ((with_reducible refine (C1.out _).mono ?_); rintro e w1 ⟨rfl, hb⟩; have hc := hc.trans (hb.mono hc.size))
      | ((with_reducible refine (C2.out _).mono ?_); rintro e w1 ⟨rfl, hb⟩; have hc := hc.trans (hb.mono hc.size))
      | ((with_reducible refine (C5.out _).mono ?_); rintro e w1 ⟨p0, F0, rfl, hp0, _, hb⟩; have hc := hc.trans (hb.mono hc.size))
      | ((with_reducible refine (C6.out _).mono ?_); rintro e w1 ⟨p1, F1, rfl, hp1, _, hb⟩; have hc := hc.trans (hb.mono hc.size); have hp0 := hp0.below hb)
      | ((with_reducible refine (C7.out _).mono ?_); rintro e w1 ⟨p2, F2, rfl, hp2, _, hb⟩; have hc := hc.trans (hb.mono hc.size); have hp0 := hp0.below hb; have hp1 := hp1.below hb))
    | (go_at_call 15; first
      | ((with_reducible refine (C3.out _).mono ?_); rintro e w1 ⟨rfl, hb⟩; have hc := hc.trans (hb.mono hc.size))
      | ((with_reducible refine (C4.out _).mono ?_); rintro e w1 ⟨rfl, hb⟩; have hc := hc.trans (hb.mono hc.size)))
    | (go_at_call 16; refine (PolGood _ _ rfl).mono ?_; rintro e w5 ⟨rfl, rfl⟩)
    | (go_at_call 17; refine (PolName _ _ rfl).mono ?_; rintro e w1 ⟨rfl, hb⟩; have hc := hc.trans (hb.mono hc.size); have hp0 := hp0.below hb; have hp1 := hp1.below hb; have hp2 := hp2.below hb)
    | (go_at_call 18; first
      | ((with_reducible refine (PolHeld hp0 T0.out _ rfl).mono ?_); rintro e w5 ⟨rfl, rfl⟩)
      | ((with_reducible refine (PolHeld hp1 T1.out _ rfl).mono ?_); rintro e w5 ⟨rfl, rfl⟩)
      | ((with_reducible refine (PolHeld hp2 T2.out _ rfl).mono ?_); rintro e w5 ⟨rfl, rfl⟩))
    | (go_at_call 19; refine (PolTag hp1).mono ?_; rintro e w3 ⟨rfl, rfl⟩))
  go_ret
  exact ⟨rfl, hc⟩
end Go.Proofs.Ytmhdebkiepfgiaa
