/- The law's functions of layer 14. -/
import Derived.Test.YtfijedmdfkelnaaGreatV
namespace Go.Proofs.YtfijedmdfkelnaaGreat
open Go.RowKit
set_option linter.unusedVariables false
set_option linter.unusedSimpArgs false

set_option maxHeartbeats 1600000 in
theorem awake14 (w : World) : Calls Tryz.prog 7 #[] w fun e w' => e = .returned (.bool true) ∧ Below w.heap.size w w' := by
  have h0 : TagOk 0 := by decide
  have h1 : BaseOk 0 := by decide
  have hk : OkS 0 ⟨0, -1, []⟩ := OkS.new (by decide) (by decide)
  have hr1 : pickstride ⟨0, -1, []⟩ = (⟨0, -1, []⟩, 0, false) := rfl
  have hr2 : chargeR ⟨0, -1, []⟩ = (⟨0, -1, []⟩, 0, 14) := rfl
  have n1 : nameT 1 = ⟨#[102, 97, 105, 114]⟩ := rfl
  have Hk := Lib.hid hk
  have Hr1 := Lib.hid hr1
  have Hr2 := Lib.hid hr2
  have H0 := Lib.hid h0
  have H1 := Lib.hid h1
  clear hk hr1 hr2 h0 h1
  go_enter Tryz.func7, Tryz.ntmps7
  go_wp2_with (first
    | (go_at_call 38; refine (PolNew_ok _ _ _ H0.out H1.out).mono ?_; rintro e w1 ⟨p, F, rfl, hq, hF, hb⟩; have Hq := Lib.hid hq; have HF := Lib.hid hF; clear hq hF)
    | (go_at_call 16; refine (PolRun_0 Hq.out Hk.out Hr1.out Hr2.out).mono ?_; rintro e w2 ⟨rfl, F2, hq2, hs2, hf2⟩; have Hq2 := Lib.hid hq2; have Hf2 := Lib.hid hf2; clear hq2 hs2 hf2)
    | (go_at_call 19; refine (PolTag Hq2.out).mono ?_; rintro e w3 ⟨rfl, rfl⟩)
    | (go_at_call 39; refine (PolName _ _ rfl).mono ?_; rintro e w4 ⟨rfl, hb4⟩)
    | (go_at_call 40; refine (PolGood _ _ rfl).mono ?_; rintro e w5 ⟨rfl, rfl⟩))
  go_ret
  exact ⟨rfl, (hb.trans ((Hf2.out.below hb.size fun k hk => HF.out k hk))).trans (hb4.mono (Nat.le_trans hb.size Hf2.out.size))⟩

end Go.Proofs.YtfijedmdfkelnaaGreat
