/- The law's functions of layer 12: awake. -/
import Derived.Test.YtadlcjacaachkaaDoorTfair
import Derived.Test.YtadlcjacaachkaaDoorPickM
import Derived.Test.YtadlcjacaachkaaDoorArg
namespace Go.Proofs.YtadlcjacaachkaaDoor
open Go.RowKit
set_option linter.unusedVariables false
set_option linter.unusedSimpArgs false

def awF0 : Ln := ⟨0, -1, []⟩
def awF1 : Ln := enterR heldfair awF0 1 20 0
def awF : Nat → Ln
  | 0 => enterR heldfair awF1 2 20 0
  | k + 1 => (chargeR (pickfair (awF k)).1).1
theorem awF_ok : ∀ k, OkS 2251799813685248 (awF k)
  | 0 => by
    have h0 : OkS 0 awF0 := OkS.new (by decide) (by decide)
    have h1 : OkS 1125899906842624 awF1 := h0.enter heldfair 1 20 0 (by decide)
    exact h1.enter heldfair 2 20 0 (by decide)
  | k + 1 => (pickok_fair (awF_ok k)).charge
theorem awF_is : ∀ k, k < 40 → (pickfair (awF k)).2 = (1, true) ∧ (chargeR (pickfair (awF k)).1).2 = (1, 0) := by decide +kernel

set_option maxHeartbeats 1600000 in
set_option maxRecDepth 100000 in
theorem awake12 (w : World) : Calls Tryd.prog 6 #[] w fun e w' => e = .returned (.bool true) ∧ Below w.heap.size w w' := by
  have HN := Lib.hid (fun W => New_ok_fair 0 W (by decide))
  have k0 : OkS 0 awF0 := OkS.new (by decide) (by decide)
  have k1 : OkS 1125899906842624 awF1 := k0.enter heldfair 1 20 0 (by decide)
  have HE1 := Lib.hid (fun (W : World) (F : Nat → Prop) (b : Nat) (h : Qm W F b awF0) => Enter_fair h k0 (by decide) 1 20 0 (r := 0) (by decide +kernel))
  have HE2 := Lib.hid (fun (W : World) (F : Nat → Prop) (b : Nat) (h : Qm W F b awF1) => Enter_fair h k1 (by decide) 2 20 0 (r := 0) (by decide +kernel))
  clear k0 k1
  have hn := Nat.le_refl w.heap.size
  go_enter Tryd.func6, Tryd.ntmps6
  go_wp2_with (first
    | (go_at_call 7; refine (HN.out _).mono ?_; rintro e w1 ⟨b, F, rfl, hq, hF, hb⟩; have Hq := Lib.hid hq; have HF := Lib.hid hF; have Hb := Lib.hid hb; clear hq hF hb)
    | (go_at_call 8; first
      | ((with_reducible refine (HE1.out _ _ _ Hq.out).mono ?_); rintro e w2 ⟨rfl, F2, hq2, hs2, hf2⟩; have Hq2 := Lib.hid hq2; have HF2 := Lib.hid (fun k (hk : F2 k) => (hs2 k hk).elim (fun h => HF.out k h) (fun h => Nat.le_trans Hb.out.size h)); have Hb2 := Lib.hid (Hb.out.trans (hf2.below Hb.out.size fun k hk => HF.out k hk)); clear hq2 hs2 hf2)
      | ((with_reducible refine (HE2.out _ _ _ Hq2.out).mono ?_); rintro e w3 ⟨rfl, F3, hq3, hs3, hf3⟩; have Hq3 := Lib.hid hq3; have HF3 := Lib.hid (fun k (hk : F3 k) => (hs3 k hk).elim (fun h => HF2.out k h) (fun h => Nat.le_trans Hb2.out.size h)); have Hb3 := Lib.hid (Hb2.out.trans (hf3.below Hb2.out.size fun k hk => HF2.out k hk)); clear hq3 hs3 hf3)))
  go_loopw [3] (fun i wr => ∃ (k : Nat) (F : Nat → Prop), k ≤ 40 ∧ i = .int .i64 k ∧ Below w.heap.size w wr ∧ Qm wr F b (awF k) ∧ (∀ x, F x → w.heap.size ≤ x)) (fun i _ => 40 - (intOf i).toNat)
  case atStart => exact ⟨0, F3, by omega, rfl, Hb3.out, Hq3.out, HF3.out⟩
  case round =>
    obtain ⟨k, F, hk, rfl, hbw, hq, hF⟩ := hrel
    have hsz := hbw.size
    by_cases hlt : k < 40
    · obtain ⟨e1, e2⟩ := awF_is k hlt
      have HP := Lib.hid (Pick_fair hq (awF_ok k) (Prod.ext rfl e1 : pickfair (awF k) = (_, 1, true)))
      have HC := Lib.hid (fun (W : World) (G : Nat → Prop) (h : Qm W G b (pickfair (awF k)).1) => Charge_fair h (pickok_fair (awF_ok k)) (S' := awF (k + 1)) (Prod.ext rfl e2 : chargeR (pickfair (awF k)).1 = (awF (k + 1), 1, 0)))
      have HF := Lib.hid hF
      have hki : (k : Int) < 40 := by omega
      clear e1 e2 hq hF
      go_wp2_with (first
        | (go_at_call 12; refine HP.out.mono ?_; rintro e w4 ⟨rfl, F4, hq4, hs4, hf4⟩; have Hq4 := Lib.hid hq4; have Hs4 := Lib.hid hs4; have Hf4 := Lib.hid hf4; clear hq4 hs4 hf4)
        | (go_at_call 13; refine (HC.out _ _ Hq4.out).mono ?_; rintro e w5 ⟨rfl, F5, hq5, hs5, hf5⟩; have Hq5 := Lib.hid hq5; have Hs5 := Lib.hid hs5; have Hf5 := Lib.hid hf5; clear hq5 hs5 hf5))
      go_roundw
      case rel => exact ⟨k + 1, F5, by omega, by go_num, (hbw.trans (Hf4.out.below hsz fun k hk => HF.out k hk)).trans (Hf5.out.below (Nat.le_trans hsz Hf4.out.size) fun x hx => (Hs4.out x hx).elim (HF.out x) (fun h => by omega)), Hq5.out, fun x hx => (Hs5.out x hx).elim (fun h => (Hs4.out x h).elim (HF.out x) (fun h => by omega)) (fun h => by have := Hf4.out.size; omega)⟩
      case measure => simp [intOf]; omega
    · go_wp2_with fail
      go_ret
      exact ⟨rfl, hbw⟩
end Go.Proofs.YtadlcjacaachkaaDoor
