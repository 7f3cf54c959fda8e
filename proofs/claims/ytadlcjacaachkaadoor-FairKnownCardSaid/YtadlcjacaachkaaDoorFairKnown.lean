/- FairKnown: its walk. -/
import Derived.Test.YtadlcjacaachkaaDoorLaw12
import Derived.Test.YtadlcjacaachkaaDoorSt
import Derived.Test.YtadlcjacaachkaaDoorText
namespace Go.Proofs.YtadlcjacaachkaaDoor
open Go.RowKit
set_option linter.unusedVariables false
set_option linter.unusedSimpArgs false

def fk0 : Ln := ⟨0, -1, []⟩
def fk1 : Ln := enterR heldfair fk0 1 1 1099511627776
def fk2 : Ln := enterR heldfair fk1 2 1 (-1099511627776)
def fk3 : Ln := (leaveR fk2 2).1
def fp0 : Ln := ⟨-5, -1, []⟩
def fp1 : Ln := enterR heldfair fp0 1 20 0
def fp : Nat → Ln
  | 0 => enterR heldfair fp1 2 20 0
  | k + 1 => (chargeR (pickfair (fp k)).1).1
theorem fp1_ok : OkS 1125899906842624 fp1 := (OkS.new (base := -5) (by decide) (by decide) : OkS 0 fp0).enter heldfair 1 20 0 (by decide)
theorem fp_ok : ∀ k, OkS 2251799813685248 (fp k)
  | 0 => fp1_ok.enter heldfair 2 20 0 (by decide)
  | k + 1 => (pickok_fair (fp_ok k)).charge
theorem fp_is : ∀ k, k < 41 → (pickfair (fp k)).2 = (1, true) ∧ (chargeR (pickfair (fp k)).1).2 = (1, 0) := by decide +kernel
def fg1 : Ln := (pickfair (fp 41)).1
def fg2 : Ln := (pickfair fg1).1
def fg3 : Ln := (backR fg2).1
theorem fg_is : (pickfair (fp 41)).2 = (2, true) ∧ (pickfair fg1).2 = (2, true) ∧ (backR fg2).2 = true ∧ (pickfair fg3).2 = (2, true) := by decide +kernel
theorem fk_form : fk1.cur = -1 ∧ fk1.l.map (itOf fk1.base) = [⟨1, 1, 698377680⟩] := by decide +kernel
theorem fk_leave : (leaveR fk2 2).2 = (-1099511627776, 0) := by decide +kernel
theorem fk_text : textTo (-1) [⟨1, 1, 698377680⟩] = [45, 49, 58, 32, 49, 47, 49, 47, 54, 57, 56, 51, 55, 55, 54, 56, 48] := by decide +kernel

set_option maxHeartbeats 3200000 in
set_option maxRecDepth 100000 in
theorem FairKnown_walk (w : World) (ht : Tab w) : Calls Tryd.prog 3 #[] w fun e w' => e = .returned (.bool true) ∧ Below w.heap.size w w' := by
  have HN1 := Lib.hid (fun W => (New_ok_fair 0 W (by decide) : Calls Tryd.prog 7 #[.int .i64 0] W (NewPost W fk0)))
  have HN2 := Lib.hid (fun W => (New_ok_fair (-5) W (by decide) : Calls Tryd.prog 7 #[.int .i64 (-5)] W (NewPost W fp0)))
  have k0 : OkS 0 fk0 := OkS.new (by decide) (by decide)
  have k1 : OkS 1125899906842624 fk1 := k0.enter heldfair _ _ _ (by decide)
  have k2 : OkS 2251799813685248 fk2 := k1.enter heldfair _ _ _ (by decide)
  have p0 : OkS 0 fp0 := OkS.new (by decide) (by decide)
  have HE1 := Lib.hid (fun (W : World) (F : Nat → Prop) (b : Nat) (h : QSt w W F b fk0) => callsNext h (Enter_fair h.q k0 (by decide) 1 1 1099511627776 (r := 0) (by decide +kernel)))
  have HF := Lib.hid (fun (W : World) (F : Nat → Prop) (b : Nat) (h : QSt w W F b fk1) => Form_fair h.q k1)
  rw [fk_form.1, fk_form.2] at HF
  have HT := Lib.hid (fun (W : World) (a : Option Addr) (c : Nat) (h : Below w.heap.size w W) (hs : Sl It.enc 3 W a [⟨1, 1, 698377680⟩]) => Text_any (-1) [⟨1, 1, 698377680⟩] 1 a c W rfl (by decide) hs (by decide) (by intro x hx; rw [List.mem_singleton] at hx; subst hx; unfold It64; decide) (ht.on h))
  rw [fk_text] at HT
  have HE2 := Lib.hid (fun (W : World) (F : Nat → Prop) (b : Nat) (h : QSt w W F b fk1) => callsNext h (Enter_fair h.q k1 (by decide) 2 1 (-1099511627776) (r := 0) (by decide +kernel)))
  have HL := Lib.hid (fun (W : World) (F : Nat → Prop) (b : Nat) (h : QSt w W F b fk2) => callsNext h (Leave_fair h.q k2 2 (S' := fk3) (Prod.ext rfl fk_leave : leaveR fk2 2 = (fk3, -1099511627776, 0))))
  have HP1 := Lib.hid (fun (W : World) (F : Nat → Prop) (b : Nat) (h : QSt w W F b fp0) => callsNext h (Enter_fair h.q p0 (by decide) 1 20 0 (r := 0) (by decide +kernel)))
  have HP2 := Lib.hid (fun (W : World) (F : Nat → Prop) (b : Nat) (h : QSt w W F b fp1) => (callsNext h (Enter_fair h.q fp1_ok (by decide) 2 20 0 (r := 0) (by decide +kernel)) : Calls Tryd.prog 8 #[.pointer (some ⟨b, 0, none⟩), .int .i64 2, .int .i64 20, .int .i64 0] W fun e w' => e = .returned (.int .i64 0) ∧ QNext w W F b (fp 0) w'))
  have HK := Lib.hid (fun (k : Nat) (hk : k < 41) (W : World) (F : Nat → Prop) (b : Nat) (h : QSt w W F b (fp k)) => callsNext h (Pick_fair h.q (fp_ok k) (Prod.ext rfl (fp_is k hk).1 : pickfair (fp k) = (_, 1, true))))
  have HC := Lib.hid (fun (k : Nat) (hk : k < 41) (W : World) (F : Nat → Prop) (b : Nat) (h : QSt w W F b (pickfair (fp k)).1) => callsNext h (Charge_fair h.q (pickok_fair (fp_ok k)) (S' := fp (k + 1)) (Prod.ext rfl (fp_is k hk).2 : chargeR (pickfair (fp k)).1 = (fp (k + 1), 1, 0))))
  have HG1 := Lib.hid (fun (W : World) (F : Nat → Prop) (b : Nat) (h : QSt w W F b (fp 41)) => callsNext h (Pick_fair h.q (fp_ok 41) (S' := fg1) (Prod.ext rfl fg_is.1 : pickfair (fp 41) = (fg1, 2, true))))
  have g1 : OkS 2251799813685248 fg1 := pickok_fair (fp_ok 41)
  have g2 : OkS 2251799813685248 fg2 := pickok_fair g1
  have g3 : OkS 2251799813685248 fg3 := g2.back
  have HG2 := Lib.hid (fun (W : World) (F : Nat → Prop) (b : Nat) (h : QSt w W F b fg1) => callsNext h (Pick_fair h.q g1 (S' := fg2) (Prod.ext rfl fg_is.2.1 : pickfair fg1 = (fg2, 2, true))))
  have HB := Lib.hid (fun (W : World) (F : Nat → Prop) (b : Nat) (h : QSt w W F b fg2) => callsNext h (Back_fair h.q (S' := fg3) (Prod.ext rfl fg_is.2.2.1 : backR fg2 = (fg3, true))))
  have HG3 := Lib.hid (fun (W : World) (F : Nat → Prop) (b : Nat) (h : QSt w W F b fg3) => callsNext h (Pick_fair h.q g3 (Prod.ext rfl fg_is.2.2.2 : pickfair fg3 = (_, 2, true))))
  clear k0 k1 k2 p0 g1 g2 g3 ht
  go_enter Tryd.func3, Tryd.ntmps3
  go_wp2_with (first
    | (go_at_call 6; refine (awake12 _).mono ?_; rintro e w1 ⟨rfl, hb1⟩)
    | (go_at_call 7; first
      | ((with_reducible refine (HN1.out _).mono ?_); intro e w2 hn; obtain ⟨b, F, rfl, s0, -, -⟩ := hn.st hb1; have S0 := Lib.hid s0; clear s0 hn)
      | ((with_reducible refine (HN2.out _).mono ?_); intro e w2 hn; obtain ⟨b2, F2, rfl, s0, -, -⟩ := hn.st S3.out.old; have P0 := Lib.hid s0; clear s0 hn))
    | (go_at_call 8; first
      | ((with_reducible refine (HE1.out _ _ _ S0.out).mono ?_); rintro e w9 ⟨rfl, F9, s9, -, -⟩; have S1 := Lib.hid s9; clear s9)
      | ((with_reducible refine (HE2.out _ _ _ S1b.out).mono ?_); rintro e w9 ⟨rfl, F9, s9, -, -⟩; have S2 := Lib.hid s9; clear s9)
      | ((with_reducible refine (HP1.out _ _ _ P0.out).mono ?_); rintro e w9 ⟨rfl, F9, s9, -, -⟩; have P1 := Lib.hid s9; clear s9)
      | ((with_reducible refine (HP2.out _ _ _ P1.out).mono ?_); rintro e w9 ⟨rfl, F9, s9, -, -⟩; have P2 := Lib.hid s9; clear s9)
      )
    | (go_at_call 10; (with_reducible refine (HF.out _ _ _ S1.out).mono ?_); rintro e w3 ⟨a, c, rfl, ho, hb3⟩; have s1 := S1.out.below hb3; have S1a := Lib.hid s1; have HO := Lib.hid (Sl.of_own It.len ho); clear ho hb3 s1)
    | (go_at_call 9; refine (HT.out _ _ _ S1a.out.old HO.out).mono ?_; rintro e w4 ⟨rfl, hb4⟩; have s1 := S1a.out.below hb4; have S1b := Lib.hid s1; clear s1 hb4)
    | (go_at_call 11; first
      | ((with_reducible refine (HL.out _ _ _ S2.out).mono ?_); rintro e w9 ⟨rfl, F9, s9, -, -⟩; have S3 := Lib.hid s9; clear s9)
      ))
  go_loopw [8, 9] (fun r i wr => ∃ (k : Nat) (F : Nat → Prop), k ≤ 41 ∧ r = .int .i64 k ∧ i = .int .i64 k ∧ QSt w wr F b2 (fp k)) (fun _ i _ => 41 - (intOf i).toNat)
  case atStart => exact ⟨0, _, by omega, rfl, rfl, P2.out⟩
  case round =>
    obtain ⟨k, F, hk, rfl, rfl, hq⟩ := hrel
    have hki : (k : Int) < 200 := by omega
    have SL := Lib.hid hq
    clear hq
    by_cases hlt : k < 41
    · have HK1 := Lib.hid (HK.out k hlt)
      have HC1 := Lib.hid (HC.out k hlt)
      clear HK HC
      go_wp2_with (first
        | (go_at_call 12; first
          | ((with_reducible refine (HK1.out _ _ _ SL.out).mono ?_); rintro e w9 ⟨rfl, F9, s9, -, -⟩; have SM := Lib.hid s9; clear s9)
          )
        | (go_at_call 13; first
          | ((with_reducible refine (HC1.out _ _ _ SM.out).mono ?_); rintro e w9 ⟨rfl, F9, s9, -, -⟩; have SN := Lib.hid s9; clear s9)
          ))
      go_roundw
      case rel => exact ⟨k + 1, _, by omega, by go_num, by go_num, SN.out⟩
      case measure => simp [intOf]; omega
    · obtain rfl : k = 41 := by omega
      go_wp2_with (first
        | (go_at_call 12; first
          | ((with_reducible refine (HG3.out _ _ _ SP.out).mono ?_); rintro e w9 ⟨rfl, F9, s9, -, -⟩; have SQ := Lib.hid s9; clear s9)
          | ((with_reducible refine (HG2.out _ _ _ SN.out).mono ?_); rintro e w9 ⟨rfl, F9, s9, -, -⟩; have SO := Lib.hid s9; clear s9)
          | ((with_reducible refine (HG1.out _ _ _ SL.out).mono ?_); rintro e w9 ⟨rfl, F9, s9, -, -⟩; have SN := Lib.hid s9; clear s9)
          )
        | (go_at_call 14; first
          | ((with_reducible refine (HB.out _ _ _ SO.out).mono ?_); rintro e w9 ⟨rfl, F9, s9, -, -⟩; have SP := Lib.hid s9; clear s9)
          )
        | (with_reducible refine And.intro (by first | with_reducible exact True.intro | with_reducible rfl | go_simp) ?_))
      go_ret
      exact ⟨by rfl, SQ.out.old⟩
end Go.Proofs.YtadlcjacaachkaaDoor
