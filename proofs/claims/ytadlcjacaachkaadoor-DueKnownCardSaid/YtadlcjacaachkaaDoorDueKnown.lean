/- DueKnown: its walk. -/
import Derived.Test.YtadlcjacaachkaaDoorLaw13
import Derived.Test.YtadlcjacaachkaaDoorSt
import Derived.Test.YtadlcjacaachkaaDoorText
namespace Go.Proofs.YtadlcjacaachkaaDoor
open Go.RowKit
set_option linter.unusedVariables false
set_option linter.unusedSimpArgs false

def dk0 : Ln := ⟨0, -1, []⟩
def dk1 : Ln := enterR helddue dk0 1 1 1099511627776
def dk2 : Ln := enterR helddue dk1 2 1 (-1099511627776)
def dp0 : Ln := ⟨7, -1, []⟩
def dp1 : Ln := enterR helddue dp0 1 1 0
def dp2 : Ln := enterR helddue dp1 2 20 0
def dp3 : Ln := (pickdue dp2).1
def dp4 : Ln := (chargeR dp3).1
theorem dk_form : dk2.cur = -1 ∧ dk2.l.map (itOf dk2.base) = [⟨1, 1, 698377680⟩, ⟨2, 1, -698377680⟩] := by decide +kernel
theorem dk_text : textTo (-1) [⟨1, 1, 698377680⟩, ⟨2, 1, -698377680⟩] = [45, 49, 58, 32, 49, 47, 49, 47, 54, 57, 56, 51, 55, 55, 54, 56, 48, 32, 50, 47, 49, 47, 45, 54, 57, 56, 51, 55, 55, 54, 56, 48] := by decide +kernel
theorem dp_is : (pickdue dp2).2 = (2, true) ∧ (chargeR dp3).2 = (2, 0) ∧ (pickdue dp4).2 = (1, true) := by decide +kernel

set_option maxHeartbeats 3200000 in
set_option maxRecDepth 100000 in
theorem DueKnown_walk (w : World) (ht : Tab w) : Calls Tryd.prog 4 #[] w fun e w' => e = .returned (.bool true) ∧ Below w.heap.size w w' := by
  have HN1 := Lib.hid (fun W => (New_ok_due 0 W (by decide) : Calls Tryd.prog 16 #[.int .i64 0] W (NewPost W dk0)))
  have HN2 := Lib.hid (fun W => (New_ok_due 7 W (by decide) : Calls Tryd.prog 16 #[.int .i64 7] W (NewPost W dp0)))
  have k0 : OkS 0 dk0 := OkS.new (by decide) (by decide)
  have k1 : OkS 1125899906842624 dk1 := k0.enter helddue _ _ _ (by decide)
  have k2 : OkS 2251799813685248 dk2 := k1.enter helddue _ _ _ (by decide)
  have p0 : OkS 0 dp0 := OkS.new (by decide) (by decide)
  have p1 : OkS 1125899906842624 dp1 := p0.enter helddue _ _ _ (by decide)
  have p2 : OkS 2251799813685248 dp2 := p1.enter helddue _ _ _ (by decide)
  have p3 : OkS 2251799813685248 dp3 := pickok_due p2
  have p4 : OkS 2251799813685248 dp4 := p3.charge
  have HE1 := Lib.hid (fun (W : World) (F : Nat → Prop) (b : Nat) (h : QSt w W F b dk0) => callsNext h (Enter_due h.q k0 (by decide) 1 1 1099511627776 (r := 0) (by decide +kernel)))
  have HE2 := Lib.hid (fun (W : World) (F : Nat → Prop) (b : Nat) (h : QSt w W F b dk1) => callsNext h (Enter_due h.q k1 (by decide) 2 1 (-1099511627776) (r := 0) (by decide +kernel)))
  have HF := Lib.hid (fun (W : World) (F : Nat → Prop) (b : Nat) (h : QSt w W F b dk2) => Form_due h.q k2)
  rw [dk_form.1, dk_form.2] at HF
  have HT := Lib.hid (fun (W : World) (a : Option Addr) (c : Nat) (h : Below w.heap.size w W) (hs : Sl It.enc 3 W a [⟨1, 1, 698377680⟩, ⟨2, 1, -698377680⟩]) => Text_any (-1) [⟨1, 1, 698377680⟩, ⟨2, 1, -698377680⟩] 2 a c W rfl (by decide) hs (by decide) (by intro x hx; simp only [List.mem_cons, List.not_mem_nil, or_false] at hx; rcases hx with rfl | rfl <;> (unfold It64; decide)) (ht.on h))
  rw [dk_text] at HT
  have HP1 := Lib.hid (fun (W : World) (F : Nat → Prop) (b : Nat) (h : QSt w W F b dp0) => callsNext h (Enter_due h.q p0 (by decide) 1 1 0 (r := 0) (by decide +kernel)))
  have HP2 := Lib.hid (fun (W : World) (F : Nat → Prop) (b : Nat) (h : QSt w W F b dp1) => callsNext h (Enter_due h.q p1 (by decide) 2 20 0 (r := 0) (by decide +kernel)))
  have HK1 := Lib.hid (fun (W : World) (F : Nat → Prop) (b : Nat) (h : QSt w W F b dp2) => callsNext h (Pick_due h.q p2 (S' := dp3) (Prod.ext rfl dp_is.1 : pickdue dp2 = (dp3, 2, true))))
  have HC := Lib.hid (fun (W : World) (F : Nat → Prop) (b : Nat) (h : QSt w W F b dp3) => callsNext h (Charge_due h.q p3 (S' := dp4) (Prod.ext rfl dp_is.2.1 : chargeR dp3 = (dp4, 2, 0))))
  have HK2 := Lib.hid (fun (W : World) (F : Nat → Prop) (b : Nat) (h : QSt w W F b dp4) => callsNext h (Pick_due h.q p4 (Prod.ext rfl dp_is.2.2 : pickdue dp4 = (_, 1, true))))
  clear k0 k1 k2 p0 p1 p2 p3 p4 ht
  go_enter Tryd.func4, Tryd.ntmps4
  go_wp2_with (first
    | (go_at_call 15; refine (awake13 _).mono ?_; rintro e w1 ⟨rfl, hb1⟩)
    | (go_at_call 16; first
      | ((with_reducible refine (HN1.out _).mono ?_); intro e w2 hn; obtain ⟨b, F, rfl, s0, -, -⟩ := hn.st hb1; have S0 := Lib.hid s0; clear s0 hn)
      | ((with_reducible refine (HN2.out _).mono ?_); intro e w2 hn; obtain ⟨b2, F2, rfl, s0, -, -⟩ := hn.st S2b.out.old; have P0 := Lib.hid s0; clear s0 hn))
    | (go_at_call 17; first
      | ((with_reducible refine (HE1.out _ _ _ S0.out).mono ?_); rintro e w9 ⟨rfl, F9, s9, -, -⟩; have S1 := Lib.hid s9; clear s9)
      | ((with_reducible refine (HE2.out _ _ _ S1.out).mono ?_); rintro e w9 ⟨rfl, F9, s9, -, -⟩; have S2 := Lib.hid s9; clear s9)
      | ((with_reducible refine (HP1.out _ _ _ P0.out).mono ?_); rintro e w9 ⟨rfl, F9, s9, -, -⟩; have P1 := Lib.hid s9; clear s9)
      | ((with_reducible refine (HP2.out _ _ _ P1.out).mono ?_); rintro e w9 ⟨rfl, F9, s9, -, -⟩; have P2 := Lib.hid s9; clear s9)
      )
    | (go_at_call 18; (with_reducible refine (HF.out _ _ _ S2.out).mono ?_); rintro e w3 ⟨a, c, rfl, ho, hb3⟩; have s1 := S2.out.below hb3; have S2a := Lib.hid s1; have HO := Lib.hid (Sl.of_own It.len ho); clear ho hb3 s1)
    | (go_at_call 9; refine (HT.out _ _ _ S2a.out.old HO.out).mono ?_; rintro e w4 ⟨rfl, hb4⟩; have s1 := S2a.out.below hb4; have S2b := Lib.hid s1; clear s1 hb4)
    | (go_at_call 19; first
      | ((with_reducible refine (HK2.out _ _ _ P4.out).mono ?_); rintro e w9 ⟨rfl, F9, s9, -, -⟩; have P5 := Lib.hid s9; clear s9)
      | ((with_reducible refine (HK1.out _ _ _ P2.out).mono ?_); rintro e w9 ⟨rfl, F9, s9, -, -⟩; have P3 := Lib.hid s9; clear s9)
      )
    | (go_at_call 20; first
      | ((with_reducible refine (HC.out _ _ _ P3.out).mono ?_); rintro e w9 ⟨rfl, F9, s9, -, -⟩; have P4 := Lib.hid s9; clear s9)
      )
    | (with_reducible refine And.intro (by first | with_reducible exact True.intro | with_reducible rfl | go_simp) ?_))
  go_ret
  exact ⟨by rfl, P5.out.old⟩
end Go.Proofs.YtadlcjacaachkaaDoor
