/- StrideKnown: its walk. -/
import Derived.Test.YtadlcjacaachkaaDoorLaw11
import Derived.Test.YtadlcjacaachkaaDoorSt
import Derived.Test.YtadlcjacaachkaaDoorstrideM
import Derived.Test.YtadlcjacaachkaaDoorText
namespace Go.Proofs.YtadlcjacaachkaaDoor
open Go.RowKit
set_option linter.unusedVariables false
set_option linter.unusedSimpArgs false

def sk0 : Ln := ⟨100, -1, []⟩
def sk1 : Ln := (pickstride sk0).1
def sk2 : Ln := (chargeR sk1).1
def sk3 : Ln := enterR heldstride sk2 1 1 50
def sk4 : Ln := enterR heldstride sk3 1 1 0
def sk5 : Ln := enterR heldstride sk4 2 0 0
def sk6 : Ln := enterR heldstride sk5 2 2 (-10)
def sk7 : Ln := (leaveR sk6 2).1
def sk8 : Ln := putR sk7 2 2 30
def sk9 : Ln := (leaveR sk8 2).1
def sk10 : Ln := (leaveR sk9 2).1
def sk11 : Ln := (weighR sk10 1 5).1
def sk12 : Ln := (weighR sk11 1 0).1
def sk13 : Ln := (weighR sk12 9 1).1
def sk14 : Ln := (pickstride sk13).1
def sk15 : Ln := (backR sk14).1
def sk16 : Ln := (backR sk15).1
theorem sk_is : (pickstride sk0).2 = (0, false) ∧ (chargeR sk1).2 = (0, 14) ∧ (leaveR sk6 2).2 = (-10, 0) ∧ (leaveR sk8 2).2 = (30, 0) ∧ (leaveR sk9 2).2 = (0, 2) ∧ (weighR sk10 1 5).2 = 0 ∧ (weighR sk11 1 0).2 = 1 ∧ (weighR sk12 9 1).2 = 2 ∧ (pickstride sk13).2 = (1, true) ∧ (backR sk14).2 = true ∧ (backR sk15).2 = false := by decide +kernel
theorem sk_form : sk16.cur = -1 ∧ sk16.l.map (itOf sk16.base) = [⟨1, 5, 0⟩] ∧ sk16.base = 100 := by decide +kernel
theorem sk_text : textTo (-1) [⟨1, 5, 0⟩] = [45, 49, 58, 32, 49, 47, 53, 47, 48] := by decide +kernel
set_option maxHeartbeats 6400000 in
set_option maxRecDepth 100000 in
theorem StrideKnown_walk (w : World) (ht : Tab w) : Calls Tryd.prog 5 #[] w fun e w' => e = .returned (.bool true) ∧ Below w.heap.size w w' := by
  have HX1 := Lib.hid (fun W => New_err_stride 1152921504606846977 W (by decide))
  have HX2 := Lib.hid (fun W => New_err_stride (-1152921504606846977) W (by decide))
  have HX3 := Lib.hid (fun W => Seed_err_stride ⟨0, []⟩ 0 none 0 0 W rfl (by decide) Sl.nil (.inr (by decide +kernel)))
  have HN := Lib.hid (fun W => (New_ok_stride 100 W (by decide) : Calls Tryd.prog 22 #[.int .i64 100] W (NewPost W sk0)))
  have k0 : OkS 0 sk0 := OkS.new (by decide) (by decide)
  have k1 : OkS 0 sk1 := pickok_stride k0
  have k2 : OkS 0 sk2 := k1.charge
  have k3 : OkS 1125899906842624 sk3 := k2.enter heldstride _ _ _ (by decide)
  have k4 : OkS 2251799813685248 sk4 := k3.enter heldstride _ _ _ (by decide)
  have k5 : OkS 3377699720527872 sk5 := k4.enter heldstride _ _ _ (by decide)
  have k6 : OkS 4503599627370496 sk6 := k5.enter heldstride _ _ _ (by decide)
  have k7 : OkS 4503599627370496 sk7 := k6.leave 2
  have k8 : OkS 5629499534213120 sk8 := k7.put _ _ _ (by decide)
  have k9 : OkS 5629499534213120 sk9 := k8.leave 2
  have k10 : OkS 5629499534213120 sk10 := k9.leave 2
  have k11 : OkS 5629499534213120 sk11 := k10.weigh 1 5
  have k12 : OkS 5629499534213120 sk12 := k11.weigh 1 0
  have k13 : OkS 5629499534213120 sk13 := k12.weigh 9 1
  have k14 : OkS 5629499534213120 sk14 := pickok_stride k13
  have k15 : OkS 5629499534213120 sk15 := k14.back
  have k16 : OkS 5629499534213120 sk16 := k15.back
  obtain ⟨i0, i1, i2, i3, i4, i5, i6, i7, i8, i9, i10⟩ := sk_is
  have H0 := Lib.hid (fun (W : World) (F : Nat → Prop) (b : Nat) (h : QSt w W F b sk0) => callsNext h (Pick_stride h.q k0 (S' := sk1) (Prod.ext rfl i0 : pickstride sk0 = (sk1, 0, false))))
  have H1 := Lib.hid (fun (W : World) (F : Nat → Prop) (b : Nat) (h : QSt w W F b sk1) => callsNext h (Charge_stride h.q k1 (S' := sk2) (Prod.ext rfl i1 : chargeR sk1 = (sk2, 0, 14))))
  have H2 := Lib.hid (fun (W : World) (F : Nat → Prop) (b : Nat) (h : QSt w W F b sk2) => callsNext h (Enter_stride h.q k2 (by decide) 1 1 50 (r := 0) (by decide +kernel)))
  have H3 := Lib.hid (fun (W : World) (F : Nat → Prop) (b : Nat) (h : QSt w W F b sk3) => callsNext h (Enter_stride h.q k3 (by decide) 1 1 0 (r := 4) (by decide +kernel)))
  have H4 := Lib.hid (fun (W : World) (F : Nat → Prop) (b : Nat) (h : QSt w W F b sk4) => callsNext h (Enter_stride h.q k4 (by decide) 2 0 0 (r := 1) (by decide +kernel)))
  have H5 := Lib.hid (fun (W : World) (F : Nat → Prop) (b : Nat) (h : QSt w W F b sk5) => callsNext h (Enter_stride h.q k5 (by decide) 2 2 (-10) (r := 0) (by decide +kernel)))
  have H6 := Lib.hid (fun (W : World) (F : Nat → Prop) (b : Nat) (h : QSt w W F b sk6) => callsNext h (Leave_stride h.q k6 2 (S' := sk7) (Prod.ext rfl i2 : leaveR sk6 2 = (sk7, -10, 0))))
  have H7 := Lib.hid (fun (W : World) (F : Nat → Prop) (b : Nat) (h : QSt w W F b sk7) => callsNext h (Put_stride h.q k7 (by decide) 2 2 30 (r := 0) (by decide +kernel)))
  have H8 := Lib.hid (fun (W : World) (F : Nat → Prop) (b : Nat) (h : QSt w W F b sk8) => callsNext h (Leave_stride h.q k8 2 (S' := sk9) (Prod.ext rfl i3 : leaveR sk8 2 = (sk9, 30, 0))))
  have H9 := Lib.hid (fun (W : World) (F : Nat → Prop) (b : Nat) (h : QSt w W F b sk9) => callsNext h (Leave_stride h.q k9 2 (S' := sk10) (Prod.ext rfl i4 : leaveR sk9 2 = (sk10, 0, 2))))
  have H10 := Lib.hid (fun (W : World) (F : Nat → Prop) (b : Nat) (h : QSt w W F b sk10) => callsNext h (Weigh_stride h.q k10 1 5 (S' := sk11) (Prod.ext rfl i5 : weighR sk10 1 5 = (sk11, 0))))
  have H11 := Lib.hid (fun (W : World) (F : Nat → Prop) (b : Nat) (h : QSt w W F b sk11) => callsNext h (Weigh_stride h.q k11 1 0 (S' := sk12) (Prod.ext rfl i6 : weighR sk11 1 0 = (sk12, 1))))
  have H12 := Lib.hid (fun (W : World) (F : Nat → Prop) (b : Nat) (h : QSt w W F b sk12) => callsNext h (Weigh_stride h.q k12 9 1 (S' := sk13) (Prod.ext rfl i7 : weighR sk12 9 1 = (sk13, 2))))
  have H13 := Lib.hid (fun (W : World) (F : Nat → Prop) (b : Nat) (h : QSt w W F b sk13) => callsNext h (Pick_stride h.q k13 (S' := sk14) (Prod.ext rfl i8 : pickstride sk13 = (sk14, 1, true))))
  have H14 := Lib.hid (fun (W : World) (F : Nat → Prop) (b : Nat) (h : QSt w W F b sk14) => callsNext h (Back_stride h.q (S' := sk15) (Prod.ext rfl i9 : backR sk14 = (sk15, true))))
  have H15 := Lib.hid (fun (W : World) (F : Nat → Prop) (b : Nat) (h : QSt w W F b sk15) => callsNext h (Back_stride h.q (S' := sk16) (Prod.ext rfl i10 : backR sk15 = (sk16, false))))
  have HF := Lib.hid (fun (W : World) (F : Nat → Prop) (b : Nat) (h : QSt w W F b sk16) => Form_stride h.q k16)
  rw [sk_form.1, sk_form.2.1] at HF
  have HT := Lib.hid (fun (W : World) (a : Option Addr) (c : Nat) (h : Below w.heap.size w W) (hs : Sl It.enc 3 W a [⟨1, 5, 0⟩]) => Text_any (-1) [⟨1, 5, 0⟩] 1 a c W rfl (by decide) hs (by decide) (by intro x hx; rw [List.mem_singleton] at hx; subst hx; unfold It64; decide) (ht.on h))
  rw [sk_text] at HT
  have HZ := Lib.hid (fun (W : World) (F : Nat → Prop) (b : Nat) (h : QSt w W F b sk16) => Base_stride h.q)
  rw [sk_form.2.2] at HZ
  clear ht i0 i1 i2 i3 i4 i5 i6 i7 i8 i9 i10 k0 k1 k2 k3 k4 k5 k6 k7 k8 k9 k10 k11 k12 k13 k14 k15 k16
  go_enter Tryd.func5, Tryd.ntmps5
  go_wp2_with (first
    | (go_at_call 21; refine (awake11 _).mono ?_; rintro e w1 ⟨rfl, hb1⟩)
    | (go_at_call 22; first
      | ((with_reducible refine (HX1.out _).mono ?_); rintro e w2 ⟨rfl, hb2⟩; have hb2 := hb1.trans (hb2.mono hb1.size))
      | ((with_reducible refine (HX2.out _).mono ?_); rintro e w3 ⟨rfl, hb3⟩; have hb3 := hb2.trans (hb3.mono hb2.size))
      | ((with_reducible refine (HN.out _).mono ?_); intro e w5 hn; obtain ⟨b, F, rfl, s0, -, -⟩ := hn.st hb4; have S0 := Lib.hid s0; clear s0 hn))
    | (go_at_call 23; refine (HX3.out _).mono ?_; rintro e w4 ⟨rfl, hb4⟩; have hb4 := hb3.trans (hb4.mono hb3.size))
    | (go_at_call 24; first
      | ((with_reducible refine (H13.out _ _ _ S13.out).mono ?_); rintro e w9 ⟨rfl, F9, s9, -, -⟩; have S14 := Lib.hid s9; clear s9)
      | ((with_reducible refine (H0.out _ _ _ S0.out).mono ?_); rintro e w9 ⟨rfl, F9, s9, -, -⟩; have S1 := Lib.hid s9; clear s9)
      )
    | (go_at_call 25; first
      | ((with_reducible refine (H1.out _ _ _ S1.out).mono ?_); rintro e w9 ⟨rfl, F9, s9, -, -⟩; have S2 := Lib.hid s9; clear s9)
      )
    | (go_at_call 26; first
      | ((with_reducible refine (H5.out _ _ _ S5.out).mono ?_); rintro e w9 ⟨rfl, F9, s9, -, -⟩; have S6 := Lib.hid s9; clear s9)
      | ((with_reducible refine (H4.out _ _ _ S4.out).mono ?_); rintro e w9 ⟨rfl, F9, s9, -, -⟩; have S5 := Lib.hid s9; clear s9)
      | ((with_reducible refine (H3.out _ _ _ S3.out).mono ?_); rintro e w9 ⟨rfl, F9, s9, -, -⟩; have S4 := Lib.hid s9; clear s9)
      | ((with_reducible refine (H2.out _ _ _ S2.out).mono ?_); rintro e w9 ⟨rfl, F9, s9, -, -⟩; have S3 := Lib.hid s9; clear s9)
      )
    | (go_at_call 28; first
      | ((with_reducible refine (H7.out _ _ _ S7.out).mono ?_); rintro e w9 ⟨rfl, F9, s9, -, -⟩; have S8 := Lib.hid s9; clear s9)
      )
    | (go_at_call 27; first
      | ((with_reducible refine (H9.out _ _ _ S9.out).mono ?_); rintro e w9 ⟨rfl, F9, s9, -, -⟩; have S10 := Lib.hid s9; clear s9)
      | ((with_reducible refine (H8.out _ _ _ S8.out).mono ?_); rintro e w9 ⟨rfl, F9, s9, -, -⟩; have S9 := Lib.hid s9; clear s9)
      | ((with_reducible refine (H6.out _ _ _ S6.out).mono ?_); rintro e w9 ⟨rfl, F9, s9, -, -⟩; have S7 := Lib.hid s9; clear s9)
      )
    | (go_at_call 29; first
      | ((with_reducible refine (H12.out _ _ _ S12.out).mono ?_); rintro e w9 ⟨rfl, F9, s9, -, -⟩; have S13 := Lib.hid s9; clear s9)
      | ((with_reducible refine (H11.out _ _ _ S11.out).mono ?_); rintro e w9 ⟨rfl, F9, s9, -, -⟩; have S12 := Lib.hid s9; clear s9)
      | ((with_reducible refine (H10.out _ _ _ S10.out).mono ?_); rintro e w9 ⟨rfl, F9, s9, -, -⟩; have S11 := Lib.hid s9; clear s9)
      )
    | (go_at_call 30; first
      | ((with_reducible refine (H15.out _ _ _ S15.out).mono ?_); rintro e w9 ⟨rfl, F9, s9, -, -⟩; have S16 := Lib.hid s9; clear s9)
      | ((with_reducible refine (H14.out _ _ _ S14.out).mono ?_); rintro e w9 ⟨rfl, F9, s9, -, -⟩; have S15 := Lib.hid s9; clear s9)
      )
    | (go_at_call 31; (with_reducible refine (HF.out _ _ _ S16.out).mono ?_); rintro e w6 ⟨a, c, rfl, ho, hb6⟩; have s1 := S16.out.below hb6; have S17 := Lib.hid s1; have HO := Lib.hid (Sl.of_own It.len ho); clear ho hb6 s1)
    | (go_at_call 9; refine (HT.out _ _ _ S17.out.old HO.out).mono ?_; rintro e w7 ⟨rfl, hb7⟩; have s1 := S17.out.below hb7; have S18 := Lib.hid s1; clear s1 hb7)
    | (go_at_call 32; refine (HZ.out _ _ _ S18.out).mono ?_; rintro e w8 ⟨rfl, rfl⟩)
    | (with_reducible refine And.intro (by first | with_reducible exact True.intro | with_reducible rfl | go_simp) ?_))
  go_ret
  exact ⟨by rfl, S18.out.old⟩
end Go.Proofs.YtadlcjacaachkaaDoor
