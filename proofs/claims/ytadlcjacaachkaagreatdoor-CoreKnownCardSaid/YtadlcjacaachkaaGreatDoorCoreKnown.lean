/- CoreKnown: its walk. -/
import Derived.Test.YtadlcjacaachkaaGreatDoorCor
import Derived.Test.YtadlcjacaachkaaGreatDoorText
namespace Go.Proofs.YtadlcjacaachkaaGreatDoor
open Go.RowKit
set_option linter.unusedVariables false
set_option linter.unusedSimpArgs false

def ck0 : CoreS := ⟨0, ⟨0, -1, []⟩, fun _ => 0, 0, 0, 0⟩
def ck1 : CoreS := ck0.enter 1 2 0 false
def ck2 : CoreS := ck1.enter 2 3 50 true
def ck3 : CoreS := ck2.enter 2 3 50 false
def ck4 : CoreS := ck3.run.1
def ck5 : CoreS := ck4.leave 9
def ck6 : CoreS := ck5.weigh 1 4
def ckq : Ln := seedR (formR ck6.q) 12345
def ck7 : CoreS := { ck6 with tag := 1, q := ckq }
theorem ck0_ok : CoreOk 0 0 ck0 := ⟨by decide, OkS.new (by decide) (by decide), by decide, by decide, by decide, by decide, fun _ => by simp [ck0], fun _ => by simp [ck0], by decide⟩
theorem ck1_ok : CoreOk 1 1125899906842624 ck1 := ck0_ok.enter (by decide) 1 2 0 false
theorem ck2_ok : CoreOk 2 2251799813685248 ck2 := ck1_ok.enter (by decide) 2 3 50 true
theorem ck3_ok : CoreOk 3 3377699720527872 ck3 := ck2_ok.enter (by decide) 2 3 50 false
theorem ck4_ok : CoreOk 4 3377699720527872 ck4 := ck3_ok.run
theorem ck5_ok : CoreOk 5 3377699720527872 ck5 := ck4_ok.leave 9
theorem ck6_ok : CoreOk 6 3377699720527872 ck6 := ck5_ok.weigh 1 4
theorem ck_form : ck3.q.cur = -1 ∧ ck3.q.l.map (itOf ck3.q.base) = [⟨1, 2, 0⟩, ⟨2, 3, 50⟩] := by decide +kernel
theorem ck_text : textTo (-1) [⟨1, 2, 0⟩, ⟨2, 3, 50⟩] = [45, 49, 58, 32, 49, 47, 50, 47, 48, 32, 50, 47, 51, 47, 53, 48] := by decide +kernel
theorem ck_run : ck3.run.2 = (2, 0) ∧ ck3.ran.2.1 = 2 := by decide +kernel
theorem ck_leave : (leaveR ck4.q 9).2 = (0, 2) := by decide +kernel
theorem ck_weigh : (weighR ck5.q 1 4).2 = 0 := by decide +kernel
theorem ck_load : totW ck6.q.l = 7 ∧ ck6.age = 4 ∧ ck6.tag = 0 := by decide +kernel
theorem ck_good : goodF (formR ck6.q) = true := by decide +kernel
theorem ck_none : formR ⟨0, -1, []⟩ ≠ formR ck6.q := by decide +kernel
theorem ck_end : ck7.tag = 1 ∧ ck7.age = 4 ∧ ck7.sv 2 = 1 ∧ ck7.sv 1 = 0 ∧ ck7.idle = 0 := by decide +kernel

set_option maxHeartbeats 1600000 in
theorem awakeK (w : World) : Calls Tryz.prog 22 #[] w fun e w' => e = .returned (.bool true) ∧ Below w.heap.size w w' := by
  have HN := Lib.hid (CorNew_ok 0 0 w (by decide) (by decide))
  go_enter Tryz.func22, Tryz.ntmps22
  go_wp2_with (first
    | (go_at_call 23; refine HN.out.mono ?_; rintro e w1 ⟨c, p, b, r, F, rfl, hc, _⟩; have Hc := Lib.hid hc; clear hc)
    | (go_at_call 27; refine (CorRun (s := ck0) Hc.out ck0_ok (by decide) (rfl : ck0.run = (⟨0, ⟨0, -1, []⟩, fun _ => 0, 0, 1, 1⟩, -1, 0)) (by decide)).mono ?_; rintro e w2 ⟨rfl, F2, hc2, _, _⟩; have Hc2 := Lib.hid hc2; clear hc2)
    | (go_at_call 37; refine (CorIdle Hc2.out).mono ?_; rintro e w3 ⟨rfl, rfl⟩)
    | (go_at_call 31; refine (CorAge Hc2.out).mono ?_; rintro e w3 ⟨rfl, rfl⟩))
  go_ret
  exact ⟨rfl, Hc2.out.old⟩

set_option maxHeartbeats 6400000 in
set_option maxRecDepth 100000 in
theorem CoreKnown_walk (w : World) (ht : Tab w) : Calls Tryz.prog 5 #[] w fun e w' => e = .returned (.bool true) ∧ Below w.heap.size w w' := by
  have HX1 := Lib.hid (fun W => CorNew_err 3 0 W (by decide))
  have HX2 := Lib.hid (fun W => CorSeed_err 0 ⟨0, []⟩ 0 none 0 0 W rfl (by decide) Sl.nil (by decide +kernel))
  have HN := Lib.hid (fun W => CorNew_ok 0 0 W (by decide) (by decide))
  have H0 := Lib.hid (fun (W : World) (F : Nat → Prop) (c p b r : Nat) (h : CSt w W F c p b r ck0) => CorEnter h ck0_ok (by decide) (by decide) 1 2 0 false (x := 0) (by decide +kernel))
  have H1 := Lib.hid (fun (W : World) (F : Nat → Prop) (c p b r : Nat) (h : CSt w W F c p b r ck1) => CorEnter h ck1_ok (by decide) (by decide) 2 3 50 true (x := 0) (by decide +kernel))
  have H2 := Lib.hid (fun (W : World) (F : Nat → Prop) (c p b r : Nat) (h : CSt w W F c p b r ck2) => CorEnter h ck2_ok (by decide) (by decide) 2 3 50 false (x := 4) (by decide +kernel))
  have HF := Lib.hid (fun (W : World) (F : Nat → Prop) (c p b r : Nat) (h : CSt w W F c p b r ck3) => CorForm h ck3_ok.tag ck3_ok.ok)
  rw [ck_form.1, ck_form.2] at HF
  have HT := Lib.hid (fun (W : World) (a : Option Addr) (c : Nat) (h : Below w.heap.size w W) (hs : Sl It.enc 3 W a [⟨1, 2, 0⟩, ⟨2, 3, 50⟩]) => Text_any (-1) [⟨1, 2, 0⟩, ⟨2, 3, 50⟩] 2 a c W rfl (by decide) hs (by decide) (by intro x hx; simp only [List.mem_cons, List.not_mem_nil, or_false] at hx; rcases hx with rfl | rfl <;> (unfold It64; decide)) (ht.on h))
  rw [ck_text] at HT
  have H3 := Lib.hid (fun (W : World) (F : Nat → Prop) (c p b r : Nat) (h : CSt w W F c p b r ck3) => CorRun h ck3_ok (by decide) (s' := ck4) (Prod.ext rfl ck_run.1 : ck3.run = (ck4, 2, 0)) (by rw [ck_run.2]; decide))
  have H4 := Lib.hid (fun (W : World) (F : Nat → Prop) (c p b r : Nat) (h : CSt w W F c p b r ck4) => CorLeave h ck4_ok (by decide) 9 (Prod.ext rfl ck_leave : leaveR ck4.q 9 = (_, 0, 2)))
  have H5 := Lib.hid (fun (W : World) (F : Nat → Prop) (c p b r : Nat) (h : CSt w W F c p b r ck5) => CorWeigh h ck5_ok (by decide) 1 4 (Prod.ext rfl ck_weigh : weighR ck5.q 1 4 = (_, 0)))
  have HL := Lib.hid (fun (W : World) (F : Nat → Prop) (c p b r : Nat) (h : CSt w W F c p b r ck6) => CorLoad h ck6_ok.tag ck6_ok.ok)
  rw [ck_load.1] at HL
  have HA := Lib.hid (fun (W : World) (F : Nat → Prop) (c p b r : Nat) (h : CSt w W F c p b r ck6) => CorAge h)
  rw [ck_load.2.1] at HA
  have HG := Lib.hid (fun (W : World) (F : Nat → Prop) (c p b r : Nat) (h : CSt w W F c p b r ck6) => CorForm h ck6_ok.tag ck6_ok.ok)
  have HS := Lib.hid (fun (W : World) (a : Option Addr) (k : Nat) (hs : Sl It.enc 3 W a (formR ck6.q).l) => PolSeed_ok 1 (formR ck6.q) (formR ck6.q).l.length a k 12345 W rfl hs (by decide) (by decide) ck_good)
  have HP := Lib.hid (fun W => PolNew_ok 1 0 W (by decide) (by decide))
  have HC1 := Lib.hid (fun (W : World) (F : Nat → Prop) (c p b r : Nat) (h : CSt w W F c p b r ck6) => CorChange_nil h)
  have HC2 := Lib.hid (fun (W : World) (F H : Nat → Prop) (c p b r p2 b2 : Nat) (h : CSt w W F c p b r ck6) (hq : PSt w W H p2 b2 1 ⟨0, -1, []⟩) => CorChange_no h hq ck6_ok.tag (by decide) ck6_ok.ok (OkS.new (by decide) (by decide)) ck_none)
  have HC3 := Lib.hid (fun (W : World) (F H : Nat → Prop) (c p b r p2 b2 : Nat) (h : CSt w W F c p b r ck6) (hq : PSt w W H p2 b2 1 ckq) (hd : ∀ k, H k ∨ k = p2 → ¬ cfoot F c p r k) => (CorChange_ok h hq ck6_ok.tag (by decide) ck6_ok.ok (OkS.seed (by decide) (by decide) ck_good) hd (form_seed _ _) : Calls Tryz.prog 34 #[.pointer (some ⟨c, 0, none⟩), .pointer (some ⟨p2, 0, none⟩)] W fun e w' => e = .returned (.int .i64 0) ∧ CSt w w' H c p2 b2 r ck7 ∧ Fr (fun k => k = c) W w'))
  have HE0 := Lib.hid (fun (W : World) (F : Nat → Prop) (c p b r : Nat) (h : CSt w W F c p b r ck7) => CorTag h)
  have HE1 := Lib.hid (fun (W : World) (F : Nat → Prop) (c p b r : Nat) (h : CSt w W F c p b r ck7) => CorAge h)
  have HE2 := Lib.hid (fun (W : World) (F : Nat → Prop) (c p b r : Nat) (h : CSt w W F c p b r ck7) => CorServed h 2 (by decide))
  have HE3 := Lib.hid (fun (W : World) (F : Nat → Prop) (c p b r : Nat) (h : CSt w W F c p b r ck7) => CorServed h 1 (by decide))
  have HE4 := Lib.hid (fun (W : World) (F : Nat → Prop) (c p b r : Nat) (h : CSt w W F c p b r ck7) => CorIdle h)
  rw [ck_end.1] at HE0
  rw [ck_end.2.1] at HE1
  rw [ck_end.2.2.1] at HE2
  rw [ck_end.2.2.2.1] at HE3
  rw [ck_end.2.2.2.2] at HE4
  clear ht
  go_enter Tryz.func5, Tryz.ntmps5
  go_wp2_with (first
    | (go_at_call 22; refine (awakeK _).mono ?_; rintro e w1 ⟨rfl, hb1⟩)
    | (go_at_call 23; first
      | ((with_reducible refine (HX1.out _).mono ?_); rintro e w2 ⟨rfl, hb2⟩; have hb2 := hb1.trans (hb2.mono hb1.size))
      | ((with_reducible refine (HN.out _).mono ?_); intro e w4 hn; obtain ⟨c, p, b, r, F, rfl, s0, -, -⟩ := hn.st hb3; have S0 := Lib.hid s0; clear s0 hn))
    | (go_at_call 24; refine (HX2.out _).mono ?_; rintro e w3 ⟨rfl, hb3⟩; have hb3 := hb2.trans (hb3.mono hb2.size))
    | (go_at_call 25; first
      | ((with_reducible refine (H2.out _ _ _ _ _ _ S2.out).mono ?_); rintro e w9 ⟨rfl, F9, s9, -, -⟩; have S3 := Lib.hid s9; clear s9)
      | ((with_reducible refine (H1.out _ _ _ _ _ _ S1.out).mono ?_); rintro e w9 ⟨rfl, F9, s9, -, -⟩; have S2 := Lib.hid s9; clear s9)
      | ((with_reducible refine (H0.out _ _ _ _ _ _ S0.out).mono ?_); rintro e w9 ⟨rfl, F9, s9, -, -⟩; have S1 := Lib.hid s9; clear s9)
      )
    | (go_at_call 26; first
      | ((with_reducible refine (HG.out _ _ _ _ _ _ S7.out).mono ?_); rintro e w5 ⟨a2, k2, rfl, ho, hb5⟩; have s1 := S7.out.below hb5; have S8 := Lib.hid s1; have HO2 := Lib.hid (Sl.of_own It.len ho); clear ho hb5 s1)
      | ((with_reducible refine (HF.out _ _ _ _ _ _ S3.out).mono ?_); rintro e w5 ⟨a, k, rfl, ho, hb5⟩; have s1 := S3.out.below hb5; have S3a := Lib.hid s1; have HO := Lib.hid (Sl.of_own It.len ho); clear ho hb5 s1))
    | (go_at_call 21; refine (HT.out _ _ _ S3a.out.old HO.out).mono ?_; rintro e w6 ⟨rfl, hb6⟩; have s1 := S3a.out.below hb6; have S3b := Lib.hid s1; clear s1 hb6)
    | (go_at_call 27; first
      | ((with_reducible refine (H3.out _ _ _ _ _ _ S3b.out).mono ?_); rintro e w9 ⟨rfl, F9, s9, -, -⟩; have S4 := Lib.hid s9; clear s9)
      )
    | (go_at_call 28; first
      | ((with_reducible refine (H4.out _ _ _ _ _ _ S4.out).mono ?_); rintro e w9 ⟨rfl, F9, s9, -, -⟩; have S5 := Lib.hid s9; clear s9)
      )
    | (go_at_call 29; first
      | ((with_reducible refine (H5.out _ _ _ _ _ _ S5.out).mono ?_); rintro e w9 ⟨rfl, F9, s9, -, -⟩; have S6 := Lib.hid s9; clear s9)
      )
    | (go_at_call 30; (with_reducible refine (HL.out _ _ _ _ _ _ S6.out).mono ?_); rintro e w7 ⟨rfl, hb7⟩; have s1 := S6.out.below hb7; have S7 := Lib.hid s1; clear s1 hb7)
    | (go_at_call 31; first
      | ((with_reducible refine (HE1.out _ _ _ _ _ _ S14.out).mono ?_); rintro e w9 ⟨rfl, rfl⟩)
      | ((with_reducible refine (HA.out _ _ _ _ _ _ S7.out).mono ?_); rintro e w9 ⟨rfl, rfl⟩)
      )
    | (go_at_call 32; refine (HS.out _ _ _ HO2.out).mono ?_; intro e w8 hn; obtain ⟨p2, b2, G, rfl, s1, hG, hb8⟩ := hn.st S8.out.old; have S9 := Lib.hid (S8.out.below hb8); have P9 := Lib.hid s1; have HD := Lib.hid (fun k (hk : G k ∨ k = p2) (hk2 : cfoot F9 c p r k) => (by have h1 := hG k hk; have h2 := S8.out.lt k hk2; omega : False)); clear s1 hn hG hb8)
    | (go_at_call 33; refine (HP.out _).mono ?_; intro e w8 hn; obtain ⟨p3, b3, G3, rfl, s1, hG, hb8⟩ := hn.st S9.out.old; have S10 := Lib.hid (S9.out.below hb8); have P10 := Lib.hid (P9.out.below hb8); have N10 := Lib.hid s1; clear s1 hn hG hb8)
    | (go_at_call 34; first
      | ((with_reducible refine (HC3.out _ _ _ _ _ _ _ _ _ S12.out P12.out HD.out).mono ?_); rintro e w9 ⟨rfl, s1, -⟩; have S14 := Lib.hid s1; clear s1)
      | ((with_reducible refine (HC2.out _ _ _ _ _ _ _ _ _ S11.out N11.out).mono ?_); rintro e w9 ⟨rfl, hb9⟩; have S12 := Lib.hid (S11.out.below hb9); have P12 := Lib.hid (P11.out.below hb9); clear hb9)
      | ((with_reducible refine (HC1.out _ _ _ _ _ _ S10.out).mono ?_); rintro e w9 ⟨rfl, hb9⟩; have S11 := Lib.hid (S10.out.below hb9); have P11 := Lib.hid (P10.out.below hb9); have N11 := Lib.hid (N10.out.below hb9); clear hb9))
    | (go_at_call 35; first
      | ((with_reducible refine (HE0.out _ _ _ _ _ _ S14.out).mono ?_); rintro e w9 ⟨rfl, rfl⟩)
      )
    | (go_at_call 36; first
      | ((with_reducible refine (HE2.out _ _ _ _ _ _ S14.out).mono ?_); rintro e w9 ⟨rfl, rfl⟩)
      | ((with_reducible refine (HE3.out _ _ _ _ _ _ S14.out).mono ?_); rintro e w9 ⟨rfl, rfl⟩)
      )
    | (go_at_call 37; first
      | ((with_reducible refine (HE4.out _ _ _ _ _ _ S14.out).mono ?_); rintro e w9 ⟨rfl, rfl⟩)
      )
    | (with_reducible refine And.intro (by first | with_reducible exact True.intro | with_reducible rfl | go_simp) ?_))
  go_ret
  exact ⟨by rfl, S14.out.old⟩
end Go.Proofs.YtadlcjacaachkaaGreatDoor
