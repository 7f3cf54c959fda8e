/- Package shadow: a queue of bytes; a core's bytes. -/
import Derived.Test.YtpdfkomhgeckcaaGreatByU
import Derived.Test.YtpdfkomhgeckcaaGreatCor
namespace Go.Proofs.YtpdfkomhgeckcaaGreat
open Go.RowKit
set_option linter.unusedVariables false
set_option linter.unusedSimpArgs false

set_option maxHeartbeats 800000 in
theorem Make_tag (tag base : Int) (n : Nat) (a : Option Addr) (c : Nat) (w : World) (ht : ¬ TagOk tag) :
    Calls Tryz.prog 24 #[.slice a n c, .int .i64 tag, .int .i64 base] w fun e w' => e = .returned (.tuple #[.pointer none, .int .i64 1]) ∧ Below w.heap.size w w' := by
  have HG := Lib.hid (fun W => PolGood tag W (r := false) (by rw [decide_eq_false_iff_not]; unfold TagOk at ht; omega))
  clear ht
  go_enter Tryz.func24, Tryz.ntmps24
  go_wp2_with (go_at_call 22; refine (HG.out _).mono ?_; rintro e w1 ⟨rfl, rfl⟩)
  go_ret2
  exact ⟨rfl, Below.refl _ _⟩

set_option maxHeartbeats 1600000 in
set_option maxRecDepth 100000 in
theorem Make_err (l : List Int) (tag base : Int) (n : Nat) (a : Option Addr) (c : Nat) (w : World) (hn : l.length = n) (hl : n ≤ 1000000) (hc : n ≤ c) (hB : ∀ x ∈ l, Byte x) (hs : Sl encU 1 w a l) (ht : TagOk tag) {er : Int} (he : (readE l).2.2 = er) (h0 : er ≠ 0) :
    Calls Tryz.prog 24 #[.slice a n c, .int .i64 tag, .int .i64 base] w fun e w' => e = .returned (.tuple #[.pointer none, .int .i64 er]) ∧ Below w.heap.size w w' := by
  have HG := Lib.hid (fun W => PolGood tag W (r := true) (by rw [decide_eq_true_iff]; unfold TagOk at ht; omega))
  have HR := Lib.hid (ElderRead l n a c w hn hl hc hB hs (R := readE l) rfl)
  generalize readE l = R at *
  obtain ⟨r1, r2, r3⟩ := R
  simp only at he
  subst he
  have h0b : (r3 != 0) = true := by simpa using h0
  clear ht hs hB hn h0
  go_enter Tryz.func24, Tryz.ntmps24
  go_wp2_with (first
    | (go_at_call 22; refine (HG.out _).mono ?_; rintro e w1 ⟨rfl, rfl⟩)
    | (go_at_call 33; refine HR.out.mono ?_; rintro e w2 ⟨fa, fc, rfl, _, hb2⟩))
  go_ret2
  exact ⟨rfl, hb2.alloc hb2.size _⟩

set_option maxHeartbeats 1600000 in
set_option maxRecDepth 100000 in
theorem Make_ok (l : List Int) (tag base : Int) (n : Nat) (a : Option Addr) (c : Nat) (w : World) (hn : l.length = n) (hl : n ≤ 1000000) (hc : n ≤ c) (hB : ∀ x ∈ l, Byte x) (hs : Sl encU 1 w a l) (ht : TagOk tag) (hb : BaseOk base) {f : Fm} (hf : (readE l).2.1 = f) (h0 : (readE l).2.2 = 0) :
    Calls Tryz.prog 24 #[.slice a n c, .int .i64 tag, .int .i64 base] w (PolPost w tag (seedR f base)) := by
  have HG := Lib.hid (fun W => PolGood tag W (r := true) (by rw [decide_eq_true_iff]; unfold TagOk at ht; omega))
  have HR := Lib.hid (ElderRead l n a c w hn hl hc hB hs (R := readE l) rfl)
  have hgood := readE_good h0
  generalize readE l = R at *
  obtain ⟨r1, r2, r3⟩ := R
  simp only at hf h0 hgood
  subst hf h0
  unfold goodC at hgood
  rw [Bool.and_eq_true] at hgood
  have HP := Lib.hid (fun W A C (h : Sl It.enc 3 W A r2.l) => PolSeed_ok tag r2 r2.l.length A C base W rfl h ht hb hgood.2)
  clear ht hs hB hn hgood hb
  go_enter Tryz.func24, Tryz.ntmps24
  go_wp2_with (first
    | (go_at_call 22; refine (HG.out _).mono ?_; rintro e w1 ⟨rfl, rfl⟩)
    | (go_at_call 33; refine HR.out.mono ?_; rintro e w2 ⟨fa, fc, rfl, ho2, hb2⟩; have Hs2 := Lib.hid ((Sl.of_own It.len ho2).below ((Below.refl _ _).alloc (Nat.le_refl _) (.cells #[.int .i64 r2.cur, .slice fa r2.l.length fc] 24))); have hb3 := hb2.alloc hb2.size (.cells #[.int .i64 r2.cur, .slice fa r2.l.length fc] 24); clear ho2)
    | (go_at_call 31; refine (HP.out _ _ _ Hs2.out).mono ?_; rintro e w4 ⟨p, F, rfl, hq, hF, hb4⟩; have Hq := Lib.hid hq; have HF := Lib.hid hF; clear hq hF))
  go_ret2
  exact ⟨p, F, rfl, Hq.out, fun k hk => Nat.le_trans hb3.size (HF.out k hk), hb3.trans (hb4.mono hb3.size)⟩
end Go.Proofs.YtpdfkomhgeckcaaGreat
