/- Package shadow: a queue of bytes; a core's bytes. -/
import Derived.Test.YthdilellcaebfaaGreatDoorByt
import Derived.Test.YthdilellcaebfaaGreatDoorCor
import Derived.Test.YthdilellcaebfaaGreatDoorChks
namespace Go.Proofs.YthdilellcaebfaaGreatDoor
open Go.RowKit
set_option linter.unusedVariables false
set_option linter.unusedSimpArgs false

set_option maxHeartbeats 800000 in
theorem Make_tag (tag base : Int) (n : Nat) (a : Option Addr) (c : Nat) (w : World) (ht : ¬ TagOk tag) :
    Calls Tryz.prog 13 #[.slice a n c, .int .i64 tag, .int .i64 base] w fun e w' => e = .returned (.tuple #[.pointer none, .int .i64 1]) ∧ Below w.heap.size w w' := by
  have HG := Lib.hid (fun W => PolGood tag W (r := false) (by rw [decide_eq_false_iff_not]; unfold TagOk at ht; omega))
  clear ht
  go_enter Tryz.func13, Tryz.ntmps13
  go_wp2_with (go_at_call 33; refine (HG.out _).mono ?_; rintro e w1 ⟨rfl, rfl⟩)
  go_ret2
  exact ⟨rfl, Below.refl _ _⟩

set_option maxHeartbeats 1600000 in
set_option maxRecDepth 100000 in
theorem Make_err (l : List Int) (tag base : Int) (n : Nat) (a : Option Addr) (c : Nat) (w : World) (hn : l.length = n) (hl : n ≤ 1000000) (hc : n ≤ c) (hB : ∀ x ∈ l, Byte x) (hs : Sl encU 1 w a l) (ht : TagOk tag) {er : Int} (he : (readE l).2.2 = er) (h0 : er ≠ 0) :
    Calls Tryz.prog 13 #[.slice a n c, .int .i64 tag, .int .i64 base] w fun e w' => e = .returned (.tuple #[.pointer none, .int .i64 er]) ∧ Below w.heap.size w w' := by
  have HG := Lib.hid (fun W => PolGood tag W (r := true) (by rw [decide_eq_true_iff]; unfold TagOk at ht; omega))
  have HR := Lib.hid (ElderRead l n a c w hn hl hc hB hs (R := readE l) rfl)
  generalize readE l = R at *
  obtain ⟨r1, r2, r3⟩ := R
  simp only at he
  subst he
  have h0b : (r3 != 0) = true := by simpa using h0
  clear ht hs hB hn h0
  go_enter Tryz.func13, Tryz.ntmps13
  go_wp2_with (first
    | (go_at_call 33; refine (HG.out _).mono ?_; rintro e w1 ⟨rfl, rfl⟩)
    | (go_at_call 34; refine HR.out.mono ?_; rintro e w2 ⟨fa, fc, rfl, _, hb2⟩))
  go_ret2
  exact ⟨rfl, hb2.alloc hb2.size _⟩

set_option maxHeartbeats 1600000 in
set_option maxRecDepth 100000 in
theorem Make_ok (l : List Int) (tag base : Int) (n : Nat) (a : Option Addr) (c : Nat) (w : World) (hn : l.length = n) (hl : n ≤ 1000000) (hc : n ≤ c) (hB : ∀ x ∈ l, Byte x) (hs : Sl encU 1 w a l) (ht : TagOk tag) (hb : BaseOk base) {f : Fm} (hf : (readE l).2.1 = f) (h0 : (readE l).2.2 = 0) :
    Calls Tryz.prog 13 #[.slice a n c, .int .i64 tag, .int .i64 base] w (PolPost w tag (seedR f base)) := by
  have HG := Lib.hid (fun W => PolGood tag W (r := true) (by rw [decide_eq_true_iff]; unfold TagOk at ht; omega))
  have HR := Lib.hid (ElderRead l n a c w hn hl hc hB hs (R := readE l) rfl)
  have hgood := readE_good h0
  generalize readE l = R at *
  obtain ⟨r1, r2, r3⟩ := R
  simp only at hf h0 hgood
  subst hf h0
  unfold goodC at hgood
  rw [Bool.and_eq_true] at hgood
  have HP := Lib.hid (fun W A C (h : Sl It.enc 3 W A r2.l) => PolSeed_ok tag r2 r2.l.length A C base W rfl h ht hb hgood.2)
  clear ht hs hB hn hgood hb
  go_enter Tryz.func13, Tryz.ntmps13
  go_wp2_with (first
    | (go_at_call 33; refine (HG.out _).mono ?_; rintro e w1 ⟨rfl, rfl⟩)
    | (go_at_call 34; refine HR.out.mono ?_; rintro e w2 ⟨fa, fc, rfl, ho2, hb2⟩; have Hs2 := Lib.hid ((Sl.of_own It.len ho2).below ((Below.refl _ _).alloc (Nat.le_refl _) (.cells #[.int .i64 r2.cur, .slice fa r2.l.length fc] 37))); have hb3 := hb2.alloc hb2.size (.cells #[.int .i64 r2.cur, .slice fa r2.l.length fc] 37); clear ho2)
    | (go_at_call 35; refine (HP.out _ _ _ Hs2.out).mono ?_; rintro e w4 ⟨p, F, rfl, hq, hF, hb4⟩; have Hq := Lib.hid hq; have HF := Lib.hid hF; clear hq hF))
  go_ret2
  exact ⟨p, F, rfl, Hq.out, fun k hk => Nat.le_trans hb3.size (HF.out k hk), hb3.trans (hb4.mono hb3.size)⟩
end Go.Proofs.YthdilellcaebfaaGreatDoor
/- Package shadow: a core turned to another policy. -/
namespace Go.Proofs.YthdilellcaebfaaGreatDoor
open Go.RowKit
set_option linter.unusedVariables false
set_option linter.unusedSimpArgs false
section
variable {w0 w : World} {F : Nat → Prop} {c p b r : Nat} {s : CoreS} {K : Int}

set_option maxHeartbeats 1600000 in
set_option maxRecDepth 100000 in
theorem ShWrite (h : CSt w0 w F c p b r s) (ht : TagOk s.tag) (hk : OkS K s.q) {f : Fm} (hf : formR s.q = f) (hg : goodF f = true) :
    Calls Tryz.prog 11 #[.pointer (some ⟨c, 0, none⟩)] w fun e w' => ∃ a' c', e = .returned (.tuple #[.slice a' (putB s.tag f).length c', .int .i64 0]) ∧ w'.ownsRow w.heap.size 5 1 (.slice a' (putB s.tag f).length c') (putB s.tag f).length (flat encU (putB s.tag f)) ∧ Below w.heap.size w w' := by
  have hgc : goodC s.tag f = true := by unfold goodC; rw [hg, Bool.and_true, decide_eq_true_eq]; unfold TagOk at ht; omega
  have HT := Lib.hid (CorTag h)
  have HF := Lib.hid (CorForm h ht hk)
  have e1 : s.q.cur = f.cur := by rw [← hf]; rfl
  have e2 : s.q.l.map (itOf s.q.base) = f.l := by rw [← hf]; rfl
  rw [e1, e2] at HF
  have HP := Lib.hid (fun W A C (hs : Sl It.enc 3 W A f.l) => CodePut_ok s.tag f.cur f.l f.l.length A C W rfl hs hgc)
  clear h ht hk hf hg hgc e1 e2
  go_enter Tryz.func11, Tryz.ntmps11
  go_wp2_with (first
    | (go_at_call 28; refine HT.out.mono ?_; rintro e w1 ⟨rfl, rfl⟩)
    | (go_at_call 29; refine HF.out.mono ?_; rintro e w2 ⟨a2, c2, rfl, ho2, hb2⟩; have Hs2 := Lib.hid (Sl.of_own It.len ho2); clear ho2)
    | (go_at_call 12; refine (HP.out _ _ _ Hs2.out).mono ?_; rintro e w3 ⟨a3, c3, rfl, ho3, hb3⟩; have Ho3 := Lib.hid ho3; clear ho3))
  go_ret2
  exact ⟨a3, c3, rfl, own_base Ho3.out hb2.size, hb2.trans (hb3.mono hb2.size)⟩

set_option maxHeartbeats 1600000 in
set_option maxRecDepth 100000 in
theorem ShFits {H : Nat → Prop} {p2 b2 : Nat} {tag2 : Int} {S2 : Ln} {K2 : Int} (h : CSt w0 w F c p b r s) (hq : PSt w0 w H p2 b2 tag2 S2) (ht : TagOk s.tag) (ht2 : TagOk tag2) (hk : OkS K s.q) (hk2 : OkS K2 S2) {f : Fm} (hf : formR s.q = f) (hf2 : formR S2 = f) (hg : goodF f = true) :
    Calls Tryz.prog 18 #[.pointer (some ⟨c, 0, none⟩), .pointer (some ⟨p2, 0, none⟩)] w fun e w' => e = .returned (.slice none 0 0) ∧ Below w.heap.size w w' := by
  obtain ⟨FN2, hmf2, hef2, HQb⟩ := ifForm tag2 ht2 b2
  obtain ⟨q0, q1, z0, z1, qlt⟩ := blk2 hq.cell
  have HQ := Lib.hid (HQb.out hq.q hk2)
  have HF := Lib.hid (fun W (hW : Below w.heap.size w W) => CorForm (h.below hW) ht hk)
  have e1 : s.q.cur = f.cur := by rw [← hf]; rfl
  have e2 : s.q.l.map (itOf s.q.base) = f.l := by rw [← hf]; rfl
  have e3 : S2.cur = f.cur := by rw [← hf2]; rfl
  have e4 : S2.l.map (itOf S2.base) = f.l := by rw [← hf2]; rfl
  rw [e1, e2] at HF
  rw [e3, e4] at HQ
  have HC := Lib.hid (fun W A C A2 C2 (hs : Sl It.enc 3 W A f.l) (hs2 : Sl It.enc 3 W A2 f.l) => FaultsSame f.cur f.l f.l.length A A2 C C2 W rfl hs hs2 (goodF_P hg))
  clear h hq ht ht2 hk hk2 hf hf2 hg e1 e2 e3 e4 HQb
  go_enter Tryz.func18, Tryz.ntmps18
  go_wp2_with (first
    | (go_at_fn FN2; refine HQ.out.mono ?_; rintro e w1 ⟨a1, c1, rfl, ho1, hb1⟩; have Hs1 := Lib.hid (Sl.of_own It.len ho1); clear ho1)
    | (go_at_call 29; refine (HF.out _ hb1).mono ?_; rintro e w2 ⟨a2, c2, rfl, ho2, hb2⟩; have Hs2 := Lib.hid (Sl.of_own It.len ho2); have Hs1 := Lib.hid (Hs1.out.below hb2); have hb3 := hb1.trans (hb2.mono hb1.size); clear ho2)
    | (go_at_call 39; refine (HC.out _ _ _ _ _ Hs1.out Hs2.out).mono ?_; rintro e w4 ⟨rfl, hb4⟩))
  go_ret
  exact ⟨rfl, hb3.trans (hb4.mono hb3.size)⟩

set_option maxHeartbeats 800000 in
theorem Turn_tag (tag base : Int) (q : Value) (w : World) (ht : ¬ TagOk tag) :
    Calls Tryz.prog 15 #[q, .int .i64 tag, .int .i64 base] w fun e w' => e = .returned (.tuple #[.pointer none, .int .i64 1]) ∧ Below w.heap.size w w' := by
  have HG := Lib.hid (fun W => PolGood tag W (r := false) (by rw [decide_eq_false_iff_not]; unfold TagOk at ht; omega))
  clear ht
  go_enter Tryz.func15, Tryz.ntmps15
  go_wp2_with (go_at_call 33; refine (HG.out _).mono ?_; rintro e w1 ⟨rfl, rfl⟩)
  go_ret2
  exact ⟨rfl, Below.refl _ _⟩

set_option maxHeartbeats 1600000 in
set_option maxRecDepth 100000 in
/-- The core's form, by another policy, from another base. -/
theorem Turn_ok (h : CSt w0 w F c p b r s) (ht : TagOk s.tag) (hk : OkS K s.q) {f : Fm} (hf : formR s.q = f) (hg : goodF f = true) (tag base : Int) (ht2 : TagOk tag) (hB : BaseOk base) :
    Calls Tryz.prog 15 #[.pointer (some ⟨c, 0, none⟩), .int .i64 tag, .int .i64 base] w fun e w' => ∃ p2 b2 H, e = .returned (.tuple #[.pointer (some ⟨p2, 0, none⟩), .int .i64 0]) ∧ PSt w0 w' H p2 b2 tag (seedR f base) ∧ (∀ k, H k ∨ k = p2 → w.heap.size ≤ k) ∧ Below w.heap.size w w' := by
  have HG := Lib.hid (fun W => PolGood tag W (r := true) (by rw [decide_eq_true_iff]; unfold TagOk at ht2; omega))
  have hgc : goodC s.tag f = true := by unfold goodC; rw [hg, Bool.and_true, decide_eq_true_eq]; unfold TagOk at ht; omega
  have HW := Lib.hid (ShWrite h ht hk hf hg)
  have hrd := readE_put hgc
  have HM := Lib.hid (fun W A C (hC : (putB s.tag f).length ≤ C) (hs : Sl encU 1 W A (putB s.tag f)) => Make_ok (putB s.tag f) tag base (putB s.tag f).length A C W rfl (by have := putB_len hgc; omega) hC (putB_byte hgc) hs ht2 hB (f := f) (by rw [hrd]) (by rw [hrd]))
  have HFt := Lib.hid (fun W (H : Nat → Prop) p2 b2 (hW : CSt w0 W F c p b r s) (hq : PSt w0 W H p2 b2 tag (seedR f base)) => ShFits hW hq ht ht2 hk (OkS.seed hB.1 hB.2 hg) hf (form_seed f base) hg)
  have HH := Lib.hid h
  generalize hpb : putB s.tag f = l at *
  clear h ht hk hf hg ht2 hB hgc hrd hpb
  go_enter Tryz.func15, Tryz.ntmps15
  go_wp2_with (first
    | (go_at_call 33; refine (HG.out _).mono ?_; rintro e w1 ⟨rfl, rfl⟩)
    | (go_at_call 11; refine HW.out.mono ?_; rintro e w2 ⟨a2, c2, rfl, ho2, hb2⟩; have hc2 := own_cap ho2; have Hs2 := Lib.hid (own_sl ho2); have H2 := Lib.hid (HH.out.below hb2); clear ho2)
    | (go_at_call 13; refine (HM.out _ _ _ hc2 Hs2.out).mono ?_; intro e w3 hp; obtain ⟨p2, b2, H, rfl, hq, hH, hb3⟩ := hp.st H2.out.old; have Hq := Lib.hid hq; have H3 := Lib.hid (H2.out.below hb3); have HHn := Lib.hid hH; have hb4 := hb2.trans (hb3.mono hb2.size); clear hq hH hp)
    | (go_at_call 18; refine (HFt.out _ _ _ _ H3.out Hq.out).mono ?_; rintro e w4 ⟨rfl, hb5⟩; have hb6 := hb4.trans (hb5.mono hb4.size)))
  go_ret2
  exact ⟨p2, b2, H, rfl, Hq.out.below hb5, fun k hk => Nat.le_trans hb2.size (HHn.out k hk), hb6⟩
end
end Go.Proofs.YthdilellcaebfaaGreatDoor
