/- What is closed in ShadowKnown: the numbers; Fits of a queue that owes other things. -/
import Derived.Test.YthdilellcaebfaaGreatDoorOne
import Derived.Test.YthdilellcaebfaaGreatDoorCText
import Derived.Test.YthdilellcaebfaaGreatDoorSh
import Derived.Lib.SlBytesRow
import Derived.Test.YthdilellcaebfaaGreatDoorShadow
namespace Go.Proofs.YthdilellcaebfaaGreatDoor
open Go.RowKit
set_option linter.unusedVariables false
set_option linter.unusedSimpArgs false

def kF : Fm := ⟨3, [⟨1, 2, 0⟩, ⟨3, 1, -5⟩]⟩
def kG : Fm := ⟨-1, [⟨1, 3, 0⟩]⟩
def kO : Fm := ⟨-1, [⟨9, 4, 0⟩]⟩
theorem kF_good : goodC 2 kF = true := by decide +kernel
theorem kG_good : goodC 2 kG = true := by decide +kernel
theorem kO_good : goodC 1 kO = true := by decide +kernel
theorem kF_gf : goodF kF = true := by decide +kernel
theorem kG_gf : goodF kG = true := by decide +kernel
theorem kO_gf : goodF kO = true := by decide +kernel
theorem kF_len : (putB 2 kF).length = 39 := by decide +kernel
theorem kG_len : (putB 2 kG).length = 26 := by decide +kernel
theorem kO_len : (oneB 1 kO.l).length = 12 := by decide +kernel
theorem kF_drop : (readE ((putB 2 kF).drop 1)).2.2 = 9 := by decide +kernel
theorem kO_read : readE (oneB 1 kO.l) = (1, kO, 0) := by decide +kernel
theorem k_faults : faultsM kG.cur kG.l kF.cur kF.l = [⟨10, 1⟩, ⟨8, 3⟩, ⟨12, -1⟩] := by decide +kernel
theorem k_text : ftsTo 0 [⟨10, 1⟩, ⟨8, 3⟩, ⟨12, -1⟩] = [49, 48, 64, 49, 32, 56, 64, 51, 32, 49, 50, 64, 45, 49] := by decide +kernel
theorem kO_text : textTo (-1) kO.l = [45, 49, 58, 32, 57, 47, 52, 47, 48] := by decide +kernel
theorem kO_byte : ∀ x ∈ oneB 1 kO.l, Byte x := by
  have h : (oneB 1 kO.l).all (fun x => decide (0 ≤ x ∧ x ≤ 255)) = true := by decide +kernel
  intro x hx
  have := List.all_eq_true.1 h x hx
  simpa [Byte] using this

section
variable {w0 w : World} {F : Nat → Prop} {c p b r : Nat} {s : CoreS} {K : Int}
set_option maxHeartbeats 1600000 in
set_option maxRecDepth 100000 in
theorem ShFitsAny {H : Nat → Prop} {p2 b2 : Nat} {tag2 : Int} {S2 : Ln} {K2 : Int} (h : CSt w0 w F c p b r s) (hq : PSt w0 w H p2 b2 tag2 S2) (ht : TagOk s.tag) (ht2 : TagOk tag2) (hk : OkS K s.q) (hk2 : OkS K2 S2) {f f2 : Fm} (hf : formR s.q = f) (hf2 : formR S2 = f2) (hg : goodF f = true) (hg2 : goodF f2 = true) :
    Calls Tryz.prog 18 #[.pointer (some ⟨c, 0, none⟩), .pointer (some ⟨p2, 0, none⟩)] w fun e w' => ∃ fa fc, e = .returned (.slice fa (faultsM f2.cur f2.l f.cur f.l).length fc) ∧ Sl Ft.enc 2 w' fa (faultsM f2.cur f2.l f.cur f.l) ∧ Below w.heap.size w w' := by
  obtain ⟨FN2, hmf2, hef2, HQb⟩ := ifForm tag2 ht2 b2
  obtain ⟨q0, q1, z0, z1, qlt⟩ := blk2 hq.cell
  have HQ := Lib.hid (HQb.out hq.q hk2)
  have HF := Lib.hid (fun W (hW : Below w.heap.size w W) => CorForm (h.below hW) ht hk)
  have e1 : s.q.cur = f.cur := by rw [← hf]; rfl
  have e2 : s.q.l.map (itOf s.q.base) = f.l := by rw [← hf]; rfl
  have e3 : S2.cur = f2.cur := by rw [← hf2]; rfl
  have e4 : S2.l.map (itOf S2.base) = f2.l := by rw [← hf2]; rfl
  rw [e1, e2] at HF
  rw [e3, e4] at HQ
  have HC := Lib.hid (fun W A C A2 C2 (hs : Sl It.enc 3 W A f2.l) (hs2 : Sl It.enc 3 W A2 f.l) => FaultsAny f2.cur f.cur f2.l f.l f2.l.length f.l.length A A2 C C2 W rfl rfl (goodF_P hg).1 hs hs2 (goodF_P hg2))
  generalize faultsM f2.cur f2.l f.cur f.l = L at *
  clear h hq ht ht2 hk hk2 hf hf2 hg hg2 e1 e2 e3 e4 HQb
  go_enter Tryz.func18, Tryz.ntmps18
  go_wp2_with (first
    | (go_at_fn FN2; refine HQ.out.mono ?_; rintro e w1 ⟨a1, c1, rfl, ho1, hb1⟩; have Hs1 := Lib.hid (Sl.of_own It.len ho1); clear ho1)
    | (go_at_call 29; refine (HF.out _ hb1).mono ?_; rintro e w2 ⟨a2, c2, rfl, ho2, hb2⟩; have Hs2 := Lib.hid (Sl.of_own It.len ho2); have Hs1 := Lib.hid (Hs1.out.below hb2); have hb3 := hb1.trans (hb2.mono hb1.size); clear ho2)
    | (go_at_call 39; refine (HC.out _ _ _ _ _ Hs1.out Hs2.out).mono ?_; rintro e w4 ⟨fa, fc, rfl, hs4, hb4⟩; have Hs4 := Lib.hid hs4; clear hs4))
  go_ret
  exact ⟨fa, fc, rfl, Hs4.out, hb3.trans (hb4.mono hb3.size)⟩
end
end Go.Proofs.YthdilellcaebfaaGreatDoor
/- ShadowKnown: its walk. -/
namespace Go.Proofs.YthdilellcaebfaaGreatDoor
open Go.RowKit
set_option linter.unusedVariables false
set_option linter.unusedSimpArgs false

/-! ### a base that may not be -/
set_option maxHeartbeats 1600000 in
set_option maxRecDepth 100000 in
theorem Make_base (l : List Int) (tag base : Int) (n : Nat) (a : Option Addr) (c : Nat) (w : World) (hn : l.length = n) (hl : n ≤ 1000000) (hc : n ≤ c) (hB : ∀ x ∈ l, Byte x) (hs : Sl encU 1 w a l) (ht : TagOk tag) (hb : ¬ BaseOk base) (h0 : (readE l).2.2 = 0) :
    Calls Tryz.prog 13 #[.slice a n c, .int .i64 tag, .int .i64 base] w fun e w' => e = .returned (.tuple #[.pointer none, .int .i64 1]) ∧ Below w.heap.size w w' := by
  have HG := Lib.hid (fun W => PolGood tag W (r := true) (by rw [decide_eq_true_iff]; unfold TagOk at ht; omega))
  have HR := Lib.hid (ElderRead l n a c w hn hl hc hB hs (R := readE l) rfl)
  have hgood := readE_good h0
  generalize readE l = R at *
  obtain ⟨r1, r2, r3⟩ := R
  simp only at h0 hgood
  subst h0
  unfold goodC at hgood
  rw [Bool.and_eq_true] at hgood
  have hf64 : r2.l.length ≤ 64 := (goodF_P hgood.2).1
  have HP := Lib.hid (fun W A C (h : Sl It.enc 3 W A r2.l) => PolSeed_err tag r2 r2.l.length A C base W rfl (by omega) h (fun h2 => hb h2.2.1))
  clear ht hs hB hn hgood hb hf64
  go_enter Tryz.func13, Tryz.ntmps13
  go_wp2_with (first
    | (go_at_call 33; refine (HG.out _).mono ?_; rintro e w1 ⟨rfl, rfl⟩)
    | (go_at_call 34; refine HR.out.mono ?_; rintro e w2 ⟨fa, fc, rfl, ho2, hb2⟩; have Hs2 := Lib.hid ((Sl.of_own It.len ho2).below ((Below.refl _ _).alloc (Nat.le_refl _) (.cells #[.int .i64 r2.cur, .slice fa r2.l.length fc] 37))); have hb3 := hb2.alloc hb2.size (.cells #[.int .i64 r2.cur, .slice fa r2.l.length fc] 37); clear ho2)
    | (go_at_call 35; refine (HP.out _ _ _ Hs2.out).mono ?_; rintro e w4 ⟨rfl, hb4⟩))
  go_ret2
  exact ⟨rfl, hb3.trans (hb4.mono hb3.size)⟩
set_option maxHeartbeats 800000 in
theorem Fill_ok (tag : Int) (f : Fm) (n : Nat) (a : Option Addr) (c : Nat) (w : World) (hn : f.l.length = n) (hs : Sl It.enc 3 w a f.l) (ht : TagOk tag) (hg : goodF f = true) :
    Calls Tryz.prog 10 #[.int .i64 tag, .agg #[.int .i64 f.cur, .slice a n c]] w fun e w' => ∃ cc p b r F, e = .returned (.pointer (some ⟨cc, 0, none⟩)) ∧ CSt w w' F cc p b r ⟨tag, seedR f 0, fun _ => 0, 0, 0, 0⟩ := by
  have hb0 := (Below.refl w.heap.size w).alloc (Nat.le_refl _) (.cells #[.int .i64 f.cur, .slice a n c] 37)
  have HS := Lib.hid (CorSeed_ok tag f n a c 0 _ hn (hs.below hb0) ht (by decide) hg)
  clear hs ht hg hn
  go_enter Tryz.func10, Tryz.ntmps10
  go_wp2_with (go_at_call 27; refine HS.out.mono ?_; intro e w1 hp; obtain ⟨cc, p, b, r, F, rfl, hc, _, _⟩ := hp.st hb0; have Hc := Lib.hid hc; clear hc hp)
  go_ret
  exact ⟨cc, p, b, r, F, rfl, Hc.out⟩
theorem str_of (W : World) (a : Option Addr) (n c : Nat) (l : List Int) (hn : l.length = n) (h0 : 0 < n) (hs : Sl encU 1 W a l) :
    (convert 40 9 (.slice a n c)).run Tryz.prog W = .ok (.string (strOfNums l)) W := by
  obtain ⟨r, off, rfl, hr, hc⟩ := hs (by intro h; rw [h] at hn; simp at hn; omega)
  refine run_convert_bytes_arg W 40 5 Tryz.underlying40 Tryz.underlying5 r off n c l hn (fun i hi => ?_) 9 Tryz.underlying9
  have := hc i (l.getD i 0) (by rw [List.getD_eq_getElem?_getD, List.getElem?_eq_getElem (by omega)]; rfl) 0 _ rfl
  simpa using this

def kS : CoreS := ⟨2, seedR kF 0, fun _ => 0, 0, 0, 0⟩
theorem own_some {w : World} {B n c : Nat} {a : Option Addr} {l : List Int} (h : w.ownsRow B 5 1 (.slice a n c) n (flat encU l)) (h0 : 0 < n) : ∃ g, a = some ⟨g, 0, none⟩ ∧ n ≤ c ∧ Sl encU 1 w a l := by
  obtain ⟨g, cap, h1, _, _⟩ := h.form h0
  cases h1
  exact ⟨g, rfl, own_cap h, own_sl h⟩
/-- A call that makes bytes. -/
def BytesPost (n : Nat) (l : List Int) (w : World) (e : Ending) (w' : World) : Prop := ∃ g c', e = .returned (.tuple #[.slice (some ⟨g, 0, none⟩) n c', .int .i64 0]) ∧ n ≤ c' ∧ Sl encU 1 w' (some ⟨g, 0, none⟩) l ∧ Below w.heap.size w w'
theorem bytes_post {n : Nat} {l : List Int} {w : World} (hn : l.length = n) (h0 : 0 < n) {e : Ending} {w' : World} (h : ∃ a' c', e = .returned (.tuple #[.slice a' l.length c', .int .i64 0]) ∧ w'.ownsRow w.heap.size 5 1 (.slice a' l.length c') l.length (flat encU l) ∧ Below w.heap.size w w') : BytesPost n l w e w' := by
  subst hn
  obtain ⟨a', c', rfl, ho, hb⟩ := h
  obtain ⟨g, rfl, hc, hs⟩ := own_some ho h0
  exact ⟨g, c', rfl, hc, hs, hb⟩
section
variable {w0 w : World} {F : Nat → Prop} {c p b r : Nat}
theorem kWrite (h : CSt w0 w F c p b r kS) : Calls Tryz.prog 11 #[.pointer (some ⟨c, 0, none⟩)] w (BytesPost 39 (putB 2 kF) w) :=
  (ShWrite h (by decide) (OkS.seed (by decide) (by decide) kF_gf) (form_seed kF 0) kF_gf).mono fun _ _ h => bytes_post kF_len (by omega) h
theorem kFits1 {H : Nat → Prop} {p2 b2 : Nat} (h : CSt w0 w F c p b r kS) (hq : PSt w0 w H p2 b2 0 (seedR kF 77)) : Calls Tryz.prog 18 #[.pointer (some ⟨c, 0, none⟩), .pointer (some ⟨p2, 0, none⟩)] w fun e w' => e = .returned (.slice none 0 0) ∧ Below w.heap.size w w' :=
  ShFits h hq (by decide) (by decide) (OkS.seed (by decide) (by decide) kF_gf) (OkS.seed (by decide) (by decide) kF_gf) (form_seed kF 0) (form_seed kF 77) kF_gf
theorem kFits2 {H : Nat → Prop} {p2 b2 : Nat} (h : CSt w0 w F c p b r kS) (hq : PSt w0 w H p2 b2 0 (seedR kG 0)) : Calls Tryz.prog 18 #[.pointer (some ⟨c, 0, none⟩), .pointer (some ⟨p2, 0, none⟩)] w fun e w' => ∃ fa fc, e = .returned (.slice fa 3 fc) ∧ Sl Ft.enc 2 w' fa [⟨10, 1⟩, ⟨8, 3⟩, ⟨12, -1⟩] ∧ Below w.heap.size w w' := by
  have := ShFitsAny h hq (by decide) (by decide) (OkS.seed (by decide) (by decide) kF_gf) (OkS.seed (by decide) (by decide) kG_gf) (form_seed kF 0) (form_seed kG 0) kF_gf kG_gf
  rw [k_faults] at this
  exact this
end
theorem kPut (W : World) (a : Option Addr) (c : Nat) (hs : Sl It.enc 3 W a kF.l) : Calls Tryz.prog 12 #[.int .i64 2, .agg #[.int .i64 3, .slice a 2 c]] W (BytesPost 39 (putB 2 kF) W) :=
  (CodePut_ok 2 3 kF.l 2 a c W rfl hs kF_good).mono fun _ _ h => bytes_post kF_len (by omega) h
theorem kPutG (W : World) (a : Option Addr) (c : Nat) (hs : Sl It.enc 3 W a kG.l) : Calls Tryz.prog 12 #[.int .i64 2, .agg #[.int .i64 (-1), .slice a 1 c]] W (BytesPost 26 (putB 2 kG) W) :=
  (CodePut_ok 2 (-1) kG.l 1 a c W rfl hs kG_good).mono fun _ _ h => bytes_post kG_len (by omega) h
theorem kOne (W : World) (a : Option Addr) (c : Nat) (hs : Sl It.enc 3 W a kO.l) : Calls Tryz.prog 14 #[.int .i64 1, .agg #[.int .i64 (-1), .slice a 1 c]] W (BytesPost 12 (oneB 1 kO.l) W) :=
  (One_ok 1 kO.l 1 a c W rfl hs kO_good (by intro x hx; simp only [kO, List.mem_cons, List.not_mem_nil, or_false] at hx; subst hx; exact ⟨by decide, rfl⟩)).mono fun _ _ h => bytes_post kO_len (by omega) h
theorem kMakeQ (W : World) (g c : Nat) (hc : 39 ≤ c) (hs : Sl encU 1 W (some ⟨g, 0, none⟩) (putB 2 kF)) : Calls Tryz.prog 13 #[.slice (some ⟨g, 0, none⟩) 39 c, .int .i64 0, .int .i64 77] W (PolPost W 0 (seedR kF 77)) :=
  Make_ok (putB 2 kF) 0 77 39 _ c W kF_len (by omega) hc (putB_byte kF_good) hs (by decide) (by decide) (by rw [readE_put kF_good]) (by rw [readE_put kF_good])
theorem kMakeT (W : World) (g c : Nat) : Calls Tryz.prog 13 #[.slice (some ⟨g, 0, none⟩) 39 c, .int .i64 3, .int .i64 77] W fun e w' => e = .returned (.tuple #[.pointer none, .int .i64 1]) ∧ Below W.heap.size W w' :=
  Make_tag 3 77 39 _ c W (by decide)
theorem kMakeE (W : World) (g c : Nat) (hc : 39 ≤ c) (hs : Sl encU 1 W (some ⟨g, 0, none⟩) (putB 2 kF)) : Calls Tryz.prog 13 #[.slice (some ⟨g, 1, none⟩) 38 (c - 1), .int .i64 0, .int .i64 77] W fun e w' => e = .returned (.tuple #[.pointer none, .int .i64 9]) ∧ Below W.heap.size W w' :=
  Make_err ((putB 2 kF).drop 1) 0 77 38 _ (c - 1) W (by rw [List.length_drop, kF_len]) (by omega) (by omega) (fun x hx => putB_byte kF_good x (List.mem_of_mem_drop hx)) (hs.dropV 1) (by decide) kF_drop (by decide)
theorem kMakeB (W : World) (g c : Nat) (hc : 39 ≤ c) (hs : Sl encU 1 W (some ⟨g, 0, none⟩) (putB 2 kF)) : Calls Tryz.prog 13 #[.slice (some ⟨g, 0, none⟩) 39 c, .int .i64 0, .int .i64 2305843009213693952] W fun e w' => e = .returned (.tuple #[.pointer none, .int .i64 1]) ∧ Below W.heap.size W w' :=
  Make_base (putB 2 kF) 0 2305843009213693952 39 _ c W kF_len (by omega) hc (putB_byte kF_good) hs (by decide) (by decide) (by rw [readE_put kF_good])
theorem kMakeO (W : World) (g c : Nat) (hc : 26 ≤ c) (hs : Sl encU 1 W (some ⟨g, 0, none⟩) (putB 2 kG)) : Calls Tryz.prog 13 #[.slice (some ⟨g, 0, none⟩) 26 c, .int .i64 0, .int .i64 0] W (PolPost W 0 (seedR kG 0)) :=
  Make_ok (putB 2 kG) 0 0 26 _ c W kG_len (by omega) hc (putB_byte kG_good) hs (by decide) (by decide) (by rw [readE_put kG_good]) (by rw [readE_put kG_good])
theorem kMakeP (W : World) (g c : Nat) (hc : 12 ≤ c) (hs : Sl encU 1 W (some ⟨g, 0, none⟩) (oneB 1 kO.l)) : Calls Tryz.prog 13 #[.slice (some ⟨g, 0, none⟩) 12 c, .int .i64 2, .int .i64 0] W (PolPost W 2 (seedR kO 0)) :=
  Make_ok (oneB 1 kO.l) 2 0 12 _ c W kO_len (by omega) hc kO_byte hs (by decide) (by decide) (by rw [kO_read]) (by rw [kO_read])
theorem kText (W : World) (a : Option Addr) (c : Nat) (hs : Sl Ft.enc 2 W a [⟨10, 1⟩, ⟨8, 3⟩, ⟨12, -1⟩]) (ht : Tab W) : Calls Tryz.prog 19 #[.slice a 3 c] W fun e w' => e = .returned (.string ⟨([49, 48, 64, 49, 32, 56, 64, 51, 32, 49, 50, 64, 45, 49] : List UInt8).toArray⟩) ∧ Below W.heap.size W w' := by
  have := ChkText [⟨10, 1⟩, ⟨8, 3⟩, ⟨12, -1⟩] 3 a c W rfl (by omega) (by omega) hs (by intro x hx; simp only [List.mem_cons, List.not_mem_nil, or_false] at hx; rcases hx with rfl | rfl | rfl <;> exact ⟨by decide, by decide⟩) ht
  rw [k_text] at this
  exact this
theorem kTextO (W : World) (a : Option Addr) (c : Nat) (hs : Sl It.enc 3 W a kO.l) (ht : Tab W) : Calls Tryz.prog 20 #[.agg #[.int .i64 (-1), .slice a 1 c]] W fun e w' => e = .returned (.string ⟨([45, 49, 58, 32, 57, 47, 52, 47, 48] : List UInt8).toArray⟩) ∧ Below W.heap.size W w' := by
  have := Text_any (-1) kO.l 1 a c W rfl (by omega) hs (by decide) (by intro x hx; simp only [kO, List.mem_cons, List.not_mem_nil, or_false] at hx; subst hx; unfold It64; decide) ht
  rw [kO_text] at this
  exact this
/-- Items as they are written out. -/
theorem lit_sl (W : World) (cs : Array Value) (l : List It) (h : cs.toList = flat It.enc l) (hn : cs.size = l.length * 3) (h0 : 0 < l.length) (hm : l.length ≤ 100) : Sl It.enc 3 (W.alloc (.cells cs 34)) (some ⟨W.heap.size, 0, none⟩) l :=
  Sl.of_own (B := W.heap.size) (e := 34) (n := l.length) (c := l.length) It.len ⟨by rw [← h]; simp [hn], .inr ⟨W.heap.size, l.length, cs, rfl, Nat.le_refl _, heap_new _ _, Nat.le_refl _, by unfold maxLen; omega, hn, by rw [← h]; simp [← hn, List.take_of_length_le]⟩⟩

set_option maxHeartbeats 6400000 in
set_option maxRecDepth 100000 in
theorem ShadowKnown_walk (w : World) (ht : Tab w) : Calls Tryz.prog 4 #[] w fun e w' => e = .returned (.bool true) ∧ Below w.heap.size w w' := by
  have Ht := Lib.hid ht
  have kFi := Lib.hid (fun W a c (hs : Sl It.enc 3 W a kF.l) => (Fill_ok 2 kF 2 a c W rfl hs (by decide) kF_gf : Calls Tryz.prog 10 #[.int .i64 2, .agg #[.int .i64 3, .slice a 2 c]] W fun e w' => ∃ cc p b r F, e = .returned (.pointer (some ⟨cc, 0, none⟩)) ∧ CSt W w' F cc p b r kS))
  clear ht
  go_enter Tryz.func4, Tryz.ntmps4
  go_wp2_with (first
    | (go_at_call 9; refine (awake21 _).mono ?_; rintro e w1 ⟨rfl, hb1⟩
       have hS1 := lit_sl w1 #[.int .i64 1, .int .i64 2, .int .i64 0, .int .i64 3, .int .i64 1, .int .i64 (-5)] kF.l rfl rfl (by decide) (by decide)
       have hbA := (hb1.alloc hb1.size (.cells #[.int .i64 1, .int .i64 2, .int .i64 0, .int .i64 3, .int .i64 1, .int .i64 (-5)] 34))
       have hbB := hbA.alloc hbA.size (.cells #[.int .i64 3, .slice (some ⟨w1.heap.size, 0, none⟩) 2 2] 37)
       have HS := Lib.hid (hS1.below ((Below.refl _ _).alloc (Nat.le_refl _) (.cells #[.int .i64 3, .slice (some ⟨w1.heap.size, 0, none⟩) 2 2] 37)))
       have HX := Lib.hid (heap_at (w := w1.alloc (.cells #[.int .i64 1, .int .i64 2, .int .i64 0, .int .i64 3, .int .i64 1, .int .i64 (-5)] 34)) (n := w1.heap.size + 1) (by simp) (.cells #[.int .i64 3, .slice (some ⟨w1.heap.size, 0, none⟩) 2 2] 37))
       clear hS1 hbA)
    | (go_at_call 10; refine (kFi.out _ _ _ HS.out).mono ?_; rintro e w2 ⟨cc, p, b, r, F, rfl, hc⟩; have HC := Lib.hid hc; have hb2 := hc.old
       have HX := Lib.hid (heap_below HX.out hb2)
       obtain ⟨x0, x1, y0, y1, xl⟩ := blk2 HX.out
       have HS := Lib.hid (HS.out.below hb2)
       have hbn := hbB.trans (hb2.mono hbB.size)
       clear hc hb2)
    | (go_at_call 11; refine (kWrite HC.out).mono ?_; rintro e w3 ⟨gb, cb, rfl, hcb, hs3, hb3⟩; have Kb := Lib.hid hs3; have hcb1 : ¬ cb = 1 := (by omega); clear hs3
       have HX := Lib.hid (heap_below HX.out hb3)
       obtain ⟨x0, x1, y0, y1, xl⟩ := blk2 HX.out
       have HS := Lib.hid (HS.out.below hb3)
       have HC := Lib.hid (HC.out.below hb3)
       try (have Kb := Lib.hid (Kb.out.below hb3))
       try (have Kw := Lib.hid (Kw.out.below hb3))
       try (have Kq := Lib.hid (Kq.out.below hb3); obtain ⟨q0, q1, z0, z1, ql⟩ := blk2 Kq.out.cell)
       try (have Ko := Lib.hid (Ko.out.below hb3))
       try (have Kp := Lib.hid (Kp.out.below hb3); obtain ⟨q2, q3, z2, z3, ql2⟩ := blk2 Kp.out.cell)
       have hbn := hbn.trans (hb3.mono hbn.size)
       )
    | (go_at_call 12; first
      | ((with_reducible refine (kPutG _ _ _ (lit_sl w8 #[.int .i64 1, .int .i64 3, .int .i64 0] kG.l rfl rfl (by decide) (by decide))).mono ?_); rintro e w9 ⟨go, co, rfl, hco, hs9, hb9⟩; have Kg := Lib.hid hs9; clear hs9; have hb9 := (((Below.refl w8.heap.size w8).alloc (Nat.le_refl _) (.cells #[.int .i64 1, .int .i64 3, .int .i64 0] 34)).trans (hb9.mono (by simp)))
         have HX := Lib.hid (heap_below HX.out hb9)
         obtain ⟨x0, x1, y0, y1, xl⟩ := blk2 HX.out
         have HS := Lib.hid (HS.out.below hb9)
         have HC := Lib.hid (HC.out.below hb9)
         try (have Kb := Lib.hid (Kb.out.below hb9))
         try (have Kw := Lib.hid (Kw.out.below hb9))
         try (have Kq := Lib.hid (Kq.out.below hb9); obtain ⟨q0, q1, z0, z1, ql⟩ := blk2 Kq.out.cell)
         try (have Ko := Lib.hid (Ko.out.below hb9))
         try (have Kp := Lib.hid (Kp.out.below hb9); obtain ⟨q2, q3, z2, z3, ql2⟩ := blk2 Kp.out.cell)
         have hbn := hbn.trans (hb9.mono hbn.size)
         )
      | ((with_reducible refine (kPut _ _ _ HS.out).mono ?_); rintro e w4 ⟨gw, cw, rfl, hcw, hs4, hb4⟩; have Kw := Lib.hid hs4; clear hs4
         have HX := Lib.hid (heap_below HX.out hb4)
         obtain ⟨x0, x1, y0, y1, xl⟩ := blk2 HX.out
         have HS := Lib.hid (HS.out.below hb4)
         have HC := Lib.hid (HC.out.below hb4)
         try (have Kb := Lib.hid (Kb.out.below hb4))
         try (have Kw := Lib.hid (Kw.out.below hb4))
         try (have Kq := Lib.hid (Kq.out.below hb4); obtain ⟨q0, q1, z0, z1, ql⟩ := blk2 Kq.out.cell)
         try (have Ko := Lib.hid (Ko.out.below hb4))
         try (have Kp := Lib.hid (Kp.out.below hb4); obtain ⟨q2, q3, z2, z3, ql2⟩ := blk2 Kp.out.cell)
         have hbn := hbn.trans (hb4.mono hbn.size)
         ))
    | (go_at_call 13; first
      | ((with_reducible refine (kMakeQ _ _ _ hcb Kb.out).mono ?_); intro e w5 hp; obtain ⟨pq, bq, Fq, rfl, hq, -, hb5⟩ := hp.st HC.out.old; clear hp
         have HX := Lib.hid (heap_below HX.out hb5)
         obtain ⟨x0, x1, y0, y1, xl⟩ := blk2 HX.out
         have HS := Lib.hid (HS.out.below hb5)
         have HC := Lib.hid (HC.out.below hb5)
         try (have Kb := Lib.hid (Kb.out.below hb5))
         try (have Kw := Lib.hid (Kw.out.below hb5))
         try (have Kq := Lib.hid (Kq.out.below hb5); obtain ⟨q0, q1, z0, z1, ql⟩ := blk2 Kq.out.cell)
         try (have Ko := Lib.hid (Ko.out.below hb5))
         try (have Kp := Lib.hid (Kp.out.below hb5); obtain ⟨q2, q3, z2, z3, ql2⟩ := blk2 Kp.out.cell)
         have hbn := hbn.trans (hb5.mono hbn.size)
         have Kq := Lib.hid hq; obtain ⟨q0, q1, z0, z1, ql⟩ := blk2 Kq.out.cell; clear hq)
      | ((with_reducible refine (kMakeT _ _ _).mono ?_); rintro e w6 ⟨rfl, hb6⟩
         have HX := Lib.hid (heap_below HX.out hb6)
         obtain ⟨x0, x1, y0, y1, xl⟩ := blk2 HX.out
         have HS := Lib.hid (HS.out.below hb6)
         have HC := Lib.hid (HC.out.below hb6)
         try (have Kb := Lib.hid (Kb.out.below hb6))
         try (have Kw := Lib.hid (Kw.out.below hb6))
         try (have Kq := Lib.hid (Kq.out.below hb6); obtain ⟨q0, q1, z0, z1, ql⟩ := blk2 Kq.out.cell)
         try (have Ko := Lib.hid (Ko.out.below hb6))
         try (have Kp := Lib.hid (Kp.out.below hb6); obtain ⟨q2, q3, z2, z3, ql2⟩ := blk2 Kp.out.cell)
         have hbn := hbn.trans (hb6.mono hbn.size)
         )
      | ((with_reducible refine (kMakeE _ _ _ hcb Kb.out).mono ?_); rintro e w7 ⟨rfl, hb7⟩
         have HX := Lib.hid (heap_below HX.out hb7)
         obtain ⟨x0, x1, y0, y1, xl⟩ := blk2 HX.out
         have HS := Lib.hid (HS.out.below hb7)
         have HC := Lib.hid (HC.out.below hb7)
         try (have Kb := Lib.hid (Kb.out.below hb7))
         try (have Kw := Lib.hid (Kw.out.below hb7))
         try (have Kq := Lib.hid (Kq.out.below hb7); obtain ⟨q0, q1, z0, z1, ql⟩ := blk2 Kq.out.cell)
         try (have Ko := Lib.hid (Ko.out.below hb7))
         try (have Kp := Lib.hid (Kp.out.below hb7); obtain ⟨q2, q3, z2, z3, ql2⟩ := blk2 Kp.out.cell)
         have hbn := hbn.trans (hb7.mono hbn.size)
         )
      | ((with_reducible refine (kMakeB _ _ _ hcb Kb.out).mono ?_); rintro e w8 ⟨rfl, hb8⟩
         have HX := Lib.hid (heap_below HX.out hb8)
         obtain ⟨x0, x1, y0, y1, xl⟩ := blk2 HX.out
         have HS := Lib.hid (HS.out.below hb8)
         have HC := Lib.hid (HC.out.below hb8)
         try (have Kb := Lib.hid (Kb.out.below hb8))
         try (have Kw := Lib.hid (Kw.out.below hb8))
         try (have Kq := Lib.hid (Kq.out.below hb8); obtain ⟨q0, q1, z0, z1, ql⟩ := blk2 Kq.out.cell)
         try (have Ko := Lib.hid (Ko.out.below hb8))
         try (have Kp := Lib.hid (Kp.out.below hb8); obtain ⟨q2, q3, z2, z3, ql2⟩ := blk2 Kp.out.cell)
         have hbn := hbn.trans (hb8.mono hbn.size)
         )
      | ((with_reducible refine (kMakeO _ _ _ hco Kg.out).mono ?_); intro e w10 hp; obtain ⟨po, bo, Fo, rfl, hq, -, hb10⟩ := hp.st HC.out.old; clear hp
         have HX := Lib.hid (heap_below HX.out hb10)
         obtain ⟨x0, x1, y0, y1, xl⟩ := blk2 HX.out
         have HS := Lib.hid (HS.out.below hb10)
         have HC := Lib.hid (HC.out.below hb10)
         try (have Kb := Lib.hid (Kb.out.below hb10))
         try (have Kw := Lib.hid (Kw.out.below hb10))
         try (have Kq := Lib.hid (Kq.out.below hb10); obtain ⟨q0, q1, z0, z1, ql⟩ := blk2 Kq.out.cell)
         try (have Ko := Lib.hid (Ko.out.below hb10))
         try (have Kp := Lib.hid (Kp.out.below hb10); obtain ⟨q2, q3, z2, z3, ql2⟩ := blk2 Kp.out.cell)
         have hbn := hbn.trans (hb10.mono hbn.size)
         have Ko := Lib.hid hq; clear hq)
      | ((with_reducible refine (kMakeP _ _ _ hcp Kn.out).mono ?_); intro e w12 hp; obtain ⟨pp, bp, Fp, rfl, hq, -, hb12⟩ := hp.st HC.out.old; clear hp
         have HX := Lib.hid (heap_below HX.out hb12)
         obtain ⟨x0, x1, y0, y1, xl⟩ := blk2 HX.out
         have HS := Lib.hid (HS.out.below hb12)
         have HC := Lib.hid (HC.out.below hb12)
         try (have Kb := Lib.hid (Kb.out.below hb12))
         try (have Kw := Lib.hid (Kw.out.below hb12))
         try (have Kq := Lib.hid (Kq.out.below hb12); obtain ⟨q0, q1, z0, z1, ql⟩ := blk2 Kq.out.cell)
         try (have Ko := Lib.hid (Ko.out.below hb12))
         try (have Kp := Lib.hid (Kp.out.below hb12); obtain ⟨q2, q3, z2, z3, ql2⟩ := blk2 Kp.out.cell)
         have hbn := hbn.trans (hb12.mono hbn.size)
         have Kp := Lib.hid hq; obtain ⟨q2, q3, z2, z3, ql2⟩ := blk2 Kp.out.cell; clear hq))
    | (go_at_call 14; first
      | ((with_reducible refine (kOne _ _ _ (lit_sl w10 #[.int .i64 9, .int .i64 4, .int .i64 0] kO.l rfl rfl (by decide) (by decide))).mono ?_); rintro e w11 ⟨gp, cp, rfl, hcp, hs11, hb11⟩; have Kn := Lib.hid hs11; clear hs11; have hb11 := (((Below.refl w10.heap.size w10).alloc (Nat.le_refl _) (.cells #[.int .i64 9, .int .i64 4, .int .i64 0] 34)).trans (hb11.mono (by simp)))
         have HX := Lib.hid (heap_below HX.out hb11)
         obtain ⟨x0, x1, y0, y1, xl⟩ := blk2 HX.out
         have HS := Lib.hid (HS.out.below hb11)
         have HC := Lib.hid (HC.out.below hb11)
         try (have Kb := Lib.hid (Kb.out.below hb11))
         try (have Kw := Lib.hid (Kw.out.below hb11))
         try (have Kq := Lib.hid (Kq.out.below hb11); obtain ⟨q0, q1, z0, z1, ql⟩ := blk2 Kq.out.cell)
         try (have Ko := Lib.hid (Ko.out.below hb11))
         try (have Kp := Lib.hid (Kp.out.below hb11); obtain ⟨q2, q3, z2, z3, ql2⟩ := blk2 Kp.out.cell)
         have hbn := hbn.trans (hb11.mono hbn.size)
         ))
    | (go_at_call 15; refine (Turn_tag 5 0 _ _ (by decide)).mono ?_; rintro e w13 ⟨rfl, hb13⟩
       have HX := Lib.hid (heap_below HX.out hb13)
       obtain ⟨x0, x1, y0, y1, xl⟩ := blk2 HX.out
       have HS := Lib.hid (HS.out.below hb13)
       have HC := Lib.hid (HC.out.below hb13)
       try (have Kb := Lib.hid (Kb.out.below hb13))
       try (have Kw := Lib.hid (Kw.out.below hb13))
       try (have Kq := Lib.hid (Kq.out.below hb13); obtain ⟨q0, q1, z0, z1, ql⟩ := blk2 Kq.out.cell)
       try (have Ko := Lib.hid (Ko.out.below hb13))
       try (have Kp := Lib.hid (Kp.out.below hb13); obtain ⟨q2, q3, z2, z3, ql2⟩ := blk2 Kp.out.cell)
       have hbn := hbn.trans (hb13.mono hbn.size)
       )
    )
  have hdW := (Below.refl w13.heap.size w13).drew
  have HX := Lib.hid (heap_below HX.out hdW)
  obtain ⟨x0, x1, y0, y1, xl⟩ := blk2 HX.out
  have HS := Lib.hid (HS.out.below hdW)
  have HC := Lib.hid (HC.out.below hdW)
  try (have Kb := Lib.hid (Kb.out.below hdW))
  try (have Kw := Lib.hid (Kw.out.below hdW))
  try (have Kq := Lib.hid (Kq.out.below hdW); obtain ⟨q0, q1, z0, z1, ql⟩ := blk2 Kq.out.cell)
  try (have Ko := Lib.hid (Ko.out.below hdW))
  try (have Kp := Lib.hid (Kp.out.below hdW); obtain ⟨q2, q3, z2, z3, ql2⟩ := blk2 Kp.out.cell)
  have hbn := hbn.trans (hdW.mono hbn.size)
  have cv1 := str_of w13.drew (some ⟨gb, 0, none⟩) 39 cb (putB 2 kF) kF_len (by decide) Kb.out
  have cv2 := str_of w13.drew (some ⟨gw, 0, none⟩) 39 cw (putB 2 kF) kF_len (by decide) Kw.out
  generalize strOfNums (putB 2 kF) = sv at cv1 cv2
  obtain ⟨FN1, hmf1, hef1, HQb1⟩ := ifForm 0 (by decide) bq
  obtain ⟨FN2, hmf2, hef2, HQb2⟩ := ifForm 2 (by decide) bp
  have HQ1 := Lib.hid (fun (W : World) (h : Qm W Fq bq (seedR kF 77)) => (HQb1.out h (OkS.seed (by decide) (by decide) kF_gf) : Calls Tryz.prog FN1 #[.pointer (some ⟨bq, 0, none⟩)] W (FormPost W 3 kF.l)))
  have HQ2 := Lib.hid (fun (W : World) (h : Qm W Fp bp (seedR kO 0)) => (HQb2.out h (OkS.seed (by decide) (by decide) kO_gf) : Calls Tryz.prog FN2 #[.pointer (some ⟨bp, 0, none⟩)] W (FormPost W (-1) kO.l)))
  clear HQb1 HQb2
  refine wp_region_chain 180 [0, 1, 3, 7, 15, 7, 39, 127, 255, 511, 1023, 2047, 4095, 8191, 16383, 32767, 65535, 131071, 262143, 524287, 32767, 2097151, 4194303, 8388607, 16777215, 16777215, 67108863, 134217727, 268435455, 536870911, 1073741823, 2147483647, 4294967295, 8589934591, 17179869183, 34359738367, 68719476735, 137438953471, 274877906943, 549755813887, 1099511627775, 2199023255551, 4398046511103, 8796093022207, 8796093022207, 35184372088831, 70368744177663, 140737488355327, 281474976710655, 562949953421311, 1125899906842623, 2251799813685247, 4503599627370495, 9007199254740991, 18014398509481983, 36028797018963967, 72057594037927935, 144115188075855871, 288230376151711743, 576460752303423487, 1152921504606846975, 2305843009213693951, 4611686018427387903] [(0, none), (1, none), (2, none), (3, none), (4, none), (5, none), (6, none), (7, none), (8, none), (9, none), (10, none), (11, some []), (12, none), (13, none), (14, none), (15, none), (16, none), (17, none), (18, none), (20, none), (19, some [20]), (21, some []), (22, none), (23, none), (24, none), (25, none), (26, some []), (27, none), (28, none), (29, none), (30, none), (31, none), (32, none), (33, none), (34, none), (35, none), (36, none), (37, none), (38, none), (39, none), (40, none), (41, none), (42, none), (43, none), (44, none), (45, some []), (46, some []), (47, none), (48, none), (49, none), (50, none), (51, none), (52, none), (53, none), (54, some []), (55, some []), (56, none), (57, none), (58, none), (59, none), (60, none), (61, none), (62, none)] (by kernel_rfl) (by kernel_rfl) (by rfl) ?_; simp only [chain, Obs, List.getElem?_toArray, List.getElem?_cons_zero, List.getElem?_cons_succ]
  go_wp2_with (first
    | (with_reducible refine And.intro (by first | with_reducible exact True.intro | with_reducible rfl | go_simp) ?_)
    | (go_at_call 16; refine (PolTag Kq.out.pm).mono ?_; rintro e w14 ⟨rfl, rfl⟩)
    | (go_at_fn FN1; refine (HQ1.out _ Kq.out.q).mono ?_; rintro e w15 ⟨a15, c15, rfl, ho15, hb15⟩; have Hs15 := Lib.hid (Sl.of_own It.len ho15); clear ho15
       have HX := Lib.hid (heap_below HX.out hb15)
       obtain ⟨x0, x1, y0, y1, xl⟩ := blk2 HX.out
       have HS := Lib.hid (HS.out.below hb15)
       have HC := Lib.hid (HC.out.below hb15)
       try (have Kb := Lib.hid (Kb.out.below hb15))
       try (have Kw := Lib.hid (Kw.out.below hb15))
       try (have Kq := Lib.hid (Kq.out.below hb15); obtain ⟨q0, q1, z0, z1, ql⟩ := blk2 Kq.out.cell)
       try (have Ko := Lib.hid (Ko.out.below hb15))
       try (have Kp := Lib.hid (Kp.out.below hb15); obtain ⟨q2, q3, z2, z3, ql2⟩ := blk2 Kp.out.cell)
       have hbn := hbn.trans (hb15.mono hbn.size)
       )
    | (go_at_fn FN2; refine (HQ2.out _ Kp.out.q).mono ?_; rintro e w19 ⟨a19, c19, rfl, ho19, hb19⟩; have Hs19 := Lib.hid (Sl.of_own It.len ho19); clear ho19
       have HX := Lib.hid (heap_below HX.out hb19)
       obtain ⟨x0, x1, y0, y1, xl⟩ := blk2 HX.out
       have HS := Lib.hid (HS.out.below hb19)
       have HC := Lib.hid (HC.out.below hb19)
       try (have Kb := Lib.hid (Kb.out.below hb19))
       try (have Kw := Lib.hid (Kw.out.below hb19))
       try (have Kq := Lib.hid (Kq.out.below hb19); obtain ⟨q0, q1, z0, z1, ql⟩ := blk2 Kq.out.cell)
       try (have Ko := Lib.hid (Ko.out.below hb19))
       try (have Kp := Lib.hid (Kp.out.below hb19); obtain ⟨q2, q3, z2, z3, ql2⟩ := blk2 Kp.out.cell)
       have hbn := hbn.trans (hb19.mono hbn.size)
       )
    | (go_at_call 17; refine (SameF_any 3 3 kF.l kF.l 2 2 a15 _ c15 _ _ rfl rfl (by omega) (by omega) Hs15.out HS.out (decide_eq_true rfl)).mono ?_; rintro e w16 ⟨rfl, hb16⟩
       have HX := Lib.hid (heap_below HX.out hb16)
       obtain ⟨x0, x1, y0, y1, xl⟩ := blk2 HX.out
       have HS := Lib.hid (HS.out.below hb16)
       have HC := Lib.hid (HC.out.below hb16)
       try (have Kb := Lib.hid (Kb.out.below hb16))
       try (have Kw := Lib.hid (Kw.out.below hb16))
       try (have Kq := Lib.hid (Kq.out.below hb16); obtain ⟨q0, q1, z0, z1, ql⟩ := blk2 Kq.out.cell)
       try (have Ko := Lib.hid (Ko.out.below hb16))
       try (have Kp := Lib.hid (Kp.out.below hb16); obtain ⟨q2, q3, z2, z3, ql2⟩ := blk2 Kp.out.cell)
       have hbn := hbn.trans (hb16.mono hbn.size)
       )
    | (go_at_call 18; first
      | ((with_reducible refine (kFits1 HC.out Kq.out).mono ?_); rintro e w17 ⟨rfl, hb17⟩
         have HX := Lib.hid (heap_below HX.out hb17)
         obtain ⟨x0, x1, y0, y1, xl⟩ := blk2 HX.out
         have HS := Lib.hid (HS.out.below hb17)
         have HC := Lib.hid (HC.out.below hb17)
         try (have Kb := Lib.hid (Kb.out.below hb17))
         try (have Kw := Lib.hid (Kw.out.below hb17))
         try (have Kq := Lib.hid (Kq.out.below hb17); obtain ⟨q0, q1, z0, z1, ql⟩ := blk2 Kq.out.cell)
         try (have Ko := Lib.hid (Ko.out.below hb17))
         try (have Kp := Lib.hid (Kp.out.below hb17); obtain ⟨q2, q3, z2, z3, ql2⟩ := blk2 Kp.out.cell)
         have hbn := hbn.trans (hb17.mono hbn.size)
         )
      | ((with_reducible refine (kFits2 HC.out Ko.out).mono ?_); rintro e w18 ⟨fa, fc, rfl, hs18, hb18⟩; have Hf18 := Lib.hid hs18; clear hs18
         have HX := Lib.hid (heap_below HX.out hb18)
         obtain ⟨x0, x1, y0, y1, xl⟩ := blk2 HX.out
         have HS := Lib.hid (HS.out.below hb18)
         have HC := Lib.hid (HC.out.below hb18)
         try (have Kb := Lib.hid (Kb.out.below hb18))
         try (have Kw := Lib.hid (Kw.out.below hb18))
         try (have Kq := Lib.hid (Kq.out.below hb18); obtain ⟨q0, q1, z0, z1, ql⟩ := blk2 Kq.out.cell)
         try (have Ko := Lib.hid (Ko.out.below hb18))
         try (have Kp := Lib.hid (Kp.out.below hb18); obtain ⟨q2, q3, z2, z3, ql2⟩ := blk2 Kp.out.cell)
         have hbn := hbn.trans (hb18.mono hbn.size)
         ))
    | (go_at_call 19; refine (kText _ _ _ Hf18.out (Ht.out.on hbn)).mono ?_; rintro e w20 ⟨rfl, hb20⟩
       have HX := Lib.hid (heap_below HX.out hb20)
       obtain ⟨x0, x1, y0, y1, xl⟩ := blk2 HX.out
       have HS := Lib.hid (HS.out.below hb20)
       have HC := Lib.hid (HC.out.below hb20)
       try (have Kb := Lib.hid (Kb.out.below hb20))
       try (have Kw := Lib.hid (Kw.out.below hb20))
       try (have Kq := Lib.hid (Kq.out.below hb20); obtain ⟨q0, q1, z0, z1, ql⟩ := blk2 Kq.out.cell)
       try (have Ko := Lib.hid (Ko.out.below hb20))
       try (have Kp := Lib.hid (Kp.out.below hb20); obtain ⟨q2, q3, z2, z3, ql2⟩ := blk2 Kp.out.cell)
       have hbn := hbn.trans (hb20.mono hbn.size)
       )
    | (go_at_call 20; refine (kTextO _ _ _ Hs19.out (Ht.out.on hbn)).mono ?_; rintro e w21 ⟨rfl, hb21⟩
       have HX := Lib.hid (heap_below HX.out hb21)
       obtain ⟨x0, x1, y0, y1, xl⟩ := blk2 HX.out
       have HS := Lib.hid (HS.out.below hb21)
       have HC := Lib.hid (HC.out.below hb21)
       try (have Kb := Lib.hid (Kb.out.below hb21))
       try (have Kw := Lib.hid (Kw.out.below hb21))
       try (have Kq := Lib.hid (Kq.out.below hb21); obtain ⟨q0, q1, z0, z1, ql⟩ := blk2 Kq.out.cell)
       try (have Ko := Lib.hid (Ko.out.below hb21))
       try (have Kp := Lib.hid (Kp.out.below hb21); obtain ⟨q2, q3, z2, z3, ql2⟩ := blk2 Kp.out.cell)
       have hbn := hbn.trans (hb21.mono hbn.size)
       )
    )
  refine NoPanic.normal ?_
  go_wp2_with fail
  go_ret
  exact ⟨rfl, hbn⟩
end Go.Proofs.YthdilellcaebfaaGreatDoor
