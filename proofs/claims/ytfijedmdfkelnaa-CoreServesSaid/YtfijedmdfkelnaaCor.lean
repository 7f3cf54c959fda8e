/- Package core's calls, in the plain model's words. -/
import Derived.Test.YtfijedmdfkelnaaCorM
import Derived.Test.YtfijedmdfkelnaaK
namespace Go.Proofs.Ytfijedmdfkelnaa
open Go.RowKit
set_option linter.unusedVariables false
set_option linter.unusedSimpArgs false

/-- What a call that makes a core leaves. -/
def CorPost (w : World) (tag : Int) (S : Ln) (e : Ending) (w' : World) : Prop :=
  ∃ c p b r F, e = .returned (.tuple #[.pointer (some ⟨c, 0, none⟩), .int .i64 0]) ∧ CSt w w' F c p b r ⟨tag, S, fun _ => 0, 0, 0, 0⟩ ∧ Below w.heap.size w w'
theorem CorPost.st {w0 w w' : World} {tag : Int} {S : Ln} {e : Ending} (h : CorPost w tag S e w') (hb : Below w0.heap.size w0 w) :
    ∃ c p b r F, e = .returned (.tuple #[.pointer (some ⟨c, 0, none⟩), .int .i64 0]) ∧ CSt w0 w' F c p b r ⟨tag, S, fun _ => 0, 0, 0, 0⟩ ∧ (∀ k, cfoot F c p r k → w.heap.size ≤ k) ∧ Below w.heap.size w w' := by
  obtain ⟨c, p, b, r, F, rfl, hc, hb2⟩ := h
  have hs := hb.size
  have hn := hc.new
  refine ⟨c, p, b, r, F, rfl, ⟨hc.cell, ⟨hc.pol.cell, hc.pol.q, hc.pol.apart, Nat.le_trans hs hc.pol.newp, fun k hk => Nat.le_trans hs (hc.pol.new k hk), hb.trans (hb2.mono hs)⟩, hc.map, hc.cF, hc.rF, hc.cp, hc.rp, hc.cr, Nat.le_trans hs hc.newc, Nat.le_trans hs hc.newr⟩, hn, hb2⟩
set_option maxHeartbeats 400000 in
theorem corOf_ok (p : Nat) (w : World) : Calls Try.prog 43 #[.pointer (some ⟨p, 0, none⟩), .int .i64 0] w fun e w' => e = .returned (.tuple #[.pointer (some ⟨w.heap.size + 1, 0, none⟩), .int .i64 0]) ∧
    w' = (w.alloc (.map #[] 0)).alloc (.cells #[.pointer (some ⟨p, 0, none⟩), .map (some w.heap.size), .int .i64 0, .int .i64 0] 89) := by
  have hmk : ∀ w, (Instr.makeMap 87 none).run Try.prog w = .ok (.map (some w.heap.size)) (w.alloc (.map #[] 0)) := fun w => run_makeMap _ w
  go_enter Try.func43, Try.ntmps43
  go_wp2
  go_ret2
  exact ⟨rfl, rfl⟩
set_option maxHeartbeats 400000 in
theorem corOf_nil (w : World) : Calls Try.prog 43 #[.pointer none, .int .i64 1] w fun e w' => e = .returned (.tuple #[.pointer none, .int .i64 1]) ∧ w = w' := by
  go_enter Try.func43, Try.ntmps43
  go_wp2
  go_ret2
  exact ⟨rfl, rfl⟩
theorem cor_made {w w1 : World} {p : Nat} {G : Nat → Prop} {S : Ln} {tag : Int} (h : Pm w1 G p tag S) (hg : ∀ k, G k → w.heap.size ≤ k) (hb : Below w.heap.size w w1) :
    ∃ b F, CSt w ((w1.alloc (.map #[] 0)).alloc (.cells #[.pointer (some ⟨p, 0, none⟩), .map (some w1.heap.size), .int .i64 0, .int .i64 0] 89)) F (w1.heap.size + 1) p b w1.heap.size ⟨tag, S, fun _ => 0, 0, 0, 0⟩ ∧
      Below w.heap.size w ((w1.alloc (.map #[] 0)).alloc (.cells #[.pointer (some ⟨p, 0, none⟩), .map (some w1.heap.size), .int .i64 0, .int .i64 0] 89)) := by
  have hs := hb.size
  obtain ⟨b, F, hp, hF⟩ := h.st hg hb
  have hb2 : Below w1.heap.size w1 ((w1.alloc (.map #[] 0)).alloc (.cells #[.pointer (some ⟨p, 0, none⟩), .map (some w1.heap.size), .int .i64 0, .int .i64 0] 89)) := ((Below.refl _ _).alloc (Nat.le_refl _) _).alloc (by simp) _
  have hpl := hp.plt
  have hlt := hp.lt
  refine ⟨b, F, ⟨heap_at (by simp) _, hp.below hb2, (MapI.made w1).below ((Below.refl _ _).alloc (Nat.le_refl _) _), fun hk => ?_, fun hk => ?_, by omega, by omega, by omega, by omega, hs⟩, hb.trans (hb2.mono hs)⟩
  · have := hlt _ hk; omega
  · have := hlt _ hk; omega
set_option maxHeartbeats 800000 in
theorem CorNew_ok (tag base : Int) (w : World) (ht : TagOk tag) (h : BaseOk base) : Calls Try.prog 13 #[.int .i64 tag, .int .i64 base] w (CorPost w tag ⟨base, -1, []⟩) := by
  have HP := Lib.hid (PolNew_ok tag base w ht h)
  clear ht h
  go_enter Try.func13, Try.ntmps13
  go_wp2_with (first
    | (go_at_call 29; refine HP.out.mono ?_; rintro e w1 ⟨p, F, rfl, hq, hF, hb⟩; have Hq := Lib.hid hq; have HF := Lib.hid hF; clear hq hF)
    | (go_at_call 43; refine (corOf_ok _ _).mono ?_; rintro e w2 ⟨rfl, rfl⟩))
  go_ret2
  obtain ⟨b, F', h1, h2⟩ := cor_made Hq.out HF.out hb
  exact ⟨_, _, b, _, F', rfl, h1, h2⟩
set_option maxHeartbeats 800000 in
theorem CorNew_err (tag base : Int) (w : World) (h : ¬ (TagOk tag ∧ BaseOk base)) : Calls Try.prog 13 #[.int .i64 tag, .int .i64 base] w (NilPost w) := by
  have HP := Lib.hid (PolNew_err tag base w h)
  clear h
  go_enter Try.func13, Try.ntmps13
  go_wp2_with (first
    | (go_at_call 29; refine HP.out.mono ?_; rintro e w1 ⟨rfl, hb⟩)
    | (go_at_call 43; refine (corOf_nil _).mono ?_; rintro e w2 ⟨rfl, rfl⟩))
  go_ret2
  exact ⟨rfl, hb⟩
set_option maxHeartbeats 800000 in
theorem CorSeed_ok (tag : Int) (f : Fm) (n : Nat) (a : Option Addr) (c : Nat) (base : Int) (w : World) (hn : f.l.length = n) (hs : Sl It.enc 3 w a f.l) (ht : TagOk tag) (h : BaseOk base) (hg : goodF f = true) : Calls Try.prog 48 #[.int .i64 tag, .agg #[.int .i64 f.cur, .slice a n c], .int .i64 base] w (CorPost w tag (seedR f base)) := by
  have HP := Lib.hid (fun W (hW : Below w.heap.size w W) => PolSeed_ok tag f n a c base W hn (hs.below hW) ht h hg)
  clear ht h hs hn hg
  go_enter Try.func48, Try.ntmps48
  go_wp2_with (first
    | (go_at_call 9; refine (HP.out _ ((Below.refl _ _).alloc (Nat.le_refl _) _)).mono ?_; rintro e w1 ⟨p, F, rfl, hq, hF, hb⟩; have Hq := Lib.hid hq; have HF := Lib.hid hF; clear hq hF)
    | (go_at_call 43; refine (corOf_ok _ _).mono ?_; rintro e w2 ⟨rfl, rfl⟩))
  go_ret2
  obtain ⟨b, F', h1, h2⟩ := cor_made (w := w) Hq.out (fun k hk => by have := HF.out k hk; simp at this; omega) (((Below.refl _ _).alloc (Nat.le_refl _) _).trans (hb.mono (by simp)))
  exact ⟨_, _, b, _, F', rfl, h1, h2⟩
set_option maxHeartbeats 800000 in
theorem CorSeed_err (tag : Int) (f : Fm) (n : Nat) (a : Option Addr) (c : Nat) (base : Int) (w : World) (hn : f.l.length = n) (hl : n ≤ 4611686018427387904) (hs : Sl It.enc 3 w a f.l) (h : ¬ (TagOk tag ∧ BaseOk base ∧ goodF f = true)) : Calls Try.prog 48 #[.int .i64 tag, .agg #[.int .i64 f.cur, .slice a n c], .int .i64 base] w (NilPost w) := by
  have HP := Lib.hid (fun W (hW : Below w.heap.size w W) => PolSeed_err tag f n a c base W hn hl (hs.below hW) h)
  clear h hs hn
  go_enter Try.func48, Try.ntmps48
  go_wp2_with (first
    | (go_at_call 9; refine (HP.out _ ((Below.refl _ _).alloc (Nat.le_refl _) _)).mono ?_; rintro e w1 ⟨rfl, hb⟩)
    | (go_at_call 43; refine (corOf_nil _).mono ?_; rintro e w2 ⟨rfl, rfl⟩))
  go_ret2
  exact ⟨rfl, ((Below.refl _ _).alloc (Nat.le_refl _) _).trans (hb.mono (by simp))⟩
section
variable {w0 w : World} {F : Nat → Prop} {c p b r : Nat} {s : CoreS} {B : Nat} {K : Int}
set_option maxHeartbeats 400000 in
theorem CorTag (h : CSt w0 w F c p b r s) : Calls Try.prog 27 #[.pointer (some ⟨c, 0, none⟩)] w fun e w' => e = .returned (.int .i64 s.tag) ∧ w = w' := by
  obtain ⟨c0, c1, c2, c3, f0, f1, f2, f3, hlt⟩ := blk4 h.cell
  have H2 := Lib.hid h.pol.pm
  clear h
  go_enter Try.func27, Try.ntmps27
  go_wp2_with (go_at_call 22; refine (PolTag H2.out).mono ?_; rintro e w3 ⟨rfl, rfl⟩)
  go_ret
  exact ⟨rfl, rfl⟩
set_option maxHeartbeats 400000 in
theorem CorAge (h : CSt w0 w F c p b r s) : Calls Try.prog 18 #[.pointer (some ⟨c, 0, none⟩)] w fun e w' => e = .returned (.int .i64 s.age) ∧ w = w' := by
  obtain ⟨c0, c1, c2, c3, f0, f1, f2, f3, hlt⟩ := blk4 h.cell
  clear h
  go_enter Try.func18, Try.ntmps18
  go_wp2
  go_ret
  exact ⟨rfl, rfl⟩
set_option maxHeartbeats 400000 in
theorem CorIdle (h : CSt w0 w F c p b r s) : Calls Try.prog 16 #[.pointer (some ⟨c, 0, none⟩)] w fun e w' => e = .returned (.int .i64 s.idle) ∧ w = w' := by
  obtain ⟨c0, c1, c2, c3, f0, f1, f2, f3, hlt⟩ := blk4 h.cell
  clear h
  go_enter Try.func16, Try.ntmps16
  go_wp2
  go_ret
  exact ⟨rfl, rfl⟩
set_option maxHeartbeats 800000 in
theorem CorServed (h : CSt w0 w F c p b r s) (id : Int) (hi : -9223372036854775808 ≤ id ∧ id ≤ 9223372036854775807) : Calls Try.prog 17 #[.pointer (some ⟨c, 0, none⟩), .int .i64 id] w fun e w' => e = .returned (.int .i64 (s.sv id)) ∧ w = w' := by
  obtain ⟨c0, c1, c2, c3, f0, f1, f2, f3, hlt⟩ := blk4 h.cell
  have HM := Lib.hid h.map
  clear h
  go_enter Try.func17, Try.ntmps17
  go_wp2_with (at_lookup; refine wpList_lookI _ rfl _ _ rfl r _ _ rfl HM.out id rfl hi ?_)
  go_ret
  exact ⟨rfl, rfl⟩
set_option maxHeartbeats 800000 in
theorem CorForm (h : CSt w0 w F c p b r s) (ht : TagOk s.tag) (hk : OkS K s.q) : Calls Try.prog 28 #[.pointer (some ⟨c, 0, none⟩)] w (FormPost w s.q.cur (s.q.l.map (itOf s.q.base))) := by
  obtain ⟨c0, c1, c2, c3, f0, f1, f2, f3, hlt⟩ := blk4 h.cell
  obtain ⟨FN, hmf, hef, HQ0⟩ := ifForm s.tag ht b
  obtain ⟨p0, p1, y0, y1, plt⟩ := blk2 h.pol.cell
  have HQ := Lib.hid (HQ0.out (h.below ((Below.refl _ _).alloc (Nat.le_refl _) (.cells #[.int .i64 0, .slice none 0 0] 24))).pol.q hk)
  have hnp : p ≠ w.heap.size := by omega
  clear h ht hk HQ0
  generalize s.q.l.length = sl at HQ
  go_enter Try.func28, Try.ntmps28
  go_wp2_with (go_at_fn FN; refine HQ.out.mono ?_; rintro e w1 ⟨a', c', rfl, ho, hb1⟩; rw [List.length_map] at ho; have hh := heap_below (heap_new w _) hb1; obtain ⟨g0, g1, u0, u1, gl⟩ := blk2 hh; have HH := Lib.hid hh; have Ho := Lib.hid ho; clear hh ho)
  have hno : (Value.slice a' s.q.l.length c').ownBlock ≠ some w.heap.size := fun e => by have := (Ho.out.lt _ e).1; simp at this; omega
  refine bodyPost_ret (res_c _ _ w.heap.size 24 #[.int .i64 s.q.cur, .slice a' s.q.l.length c'] (0, 0) _ rfl rfl (heap_set (heap_set HH.out _) _) Try.underlying24 rfl (by kernel_rfl)) rfl ⟨a', c', by rw [List.length_map], ?_, ?_⟩
  · rw [List.length_map]; exact own_base (own_set (own_set Ho.out hno) hno) (by simp)
  · exact (((((Below.refl _ _).alloc (Nat.le_refl _) _).trans (hb1.mono (by simp))).setCell (Nat.le_refl _) _).setCell (Nat.le_refl _) _)
set_option maxHeartbeats 400000 in
theorem CorDone (h : CSt w0 w F c p b r s) (ha : 0 ≤ s.age ∧ s.age ≤ 4611686018427387904) (x : Int) : Calls Try.prog 44 #[.pointer (some ⟨c, 0, none⟩), .int .i64 x] w fun e w' => e = .returned (.int .i64 x) ∧ CSt w0 w' F c p b r (s.done x) ∧ Fr (fun k => k = c) w w' := by
  obtain ⟨c0, c1, c2, c3, f0, f1, f2, f3, hlt⟩ := blk4 h.cell
  have H := Lib.hid h
  clear h
  by_cases h0 : x = 0
  · subst h0
    have hw : IntKind.i64.wrap (s.age + 1) = s.age + 1 := IntWalk.i64_in _ (by omega)
    go_enter Try.func44, Try.ntmps44
    go_wp2
    go_ret
    exact ⟨rfl, by unfold CoreS.done; rw [if_pos rfl]; exact H.out.setAge _, (Fr.refl (fun k => k = c) w).setCell (p := ⟨c, 3, none⟩) (fun _ => rfl) _⟩
  · have hb : (x == 0) = false := by simpa using h0
    have hb2 : (x != 0) = true := by simpa using h0
    have H0 := Lib.hid h0
    clear h0
    go_enter Try.func44, Try.ntmps44
    go_wp2
    go_ret
    exact ⟨rfl, by unfold CoreS.done; rw [if_neg H0.out]; exact H.out, Fr.refl _ _⟩
set_option maxHeartbeats 1600000 in
theorem CorEnter (h : CSt w0 w F c p b r s) (hk : CoreOk B K s) (hB : B ≤ 1000000000) (hK : K ≤ 1151795604700004352) (id tw lag : Int) (exact : Bool) {x : Int} (hx : mayE s.q.l id tw lag = x) :
    Calls Try.prog 14 #[.pointer (some ⟨c, 0, none⟩), .int .i64 id, .int .i64 tw, .int .i64 lag, .bool exact] w fun e w' => e = .returned (.int .i64 x) ∧ CNext w0 w F c p b r (s.enter id tw lag exact) w' := by
  obtain ⟨c0, c1, c2, c3, f0, f1, f2, f3, hlt⟩ := blk4 h.cell
  obtain ⟨p0, p1, y0, y1, plt⟩ := blk2 h.pol.cell
  have ha0 := hk.age0
  have ha1 := hk.age1
  have H := Lib.hid h
  have hrest : CoreS.enter s id tw lag exact = ({ s with q := if exact = true then putR s.q id tw lag else enterR (heldT s.tag) s.q id tw lag } : CoreS).done x := by rw [← hx]; rfl
  rw [hrest]
  cases exact with
  | true =>
    obtain ⟨FN, mN, eN, cN⟩ := ifPut s.tag hk.tag b
    have HC := Lib.hid (cN.out h.pol hk.ok hK id tw lag x hx)
    clear h hk hx hrest cN
    go_enter Try.func14, Try.ntmps14
    go_wp2_with (first
      | (go_at_fn FN; refine HC.out.mono ?_; rintro e w1 ⟨rfl, hn⟩; obtain ⟨F1, hc1, hf1, hs1⟩ := H.out.pnext hn; have Hc1 := Lib.hid hc1; have Hf1 := Lib.hid hf1; have Hs1 := Lib.hid hs1; clear hc1 hf1 hs1 hn)
      | (go_at_call 44; refine (CorDone Hc1.out ⟨ha0, by simp only; omega⟩ x).mono ?_; rintro e w2 ⟨rfl, hd, hf2⟩; have Hd := Lib.hid hd; have Hf2 := Lib.hid hf2; clear hd hf2))
    go_ret
    exact ⟨rfl, _, Hd.out, Hf1.out.trans Hf2.out (fun k _ e => .inr (.inl e)), Hs1.out⟩
  | false =>
    obtain ⟨FN, mN, eN, cN⟩ := ifEnter s.tag hk.tag b
    have HC := Lib.hid (cN.out h.pol hk.ok hK id tw lag x hx)
    clear h hk hx hrest cN
    go_enter Try.func14, Try.ntmps14
    go_wp2_with (first
      | (go_at_fn FN; refine HC.out.mono ?_; rintro e w1 ⟨rfl, hn⟩; obtain ⟨F1, hc1, hf1, hs1⟩ := H.out.pnext hn; have Hc1 := Lib.hid hc1; have Hf1 := Lib.hid hf1; have Hs1 := Lib.hid hs1; clear hc1 hf1 hs1 hn)
      | (go_at_call 44; refine (CorDone Hc1.out ⟨ha0, by simp only; omega⟩ x).mono ?_; rintro e w2 ⟨rfl, hd, hf2⟩; have Hd := Lib.hid hd; have Hf2 := Lib.hid hf2; clear hd hf2))
    go_ret
    exact ⟨rfl, _, Hd.out, Hf1.out.trans Hf2.out (fun k _ e => .inr (.inl e)), Hs1.out⟩
set_option maxHeartbeats 1600000 in
theorem CorLeave (h : CSt w0 w F c p b r s) (hk : CoreOk B K s) (hB : B ≤ 1000000000) (id : Int) {S' : Ln} {v x : Int} (hx : leaveR s.q id = (S', v, x)) :
    Calls Try.prog 99 #[.pointer (some ⟨c, 0, none⟩), .int .i64 id] w fun e w' => e = .returned (.tuple #[.int .i64 v, .int .i64 x]) ∧ CNext w0 w F c p b r (s.leave id) w' := by
  obtain ⟨c0, c1, c2, c3, f0, f1, f2, f3, hlt⟩ := blk4 h.cell
  obtain ⟨p0, p1, y0, y1, plt⟩ := blk2 h.pol.cell
  have ha0 := hk.age0
  have ha1 := hk.age1
  have H := Lib.hid h
  have hrest : CoreS.leave s id = ({ s with q := S' } : CoreS).done x := by unfold CoreS.leave; rw [hx]
  rw [hrest]
  obtain ⟨FN, mN, eN, cN⟩ := ifLeave s.tag hk.tag b
  have HC := Lib.hid (cN.out h.pol hk.ok id S' v x hx)
  clear h hk hx hrest cN
  go_enter Try.func99, Try.ntmps99
  go_wp2_with (first
    | (go_at_fn FN; refine HC.out.mono ?_; rintro e w1 ⟨rfl, hn⟩; obtain ⟨F1, hc1, hf1, hs1⟩ := H.out.pnext hn; have Hc1 := Lib.hid hc1; have Hf1 := Lib.hid hf1; have Hs1 := Lib.hid hs1; clear hc1 hf1 hs1 hn)
    | (go_at_call 44; refine (CorDone Hc1.out ⟨ha0, by simp only; omega⟩ x).mono ?_; rintro e w2 ⟨rfl, hd, hf2⟩; have Hd := Lib.hid hd; have Hf2 := Lib.hid hf2; clear hd hf2))
  go_ret2
  exact ⟨rfl, _, Hd.out, Hf1.out.trans Hf2.out (fun k _ e => .inr (.inl e)), Hs1.out⟩
set_option maxHeartbeats 3200000 in
set_option maxRecDepth 100000 in
theorem CorRun (h : CSt w0 w F c p b r s) (hk : CoreOk B K s) (hB : B ≤ 1000000000) {s' : CoreS} {v x : Int} (hx : s.run = (s', v, x)) (hv : -9223372036854775808 ≤ s.ran.2.1 ∧ s.ran.2.1 ≤ 9223372036854775807) :
    Calls Try.prog 15 #[.pointer (some ⟨c, 0, none⟩)] w fun e w' => e = .returned (.tuple #[.int .i64 v, .int .i64 x]) ∧ CNext w0 w F c p b r s' w' := by
  obtain ⟨c0, c1, c2, c3, f0, f1, f2, f3, hlt⟩ := blk4 h.cell
  have ha0 := hk.age0
  have ha1 := hk.age1
  have hi0 := hk.idle0
  have hi1 := hk.idle1
  have hn1 := hk.n1
  have hcr := h.cr
  have H := Lib.hid h
  obtain ⟨S1, v1, r1, e1⟩ : ∃ S1 v1 r1, pickT s.tag s.q = (S1, v1, r1) := ⟨_, _, _, rfl⟩
  obtain ⟨S2, v2, x2, e2⟩ : ∃ S2 v2 x2, chargeR S1 = (S2, v2, x2) := ⟨_, _, _, rfl⟩
  have hran : s.ran = (S2, v2, x2) := by unfold CoreS.ran; rw [e1]; exact e2
  have HP := Lib.hid (PolRunT h.pol hk.tag hk.ok e1 e2)
  rw [hran] at hv
  simp only at hv
  have hsv0 := hk.sv0 v2
  have hsv1 := hk.sv1 v2
  unfold CoreS.run at hx
  rw [hran] at hx
  simp only at hx
  by_cases h0 : x2 = 0
  · subst h0
    rw [if_pos rfl] at hx
    simp only [Prod.mk.injEq] at hx
    obtain ⟨rfl, rfl, rfl⟩ := hx
    have hw : IntKind.i64.wrap (s.sv v2 + 1) = s.sv v2 + 1 := IntWalk.i64_in _ (by omega)
    clear h hk hran e1 e2
    go_enter Try.func15, Try.ntmps15
    go_wp2_with (first
      | (go_at_call 30; refine HP.out.mono ?_; rintro e w1 ⟨rfl, hn⟩; obtain ⟨F1, hc1, hf1, hs1⟩ := H.out.pnext hn; obtain ⟨c0, c1, c2, c3, f0, f1, f2, f3, hlt⟩ := blk4 hc1.cell; have Hc1 := Lib.hid hc1; have Hf1 := Lib.hid hf1; have Hs1 := Lib.hid hs1; clear hc1 hf1 hs1 hn)
      | (at_lookup; refine wpList_lookI _ rfl _ _ rfl r _ _ rfl Hc1.out.map v2 rfl hv ?_)
      | (at_mapUpdate; refine wpList_putI _ rfl _ _ _ rfl r _ _ rfl Hc1.out.map (show s.n < maxLen by unfold maxLen; omega) v2 (s.sv v2 + 1) rfl (by first | rfl | simp only [hw]) hv (by omega) ?_; intro w2 hm2 hf2; have Hc2 := Lib.hid (Hc1.out.setMap hf2 hm2); have Hf2 := Lib.hid hf2; clear hm2 hf2)
      | (go_at_call 44; refine (CorDone Hc2.out ⟨ha0, by simp only; omega⟩ 0).mono ?_; rintro e w3 ⟨rfl, hd, hf3⟩; have Hd := Lib.hid hd; have Hf3 := Lib.hid hf3; clear hd hf3))
    go_ret2
    exact ⟨rfl, _, Hd.out, (Hf1.out.trans Hf2.out (fun k _ e => .inr (.inr e))).trans Hf3.out (fun k _ e => .inr (.inl e)), Hs1.out⟩
  · by_cases h14 : x2 = 14
    · subst h14
      rw [if_neg (by decide), if_pos rfl] at hx
      simp only [Prod.mk.injEq] at hx
      obtain ⟨rfl, rfl, rfl⟩ := hx
      have hw : IntKind.i64.wrap (s.idle + 1) = s.idle + 1 := IntWalk.i64_in _ (by omega)
      clear h hk hran e1 e2 h0
      go_enter Try.func15, Try.ntmps15
      go_wp2_with (first
        | (go_at_call 30; refine HP.out.mono ?_; rintro e w1 ⟨rfl, hn⟩; obtain ⟨F1, hc1, hf1, hs1⟩ := H.out.pnext hn; obtain ⟨c0, c1, c2, c3, f0, f1, f2, f3, hlt⟩ := blk4 hc1.cell; have Hc1 := Lib.hid hc1; have Hf1 := Lib.hid hf1; have Hs1 := Lib.hid hs1; clear hc1 hf1 hs1 hn)
        | (go_at_call 44; refine (CorDone (Hc1.out.setIdle (s.idle + 1)) ⟨ha0, by simp only; omega⟩ 0).mono ?_; rintro e w3 ⟨rfl, hd, hf3⟩; have Hd := Lib.hid hd; have Hf3 := Lib.hid hf3; clear hd hf3))
      go_ret2
      exact ⟨rfl, _, Hd.out, (Hf1.out.setCell (p := ⟨c, 2, none⟩) (fun _ => .inr (.inl rfl)) _).trans Hf3.out (fun k _ e => .inr (.inl e)), Hs1.out⟩
    · rw [if_neg h0, if_neg h14] at hx
      simp only [Prod.mk.injEq] at hx
      obtain ⟨rfl, rfl, rfl⟩ := hx
      have b0 : (x2 == 0) = false := by simpa using h0
      have b14 : (x2 == 14) = false := by simpa using h14
      have H0 := Lib.hid h0
      clear h hk hran e1 e2 h0 h14
      go_enter Try.func15, Try.ntmps15
      go_wp2_with (first
        | (go_at_call 30; refine HP.out.mono ?_; rintro e w1 ⟨rfl, hn⟩; obtain ⟨F1, hc1, hf1, hs1⟩ := H.out.pnext hn; have Hc1 := Lib.hid hc1; have Hf1 := Lib.hid hf1; have Hs1 := Lib.hid hs1; clear hc1 hf1 hs1 hn)
        | (go_at_call 44; refine (CorDone Hc1.out ⟨ha0, by simp only; omega⟩ x2).mono ?_; rintro e w3 ⟨rfl, hd, hf3⟩; unfold CoreS.done at hd; rw [if_neg H0.out] at hd; have Hd := Lib.hid hd; have Hf3 := Lib.hid hf3; clear hd hf3))
      go_ret2
      exact ⟨rfl, _, Hd.out, Hf1.out.trans Hf3.out (fun k _ e => .inr (.inl e)), Hs1.out⟩
end
end Go.Proofs.Ytfijedmdfkelnaa
