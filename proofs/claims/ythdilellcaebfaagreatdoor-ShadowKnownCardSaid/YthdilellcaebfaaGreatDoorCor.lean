/- Package core's calls, in the plain model's words. -/
import Derived.Test.YthdilellcaebfaaGreatDoorCorM
import Derived.Test.YthdilellcaebfaaGreatDoorK
namespace Go.Proofs.YthdilellcaebfaaGreatDoor
open Go.RowKit
set_option linter.unusedVariables false
set_option linter.unusedSimpArgs false

/-- What a call that makes a core leaves. -/
def CorPost (w : World) (tag : Int) (S : Ln) (e : Ending) (w' : World) : Prop :=
  ∃ c p b r F, e = .returned (.tuple #[.pointer (some ⟨c, 0, none⟩), .int .i64 0]) ∧ CSt w w' F c p b r ⟨tag, S, fun _ => 0, 0, 0, 0⟩ ∧ Below w.heap.size w w'
theorem CorPost.st {w0 w w' : World} {tag : Int} {S : Ln} {e : Ending} (h : CorPost w tag S e w') (hb : Below w0.heap.size w0 w) :
    ∃ c p b r F, e = .returned (.tuple #[.pointer (some ⟨c, 0, none⟩), .int .i64 0]) ∧ CSt w0 w' F c p b r ⟨tag, S, fun _ => 0, 0, 0, 0⟩ ∧ (∀ k, cfoot F c p r k → w.heap.size ≤ k) ∧ Below w.heap.size w w' := by
  obtain ⟨c, p, b, r, F, rfl, hc, hb2⟩ := h
  have hs := hb.size
  have hn := hc.new
  refine ⟨c, p, b, r, F, rfl, ⟨hc.cell, ⟨hc.pol.cell, hc.pol.q, hc.pol.apart, Nat.le_trans hs hc.pol.newp, fun k hk => Nat.le_trans hs (hc.pol.new k hk), hb.trans (hb2.mono hs)⟩, hc.map, hc.cF, hc.rF, hc.cp, hc.rp, hc.cr, Nat.le_trans hs hc.newc, Nat.le_trans hs hc.newr⟩, hn, hb2⟩
set_option maxHeartbeats 400000 in
theorem corOf_ok (p : Nat) (w : World) : Calls Tryz.prog 60 #[.pointer (some ⟨p, 0, none⟩), .int .i64 0] w fun e w' => e = .returned (.tuple #[.pointer (some ⟨w.heap.size + 1, 0, none⟩), .int .i64 0]) ∧
    w' = (w.alloc (.map #[] 0)).alloc (.cells #[.pointer (some ⟨p, 0, none⟩), .map (some w.heap.size), .int .i64 0, .int .i64 0] 123) := by
  have hmk : ∀ w, (Instr.makeMap 121 none).run Tryz.prog w = .ok (.map (some w.heap.size)) (w.alloc (.map #[] 0)) := fun w => run_makeMap _ w
  go_enter Tryz.func60, Tryz.ntmps60
  go_wp2
  go_ret2
  exact ⟨rfl, rfl⟩
set_option maxHeartbeats 400000 in
theorem corOf_nil (w : World) : Calls Tryz.prog 60 #[.pointer none, .int .i64 1] w fun e w' => e = .returned (.tuple #[.pointer none, .int .i64 1]) ∧ w = w' := by
  go_enter Tryz.func60, Tryz.ntmps60
  go_wp2
  go_ret2
  exact ⟨rfl, rfl⟩
theorem cor_made {w w1 : World} {p : Nat} {G : Nat → Prop} {S : Ln} {tag : Int} (h : Pm w1 G p tag S) (hg : ∀ k, G k → w.heap.size ≤ k) (hb : Below w.heap.size w w1) :
    ∃ b F, CSt w ((w1.alloc (.map #[] 0)).alloc (.cells #[.pointer (some ⟨p, 0, none⟩), .map (some w1.heap.size), .int .i64 0, .int .i64 0] 123)) F (w1.heap.size + 1) p b w1.heap.size ⟨tag, S, fun _ => 0, 0, 0, 0⟩ ∧
      Below w.heap.size w ((w1.alloc (.map #[] 0)).alloc (.cells #[.pointer (some ⟨p, 0, none⟩), .map (some w1.heap.size), .int .i64 0, .int .i64 0] 123)) := by
  have hs := hb.size
  obtain ⟨b, F, hp, hF⟩ := h.st hg hb
  have hb2 : Below w1.heap.size w1 ((w1.alloc (.map #[] 0)).alloc (.cells #[.pointer (some ⟨p, 0, none⟩), .map (some w1.heap.size), .int .i64 0, .int .i64 0] 123)) := ((Below.refl _ _).alloc (Nat.le_refl _) _).alloc (by simp) _
  have hpl := hp.plt
  have hlt := hp.lt
  refine ⟨b, F, ⟨heap_at (by simp) _, hp.below hb2, (MapI.made w1).below ((Below.refl _ _).alloc (Nat.le_refl _) _), fun hk => ?_, fun hk => ?_, by omega, by omega, by omega, by omega, hs⟩, hb.trans (hb2.mono hs)⟩
  · have := hlt _ hk; omega
  · have := hlt _ hk; omega
set_option maxHeartbeats 800000 in
theorem CorNew_ok (tag base : Int) (w : World) (ht : TagOk tag) (h : BaseOk base) : Calls Tryz.prog 26 #[.int .i64 tag, .int .i64 base] w (CorPost w tag ⟨base, -1, []⟩) := by
  have HP := Lib.hid (PolNew_ok tag base w ht h)
  clear ht h
  go_enter Tryz.func26, Tryz.ntmps26
  go_wp2_with (first
    | (go_at_call 61; refine HP.out.mono ?_; rintro e w1 ⟨p, F, rfl, hq, hF, hb⟩; have Hq := Lib.hid hq; have HF := Lib.hid hF; clear hq hF)
    | (go_at_call 60; refine (corOf_ok _ _).mono ?_; rintro e w2 ⟨rfl, rfl⟩))
  go_ret2
  obtain ⟨b, F', h1, h2⟩ := cor_made Hq.out HF.out hb
  exact ⟨_, _, b, _, F', rfl, h1, h2⟩
set_option maxHeartbeats 800000 in
theorem CorNew_err (tag base : Int) (w : World) (h : ¬ (TagOk tag ∧ BaseOk base)) : Calls Tryz.prog 26 #[.int .i64 tag, .int .i64 base] w (NilPost w) := by
  have HP := Lib.hid (PolNew_err tag base w h)
  clear h
  go_enter Tryz.func26, Tryz.ntmps26
  go_wp2_with (first
    | (go_at_call 61; refine HP.out.mono ?_; rintro e w1 ⟨rfl, hb⟩)
    | (go_at_call 60; refine (corOf_nil _).mono ?_; rintro e w2 ⟨rfl, rfl⟩))
  go_ret2
  exact ⟨rfl, hb⟩
set_option maxHeartbeats 800000 in
theorem CorSeed_ok (tag : Int) (f : Fm) (n : Nat) (a : Option Addr) (c : Nat) (base : Int) (w : World) (hn : f.l.length = n) (hs : Sl It.enc 3 w a f.l) (ht : TagOk tag) (h : BaseOk base) (hg : goodF f = true) : Calls Tryz.prog 27 #[.int .i64 tag, .agg #[.int .i64 f.cur, .slice a n c], .int .i64 base] w (CorPost w tag (seedR f base)) := by
  have HP := Lib.hid (fun W (hW : Below w.heap.size w W) => PolSeed_ok tag f n a c base W hn (hs.below hW) ht h hg)
  clear ht h hs hn hg
  go_enter Tryz.func27, Tryz.ntmps27
  go_wp2_with (first
    | (go_at_call 35; refine (HP.out _ ((Below.refl _ _).alloc (Nat.le_refl _) _)).mono ?_; rintro e w1 ⟨p, F, rfl, hq, hF, hb⟩; have Hq := Lib.hid hq; have HF := Lib.hid hF; clear hq hF)
    | (go_at_call 60; refine (corOf_ok _ _).mono ?_; rintro e w2 ⟨rfl, rfl⟩))
  go_ret2
  obtain ⟨b, F', h1, h2⟩ := cor_made (w := w) Hq.out (fun k hk => by have := HF.out k hk; simp at this; omega) (((Below.refl _ _).alloc (Nat.le_refl _) _).trans (hb.mono (by simp)))
  exact ⟨_, _, b, _, F', rfl, h1, h2⟩
set_option maxHeartbeats 800000 in
theorem CorSeed_err (tag : Int) (f : Fm) (n : Nat) (a : Option Addr) (c : Nat) (base : Int) (w : World) (hn : f.l.length = n) (hl : n ≤ 4611686018427387904) (hs : Sl It.enc 3 w a f.l) (h : ¬ (TagOk tag ∧ BaseOk base ∧ goodF f = true)) : Calls Tryz.prog 27 #[.int .i64 tag, .agg #[.int .i64 f.cur, .slice a n c], .int .i64 base] w (NilPost w) := by
  have HP := Lib.hid (fun W (hW : Below w.heap.size w W) => PolSeed_err tag f n a c base W hn hl (hs.below hW) h)
  clear h hs hn
  go_enter Tryz.func27, Tryz.ntmps27
  go_wp2_with (first
    | (go_at_call 35; refine (HP.out _ ((Below.refl _ _).alloc (Nat.le_refl _) _)).mono ?_; rintro e w1 ⟨rfl, hb⟩)
    | (go_at_call 60; refine (corOf_nil _).mono ?_; rintro e w2 ⟨rfl, rfl⟩))
  go_ret2
  exact ⟨rfl, ((Below.refl _ _).alloc (Nat.le_refl _) _).trans (hb.mono (by simp))⟩
section
variable {w0 w : World} {F : Nat → Prop} {c p b r : Nat} {s : CoreS} {B : Nat} {K : Int}
set_option maxHeartbeats 400000 in
theorem CorTag (h : CSt w0 w F c p b r s) : Calls Tryz.prog 28 #[.pointer (some ⟨c, 0, none⟩)] w fun e w' => e = .returned (.int .i64 s.tag) ∧ w = w' := by
  obtain ⟨c0, c1, c2, c3, f0, f1, f2, f3, hlt⟩ := blk4 h.cell
  have H2 := Lib.hid h.pol.pm
  clear h
  go_enter Tryz.func28, Tryz.ntmps28
  go_wp2_with (go_at_call 16; refine (PolTag H2.out).mono ?_; rintro e w3 ⟨rfl, rfl⟩)
  go_ret
  exact ⟨rfl, rfl⟩
set_option maxHeartbeats 800000 in
theorem CorForm (h : CSt w0 w F c p b r s) (ht : TagOk s.tag) (hk : OkS K s.q) : Calls Tryz.prog 29 #[.pointer (some ⟨c, 0, none⟩)] w (FormPost w s.q.cur (s.q.l.map (itOf s.q.base))) := by
  obtain ⟨c0, c1, c2, c3, f0, f1, f2, f3, hlt⟩ := blk4 h.cell
  obtain ⟨FN, hmf, hef, HQ0⟩ := ifForm s.tag ht b
  obtain ⟨p0, p1, y0, y1, plt⟩ := blk2 h.pol.cell
  have HQ := Lib.hid (HQ0.out (h.below ((Below.refl _ _).alloc (Nat.le_refl _) (.cells #[.int .i64 0, .slice none 0 0] 37))).pol.q hk)
  have hnp : p ≠ w.heap.size := by omega
  clear h ht hk HQ0
  generalize s.q.l.length = sl at HQ
  go_enter Tryz.func29, Tryz.ntmps29
  go_wp2_with (go_at_fn FN; refine HQ.out.mono ?_; rintro e w1 ⟨a', c', rfl, ho, hb1⟩; rw [List.length_map] at ho; have hh := heap_below (heap_new w _) hb1; obtain ⟨g0, g1, u0, u1, gl⟩ := blk2 hh; have HH := Lib.hid hh; have Ho := Lib.hid ho; clear hh ho)
  have hno : (Value.slice a' s.q.l.length c').ownBlock ≠ some w.heap.size := fun e => by have := (Ho.out.lt _ e).1; simp at this; omega
  refine bodyPost_ret (res_c _ _ w.heap.size 37 #[.int .i64 s.q.cur, .slice a' s.q.l.length c'] (0, 0) _ rfl rfl (heap_set (heap_set HH.out _) _) Tryz.underlying37 rfl (by kernel_rfl)) rfl ⟨a', c', by rw [List.length_map], ?_, ?_⟩
  · rw [List.length_map]; exact own_base (own_set (own_set Ho.out hno) hno) (by simp)
  · exact (((((Below.refl _ _).alloc (Nat.le_refl _) _).trans (hb1.mono (by simp))).setCell (Nat.le_refl _) _).setCell (Nat.le_refl _) _)
end
end Go.Proofs.YthdilellcaebfaaGreatDoor
