/- Package due's queue. -/
import Derived.Test.YtlgkkolgdjgclaaGreatP
namespace Go.Proofs.YtlgkkolgdjgclaaGreat
open Go.RowKit
set_option linter.unusedVariables false
set_option linter.unusedSimpArgs false

set_option maxHeartbeats 800000 in
theorem of_nil_due (v : Value) (e0 : Int) (he : e0 ≠ 0) (w : World) (i1 i2 : Int) :
    Calls Tryz.prog 104 #[.agg #[.int .i64 i1, .int .i64 i2, .slice none 0 0], .int .i64 e0] w fun e w' => e = .returned (.tuple #[.pointer none, .int .i64 e0]) ∧ Below w.heap.size w w' := by
  have h1 : (e0 != 0) = true := by simpa using he
  have h2 : (e0 == 0) = false := by simpa using he
  go_enter Tryz.func104, Tryz.ntmps104
  go_wp2
  go_ret2
  exact ⟨rfl, (Below.refl _ _).alloc (Nat.le_refl _) _⟩
set_option maxHeartbeats 800000 in
theorem of_ok_due (i1 i2 : Int) (a : Option Addr) (n c : Nat) (w : World) :
    Calls Tryz.prog 104 #[.agg #[.int .i64 i1, .int .i64 i2, .slice a n c], .int .i64 0] w fun e w' => ∃ b, e = .returned (.tuple #[.pointer (some ⟨b, 0, none⟩), .int .i64 0]) ∧ w.heap.size ≤ b ∧ Below w.heap.size w w' ∧ w'.heap[b]? = some (.cells #[.int .i64 i1, .int .i64 i2, .slice a n c] 215 (0, 0)) := by
  go_enter Tryz.func104, Tryz.ntmps104
  go_wp2
  go_ret2
  exact ⟨w.heap.size + 1, rfl, by omega, ((Below.refl _ _).alloc (Nat.le_refl _) _).alloc (by simp) _, heap_at (by simp) _⟩
theorem made_due {w w1 w' : World} {b : Nat} {S : Ln} {a : Option Addr} {c : Nat} (hb : w1.heap.size ≤ b) (hB : Below w1.heap.size w1 w') (hh : w'.heap[b]? = some (.cells #[.int .i64 S.base, .int .i64 S.cur, .slice a S.l.length c] 215 (0, 0)))
    (ho : w1.ownsRow w.heap.size 248 4 (.slice a S.l.length c) S.l.length (flat Pt.enc S.l)) (h0 : Below w.heap.size w w1) : ∃ F, Qm w' F b S ∧ (∀ k, F k → w.heap.size ≤ k) ∧ Below w.heap.size w w' := by
  have hap : ∀ p, a = some p → p.block ≠ b := fun p hp e => by
    have := ho.lt p.block (by rw [hp]; rfl); omega
  have hs := h0.size
  refine ⟨foot b a, ⟨a, c, ⟨Nat.zero_le _, ⟨_, hh⟩, own_base (own_fr (F := fun _ => False) ho (Fr.of_below hB) (fun _ _ h => h)) (Nat.zero_le _), hap⟩, rfl⟩, ?_, h0.trans (hB.mono hs)⟩
  rintro k (rfl | ⟨p, hp, rfl⟩)
  · omega
  · exact (ho.lt p.block (by rw [hp]; rfl)).1

set_option maxHeartbeats 800000 in
theorem New_ok_due (base : Int) (w : World) (h : BaseOk base) : Calls Tryz.prog 87 #[.int .i64 base] w (NewPost w ⟨base, -1, []⟩) := by
  have H := Lib.hid h
  clear h
  go_enter Tryz.func87, Tryz.ntmps87
  go_wp2_with (first
    | (go_at_call 102; refine (NewLine_ok _ _ H.out.1 H.out.2).mono ?_; rintro e w1 ⟨rfl, hb1⟩)
    | (go_at_call 104; refine (of_ok_due _ _ _ _ _ _).mono ?_; rintro e w2 ⟨b, rfl, hb, hb2, hh⟩; have Hh := Lib.hid hh; clear hh))
  go_ret2
  obtain ⟨F, h1, h2, h3⟩ := made_due (S := ⟨base, -1, []⟩) hb hb2 Hh.out (World.ownsRow_nil _ _ _ _) hb1
  exact ⟨b, F, rfl, h1, h2, h3⟩
set_option maxHeartbeats 800000 in
theorem New_err_due (base : Int) (w : World) (h : ¬ BaseOk base) : Calls Tryz.prog 87 #[.int .i64 base] w (NilPost w) := by
  have H : base < -1152921504606846976 ∨ 1152921504606846976 < base := by unfold BaseOk at h; omega
  have H := Lib.hid H
  clear h
  go_enter Tryz.func87, Tryz.ntmps87
  go_wp2_with (first
    | (go_at_call 102; refine (NewLine_err _ _ H.out).mono ?_; rintro e w1 ⟨rfl, hb1⟩)
    | (go_at_call 104; refine (of_nil_due (.int .i64 0) 1 (by decide) _ _ _).mono ?_; rintro e w2 ⟨rfl, hb2⟩))
  go_ret2
  exact ⟨rfl, hb1.trans (hb2.mono hb1.size)⟩

set_option maxHeartbeats 800000 in
theorem Seed_ok_due (f : Fm) (n : Nat) (a : Option Addr) (c : Nat) (base : Int) (w : World) (hn : f.l.length = n) (hs : Sl It.enc 3 w a f.l) (h : BaseOk base) (hg : goodF f = true) : Calls Tryz.prog 119 #[.agg #[.int .i64 f.cur, .slice a n c], .int .i64 base] w (NewPost w (seedR f base)) := by
  have hlen : (f.l.map (seedP base)).length = n := by rw [List.length_map, hn]
  have HS : ∀ W, Below w.heap.size w W → Calls Tryz.prog 141 #[.agg #[.int .i64 f.cur, .slice a n c], .int .i64 base] W fun e w' => ∃ a' c', e = .returned (.tuple #[.agg #[.int .i64 base, .int .i64 f.cur, .slice a' n c'], .int .i64 0]) ∧ w'.ownsRow w.heap.size 248 4 (.slice a' n c') n (flat Pt.enc (f.l.map (seedP base))) ∧ Below w.heap.size w w' := fun W hW =>
    (SeedLine_ok base f.cur f.l n a c W hn (hs.below hW) h.1 h.2 hg).mono fun e w' h => by
      obtain ⟨a', c', h1, h2, h3⟩ := h
      rw [hlen] at h1 h2
      exact ⟨a', c', h1, own_base h2 hW.size, hW.trans (h3.mono hW.size)⟩
  have HS := Lib.hid HS
  have Hlen := Lib.hid hlen
  clear h hs hg hn hlen
  go_enter Tryz.func119, Tryz.ntmps119
  go_wp2_with (first
    | (go_at_call 141; refine (HS.out _ ((Below.refl _ _).alloc (Nat.le_refl _) _)).mono ?_; rintro e w1 ⟨a', c', rfl, ho, hb1⟩; have Ho := Lib.hid ho; clear ho)
    | (go_at_call 104; refine (of_ok_due _ _ _ _ _ _).mono ?_; rintro e w2 ⟨b, rfl, hb, hb2, hh⟩; have Hh := Lib.hid hh; clear hh))
  go_ret2
  obtain ⟨F, h1, h2, h3⟩ := made_due (S := seedR f base) hb hb2 (by simp only [seedR]; rw [Hlen.out]; exact Hh.out) (by simp only [seedR]; rw [Hlen.out]; exact Ho.out) hb1
  exact ⟨b, F, rfl, h1, h2, h3⟩
set_option maxHeartbeats 800000 in
theorem Seed_err_due (f : Fm) (n : Nat) (a : Option Addr) (c : Nat) (base : Int) (w : World) (hn : f.l.length = n) (hl : n ≤ 4611686018427387904) (hs : Sl It.enc 3 w a f.l) (h : ¬ BaseOk base ∨ goodF f = false) : Calls Tryz.prog 119 #[.agg #[.int .i64 f.cur, .slice a n c], .int .i64 base] w (NilPost w) := by
  have H : (base < -1152921504606846976 ∨ 1152921504606846976 < base) ∨ goodF ⟨f.cur, f.l⟩ = false := by
    rcases h with h | h
    · left; unfold BaseOk at h; omega
    · exact .inr h
  have HS := Lib.hid (fun W (hW : Below w.heap.size w W) => SeedLine_err base f.cur f.l n a c W hn hl (hs.below hW) H)
  clear h hs H hn
  go_enter Tryz.func119, Tryz.ntmps119
  go_wp2_with (first
    | (go_at_call 141; refine (HS.out _ ((Below.refl _ _).alloc (Nat.le_refl _) _)).mono ?_; rintro e w1 ⟨rfl, hb1⟩; have hb1 := ((Below.refl w.heap.size w).alloc (Nat.le_refl _) _).trans (hb1.mono (by simp)))
    | (go_at_call 104; refine (of_nil_due (.int .i64 0) 1 (by decide) _ _ _).mono ?_; rintro e w2 ⟨rfl, hb2⟩))
  go_ret2
  exact ⟨rfl, hb1.trans (hb2.mono hb1.size)⟩

section
variable {w : World} {F : Nat → Prop} {b : Nat} {S S' : Ln} {K : Int}
set_option maxHeartbeats 400000 in
theorem Put_due (h : Qm w F b S) (hk : OkS K S) (hK : K ≤ 1151795604700004352) (id tw lag : Int) {r : Int} (hr : mayE S.l id tw lag = r) :
    Calls Tryz.prog 231 #[.pointer (some ⟨b, 0, none⟩), .int .i64 id, .int .i64 tw, .int .i64 lag] w fun e w' => e = .returned (.int .i64 r) ∧ QPost w F b (putR S id tw lag) w' := by
  obtain ⟨T, a, c, hT⟩ := h.cells
  obtain ⟨c0, c1, c2, f0, f1, f2, hlt⟩ := blk3 hT
  have H := Lib.hid (putL h hk hK id tw lag hr)
  clear h hk hr hT
  go_enter Tryz.func231, Tryz.ntmps231
  go_wp2_with (go_at_call 185; refine H.out.mono ?_; rintro e w1 ⟨rfl, hq⟩)
  go_ret
  exact ⟨rfl, hq⟩
set_option maxHeartbeats 400000 in
theorem Leave_due (h : Qm w F b S) (hk : OkS K S) (id : Int) {v e' : Int} (hr : leaveR S id = (S', v, e')) :
    Calls Tryz.prog 229 #[.pointer (some ⟨b, 0, none⟩), .int .i64 id] w fun e w' => e = .returned (.tuple #[.int .i64 v, .int .i64 e']) ∧ QPost w F b S' w' := by
  obtain ⟨T, a, c, hT⟩ := h.cells
  obtain ⟨c0, c1, c2, f0, f1, f2, hlt⟩ := blk3 hT
  have H := Lib.hid (leaveL h hk id hr)
  clear h hk hr hT
  go_enter Tryz.func229, Tryz.ntmps229
  go_wp2_with (go_at_call 188; refine H.out.mono ?_; rintro e w1 ⟨rfl, hq⟩)
  go_ret2
  exact ⟨rfl, hq⟩
set_option maxHeartbeats 400000 in
theorem Charge_due (h : Qm w F b S) (hk : OkS K S) {v e' : Int} (hr : chargeR S = (S', v, e')) :
    Calls Tryz.prog 226 #[.pointer (some ⟨b, 0, none⟩)] w fun e w' => e = .returned (.tuple #[.int .i64 v, .int .i64 e']) ∧ QPost w F b S' w' := by
  obtain ⟨T, a, c, hT⟩ := h.cells
  obtain ⟨c0, c1, c2, f0, f1, f2, hlt⟩ := blk3 hT
  have H := Lib.hid (chargeL h hk hr)
  clear h hk hr hT
  go_enter Tryz.func226, Tryz.ntmps226
  go_wp2_with (go_at_call 183; refine H.out.mono ?_; rintro e w1 ⟨rfl, hq⟩)
  go_ret2
  exact ⟨rfl, hq⟩
set_option maxHeartbeats 800000 in
theorem Form_due (h : Qm w F b S) (hk : OkS K S) : Calls Tryz.prog 228 #[.pointer (some ⟨b, 0, none⟩)] w (FormPost w S.cur (S.l.map (itOf S.base))) := by
  obtain ⟨T, a, c, hT⟩ := h.cells
  obtain ⟨c0, c1, c2, f0, f1, f2, hlt⟩ := blk3 hT
  have hne : b ≠ w.heap.size := by omega
  have h1 : Qm (w.alloc (.cells #[.int .i64 0, .slice none 0 0] 41)) F b S := h.below ((Below.refl _ _).alloc (Nat.le_refl _) _)
  have H := Lib.hid (formL h1 hk)
  clear h hk hT h1
  go_enter Tryz.func228, Tryz.ntmps228
  go_wp2_with (go_at_call 187; refine H.out.mono ?_; rintro e w1 ⟨a', c', rfl, ho, hb1⟩; rw [List.length_map] at ho; have hh := heap_below (heap_new w _) hb1; obtain ⟨g0, g1, y0, y1, gl⟩ := blk2 hh; have HH := Lib.hid hh; have Ho := Lib.hid ho; clear hh ho)
  have hno : (Value.slice a' S.l.length c').ownBlock ≠ some w.heap.size := fun e => by have := (Ho.out.lt _ e).1; simp at this; omega
  refine bodyPost_ret (res_c _ _ w.heap.size 41 #[.int .i64 S.cur, .slice a' S.l.length c'] (0, 0) _ rfl rfl (heap_set (heap_set HH.out _) _) Tryz.underlying41 rfl (by kernel_rfl)) rfl ⟨a', c', by rw [List.length_map], ?_, ?_⟩
  · rw [List.length_map]; exact own_base (own_set (own_set Ho.out hno) hno) (by simp)
  · exact (((((Below.refl _ _).alloc (Nat.le_refl _) _).trans (hb1.mono (by simp))).setCell (Nat.le_refl _) _).setCell (Nat.le_refl _) _)
end
end Go.Proofs.YtlgkkolgdjgclaaGreat
