/- Package core. -/
import Derived.Test.YtmhdebkiepfgiaaInv
namespace Go.Proofs.Ytmhdebkiepfgiaa
open Go.RowKit
set_option linter.unusedVariables false
set_option linter.unusedSimpArgs false

/-- Block c is a core. -/
def Cm (w : World) (F : Nat → Prop) (c : Nat) (tag : Int) (S : Ln) (idle age : Int) : Prop :=
  ∃ p G r es cl, w.heap[c]? = some (.cells #[.pointer (some ⟨p, 0, none⟩), .map (some r), .int .i64 idle, .int .i64 age] 107 (0, 0)) ∧ Pm w G p tag S ∧ w.heap[r]? = some (.map es cl) ∧ ¬ G c ∧ ¬ G r ∧ c ≠ r ∧ (F = fun k => k = c ∨ k = r ∨ G k)
theorem Cm.below {w w' : World} {F : Nat → Prop} {c : Nat} {tag : Int} {S : Ln} {i a : Int} (h : Cm w F c tag S i a) (hb : Below w.heap.size w w') : Cm w' F c tag S i a := by
  obtain ⟨p, G, r, es, cl, h1, h2, h3, h4⟩ := h
  exact ⟨p, G, r, es, cl, heap_below h1 hb, h2.below hb, heap_below h3 hb, h4⟩
theorem Cm.fr {w w' : World} {F H : Nat → Prop} {c : Nat} {tag : Int} {S : Ln} {i a : Int} (h : Cm w F c tag S i a) (hf : Fr H w w') (hd : ∀ k, F k → ¬ H k) : Cm w' F c tag S i a := by
  obtain ⟨p, G, r, es, cl, h1, h2, h3, h4, h5, h6, rfl⟩ := h
  exact ⟨p, G, r, es, cl, heap_fr h1 hf (hd c (.inl rfl)), h2.fr hf (fun k hk => hd k (.inr (.inr hk))), heap_fr h3 hf (hd r (.inr (.inl rfl))), h4, h5, h6, rfl⟩
theorem Cm.lt {w : World} {F : Nat → Prop} {c : Nat} {tag : Int} {S : Ln} {i a : Int} (h : Cm w F c tag S i a) : ∀ k, F k → k < w.heap.size := by
  obtain ⟨p, G, r, es, cl, h1, h2, h3, h4, h5, h6, rfl⟩ := h
  rintro k (rfl | rfl | hk)
  · exact (Array.getElem?_eq_some_iff.1 h1).1
  · exact (Array.getElem?_eq_some_iff.1 h3).1
  · exact h2.lt k hk
def CorePost (w : World) (tag : Int) (S : Ln) (e : Ending) (w' : World) : Prop :=
  ∃ c F, e = .returned (.tuple #[.pointer (some ⟨c, 0, none⟩), .int .i64 0]) ∧ Cm w' F c tag S 0 0 ∧ (∀ k, F k → w.heap.size ≤ k) ∧ Below w.heap.size w w'

set_option maxHeartbeats 400000 in
theorem coreOf_ok (p : Nat) (w : World) : Calls Try.prog 63 #[.pointer (some ⟨p, 0, none⟩), .int .i64 0] w fun e w' => e = .returned (.tuple #[.pointer (some ⟨w.heap.size + 1, 0, none⟩), .int .i64 0]) ∧
    w' = (w.alloc (.map #[] 0)).alloc (.cells #[.pointer (some ⟨p, 0, none⟩), .map (some w.heap.size), .int .i64 0, .int .i64 0] 107) := by
  have hmk : ∀ w, (Instr.makeMap 105 none).run Try.prog w = .ok (.map (some w.heap.size)) (w.alloc (.map #[] 0)) := fun w => run_makeMap _ w
  go_enter Try.func63, Try.ntmps63
  go_wp2
  go_ret2
  exact ⟨rfl, rfl⟩
set_option maxHeartbeats 400000 in
theorem coreOf_nil (w : World) : Calls Try.prog 63 #[.pointer none, .int .i64 1] w fun e w' => e = .returned (.tuple #[.pointer none, .int .i64 1]) ∧ w = w' := by
  go_enter Try.func63, Try.ntmps63
  go_wp2
  go_ret2
  exact ⟨rfl, rfl⟩
theorem core_made {w w1 : World} {p : Nat} {G : Nat → Prop} {S : Ln} {tag : Int} (h : Pm w1 G p tag S) (hg : ∀ k, G k → w.heap.size ≤ k) (hb : Below w.heap.size w w1) :
    ∃ F, Cm ((w1.alloc (.map #[] 0)).alloc (.cells #[.pointer (some ⟨p, 0, none⟩), .map (some w1.heap.size), .int .i64 0, .int .i64 0] 107)) F (w1.heap.size + 1) tag S 0 0 ∧ (∀ k, F k → w.heap.size ≤ k) ∧
      Below w.heap.size w ((w1.alloc (.map #[] 0)).alloc (.cells #[.pointer (some ⟨p, 0, none⟩), .map (some w1.heap.size), .int .i64 0, .int .i64 0] 107)) := by
  have hs := hb.size
  have hb2 : Below w1.heap.size w1 ((w1.alloc (.map #[] 0)).alloc (.cells #[.pointer (some ⟨p, 0, none⟩), .map (some w1.heap.size), .int .i64 0, .int .i64 0] 107)) := ((Below.refl _ _).alloc (Nat.le_refl _) _).alloc (by simp) _
  refine ⟨_, ⟨p, G, w1.heap.size, #[], 0, heap_at (by simp) _, h.below hb2, heap_alloc (heap_new _ _) _, fun hk => ?_, fun hk => ?_, by omega, rfl⟩, ?_, hb.trans (hb2.mono hs)⟩
  · have := h.lt _ hk; omega
  · have := h.lt _ hk; omega
  · rintro k (rfl | rfl | hk)
    · omega
    · exact hs
    · exact hg k hk
set_option maxHeartbeats 800000 in
theorem CoreNew_ok (tag base : Int) (w : World) (ht : TagOk tag) (h : BaseOk base) : Calls Try.prog 60 #[.int .i64 tag, .int .i64 base] w (CorePost w tag ⟨base, -1, []⟩) := by
  have HP := Lib.hid (PolNew_ok tag base w ht h)
  clear ht h
  go_enter Try.func60, Try.ntmps60
  go_wp2_with (first
    | (go_at_call 14; refine HP.out.mono ?_; rintro e w1 ⟨p, F, rfl, hq, hF, hb⟩; have Hq := Lib.hid hq; have HF := Lib.hid hF; clear hq hF)
    | (go_at_call 63; refine (coreOf_ok _ _).mono ?_; rintro e w2 ⟨rfl, rfl⟩))
  go_ret2
  obtain ⟨F', h1, h2, h3⟩ := core_made Hq.out HF.out hb
  exact ⟨_, F', rfl, h1, h2, h3⟩
set_option maxHeartbeats 800000 in
theorem CoreNew_err (tag base : Int) (w : World) (h : ¬ (TagOk tag ∧ BaseOk base)) : Calls Try.prog 60 #[.int .i64 tag, .int .i64 base] w (NilPost w) := by
  have HP := Lib.hid (PolNew_err tag base w h)
  clear h
  go_enter Try.func60, Try.ntmps60
  go_wp2_with (first
    | (go_at_call 14; refine HP.out.mono ?_; rintro e w1 ⟨rfl, hb⟩)
    | (go_at_call 63; refine (coreOf_nil _).mono ?_; rintro e w2 ⟨rfl, rfl⟩))
  go_ret2
  exact ⟨rfl, hb⟩
set_option maxHeartbeats 800000 in
theorem CoreSeed_ok (tag : Int) (f : Fm) (n : Nat) (a : Option Addr) (c : Nat) (base : Int) (w : World) (hn : f.l.length = n) (hs : Sl It.enc 3 w a f.l) (ht : TagOk tag) (h : BaseOk base) (hg : goodF f = true) : Calls Try.prog 23 #[.int .i64 tag, .agg #[.int .i64 f.cur, .slice a n c], .int .i64 base] w (CorePost w tag (seedR f base)) := by
  have HP := Lib.hid (fun W (hW : Below w.heap.size w W) => PolSeed_ok tag f n a c base W hn (hs.below hW) ht h hg)
  clear ht h hs hn hg
  go_enter Try.func23, Try.ntmps23
  go_wp2_with (first
    | (go_at_call 15; refine (HP.out _ ((Below.refl _ _).alloc (Nat.le_refl _) _)).mono ?_; rintro e w1 ⟨p, F, rfl, hq, hF, hb⟩; have Hq := Lib.hid hq; have HF := Lib.hid hF; clear hq hF)
    | (go_at_call 63; refine (coreOf_ok _ _).mono ?_; rintro e w2 ⟨rfl, rfl⟩))
  go_ret2
  obtain ⟨F', h1, h2, h3⟩ := core_made (w := w) Hq.out (fun k hk => by have := HF.out k hk; simp at this; omega) (((Below.refl _ _).alloc (Nat.le_refl _) _).trans (hb.mono (by simp)))
  exact ⟨_, F', rfl, h1, h2, h3⟩
set_option maxHeartbeats 800000 in
theorem CoreSeed_err (tag : Int) (f : Fm) (n : Nat) (a : Option Addr) (c : Nat) (base : Int) (w : World) (hn : f.l.length = n) (hl : n ≤ 4611686018427387904) (hs : Sl It.enc 3 w a f.l) (h : ¬ (TagOk tag ∧ BaseOk base ∧ goodF f = true)) : Calls Try.prog 23 #[.int .i64 tag, .agg #[.int .i64 f.cur, .slice a n c], .int .i64 base] w (NilPost w) := by
  have HP := Lib.hid (fun W (hW : Below w.heap.size w W) => PolSeed_err tag f n a c base W hn hl (hs.below hW) h)
  clear h hs hn
  go_enter Try.func23, Try.ntmps23
  go_wp2_with (first
    | (go_at_call 15; refine (HP.out _ ((Below.refl _ _).alloc (Nat.le_refl _) _)).mono ?_; rintro e w1 ⟨rfl, hb⟩)
    | (go_at_call 63; refine (coreOf_nil _).mono ?_; rintro e w2 ⟨rfl, rfl⟩))
  go_ret2
  exact ⟨rfl, ((Below.refl _ _).alloc (Nat.le_refl _) _).trans (hb.mono (by simp))⟩
section
variable {w : World} {F : Nat → Prop} {c : Nat} {tag : Int} {S : Ln} {i a : Int} {K : Int}
set_option maxHeartbeats 400000 in
theorem CoreTag (h : Cm w F c tag S i a) : Calls Try.prog 25 #[.pointer (some ⟨c, 0, none⟩)] w fun e w' => e = .returned (.int .i64 tag) ∧ w = w' := by
  obtain ⟨p, G, r, es, cl, h1, h2, h3, h4⟩ := h
  obtain ⟨c0, c1, c2, c3, f0, f1, f2, f3, hlt⟩ := blk4 h1
  have H2 := Lib.hid h2
  clear h1 h2 h3 h4
  go_enter Try.func25, Try.ntmps25
  go_wp2_with (go_at_call 19; refine (PolTag H2.out).mono ?_; rintro e w3 ⟨rfl, rfl⟩)
  go_ret
  exact ⟨rfl, rfl⟩
set_option maxHeartbeats 400000 in
theorem CoreAge (h : Cm w F c tag S i a) : Calls Try.prog 27 #[.pointer (some ⟨c, 0, none⟩)] w fun e w' => e = .returned (.int .i64 a) ∧ w = w' := by
  obtain ⟨p, G, r, es, cl, h1, h2, h3, h4⟩ := h
  obtain ⟨c0, c1, c2, c3, f0, f1, f2, f3, hlt⟩ := blk4 h1
  clear h1 h2 h3 h4
  go_enter Try.func27, Try.ntmps27
  go_wp2
  go_ret
  exact ⟨rfl, rfl⟩
set_option maxHeartbeats 400000 in
theorem CoreIdle (h : Cm w F c tag S i a) : Calls Try.prog 62 #[.pointer (some ⟨c, 0, none⟩)] w fun e w' => e = .returned (.int .i64 i) ∧ w = w' := by
  obtain ⟨p, G, r, es, cl, h1, h2, h3, h4⟩ := h
  obtain ⟨c0, c1, c2, c3, f0, f1, f2, f3, hlt⟩ := blk4 h1
  clear h1 h2 h3 h4
  go_enter Try.func62, Try.ntmps62
  go_wp2
  go_ret
  exact ⟨rfl, rfl⟩
set_option maxHeartbeats 800000 in
theorem CoreForm (h : Cm w F c tag S i a) (ht : TagOk tag) (hk : OkS K S) : Calls Try.prog 26 #[.pointer (some ⟨c, 0, none⟩)] w (FormPost w S.cur (S.l.map (itOf S.base))) := by
  obtain ⟨p, G, r, es, cl, h1, h2, h3, h4⟩ := h
  obtain ⟨c0, c1, c2, c3, f0, f1, f2, f3, hlt⟩ := blk4 h1
  obtain ⟨b, TT, FN, hp, hmf, hef, HQ⟩ := h2.form ht hk
  obtain ⟨p0, p1, y0, y1, plt⟩ := blk2 hp
  have hnp : p ≠ w.heap.size := by omega
  clear h1 h2 h3 h4 hp
  go_enter Try.func26, Try.ntmps26
  go_wp2_with (go_at_fn FN; refine (HQ.out _ ((Below.refl _ _).alloc (Nat.le_refl _) _)).mono ?_; rintro e w1 ⟨a', c', rfl, ho, hb1⟩; rw [List.length_map] at ho; have hh := heap_below (heap_new w _) hb1; obtain ⟨g0, g1, u0, u1, gl⟩ := blk2 hh; have HH := Lib.hid hh; have Ho := Lib.hid ho; clear hh ho)
  have hno : (Value.slice a' S.l.length c').ownBlock ≠ some w.heap.size := fun e => by have := (Ho.out.lt _ e).1; simp at this; omega
  refine bodyPost_ret (res_c _ _ w.heap.size 30 #[.int .i64 S.cur, .slice a' S.l.length c'] (0, 0) _ rfl rfl (heap_set (heap_set HH.out _) _) Try.underlying30 rfl (by kernel_rfl)) rfl ⟨a', c', by rw [List.length_map], ?_, ?_⟩
  · rw [List.length_map]; exact own_base (own_set (own_set Ho.out hno) hno) (by simp)
  · exact (((((Below.refl _ _).alloc (Nat.le_refl _) _).trans (hb1.mono (by simp))).setCell (Nat.le_refl _) _).setCell (Nat.le_refl _) _)
/-- Behind a call of a core. -/
def CPost (w : World) (F : Nat → Prop) (c : Nat) (tag : Int) (S : Ln) (i a : Int) (w' : World) : Prop := ∃ F', Cm w' F' c tag S i a ∧ (∀ k, F' k → F k ∨ w.heap.size ≤ k) ∧ Fr F w w'
set_option maxHeartbeats 400000 in
theorem coreDone_ok {a0 a1 : Value} {T : TypeId} {p3 : Int} (h : w.heap[c]? = some (.cells #[a0, a1, .int .i64 i, .int .i64 p3] T (0, 0))) (hb : 0 ≤ p3 ∧ p3 ≤ 4611686018427387904) : Calls Try.prog 95 #[.pointer (some ⟨c, 0, none⟩), .int .i64 0] w fun e w' => e = .returned (.int .i64 0) ∧ w' = w.setCell ⟨c, 3, none⟩ (.int .i64 (p3 + 1)) := by
  obtain ⟨c0, c1, c2, c3, f0, f1, f2, f3, hlt⟩ := blk4 h
  have hw : IntKind.i64.wrap (p3 + 1) = p3 + 1 := IntWalk.i64_in _ (by omega)
  clear h
  go_enter Try.func95, Try.ntmps95
  go_wp2
  go_ret
  exact ⟨rfl, rfl⟩
set_option maxHeartbeats 1600000 in
/-- A tick that nobody runs. -/
theorem CoreRun_idle {S' : Ln} {v : Int} (h : Cm w F c tag S i a) (hi : 0 ≤ i ∧ i ≤ 4611686018427387904) (ha : 0 ≤ a ∧ a ≤ 4611686018427387904)
    (HR : ∀ G p, Pm w G p tag S → Calls Try.prog 48 #[.pointer (some ⟨p, 0, none⟩)] w fun e w' => e = .returned (.tuple #[.int .i64 v, .int .i64 14]) ∧ PQPost w G p tag S' w') :
    Calls Try.prog 61 #[.pointer (some ⟨c, 0, none⟩)] w fun e w' => e = .returned (.tuple #[.int .i64 (-1), .int .i64 0]) ∧ CPost w F c tag S' (i + 1) (a + 1) w' := by
  obtain ⟨p, G, r, es, cl, h1, h2, h3, h4, h5, h6, rfl⟩ := h
  obtain ⟨c0, c1, c2, c3, f0, f1, f2, f3, hlt⟩ := blk4 h1
  have H1 := Lib.hid h1
  have H2 := Lib.hid h2
  have H3 := Lib.hid h3
  have H4 := Lib.hid h4
  have H5 := Lib.hid h5
  have H6 := Lib.hid h6
  have HR2 := Lib.hid (HR G p h2)
  have hw : IntKind.i64.wrap (i + 1) = i + 1 := IntWalk.i64_in _ (by omega)
  clear h1 h2 h3 h4 h5 h6 HR
  go_enter Try.func61, Try.ntmps61
  go_wp2_with (first
    | (go_at_call 48; refine HR2.out.mono ?_; rintro e w1 ⟨rfl, F1, hq1, hs1, hf1⟩
       have hh := heap_fr H1.out hf1 H4.out
       obtain ⟨c0, c1, c2, c3, f0, f1, f2, f3, hlt⟩ := blk4 hh
       have HH := Lib.hid hh
       have Hq1 := Lib.hid hq1
       have Hs1 := Lib.hid hs1
       have Hf1 := Lib.hid hf1
       clear hh hq1 hs1 hf1)
    | (go_at_call 95; refine (coreDone_ok (heap_set HH.out _) ha).mono ?_; rintro e w2 ⟨rfl, rfl⟩))
  go_ret2
  have hc1 : ¬ F1 c := fun hk => by
    rcases Hs1.out c hk with h | h
    · exact H4.out h
    · have := (Array.getElem?_eq_some_iff.1 H1.out).1; omega
  have hr1 : ¬ F1 r := fun hk => by
    rcases Hs1.out r hk with h | h
    · exact H5.out h
    · have := (Array.getElem?_eq_some_iff.1 H3.out).1; omega
  have hfr : Fr (fun k => k = c) w1 ((w1.setCell ⟨c, 2, none⟩ (.int .i64 (i + 1))).setCell ⟨c, 3, none⟩ (.int .i64 (a + 1))) := ((Fr.refl (fun k => k = c) w1).setCell (p := ⟨c, 2, none⟩) (fun _ => rfl) _).setCell (p := ⟨c, 3, none⟩) (fun _ => rfl) _
  refine ⟨rfl, _, ⟨p, F1, r, es, cl, heap_set (heap_set HH.out _) _, Hq1.out.fr hfr (fun k hk e => by subst e; exact hc1 hk), heap_fr (heap_fr H3.out Hf1.out H5.out) hfr (fun e => H6.out e.symm), hc1, hr1, H6.out, rfl⟩, ?_, ?_⟩
  · rintro k (rfl | rfl | hk)
    · exact .inl (.inl rfl)
    · exact .inl (.inr (.inl rfl))
    · rcases Hs1.out k hk with h | h
      · exact .inl (.inr (.inr h))
      · exact .inr h
  · exact (Hf1.out.mono fun k _ h => .inr (.inr h)).trans hfr (fun k _ h => .inl h)
set_option maxHeartbeats 3200000 in
set_option maxRecDepth 100000 in
theorem CoreChange {H : Nat → Prop} {p2 : Nat} {tag2 : Int} {S2 : Ln} {K2 : Int} (h : Cm w F c tag S i a) (hq : Pm w H p2 tag2 S2) (ht : TagOk tag) (ht2 : TagOk tag2) (hk : OkS K S) (hk2 : OkS K2 S2) (hd : ∀ k, H k → ¬ F k) {r : Bool} (hr : decide (formR S2 = formR S) = r) :
    Calls Try.prog 24 #[.pointer (some ⟨c, 0, none⟩), .pointer (some ⟨p2, 0, none⟩)] w fun e w' => e = .returned (.int .i64 (if r = true then 0 else 4)) ∧
      (r = false → Below w.heap.size w w') ∧ (r = true → (∃ F', Cm w' F' c tag2 S2 i a ∧ ∀ k, F' k → F k ∨ H k) ∧ Fr F w w') := by
  obtain ⟨p, G, rr, es, cl, h1, h2, h3, h4, h5, h6, rfl⟩ := h
  obtain ⟨c0, c1, c2, c3, f0, f1, f2, f3, hlt⟩ := blk4 h1
  obtain ⟨b, TT, FN, hp, hmf, hef, HQ⟩ := h2.form ht hk
  obtain ⟨b2, TT2, FN2, hp2, hmf2, hef2, HQ2⟩ := hq.form ht2 hk2
  obtain ⟨p0, p1, y0, y1, plt⟩ := blk2 hp
  obtain ⟨q0, q1, z0, z1, qlt⟩ := blk2 hp2
  have H1 := Lib.hid h1
  have HP := Lib.hid hp
  have HP2 := Lib.hid hp2
  have H3 := Lib.hid h3
  have Hq := Lib.hid hq
  have Hd := Lib.hid hd
  have H6 := Lib.hid h6
  have Hr := Lib.hid hr
  have hl1 : (S.l.map (itOf S.base)).length ≤ 64 := by rw [List.length_map]; exact hk.len
  have hl2 : (S2.l.map (itOf S2.base)).length ≤ 64 := by rw [List.length_map]; exact hk2.len
  generalize hL1 : S.l.map (itOf S.base) = L1 at HQ hl1
  generalize hL2 : S2.l.map (itOf S2.base) = L2 at HQ2 hl2
  have hrr : decide (Fm.mk S2.cur L2 = Fm.mk S.cur L1) = r := by rw [← hL1, ← hL2]; exact hr
  have Hrr := Lib.hid hrr
  clear h1 h2 h3 h4 h5 h6 hp hp2 hq hd hr hL1 hL2 hrr
  have hcur := (Below.refl w.heap.size w).drew
  cases r with
  | false =>
    go_enter Try.func24, Try.ntmps24
    go_wp2_with fail
    refine wp_region_chain 28 [(0, none), (1, none), (2, none), (3, none), (5, none), (6, none), (7, none), (8, none), (9, none), (10, none), (11, none), (4, some [5, 6, 7, 8, 9, 10, 11]), (12, some []), (13, some []), (14, none), (15, none)] (by kernel_rfl) (by kernel_rfl) (by rfl) ?_; simp only [chain, Obs, List.getElem?_toArray, List.getElem?_cons_zero, List.getElem?_cons_succ]
    go_wp2_with (first
      | (with_reducible refine And.intro (by first | with_reducible exact True.intro | with_reducible rfl | go_simp) ?_)
      | (go_at_fn FN2; refine (HQ2.out _ hcur).mono ?_; rintro e w1 ⟨a1, k1, rfl, ho1, hb⟩; have hcur := hcur.trans (hb.mono hcur.size); obtain ⟨c0, c1, c2, c3, f0, f1, f2, f3, hlt⟩ := blk4 (heap_below H1.out hcur); obtain ⟨p0, p1, y0, y1, plt⟩ := blk2 (heap_below HP.out hcur); have Hs1 := Lib.hid (Sl.of_own It.len ho1); clear ho1)
      | (go_at_fn FN; refine (HQ.out _ hcur).mono ?_; rintro e w2 ⟨a2, k2, rfl, ho2, hb⟩; have hcur := hcur.trans (hb.mono hcur.size); have Hs2 := Lib.hid (Sl.of_own It.len ho2); have Hs1 := Lib.hid (Hs1.out.below hb); clear ho2)
      | (go_at_call 21; refine (SameF_any S2.cur S.cur L2 L1 _ _ a1 a2 k1 k2 _ rfl rfl (by omega) (by omega) Hs1.out Hs2.out Hrr.out).mono ?_; rintro e w5 ⟨rfl, hb⟩; have hcur := hcur.trans (hb.mono hcur.size)))
    refine NoPanic.normal ?_
    go_wp2_with fail
    go_ret
    first | exact ⟨rfl, hcur⟩ | exact ⟨rfl, fun _ => hcur, fun h => (by cases h)⟩
  | true =>
    go_enter Try.func24, Try.ntmps24
    go_wp2_with fail
    refine wp_region_chain 28 [(0, none), (1, none), (2, none), (3, none), (5, none), (6, none), (7, none), (8, none), (9, none), (10, none), (11, none), (4, some [5, 6, 7, 8, 9, 10, 11]), (12, some []), (13, some []), (14, none), (15, none)] (by kernel_rfl) (by kernel_rfl) (by rfl) ?_; simp only [chain, Obs, List.getElem?_toArray, List.getElem?_cons_zero, List.getElem?_cons_succ]
    go_wp2_with (first
      | (with_reducible refine And.intro (by first | with_reducible exact True.intro | with_reducible rfl | go_simp) ?_)
      | (go_at_fn FN2; refine (HQ2.out _ hcur).mono ?_; rintro e w1 ⟨a1, k1, rfl, ho1, hb⟩; have hcur := hcur.trans (hb.mono hcur.size); obtain ⟨c0, c1, c2, c3, f0, f1, f2, f3, hlt⟩ := blk4 (heap_below H1.out hcur); obtain ⟨p0, p1, y0, y1, plt⟩ := blk2 (heap_below HP.out hcur); have Hs1 := Lib.hid (Sl.of_own It.len ho1); clear ho1)
      | (go_at_fn FN; refine (HQ.out _ hcur).mono ?_; rintro e w2 ⟨a2, k2, rfl, ho2, hb⟩; have hcur := hcur.trans (hb.mono hcur.size); have Hs2 := Lib.hid (Sl.of_own It.len ho2); have Hs1 := Lib.hid (Hs1.out.below hb); clear ho2)
      | (go_at_call 21; refine (SameF_any S2.cur S.cur L2 L1 _ _ a1 a2 k1 k2 _ rfl rfl (by omega) (by omega) Hs1.out Hs2.out Hrr.out).mono ?_; rintro e w5 ⟨rfl, hb⟩; have hcur := hcur.trans (hb.mono hcur.size); have hh := heap_below H1.out hcur; obtain ⟨c0, c1, c2, c3, f0, f1, f2, f3, hlt⟩ := blk4 hh; have HH := Lib.hid hh; clear hh))
    refine NoPanic.normal ?_
    go_wp2_with fail
    go_ret
    have hcF : ¬ H c := fun hk => Hd.out c hk (.inl rfl)
    have hrF : ¬ H rr := fun hk => Hd.out rr hk (.inr (.inl rfl))
    have hfr : Fr (fun k => k = c) w5 (w5.setCell ⟨c, 0, none⟩ (.pointer (some ⟨p2, 0, none⟩))) := (Fr.refl (fun k => k = c) w5).setCell (p := ⟨c, 0, none⟩) (fun _ => rfl) _
    refine ⟨rfl, ⟨⟨_, ⟨p2, H, rr, es, cl, heap_set HH.out _, (Hq.out.below hcur).fr hfr (fun k hk e => by subst e; exact hcF hk), heap_fr (heap_below H3.out hcur) hfr (fun e => H6.out e.symm), hcF, hrF, H6.out, rfl⟩, ?_⟩, ?_⟩⟩
    · rintro k (rfl | rfl | hk)
      · exact .inl (.inl rfl)
      · exact .inl (.inr (.inl rfl))
      · exact .inr hk
    · exact (Fr.of_below hcur).trans hfr (fun k _ h => .inl h)
end
end Go.Proofs.Ytmhdebkiepfgiaa
