/- Package core's calls, in the plain model's words. -/
import Derived.Test.YtlgkkolgdjgclaaGreatCorM
import Derived.Test.YtlgkkolgdjgclaaGreatK
namespace Go.Proofs.YtlgkkolgdjgclaaGreat
open Go.RowKit
set_option linter.unusedVariables false
set_option linter.unusedSimpArgs false

/-- What a call that makes a core leaves. -/
def CorPost (w : World) (tag : Int) (S : Ln) (e : Ending) (w' : World) : Prop :=
  ∃ c p b r F, e = .returned (.tuple #[.pointer (some ⟨c, 0, none⟩), .int .i64 0]) ∧ CSt w w' F c p b r ⟨tag, S, fun _ => 0, 0, 0, 0⟩ ∧ Below w.heap.size w w'
theorem CorPost.st {w0 w w' : World} {tag : Int} {S : Ln} {e : Ending} (h : CorPost w tag S e w') (hb : Below w0.heap.size w0 w) :
    ∃ c p b r F, e = .returned (.tuple #[.pointer (some ⟨c, 0, none⟩), .int .i64 0]) ∧ CSt w0 w' F c p b r ⟨tag, S, fun _ => 0, 0, 0, 0⟩ ∧ (∀ k, cfoot F c p r k → w.heap.size ≤ k) ∧ Below w.heap.size w w' := by
  obtain ⟨c, p, b, r, F, rfl, hc, hb2⟩ := h
  have hs := hb.size
  have hn := hc.new
  refine ⟨c, p, b, r, F, rfl, ⟨hc.cell, ⟨hc.pol.cell, hc.pol.q, hc.pol.apart, Nat.le_trans hs hc.pol.newp, fun k hk => Nat.le_trans hs (hc.pol.new k hk), hb.trans (hb2.mono hs)⟩, hc.map, hc.cF, hc.rF, hc.cp, hc.rp, hc.cr, Nat.le_trans hs hc.newc, Nat.le_trans hs hc.newr⟩, hn, hb2⟩
set_option maxHeartbeats 400000 in
theorem corOf_ok (p : Nat) (w : World) : Calls Tryz.prog 74 #[.pointer (some ⟨p, 0, none⟩), .int .i64 0] w fun e w' => e = .returned (.tuple #[.pointer (some ⟨w.heap.size + 1, 0, none⟩), .int .i64 0]) ∧
    w' = (w.alloc (.map #[] 0)).alloc (.cells #[.pointer (some ⟨p, 0, none⟩), .map (some w.heap.size), .int .i64 0, .int .i64 0] 96) := by
  have hmk : ∀ w, (Instr.makeMap 94 none).run Tryz.prog w = .ok (.map (some w.heap.size)) (w.alloc (.map #[] 0)) := fun w => run_makeMap _ w
  go_enter Tryz.func74, Tryz.ntmps74
  go_wp2
  go_ret2
  exact ⟨rfl, rfl⟩
set_option maxHeartbeats 400000 in
theorem corOf_nil (w : World) : Calls Tryz.prog 74 #[.pointer none, .int .i64 1] w fun e w' => e = .returned (.tuple #[.pointer none, .int .i64 1]) ∧ w = w' := by
  go_enter Tryz.func74, Tryz.ntmps74
  go_wp2
  go_ret2
  exact ⟨rfl, rfl⟩
theorem cor_made {w w1 : World} {p : Nat} {G : Nat → Prop} {S : Ln} {tag : Int} (h : Pm w1 G p tag S) (hg : ∀ k, G k → w.heap.size ≤ k) (hb : Below w.heap.size w w1) :
    ∃ b F, CSt w ((w1.alloc (.map #[] 0)).alloc (.cells #[.pointer (some ⟨p, 0, none⟩), .map (some w1.heap.size), .int .i64 0, .int .i64 0] 96)) F (w1.heap.size + 1) p b w1.heap.size ⟨tag, S, fun _ => 0, 0, 0, 0⟩ ∧
      Below w.heap.size w ((w1.alloc (.map #[] 0)).alloc (.cells #[.pointer (some ⟨p, 0, none⟩), .map (some w1.heap.size), .int .i64 0, .int .i64 0] 96)) := by
  have hs := hb.size
  obtain ⟨b, F, hp, hF⟩ := h.st hg hb
  have hb2 : Below w1.heap.size w1 ((w1.alloc (.map #[] 0)).alloc (.cells #[.pointer (some ⟨p, 0, none⟩), .map (some w1.heap.size), .int .i64 0, .int .i64 0] 96)) := ((Below.refl _ _).alloc (Nat.le_refl _) _).alloc (by simp) _
  have hpl := hp.plt
  have hlt := hp.lt
  refine ⟨b, F, ⟨heap_at (by simp) _, hp.below hb2, (MapI.made w1).below ((Below.refl _ _).alloc (Nat.le_refl _) _), fun hk => ?_, fun hk => ?_, by omega, by omega, by omega, by omega, hs⟩, hb.trans (hb2.mono hs)⟩
  · have := hlt _ hk; omega
  · have := hlt _ hk; omega
set_option maxHeartbeats 800000 in
theorem CorNew_ok (tag base : Int) (w : World) (ht : TagOk tag) (h : BaseOk base) : Calls Tryz.prog 52 #[.int .i64 tag, .int .i64 base] w (CorPost w tag ⟨base, -1, []⟩) := by
  have HP := Lib.hid (PolNew_ok tag base w ht h)
  clear ht h
  go_enter Tryz.func52, Tryz.ntmps52
  go_wp2_with (first
    | (go_at_call 63; refine HP.out.mono ?_; rintro e w1 ⟨p, F, rfl, hq, hF, hb⟩; have Hq := Lib.hid hq; have HF := Lib.hid hF; clear hq hF)
    | (go_at_call 74; refine (corOf_ok _ _).mono ?_; rintro e w2 ⟨rfl, rfl⟩))
  go_ret2
  obtain ⟨b, F', h1, h2⟩ := cor_made Hq.out HF.out hb
  exact ⟨_, _, b, _, F', rfl, h1, h2⟩
set_option maxHeartbeats 800000 in
theorem CorNew_err (tag base : Int) (w : World) (h : ¬ (TagOk tag ∧ BaseOk base)) : Calls Tryz.prog 52 #[.int .i64 tag, .int .i64 base] w (NilPost w) := by
  have HP := Lib.hid (PolNew_err tag base w h)
  clear h
  go_enter Tryz.func52, Tryz.ntmps52
  go_wp2_with (first
    | (go_at_call 63; refine HP.out.mono ?_; rintro e w1 ⟨rfl, hb⟩)
    | (go_at_call 74; refine (corOf_nil _).mono ?_; rintro e w2 ⟨rfl, rfl⟩))
  go_ret2
  exact ⟨rfl, hb⟩
section
variable {w0 w : World} {F : Nat → Prop} {c p b r : Nat} {s : CoreS} {B : Nat} {K : Int}
set_option maxHeartbeats 400000 in
theorem CorTag (h : CSt w0 w F c p b r s) : Calls Tryz.prog 15 #[.pointer (some ⟨c, 0, none⟩)] w fun e w' => e = .returned (.int .i64 s.tag) ∧ w = w' := by
  obtain ⟨c0, c1, c2, c3, f0, f1, f2, f3, hlt⟩ := blk4 h.cell
  have H2 := Lib.hid h.pol.pm
  clear h
  go_enter Tryz.func15, Tryz.ntmps15
  go_wp2_with (go_at_call 38; refine (PolTag H2.out).mono ?_; rintro e w3 ⟨rfl, rfl⟩)
  go_ret
  exact ⟨rfl, rfl⟩
set_option maxHeartbeats 400000 in
theorem CorAge (h : CSt w0 w F c p b r s) : Calls Tryz.prog 31 #[.pointer (some ⟨c, 0, none⟩)] w fun e w' => e = .returned (.int .i64 s.age) ∧ w = w' := by
  obtain ⟨c0, c1, c2, c3, f0, f1, f2, f3, hlt⟩ := blk4 h.cell
  clear h
  go_enter Tryz.func31, Tryz.ntmps31
  go_wp2
  go_ret
  exact ⟨rfl, rfl⟩
set_option maxHeartbeats 800000 in
theorem CorForm (h : CSt w0 w F c p b r s) (ht : TagOk s.tag) (hk : OkS K s.q) : Calls Tryz.prog 19 #[.pointer (some ⟨c, 0, none⟩)] w (FormPost w s.q.cur (s.q.l.map (itOf s.q.base))) := by
  obtain ⟨c0, c1, c2, c3, f0, f1, f2, f3, hlt⟩ := blk4 h.cell
  obtain ⟨FN, hmf, hef, HQ0⟩ := ifForm s.tag ht b
  obtain ⟨p0, p1, y0, y1, plt⟩ := blk2 h.pol.cell
  have HQ := Lib.hid (HQ0.out (h.below ((Below.refl _ _).alloc (Nat.le_refl _) (.cells #[.int .i64 0, .slice none 0 0] 41))).pol.q hk)
  have hnp : p ≠ w.heap.size := by omega
  clear h ht hk HQ0
  generalize s.q.l.length = sl at HQ
  go_enter Tryz.func19, Tryz.ntmps19
  go_wp2_with (go_at_fn FN; refine HQ.out.mono ?_; rintro e w1 ⟨a', c', rfl, ho, hb1⟩; rw [List.length_map] at ho; have hh := heap_below (heap_new w _) hb1; obtain ⟨g0, g1, u0, u1, gl⟩ := blk2 hh; have HH := Lib.hid hh; have Ho := Lib.hid ho; clear hh ho)
  have hno : (Value.slice a' s.q.l.length c').ownBlock ≠ some w.heap.size := fun e => by have := (Ho.out.lt _ e).1; simp at this; omega
  refine bodyPost_ret (res_c _ _ w.heap.size 41 #[.int .i64 s.q.cur, .slice a' s.q.l.length c'] (0, 0) _ rfl rfl (heap_set (heap_set HH.out _) _) Tryz.underlying41 rfl (by kernel_rfl)) rfl ⟨a', c', by rw [List.length_map], ?_, ?_⟩
  · rw [List.length_map]; exact own_base (own_set (own_set Ho.out hno) hno) (by simp)
  · exact (((((Below.refl _ _).alloc (Nat.le_refl _) _).trans (hb1.mono (by simp))).setCell (Nat.le_refl _) _).setCell (Nat.le_refl _) _)
set_option maxHeartbeats 400000 in
theorem CorDone (h : CSt w0 w F c p b r s) (ha : 0 ≤ s.age ∧ s.age ≤ 4611686018427387904) (x : Int) : Calls Tryz.prog 65 #[.pointer (some ⟨c, 0, none⟩), .int .i64 x] w fun e w' => e = .returned (.int .i64 x) ∧ CSt w0 w' F c p b r (s.done x) ∧ Fr (fun k => k = c) w w' := by
  obtain ⟨c0, c1, c2, c3, f0, f1, f2, f3, hlt⟩ := blk4 h.cell
  have H := Lib.hid h
  clear h
  by_cases h0 : x = 0
  · subst h0
    have hw : IntKind.i64.wrap (s.age + 1) = s.age + 1 := IntWalk.i64_in _ (by omega)
    go_enter Tryz.func65, Tryz.ntmps65
    go_wp2
    go_ret
    exact ⟨rfl, by unfold CoreS.done; rw [if_pos rfl]; exact H.out.setAge _, (Fr.refl (fun k => k = c) w).setCell (p := ⟨c, 3, none⟩) (fun _ => rfl) _⟩
  · have hb : (x == 0) = false := by simpa using h0
    have hb2 : (x != 0) = true := by simpa using h0
    have H0 := Lib.hid h0
    clear h0
    go_enter Tryz.func65, Tryz.ntmps65
    go_wp2
    go_ret
    exact ⟨rfl, by unfold CoreS.done; rw [if_neg H0.out]; exact H.out, Fr.refl _ _⟩
set_option maxHeartbeats 1600000 in
theorem CorEnter (h : CSt w0 w F c p b r s) (hk : CoreOk B K s) (hB : B ≤ 1000000000) (hK : K ≤ 1151795604700004352) (id tw lag : Int) (exact : Bool) {x : Int} (hx : mayE s.q.l id tw lag = x) :
    Calls Tryz.prog 79 #[.pointer (some ⟨c, 0, none⟩), .int .i64 id, .int .i64 tw, .int .i64 lag, .bool exact] w fun e w' => e = .returned (.int .i64 x) ∧ CNext w0 w F c p b r (s.enter id tw lag exact) w' := by
  obtain ⟨c0, c1, c2, c3, f0, f1, f2, f3, hlt⟩ := blk4 h.cell
  obtain ⟨p0, p1, y0, y1, plt⟩ := blk2 h.pol.cell
  have ha0 := hk.age0
  have ha1 := hk.age1
  have H := Lib.hid h
  have hrest : CoreS.enter s id tw lag exact = ({ s with q := if exact = true then putR s.q id tw lag else enterR (heldT s.tag) s.q id tw lag } : CoreS).done x := by rw [← hx]; rfl
  rw [hrest]
  cases exact with
  | true =>
    obtain ⟨FN, mN, eN, cN⟩ := ifPut s.tag hk.tag b
    have HC := Lib.hid (cN.out h.pol hk.ok hK id tw lag x hx)
    clear h hk hx hrest cN
    go_enter Tryz.func79, Tryz.ntmps79
    go_wp2_with (first
      | (go_at_fn FN; refine HC.out.mono ?_; rintro e w1 ⟨rfl, hn⟩; obtain ⟨F1, hc1, hf1, hs1⟩ := H.out.pnext hn; have Hc1 := Lib.hid hc1; have Hf1 := Lib.hid hf1; have Hs1 := Lib.hid hs1; clear hc1 hf1 hs1 hn)
      | (go_at_call 65; refine (CorDone Hc1.out ⟨ha0, by simp only; omega⟩ x).mono ?_; rintro e w2 ⟨rfl, hd, hf2⟩; have Hd := Lib.hid hd; have Hf2 := Lib.hid hf2; clear hd hf2))
    go_ret
    exact ⟨rfl, _, Hd.out, Hf1.out.trans Hf2.out (fun k _ e => .inr (.inl e)), Hs1.out⟩
  | false =>
    obtain ⟨FN, mN, eN, cN⟩ := ifEnter s.tag hk.tag b
    have HC := Lib.hid (cN.out h.pol hk.ok hK id tw lag x hx)
    clear h hk hx hrest cN
    go_enter Tryz.func79, Tryz.ntmps79
    go_wp2_with (first
      | (go_at_fn FN; refine HC.out.mono ?_; rintro e w1 ⟨rfl, hn⟩; obtain ⟨F1, hc1, hf1, hs1⟩ := H.out.pnext hn; have Hc1 := Lib.hid hc1; have Hf1 := Lib.hid hf1; have Hs1 := Lib.hid hs1; clear hc1 hf1 hs1 hn)
      | (go_at_call 65; refine (CorDone Hc1.out ⟨ha0, by simp only; omega⟩ x).mono ?_; rintro e w2 ⟨rfl, hd, hf2⟩; have Hd := Lib.hid hd; have Hf2 := Lib.hid hf2; clear hd hf2))
    go_ret
    exact ⟨rfl, _, Hd.out, Hf1.out.trans Hf2.out (fun k _ e => .inr (.inl e)), Hs1.out⟩
set_option maxHeartbeats 1600000 in
theorem CorLeave (h : CSt w0 w F c p b r s) (hk : CoreOk B K s) (hB : B ≤ 1000000000) (id : Int) {S' : Ln} {v x : Int} (hx : leaveR s.q id = (S', v, x)) :
    Calls Tryz.prog 92 #[.pointer (some ⟨c, 0, none⟩), .int .i64 id] w fun e w' => e = .returned (.tuple #[.int .i64 v, .int .i64 x]) ∧ CNext w0 w F c p b r (s.leave id) w' := by
  obtain ⟨c0, c1, c2, c3, f0, f1, f2, f3, hlt⟩ := blk4 h.cell
  obtain ⟨p0, p1, y0, y1, plt⟩ := blk2 h.pol.cell
  have ha0 := hk.age0
  have ha1 := hk.age1
  have H := Lib.hid h
  have hrest : CoreS.leave s id = ({ s with q := S' } : CoreS).done x := by unfold CoreS.leave; rw [hx]
  rw [hrest]
  obtain ⟨FN, mN, eN, cN⟩ := ifLeave s.tag hk.tag b
  have HC := Lib.hid (cN.out h.pol hk.ok id S' v x hx)
  clear h hk hx hrest cN
  go_enter Tryz.func92, Tryz.ntmps92
  go_wp2_with (first
    | (go_at_fn FN; refine HC.out.mono ?_; rintro e w1 ⟨rfl, hn⟩; obtain ⟨F1, hc1, hf1, hs1⟩ := H.out.pnext hn; have Hc1 := Lib.hid hc1; have Hf1 := Lib.hid hf1; have Hs1 := Lib.hid hs1; clear hc1 hf1 hs1 hn)
    | (go_at_call 65; refine (CorDone Hc1.out ⟨ha0, by simp only; omega⟩ x).mono ?_; rintro e w2 ⟨rfl, hd, hf2⟩; have Hd := Lib.hid hd; have Hf2 := Lib.hid hf2; clear hd hf2))
  go_ret2
  exact ⟨rfl, _, Hd.out, Hf1.out.trans Hf2.out (fun k _ e => .inr (.inl e)), Hs1.out⟩
set_option maxHeartbeats 3200000 in
set_option maxRecDepth 100000 in
theorem CorRun (h : CSt w0 w F c p b r s) (hk : CoreOk B K s) (hB : B ≤ 1000000000) {s' : CoreS} {v x : Int} (hx : s.run = (s', v, x)) (hv : -9223372036854775808 ≤ s.ran.2.1 ∧ s.ran.2.1 ≤ 9223372036854775807) :
    Calls Tryz.prog 45 #[.pointer (some ⟨c, 0, none⟩)] w fun e w' => e = .returned (.tuple #[.int .i64 v, .int .i64 x]) ∧ CNext w0 w F c p b r s' w' := by
  obtain ⟨c0, c1, c2, c3, f0, f1, f2, f3, hlt⟩ := blk4 h.cell
  have ha0 := hk.age0
  have ha1 := hk.age1
  have hi0 := hk.idle0
  have hi1 := hk.idle1
  have hn1 := hk.n1
  have hcr := h.cr
  have H := Lib.hid h
  obtain ⟨S1, v1, r1, e1⟩ : ∃ S1 v1 r1, pickT s.tag s.q = (S1, v1, r1) := ⟨_, _, _, rfl⟩
  obtain ⟨S2, v2, x2, e2⟩ : ∃ S2 v2 x2, chargeR S1 = (S2, v2, x2) := ⟨_, _, _, rfl⟩
  have hran : s.ran = (S2, v2, x2) := by unfold CoreS.ran; rw [e1]; exact e2
  have HP := Lib.hid (PolRunT h.pol hk.tag hk.ok e1 e2)
  rw [hran] at hv
  simp only at hv
  have hsv0 := hk.sv0 v2
  have hsv1 := hk.sv1 v2
  unfold CoreS.run at hx
  rw [hran] at hx
  simp only at hx
  by_cases h0 : x2 = 0
  · subst h0
    rw [if_pos rfl] at hx
    simp only [Prod.mk.injEq] at hx
    obtain ⟨rfl, rfl, rfl⟩ := hx
    have hw : IntKind.i64.wrap (s.sv v2 + 1) = s.sv v2 + 1 := IntWalk.i64_in _ (by omega)
    clear h hk hran e1 e2
    go_enter Tryz.func45, Tryz.ntmps45
    go_wp2_with (first
      | (go_at_call 64; refine HP.out.mono ?_; rintro e w1 ⟨rfl, hn⟩; obtain ⟨F1, hc1, hf1, hs1⟩ := H.out.pnext hn; obtain ⟨c0, c1, c2, c3, f0, f1, f2, f3, hlt⟩ := blk4 hc1.cell; have Hc1 := Lib.hid hc1; have Hf1 := Lib.hid hf1; have Hs1 := Lib.hid hs1; clear hc1 hf1 hs1 hn)
      | (at_lookup; refine wpList_lookI _ rfl _ _ rfl r _ _ rfl Hc1.out.map v2 rfl hv ?_)
      | (at_mapUpdate; refine wpList_putI _ rfl _ _ _ rfl r _ _ rfl Hc1.out.map (show s.n < maxLen by unfold maxLen; omega) v2 (s.sv v2 + 1) rfl (by first | rfl | simp only [hw]) hv (by omega) ?_; intro w2 hm2 hf2; have Hc2 := Lib.hid (Hc1.out.setMap hf2 hm2); have Hf2 := Lib.hid hf2; clear hm2 hf2)
      | (go_at_call 65; refine (CorDone Hc2.out ⟨ha0, by simp only; omega⟩ 0).mono ?_; rintro e w3 ⟨rfl, hd, hf3⟩; have Hd := Lib.hid hd; have Hf3 := Lib.hid hf3; clear hd hf3))
    go_ret2
    exact ⟨rfl, _, Hd.out, (Hf1.out.trans Hf2.out (fun k _ e => .inr (.inr e))).trans Hf3.out (fun k _ e => .inr (.inl e)), Hs1.out⟩
  · by_cases h14 : x2 = 14
    · subst h14
      rw [if_neg (by decide), if_pos rfl] at hx
      simp only [Prod.mk.injEq] at hx
      obtain ⟨rfl, rfl, rfl⟩ := hx
      have hw : IntKind.i64.wrap (s.idle + 1) = s.idle + 1 := IntWalk.i64_in _ (by omega)
      clear h hk hran e1 e2 h0
      go_enter Tryz.func45, Tryz.ntmps45
      go_wp2_with (first
        | (go_at_call 64; refine HP.out.mono ?_; rintro e w1 ⟨rfl, hn⟩; obtain ⟨F1, hc1, hf1, hs1⟩ := H.out.pnext hn; obtain ⟨c0, c1, c2, c3, f0, f1, f2, f3, hlt⟩ := blk4 hc1.cell; have Hc1 := Lib.hid hc1; have Hf1 := Lib.hid hf1; have Hs1 := Lib.hid hs1; clear hc1 hf1 hs1 hn)
        | (go_at_call 65; refine (CorDone (Hc1.out.setIdle (s.idle + 1)) ⟨ha0, by simp only; omega⟩ 0).mono ?_; rintro e w3 ⟨rfl, hd, hf3⟩; have Hd := Lib.hid hd; have Hf3 := Lib.hid hf3; clear hd hf3))
      go_ret2
      exact ⟨rfl, _, Hd.out, (Hf1.out.setCell (p := ⟨c, 2, none⟩) (fun _ => .inr (.inl rfl)) _).trans Hf3.out (fun k _ e => .inr (.inl e)), Hs1.out⟩
    · rw [if_neg h0, if_neg h14] at hx
      simp only [Prod.mk.injEq] at hx
      obtain ⟨rfl, rfl, rfl⟩ := hx
      have b0 : (x2 == 0) = false := by simpa using h0
      have b14 : (x2 == 14) = false := by simpa using h14
      have H0 := Lib.hid h0
      clear h hk hran e1 e2 h0 h14
      go_enter Tryz.func45, Tryz.ntmps45
      go_wp2_with (first
        | (go_at_call 64; refine HP.out.mono ?_; rintro e w1 ⟨rfl, hn⟩; obtain ⟨F1, hc1, hf1, hs1⟩ := H.out.pnext hn; have Hc1 := Lib.hid hc1; have Hf1 := Lib.hid hf1; have Hs1 := Lib.hid hs1; clear hc1 hf1 hs1 hn)
        | (go_at_call 65; refine (CorDone Hc1.out ⟨ha0, by simp only; omega⟩ x2).mono ?_; rintro e w3 ⟨rfl, hd, hf3⟩; unfold CoreS.done at hd; rw [if_neg H0.out] at hd; have Hd := Lib.hid hd; have Hf3 := Lib.hid hf3; clear hd hf3))
      go_ret2
      exact ⟨rfl, _, Hd.out, Hf1.out.trans Hf3.out (fun k _ e => .inr (.inl e)), Hs1.out⟩
theorem fieldForm (W : World) (cu : Int) (a : Option Addr) (n k : Nat) : (Instr.field 41 (.agg #[.int .i64 cu, .slice a n k]) 1).run Tryz.prog W = .ok (.slice a n k) W := by kernel_rfl
set_option maxHeartbeats 1600000 in
set_option maxRecDepth 100000 in
theorem CorLoad (h : CSt w0 w F c p b r s) (ht : TagOk s.tag) (hk : OkS K s.q) : Calls Tryz.prog 95 #[.pointer (some ⟨c, 0, none⟩)] w fun e w' => e = .returned (.int .i64 (totW s.q.l)) ∧ Below w.heap.size w w' := by
  obtain ⟨c0, c1, c2, c3, f0, f1, f2, f3, hlt⟩ := blk4 h.cell
  obtain ⟨FN, hmf, hef, HQ0⟩ := ifForm s.tag ht b
  obtain ⟨p0, p1, y0, y1, plt⟩ := blk2 h.pol.cell
  have HQ := Lib.hid (HQ0.out h.pol.q hk)
  have hlen := hk.len
  have HP := Lib.hid (fun (k : Nat) (x : Pt) (hx : s.q.l[k]? = some x) => (hk.pts x (List.mem_of_getElem? hx) : _))
  generalize hL : s.q.l = l at HQ hlen HP
  generalize hn : l.length = n at hlen
  have Hn := Lib.hid hn
  have hfd := fieldForm
  clear h ht hk HQ0 hn hL c1 c2 c3
  go_enter Tryz.func95, Tryz.ntmps95
  go_wp2_with (go_at_fn FN; refine HQ.out.mono ?_; rintro e w1 ⟨a', c', rfl, ho, hb1⟩; rw [List.length_map, Hn.out] at ho ⊢; have Hb1 := Lib.hid hb1; have HS := Lib.hid (Sl.of_own (l := l.map (itOf s.q.base)) It.len (by rw [List.length_map, Hn.out]; exact ho)); clear ho hb1)
  go_loopw [16, 3] (fun ix tx wr => ∃ k : Nat, k ≤ n ∧ ix = .int .i64 k ∧ tx = .int .i64 (totW (l.take k)) ∧ Below w1.heap.size w1 wr ∧ 0 ≤ totW (l.take k) ∧ totW (l.take k) ≤ 20 * k) (fun ix _ _ => n - (intOf ix).toNat)
  case atStart => exact ⟨0, Nat.zero_le _, rfl, by simp [totW], Below.refl _ _, by simp [totW], by simp [totW]⟩
  case round =>
    obtain ⟨k, hkn, rfl, rfl, hb, t0, t1⟩ := hrel
    by_cases hlk : k < n
    · obtain ⟨rr, off, rfl, hrl, hcc⟩ := HS.out (by intro h0; have h1 := congrArg List.length h0; rw [List.length_map, Hn.out] at h1; simp at h1; omega)
      obtain ⟨x, hx⟩ : ∃ x, l[k]? = some x := ⟨_, List.getElem?_eq_getElem (by rw [Hn.out]; exact hlk)⟩
      have hit : (l.map (itOf s.q.base))[k]? = some (itOf s.q.base x) := by rw [List.getElem?_map, hx]; rfl
      have e0 := (hb.cell (p := ⟨rr, off + k * 3 + 0, none⟩) hrl).trans (hcc k _ hit 0 _ rfl)
      have e1 := (hb.cell (p := ⟨rr, off + k * 3 + 1, none⟩) hrl).trans (hcc k _ hit 1 _ rfl)
      have e2 := (hb.cell (p := ⟨rr, off + k * 3 + 2, none⟩) hrl).trans (hcc k _ hit 2 _ rfl)
      simp only [Nat.add_zero, itOf] at e0 e1 e2
      have hki : (k : Int) < n := by omega
      have hsz := hb.size
      have hrw : rr ≠ wr.heap.size := by omega
      have hp := HP.out k x hx
      have hsu := totW_succ hx
      have hw : IntKind.i64.wrap (totW (l.take k) + x.w) = totW (l.take k) + x.w := IntWalk.i64_in _ (by omega)
      have Hsu := Lib.hid hsu
      have Hpw := Lib.hid (show 1 ≤ x.w ∧ x.w ≤ 20 from ⟨hp.2.2.1, hp.2.2.2.1⟩)
      clear hcc hit hx hsu hp
      go_wp2_with fail
      go_roundw
      case rel => exact ⟨k + 1, hlk, by go_num, by rw [Hsu.out], hb.alloc (by omega) _, by rw [Hsu.out]; have := Hpw.out; omega, by rw [Hsu.out]; have := Hpw.out; omega⟩
      case measure => simp [intOf]; omega
    · obtain rfl : k = n := by omega
      have etk : l.take k = l := List.take_of_length_le (by rw [Hn.out]; exact Nat.le_refl _)
      rw [etk]
      go_wp2_with fail
      go_ret
      exact ⟨rfl, Hb1.out.trans (hb.mono Hb1.out.size)⟩
set_option maxHeartbeats 3200000 in
set_option maxRecDepth 100000 in
/-- Another queue, in which all is alike. -/
theorem CorChange_ok {H : Nat → Prop} {p2 b2 : Nat} {tag2 : Int} {S2 : Ln} {K2 : Int} (h : CSt w0 w F c p b r s) (hq : PSt w0 w H p2 b2 tag2 S2) (ht : TagOk s.tag) (ht2 : TagOk tag2) (hk : OkS K s.q) (hk2 : OkS K2 S2) (hd : ∀ k, H k ∨ k = p2 → ¬ cfoot F c p r k) (hr : formR S2 = formR s.q) :
    Calls Tryz.prog 83 #[.pointer (some ⟨c, 0, none⟩), .pointer (some ⟨p2, 0, none⟩)] w fun e w' => e = .returned (.int .i64 0) ∧ CSt w0 w' H c p2 b2 r { s with tag := tag2, q := S2 } ∧ Fr (fun k => k = c) w w' := by
  obtain ⟨c0, c1, c2, c3, f0, f1, f2, f3, hlt⟩ := blk4 h.cell
  obtain ⟨FN, hmf, hef, HQa⟩ := ifForm s.tag ht b
  obtain ⟨FN2, hmf2, hef2, HQb⟩ := ifForm tag2 ht2 b2
  obtain ⟨p0, p1, y0, y1, plt⟩ := blk2 h.pol.cell
  obtain ⟨q0, q1, z0, z1, qlt⟩ := blk2 hq.cell
  have HQ := Lib.hid (fun W (hW : Below w.heap.size w W) => HQa.out (h.pol.q.below hW) hk)
  have HQ2 := Lib.hid (fun W (hW : Below w.heap.size w W) => HQb.out (hq.q.below hW) hk2)
  have H1 := Lib.hid h
  have Hq := Lib.hid hq
  have Hd := Lib.hid hd
  have hl1 : (s.q.l.map (itOf s.q.base)).length ≤ 64 := by rw [List.length_map]; exact hk.len
  have hl2 : (S2.l.map (itOf S2.base)).length ≤ 64 := by rw [List.length_map]; exact hk2.len
  have hrr : decide (Fm.mk S2.cur (S2.l.map (itOf S2.base)) = Fm.mk s.q.cur (s.q.l.map (itOf s.q.base))) = true := decide_eq_true hr
  generalize s.q.l.map (itOf s.q.base) = L1 at HQ hl1 hrr
  generalize S2.l.map (itOf S2.base) = L2 at HQ2 hl2 hrr
  have Hrr := Lib.hid hrr
  have hcur := (Below.refl w.heap.size w).drew
  clear h hq hd hr hrr ht ht2 hk hk2 HQa HQb
  go_enter Tryz.func83, Tryz.ntmps83
  go_wp2_with fail
  refine wp_region_chain 28 [0, 1, 3, 7, 15, 0, 32, 96, 224, 480, 992, 2016, 4095, 8191, 16383, 32767] [(0, none), (1, none), (2, none), (3, none), (5, none), (6, none), (7, none), (8, none), (9, none), (10, none), (11, none), (4, some [5, 6, 7, 8, 9, 10, 11]), (12, some []), (13, some []), (14, none), (15, none)] (by kernel_rfl) (by kernel_rfl) (by rfl) ?_; simp only [chain, Obs, List.getElem?_toArray, List.getElem?_cons_zero, List.getElem?_cons_succ]
  go_wp2_with (first
    | (with_reducible refine And.intro (by first | with_reducible exact True.intro | with_reducible rfl | go_simp) ?_)
    | (go_at_fn FN2; refine (HQ2.out _ hcur).mono ?_; rintro e w1 ⟨a1, k1, rfl, ho1, hb⟩; have hcur := hcur.trans (hb.mono hcur.size); obtain ⟨c0, c1, c2, c3, f0, f1, f2, f3, hlt⟩ := blk4 (heap_below H1.out.cell hcur); obtain ⟨p0, p1, y0, y1, plt⟩ := blk2 (heap_below H1.out.pol.cell hcur); have Hs1 := Lib.hid (Sl.of_own It.len ho1); clear ho1)
    | (go_at_fn FN; refine (HQ.out _ hcur).mono ?_; rintro e w2 ⟨a2, k2, rfl, ho2, hb⟩; have hcur := hcur.trans (hb.mono hcur.size); have Hs2 := Lib.hid (Sl.of_own It.len ho2); have Hs1 := Lib.hid (Hs1.out.below hb); clear ho2)
    | (go_at_call 30; refine (SameF_any S2.cur s.q.cur L2 L1 _ _ a1 a2 k1 k2 _ rfl rfl (by omega) (by omega) Hs1.out Hs2.out Hrr.out).mono ?_; rintro e w5 ⟨rfl, hb⟩; have hcur := hcur.trans (hb.mono hcur.size); have hh := heap_below H1.out.cell hcur; obtain ⟨c0, c1, c2, c3, f0, f1, f2, f3, hlt⟩ := blk4 hh; have HH := Lib.hid hh; clear hh))
  refine NoPanic.normal ?_
  go_wp2_with fail
  go_ret
  have hcF : ¬ H c := fun hk => Hd.out c (.inl hk) (.inr (.inl rfl))
  have hrF : ¬ H r := fun hk => Hd.out r (.inl hk) (.inr (.inr (.inr rfl)))
  have hcp : c ≠ p2 := fun e => Hd.out p2 (.inr rfl) (.inr (.inl e.symm))
  have hrp : r ≠ p2 := fun e => Hd.out p2 (.inr rfl) (.inr (.inr (.inr e.symm)))
  have hfr : Fr (fun k => k = c) w5 (w5.setCell ⟨c, 0, none⟩ (.pointer (some ⟨p2, 0, none⟩))) := (Fr.refl (fun k => k = c) w5).setCell (p := ⟨c, 0, none⟩) (fun _ => rfl) _
  refine ⟨rfl, ⟨heap_set HH.out _, ?_, ?_, hcF, hrF, hcp, hrp, H1.out.cr, H1.out.newc, H1.out.newr⟩, (Fr.of_below hcur).trans hfr (fun k _ h => h)⟩
  · exact (Hq.out.below hcur).fr hfr (fun k hk e => by subst e; exact hcF hk) (fun e => hcp e.symm) (fun k e => by subst e; exact H1.out.newc)
  · exact (H1.out.map.below hcur).fr hfr (fun e => H1.out.cr e.symm)
set_option maxHeartbeats 400000 in
/-- No queue. -/
theorem CorChange_nil (h : CSt w0 w F c p b r s) : Calls Tryz.prog 83 #[.pointer (some ⟨c, 0, none⟩), .pointer none] w fun e w' => e = .returned (.int .i64 1) ∧ Below w.heap.size w w' := by
  clear h
  go_enter Tryz.func83, Tryz.ntmps83
  go_wp2
  go_ret
  exact ⟨rfl, Below.refl _ _⟩
set_option maxHeartbeats 3200000 in
set_option maxRecDepth 100000 in
/-- Another queue, in which not all is alike. -/
theorem CorChange_no {H : Nat → Prop} {p2 b2 : Nat} {tag2 : Int} {S2 : Ln} {K2 : Int} (h : CSt w0 w F c p b r s) (hq : PSt w0 w H p2 b2 tag2 S2) (ht : TagOk s.tag) (ht2 : TagOk tag2) (hk : OkS K s.q) (hk2 : OkS K2 S2) (hr : formR S2 ≠ formR s.q) :
    Calls Tryz.prog 83 #[.pointer (some ⟨c, 0, none⟩), .pointer (some ⟨p2, 0, none⟩)] w fun e w' => e = .returned (.int .i64 4) ∧ Below w.heap.size w w' := by
  obtain ⟨c0, c1, c2, c3, f0, f1, f2, f3, hlt⟩ := blk4 h.cell
  obtain ⟨FN, hmf, hef, HQa⟩ := ifForm s.tag ht b
  obtain ⟨FN2, hmf2, hef2, HQb⟩ := ifForm tag2 ht2 b2
  obtain ⟨p0, p1, y0, y1, plt⟩ := blk2 h.pol.cell
  obtain ⟨q0, q1, z0, z1, qlt⟩ := blk2 hq.cell
  have HQ := Lib.hid (fun W (hW : Below w.heap.size w W) => HQa.out (h.pol.q.below hW) hk)
  have HQ2 := Lib.hid (fun W (hW : Below w.heap.size w W) => HQb.out (hq.q.below hW) hk2)
  have H1 := Lib.hid h
  have hl1 : (s.q.l.map (itOf s.q.base)).length ≤ 64 := by rw [List.length_map]; exact hk.len
  have hl2 : (S2.l.map (itOf S2.base)).length ≤ 64 := by rw [List.length_map]; exact hk2.len
  have hrr : decide (Fm.mk S2.cur (S2.l.map (itOf S2.base)) = Fm.mk s.q.cur (s.q.l.map (itOf s.q.base))) = false := decide_eq_false hr
  generalize s.q.l.map (itOf s.q.base) = L1 at HQ hl1 hrr
  generalize S2.l.map (itOf S2.base) = L2 at HQ2 hl2 hrr
  have Hrr := Lib.hid hrr
  have hcur := (Below.refl w.heap.size w).drew
  clear h hq hr hrr ht ht2 hk hk2 HQa HQb
  go_enter Tryz.func83, Tryz.ntmps83
  go_wp2_with fail
  refine wp_region_chain 28 [0, 1, 3, 7, 15, 0, 32, 96, 224, 480, 992, 2016, 4095, 8191, 16383, 32767] [(0, none), (1, none), (2, none), (3, none), (5, none), (6, none), (7, none), (8, none), (9, none), (10, none), (11, none), (4, some [5, 6, 7, 8, 9, 10, 11]), (12, some []), (13, some []), (14, none), (15, none)] (by kernel_rfl) (by kernel_rfl) (by rfl) ?_; simp only [chain, Obs, List.getElem?_toArray, List.getElem?_cons_zero, List.getElem?_cons_succ]
  go_wp2_with (first
    | (with_reducible refine And.intro (by first | with_reducible exact True.intro | with_reducible rfl | go_simp) ?_)
    | (go_at_fn FN2; refine (HQ2.out _ hcur).mono ?_; rintro e w1 ⟨a1, k1, rfl, ho1, hb⟩; have hcur := hcur.trans (hb.mono hcur.size); obtain ⟨c0, c1, c2, c3, f0, f1, f2, f3, hlt⟩ := blk4 (heap_below H1.out.cell hcur); obtain ⟨p0, p1, y0, y1, plt⟩ := blk2 (heap_below H1.out.pol.cell hcur); have Hs1 := Lib.hid (Sl.of_own It.len ho1); clear ho1)
    | (go_at_fn FN; refine (HQ.out _ hcur).mono ?_; rintro e w2 ⟨a2, k2, rfl, ho2, hb⟩; have hcur := hcur.trans (hb.mono hcur.size); have Hs2 := Lib.hid (Sl.of_own It.len ho2); have Hs1 := Lib.hid (Hs1.out.below hb); clear ho2)
    | (go_at_call 30; refine (SameF_any S2.cur s.q.cur L2 L1 _ _ a1 a2 k1 k2 _ rfl rfl (by omega) (by omega) Hs1.out Hs2.out Hrr.out).mono ?_; rintro e w5 ⟨rfl, hb⟩; have hcur := hcur.trans (hb.mono hcur.size)))
  refine NoPanic.normal ?_
  go_wp2_with fail
  go_ret
  exact ⟨rfl, hcur⟩
end
end Go.Proofs.YtlgkkolgdjgclaaGreat
