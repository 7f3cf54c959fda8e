/- The line's making: NewLine, SeedLine; Now. -/
import Derived.Test.YtlgkkolgdjgclaaGreatK
import Derived.Test.YtlgkkolgdjgclaaGreatF
namespace Go.Proofs.YtlgkkolgdjgclaaGreat
open Go.RowKit
set_option linter.unusedVariables false
set_option linter.unusedSimpArgs false

set_option maxHeartbeats 800000 in
theorem NewLine_ok (base : Int) (w : World) (h1 : -1152921504606846976 ≤ base) (h2 : base ≤ 1152921504606846976) :
    Calls Tryz.prog 102 #[.int .i64 base] w fun e w' => e = .returned (.tuple #[.agg #[.int .i64 base, .int .i64 (-1), .slice none 0 0], .int .i64 0]) ∧ Below w.heap.size w w' := by
  go_enter Tryz.func102, Tryz.ntmps102
  go_wp2
  refine bodyPost_ret (res_ct _ _ w.heap.size 189 #[.int .i64 base, .int .i64 (-1), .slice none 0 0] (0, 0) _ rfl rfl (heap_new _ _) Tryz.underlying189 rfl (by kernel_rfl)) rfl ⟨rfl, ?_⟩
  exact (Below.refl _ _).alloc (Nat.le_refl _) _
set_option maxHeartbeats 800000 in
theorem NewLine_err (base : Int) (w : World) (h : base < -1152921504606846976 ∨ 1152921504606846976 < base) :
    Calls Tryz.prog 102 #[.int .i64 base] w fun e w' => e = .returned (.tuple #[.agg #[.int .i64 0, .int .i64 0, .slice none 0 0], .int .i64 1]) ∧ Below w.heap.size w w' := by
  rcases h with h | h
  all_goals
    go_enter Tryz.func102, Tryz.ntmps102
    go_wp2
    refine bodyPost_ret (res_ct _ _ w.heap.size 189 #[.int .i64 0, .int .i64 0, .slice none 0 0] (0, 0) _ rfl rfl (heap_new _ _) Tryz.underlying189 rfl (by kernel_rfl)) rfl ⟨rfl, ?_⟩
    exact (Below.refl _ _).alloc (Nat.le_refl _) _

/-- What a call that makes a line leaves. -/
def SeedPost (w : World) (base cur : Int) (l : List Pt) (e : Ending) (w' : World) : Prop :=
  ∃ a c, e = .returned (.tuple #[.agg #[.int .i64 base, .int .i64 cur, .slice a l.length c], .int .i64 0]) ∧ w'.ownsRow w.heap.size 248 4 (.slice a l.length c) l.length (flat Pt.enc l) ∧ Below w.heap.size w w'
def seedP (base : Int) (x : It) : Pt := newP base x.id x.w x.lag


theorem heap_two {w w' : World} {o1 o2 : Obj} (hb : Below ((w.alloc o1).alloc o2).heap.size ((w.alloc o1).alloc o2) w') : w'.heap[w.heap.size]? = some o1 ∧ w'.heap[w.heap.size + 1]? = some o2 ∧ w.heap.size + 2 ≤ w'.heap.size ∧ Below w.heap.size w w' :=
  ⟨heap_below (heap_alloc (heap_new w o1) o2) hb, heap_below (heap_at (by simp) o2) hb, by have := hb.size; simp at this; omega, (((Below.refl _ _).alloc (Nat.le_refl _) _).alloc (by simp) _).trans (hb.mono (by simp; omega))⟩

set_option maxHeartbeats 1600000 in
set_option maxRecDepth 100000 in
theorem SeedLine_err (base cur : Int) (l : List It) (n : Nat) (a : Option Addr) (c : Nat) (w : World) (hn : l.length = n) (hl : n ≤ 4611686018427387904) (hs : Sl It.enc 3 w a l)
    (h : (base < -1152921504606846976 ∨ 1152921504606846976 < base) ∨ goodF ⟨cur, l⟩ = false) :
    Calls Tryz.prog 141 #[.agg #[.int .i64 cur, .slice a n c], .int .i64 base] w fun e w' => e = .returned (.tuple #[.agg #[.int .i64 0, .int .i64 0, .slice none 0 0], .int .i64 1]) ∧ Below w.heap.size w w' := by
  by_cases hb : base < -1152921504606846976 ∨ 1152921504606846976 < base
  · have He := Lib.hid hb
    clear hb h hs hn
    go_enter Tryz.func141, Tryz.ntmps141
    go_wp2_with (go_at_call 102; refine (NewLine_err _ _ He.out).mono ?_; rintro e w1 ⟨rfl, hb1⟩; obtain ⟨h0, h1, hs1, hb2⟩ := heap_two hb1; obtain ⟨r0, r1, r2, v0, v1, v2, rl⟩ := blk3 h1; have hne : w.heap.size + 1 ≠ w1.heap.size := (by omega); have H1 := Lib.hid h1; clear h0 h1 hb1)
    refine bodyPost_ret (res_ct _ _ (w.heap.size + 1) 189 #[.int .i64 0, .int .i64 0, .slice none 0 0] (0, 0) _ rfl rfl ?_ Tryz.underlying189 rfl (by kernel_rfl)) rfl ⟨rfl, ?_⟩
    · exact heap_alloc (heap_set (heap_set (heap_set H1.out _) _) _) _
    · exact (((hb2.setCell (by simp) _).setCell (by simp) _).setCell (by simp) _).alloc (by simp; omega) _
  · have hg : goodF ⟨cur, l⟩ = false := by rcases h with h | h; exact absurd h hb; exact h
    have HG : ∀ W, Below w.heap.size w W → Calls Tryz.prog 133 #[.agg #[.int .i64 cur, .slice a n c]] W fun e w' => e = .returned (.bool false) ∧ Below W.heap.size W w' := fun W hW => GoodF_any cur l n a c W hn hl (hs.below hW) hg
    have Hg := Lib.hid HG
    have hb1 : -1152921504606846976 ≤ base := by omega
    have hb2 : base ≤ 1152921504606846976 := by omega
    clear hb h hs hn hg HG
    go_enter Tryz.func141, Tryz.ntmps141
    go_wp2_with (first
      | (go_at_call 102; refine (NewLine_ok _ _ hb1 hb2).mono ?_; rintro e w1 ⟨rfl, hb1⟩; obtain ⟨h0, h1, hs1, hb2⟩ := heap_two hb1; obtain ⟨r0, r1, r2, v0, v1, v2, rl⟩ := blk3 h1; obtain ⟨f0, f1, y0, y1, fl⟩ := blk2 h0; have hne : w.heap.size + 1 ≠ w1.heap.size := (by omega); have hne0 : w.heap.size ≠ w1.heap.size := (by omega); have H1 := Lib.hid h1; have Hb2 := Lib.hid hb2; clear h0 h1 hb1 hb2)
      | (go_at_call 133; refine (Hg.out _ (Hb2.out.alloc (by omega) _)).mono ?_; rintro e w2 ⟨rfl, hb3⟩; obtain ⟨q0, q1, q2, u0, u1, u2, ql⟩ := blk3 (heap_below (heap_alloc H1.out _) hb3); have H2 := Lib.hid (heap_below (heap_alloc H1.out _) hb3); have hb4 := (Hb2.out.alloc (by omega) _).trans (hb3.mono (by simp; omega))))
    refine bodyPost_ret (res_ct _ _ (w.heap.size + 1) 189 #[.int .i64 0, .int .i64 0, .slice none 0 0] (0, 0) _ rfl rfl ?_ Tryz.underlying189 rfl (by kernel_rfl)) rfl ⟨rfl, ?_⟩
    · exact heap_set (heap_set (heap_set H2.out _) _) _
    · exact ((hb4.setCell (by simp) _).setCell (by simp) _).setCell (by simp) _

set_option maxHeartbeats 3200000 in
set_option maxRecDepth 100000 in
theorem SeedLine_ok (base cur : Int) (l : List It) (n : Nat) (a : Option Addr) (c : Nat) (w : World) (hn : l.length = n) (hs : Sl It.enc 3 w a l)
    (hb1 : -1152921504606846976 ≤ base) (hb2 : base ≤ 1152921504606846976) (hg : goodF ⟨cur, l⟩ = true) :
    Calls Tryz.prog 141 #[.agg #[.int .i64 cur, .slice a n c], .int .i64 base] w (SeedPost w base cur (l.map (seedP base))) := by
  have hgp : GoodP ⟨cur, l⟩ := of_decide_eq_true hg
  have hl64 : n ≤ 64 := by rw [← hn]; exact hgp.1
  have Hmay := Lib.hid hgp.2.2.1
  have HG : ∀ W, Below w.heap.size w W → Calls Tryz.prog 133 #[.agg #[.int .i64 cur, .slice a n c]] W fun e w' => e = .returned (.bool true) ∧ Below W.heap.size W w' := fun W hW => GoodF_any cur l n a c W hn (by omega) (hs.below hW) hg
  have Hg := Lib.hid HG
  have HS := Lib.hid hs
  have Hn := Lib.hid hn
  obtain ⟨i0, hi0, hz0, hz1, hz2⟩ := info_parts infoPt2
  clear hs hn hg HG hgp
  go_enter Tryz.func141, Tryz.ntmps141
  go_wp2_with (first
    | (go_at_call 102; refine (NewLine_ok _ _ hb1 hb2).mono ?_; rintro e w1 ⟨rfl, hb1⟩; obtain ⟨h0, h1, hs1, hb2⟩ := heap_two hb1; obtain ⟨r0, r1, r2, v0, v1, v2, rl⟩ := blk3 h1; obtain ⟨f0, f1, y0, y1, fl⟩ := blk2 h0; have hne : w.heap.size + 1 ≠ w1.heap.size := (by omega); have hne0 : w.heap.size ≠ w1.heap.size := (by omega); have H0 := Lib.hid h0; have H1 := Lib.hid h1; have Hb2 := Lib.hid hb2; clear h0 h1 hb1 hb2)
    | (go_at_call 133; refine (Hg.out _ (Hb2.out.alloc (by omega) _)).mono ?_; rintro e w2 ⟨rfl, hb3⟩; have h3 := heap_below (heap_at rfl _) hb3; obtain ⟨q0, q1, q2, u0, u1, u2, ql⟩ := blk3 h3; have H3 := Lib.hid h3; have H2 := Lib.hid (heap_below (heap_alloc H1.out _) hb3); have h4 := heap_below (heap_alloc H0.out _) hb3; obtain ⟨f0, f1, y0, y1, fl⟩ := blk2 h4; have H4 := Lib.hid h4; have Hb4 := Lib.hid ((Hb2.out.alloc (by omega) _).trans (hb3.mono (by simp; omega))); clear h3 h4 hb3))
  have hs2 : w1.heap.size + 1 ≤ w2.heap.size := ql
  go_loopw [29] (fun i wr => ∃ (k : Nat) (va : Option Addr) (vc : Nat), k ≤ n ∧ i = .int .i64 k ∧ Below w.heap.size w wr ∧ wr.heap[w1.heap.size]? = some (.cells #[.int .i64 base, .int .i64 cur, .slice va k vc] 189 (0, 0)) ∧
      wr.heap[w.heap.size + 1]? = some (.cells #[.int .i64 0, .int .i64 0, .slice none 0 0] 189 (0, 0)) ∧ wr.ownsRow (w1.heap.size + 1) 248 4 (.slice va k vc) k (flat Pt.enc ((l.take k).map (seedP base)))) (fun i _ => n - (intOf i).toNat)
  case atStart => exact ⟨0, none, 0, Nat.zero_le _, rfl, Hb4.out.setCell (by simp; omega) _, heap_set H3.out _, heap_set_ne H2.out (by simp; omega) _, World.ownsRow_nil _ _ _ _⟩
  case round =>
    obtain ⟨k, va, vc, hk, rfl, hb, hG, hR, hown⟩ := hrel
    by_cases hlt : k < n
    · obtain ⟨r, off, rfl, hr, hcc⟩ := HS.out (by intro h; have h1 := Hn.out; rw [h] at h1; simp at h1; omega)
      obtain ⟨y, hx⟩ : ∃ y, l[k]? = some y := ⟨_, List.getElem?_eq_getElem (by rw [Hn.out]; exact hlt)⟩
      have e0 := (hb.cell (p := ⟨r, off + k * 3 + 0, none⟩) hr).trans (hcc k y hx 0 _ rfl)
      have e1 := (hb.cell (p := ⟨r, off + k * 3 + 1, none⟩) hr).trans (hcc k y hx 1 _ rfl)
      have e2 := (hb.cell (p := ⟨r, off + k * 3 + 2, none⟩) hr).trans (hcc k y hx 2 _ rfl)
      simp only [Nat.add_zero] at e0
      obtain ⟨m1, m2, m3, m4, m5, m6⟩ := mayB_true (Hmay.out y (List.mem_of_getElem? hx))
      obtain ⟨g0, g1, g2, y0, y1, y2, gsz⟩ := blk3 hG
      have hsub : IntKind.i64.wrap (base - y.lag) = base - y.lag := IntWalk.i64_in _ (by omega)
      have hsz := hb.size
      have hP : w1.heap.size ≠ wr.heap.size := by omega
      have hki : (k : Int) < n := by omega
      have ag : (Value.slice va k vc).ownBlock ≠ some w1.heap.size := fun e => by have := (hown.lt _ e).1; omega
      have aR : (Value.slice va k vc).ownBlock ≠ some (w.heap.size + 1) := fun e => by have := (hown.lt _ e).1; omega
      have HG := Lib.hid hG
      have HR := Lib.hid hR
      have Hown := Lib.hid hown
      have Hx := Lib.hid hx
      have Hag := Lib.hid ag
      have HaR := Lib.hid aR
      clear hG hR hown hx ag aR hcc
      go_wp2_with fail
      refine wp_region_chain 50 [0, 1, 0, 4, 0, 16, 0, 0, 128, 448, 1020, 2044, 4092, 8191, 16383, 32767] [(0, none), (1, none), (2, none), (3, none), (4, none), (5, none), (6, none), (7, none), (8, none), (9, none), (10, none), (11, some [0, 1]), (12, some [0, 1]), (13, some []), (14, none), (15, some [])] (by kernel_rfl) (by kernel_rfl) (by rfl) ?_; simp only [chain, Obs, List.getElem?_toArray, List.getElem?_cons_zero, List.getElem?_cons_succ]
      go_wp2_with (first
        | (with_reducible refine And.intro (by first | with_reducible exact True.intro | with_reducible rfl | go_simp) ?_)
        | (go_at_call 151; refine (day_any _ _ _ _ _ m3 m4 (by omega) (by omega)).mono ?_; rintro e w3 ⟨rfl, hb5⟩; have h5 := heap_drew_below HG.out hb5; obtain ⟨g0, g1, g2, y0, y1, y2, gsz⟩ := blk3 h5; have H5 := Lib.hid h5; have H6 := Lib.hid (heap_drew_below HR.out hb5); have Hb5 := Lib.hid hb5; clear h5 hb5)
        | (at_builtin; refine wpList_append_lies _ (by rfl) _ _ _ (by rfl) (w1.heap.size + 1) 248 i0 _ 4 32 Tryz.underlying187 hi0 hz0 hz1 hz2 rfl (by omega) (.slice va k vc) k (flat Pt.enc ((l.take k).map (seedP base))) (by rfl) ((own_fr (F := fun _ => False) Hown.out (((Fr.refl _ wr).alloc _).drew.trans (Fr.of_below Hb5.out) (fun _ _ h => h)) (fun _ _ h => h)).alloc _) ⟨w3.heap.size, 0, none⟩ 1 1 (Pt.enc (seedP base y)) (by rfl) (by rfl) (World.news_of_block (cs := #[.int .i64 y.id, .int .i64 y.w, .int .i64 (base - y.lag), .int .i64 (base - y.lag + 4 * step y.w)]) (t := 248) (fr := (0, 0)) (heap_at (by simp) _)) (by simp [Value.oneCell', Pt.enc]) (by omega) (by unfold maxLen; omega) (by omega) (by simp; omega) (w3.heap.size + 1) (by simp) ?_
           intro gg cap w4 hown3 hgrow hat hglt
           have hfr3 : Fr (fun q => (Value.slice va k vc).ownBlock = some q) w3 w4 := ((Fr.refl _ w3).alloc _).trans (Fr.of_grown hgrow) (fun _ _ h => h)
           have h7 := heap_fr H5.out hfr3 Hag.out
           obtain ⟨g0, g1, g2, y0, y1, y2, gsz⟩ := blk3 h7
           have H7 := Lib.hid h7
           have H8 := Lib.hid (heap_fr H6.out hfr3 HaR.out)
           have Hfr3 := Lib.hid hfr3
           have Hown3 := Lib.hid hown3
           clear h7 hat hgrow hown3 hfr3))
      refine NoPanic.normal ?_
      go_wp2_with fail
      go_roundw
      case rel =>
        have hov := Hown.out.lt
        have hGg : (Value.slice (some ⟨gg, 0, none⟩) (k + 1) cap).ownBlock ≠ some w1.heap.size := fun e => by have := (Hown3.out.lt _ e).1; omega
        have hfr : Fr (fun q => (Value.slice va k vc).ownBlock = some q) wr w4 := (((Fr.refl _ wr).alloc _).drew.trans (Fr.of_below Hb5.out) (fun _ _ h => h)).trans Hfr3.out (fun _ _ h => h)
        refine ⟨k + 1, _, cap, by omega, by go_num, ?_, heap_set H7.out _, heap_set_ne H8.out (by simp; omega) _, ?_⟩
        · exact (hb.trans (hfr.below hsz fun k' hk' => by have := (hov _ hk').1; omega)).setCell (by simp; omega) _
        · have e1 : (l.take (k + 1)).map (seedP base) = (l.take k).map (seedP base) ++ [seedP base y] := by
            rw [List.take_succ_eq_append_getElem (List.getElem?_eq_some_iff.1 Hx.out).1, List.map_append, (List.getElem?_eq_some_iff.1 Hx.out).2]; rfl
          rw [e1, flat_append, flat_one]
          exact own_set Hown3.out hGg
      case measure => simp [intOf]; omega
    · obtain rfl : k = n := by omega
      obtain ⟨g0, g1, g2, y0, y1, y2, gsz⟩ := blk3 hG
      obtain ⟨r0, r1, r2, v0, v1, v2, rsz⟩ := blk3 hR
      have HR := Lib.hid hR
      have Hown := Lib.hid hown
      have hneR : w1.heap.size ≠ w.heap.size + 1 := by omega
      clear hR hown hG
      go_wp2_with fail
      have haR : (Value.slice va k vc).ownBlock ≠ some (w.heap.size + 1) := fun e => by have := (Hown.out.lt _ e).1; omega
      refine bodyPost_ret (res_ct _ _ (w.heap.size + 1) 189 #[.int .i64 base, .int .i64 cur, .slice va k vc] (0, 0) _ rfl rfl (heap_set (heap_set (heap_set HR.out _) _) _) Tryz.underlying189 rfl (by kernel_rfl)) rfl ⟨va, vc, ?_, ?_, ?_⟩
      · rw [List.length_map, Hn.out]; rfl
      · rw [List.length_map, Hn.out]
        have e1 : l.take k = l := List.take_of_length_le (by have := Hn.out; omega)
        have ho := Hown.out
        rw [e1] at ho
        exact own_base (own_set (own_set (own_set ho haR) haR) haR) (by omega)
      · exact ((hb.setCell (by simp) _).setCell (by simp) _).setCell (by simp) _
end Go.Proofs.YtlgkkolgdjgclaaGreat
