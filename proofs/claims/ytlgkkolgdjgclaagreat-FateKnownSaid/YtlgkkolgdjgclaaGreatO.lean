/- The line's making: NewLine, SeedLine; Now. -/
import Derived.Test.YtlgkkolgdjgclaaGreatK
import Derived.Test.YtlgkkolgdjgclaaGreatF
namespace Go.Proofs.YtlgkkolgdjgclaaGreat
open Go.RowKit
set_option linter.unusedVariables false
set_option linter.unusedSimpArgs false

set_option maxHeartbeats 800000 in
theorem NewLine_ok (base : Int) (w : World) (h1 : -1152921504606846976 ≤ base) (h2 : base ≤ 1152921504606846976) :
    Calls Tryz.prog 102 #[.int .i64 base] w fun e w' => e = .returned (.tuple #[.agg #[.int .i64 base, .int .i64 (-1), .slice none 0 0], .int .i64 0]) ∧ Below w.heap.size w w' := by
  go_enter Tryz.func102, Tryz.ntmps102
  go_wp2
  refine bodyPost_ret (res_ct _ _ w.heap.size 189 #[.int .i64 base, .int .i64 (-1), .slice none 0 0] (0, 0) _ rfl rfl (heap_new _ _) Tryz.underlying189 rfl (by kernel_rfl)) rfl ⟨rfl, ?_⟩
  exact (Below.refl _ _).alloc (Nat.le_refl _) _
set_option maxHeartbeats 800000 in
theorem NewLine_err (base : Int) (w : World) (h : base < -1152921504606846976 ∨ 1152921504606846976 < base) :
    Calls Tryz.prog 102 #[.int .i64 base] w fun e w' => e = .returned (.tuple #[.agg #[.int .i64 0, .int .i64 0, .slice none 0 0], .int .i64 1]) ∧ Below w.heap.size w w' := by
  rcases h with h | h
  all_goals
    go_enter Tryz.func102, Tryz.ntmps102
    go_wp2
    refine bodyPost_ret (res_ct _ _ w.heap.size 189 #[.int .i64 0, .int .i64 0, .slice none 0 0] (0, 0) _ rfl rfl (heap_new _ _) Tryz.underlying189 rfl (by kernel_rfl)) rfl ⟨rfl, ?_⟩
    exact (Below.refl _ _).alloc (Nat.le_refl _) _

/-- What a call that makes a line leaves. -/
def SeedPost (w : World) (base cur : Int) (l : List Pt) (e : Ending) (w' : World) : Prop :=
  ∃ a c, e = .returned (.tuple #[.agg #[.int .i64 base, .int .i64 cur, .slice a l.length c], .int .i64 0]) ∧ w'.ownsRow w.heap.size 248 4 (.slice a l.length c) l.length (flat Pt.enc l) ∧ Below w.heap.size w w'
def seedP (base : Int) (x : It) : Pt := newP base x.id x.w x.lag


theorem heap_two {w w' : World} {o1 o2 : Obj} (hb : Below ((w.alloc o1).alloc o2).heap.size ((w.alloc o1).alloc o2) w') : w'.heap[w.heap.size]? = some o1 ∧ w'.heap[w.heap.size + 1]? = some o2 ∧ w.heap.size + 2 ≤ w'.heap.size ∧ Below w.heap.size w w' :=
  ⟨heap_below (heap_alloc (heap_new w o1) o2) hb, heap_below (heap_at (by simp) o2) hb, by have := hb.size; simp at this; omega, (((Below.refl _ _).alloc (Nat.le_refl _) _).alloc (by simp) _).trans (hb.mono (by simp; omega))⟩

set_option maxHeartbeats 1600000 in
set_option maxRecDepth 100000 in
theorem SeedLine_err (base cur : Int) (l : List It) (n : Nat) (a : Option Addr) (c : Nat) (w : World) (hn : l.length = n) (hl : n ≤ 4611686018427387904) (hs : Sl It.enc 3 w a l)
    (h : (base < -1152921504606846976 ∨ 1152921504606846976 < base) ∨ goodF ⟨cur, l⟩ = false) :
    Calls Tryz.prog 141 #[.agg #[.int .i64 cur, .slice a n c], .int .i64 base] w fun e w' => e = .returned (.tuple #[.agg #[.int .i64 0, .int .i64 0, .slice none 0 0], .int .i64 1]) ∧ Below w.heap.size w w' := by
  by_cases hb : base < -1152921504606846976 ∨ 1152921504606846976 < base
  · have He := Lib.hid hb
    clear hb h hs hn
    go_enter Tryz.func141, Tryz.ntmps141
    go_wp2_with (go_at_call 102; refine (NewLine_err _ _ He.out).mono ?_; rintro e w1 ⟨rfl, hb1⟩; obtain ⟨h0, h1, hs1, hb2⟩ := heap_two hb1; obtain ⟨r0, r1, r2, v0, v1, v2, rl⟩ := blk3 h1; have hne : w.heap.size + 1 ≠ w1.heap.size := (by omega); have H1 := Lib.hid h1; clear h0 h1 hb1)
    refine bodyPost_ret (res_ct _ _ (w.heap.size + 1) 189 #[.int .i64 0, .int .i64 0, .slice none 0 0] (0, 0) _ rfl rfl ?_ Tryz.underlying189 rfl (by kernel_rfl)) rfl ⟨rfl, ?_⟩
    · exact heap_alloc (heap_set (heap_set (heap_set H1.out _) _) _) _
    · exact (((hb2.setCell (by simp) _).setCell (by simp) _).setCell (by simp) _).alloc (by simp; omega) _
  · have hg : goodF ⟨cur, l⟩ = false := by rcases h with h | h; exact absurd h hb; exact h
    have HG : ∀ W, Below w.heap.size w W → Calls Tryz.prog 133 #[.agg #[.int .i64 cur, .slice a n c]] W fun e w' => e = .returned (.bool false) ∧ Below W.heap.size W w' := fun W hW => GoodF_any cur l n a c W hn hl (hs.below hW) hg
    have Hg := Lib.hid HG
    have hb1 : -1152921504606846976 ≤ base := by omega
    have hb2 : base ≤ 1152921504606846976 := by omega
    clear hb h hs hn hg HG
    go_enter Tryz.func141, Tryz.ntmps141
    go_wp2_with (first
      | (go_at_call 102; refine (NewLine_ok _ _ hb1 hb2).mono ?_; rintro e w1 ⟨rfl, hb1⟩; obtain ⟨h0, h1, hs1, hb2⟩ := heap_two hb1; obtain ⟨r0, r1, r2, v0, v1, v2, rl⟩ := blk3 h1; obtain ⟨f0, f1, y0, y1, fl⟩ := blk2 h0; have hne : w.heap.size + 1 ≠ w1.heap.size := (by omega); have hne0 : w.heap.size ≠ w1.heap.size := (by omega); have H1 := Lib.hid h1; have Hb2 := Lib.hid hb2; clear h0 h1 hb1 hb2)
      | (go_at_call 133; refine (Hg.out _ (Hb2.out.alloc (by omega) _)).mono ?_; rintro e w2 ⟨rfl, hb3⟩; obtain ⟨q0, q1, q2, u0, u1, u2, ql⟩ := blk3 (heap_below (heap_alloc H1.out _) hb3); have H2 := Lib.hid (heap_below (heap_alloc H1.out _) hb3); have hb4 := (Hb2.out.alloc (by omega) _).trans (hb3.mono (by simp; omega))))
    refine bodyPost_ret (res_ct _ _ (w.heap.size + 1) 189 #[.int .i64 0, .int .i64 0, .slice none 0 0] (0, 0) _ rfl rfl ?_ Tryz.underlying189 rfl (by kernel_rfl)) rfl ⟨rfl, ?_⟩
    · exact heap_set (heap_set (heap_set H2.out _) _) _
    · exact ((hb4.setCell (by simp) _).setCell (by simp) _).setCell (by simp) _

set_option maxHeartbeats 3200000 in
set_option maxRecDepth 100000 in
theorem SeedLine_ok (base cur : Int) (l : List It) (n : Nat) (a : Option Addr) (c : Nat) (w : World) (hn : l.length = n) (hs : Sl It.enc 3 w a l)
    (hb1 : -1152921504606846976 ≤ base) (hb2 : base ≤ 1152921504606846976) (hg : goodF ⟨cur, l⟩ = true) :
    Calls Tryz.prog 141 #[.agg #[.int .i64 cur, .slice a n c], .int .i64 base] w (SeedPost w base cur (l.map (seedP base))) := by
  have hgp : GoodP ⟨cur, l⟩ := of_decide_eq_true hg
  have hl64 : n ≤ 64 := by rw [← hn]; exact hgp.1
  have Hmay := Lib.hid hgp.2.2.1
  have HG : ∀ W, Below w.heap.size w W → Calls Tryz.prog 133 #[.agg #[.int .i64 cur, .slice a n c]] W fun e w' => e = .returned (.bool true) ∧ Below W.heap.size W w' := fun W hW => GoodF_any cur l n a c W hn (by omega) (hs.below hW) hg
  have Hg := Lib.hid HG
  have HS := Lib.hid hs
  have Hn := Lib.hid hn
  obtain ⟨i0, hi0, hz0, hz1, hz2⟩ := info_parts infoPt2
  clear hs hn hg HG hgp
  go_enter Tryz.func141, Tryz.ntmps141
  go_wp2_with (first
    | (go_at_call 102; refine (NewLine_ok _ _ hb1 hb2).mono ?_; rintro e w1 ⟨rfl, hb1⟩; obtain ⟨h0, h1, hs1, hb2⟩ := heap_two hb1; obtain ⟨r0, r1, r2, v0, v1, v2, rl⟩ := blk3 h1; obtain ⟨f0, f1, y0, y1, fl⟩ := blk2 h0; have hne : w.heap.size + 1 ≠ w1.heap.size := (by omega); have hne0 : w.heap.size ≠ w1.heap.size := (by omega); have H0 := Lib.hid h0; have H1 := Lib.hid h1; have Hb2 := Lib.hid hb2; clear h0 h1 hb1 hb2)
    | (go_at_call 133; refine (Hg.out _ (Hb2.out.alloc (by omega) _)).mono ?_; rintro e w2 ⟨rfl, hb3⟩; have h3 := heap_below (heap_at rfl _) hb3; obtain ⟨q0, q1, q2, u0, u1, u2, ql⟩ := blk3 h3; have H3 := Lib.hid h3; have H2 := Lib.hid (heap_below (heap_alloc H1.out _) hb3); have h4 := heap_below (heap_alloc H0.out _) hb3; obtain ⟨f0, f1, y0, y1, fl⟩ := blk2 h4; have H4 := Lib.hid h4; have Hb4 := Lib.hid ((Hb2.out.alloc (by omega) _).trans (hb3.mono (by simp; omega))); clear h3 h4 hb3))
  have hs2 : w1.heap.size + 1 ≤ w2.heap.size := ql
  go_loopw [29] (fun i wr => ∃ (k : Nat) (va : Option Addr) (vc : Nat), k ≤ n ∧ i = .int .i64 k ∧ Below w.heap.size w wr ∧ wr.heap[w1.heap.size]? = some (.cells #[.int .i64 base, .int .i64 cur, .slice va k vc] 189 (0, 0)) ∧
      wr.heap[w.heap.size + 1]? = some (.cells #[.int .i64 0, .int .i64 0, .slice none 0 0] 189 (0, 0)) ∧ wr.ownsRow (w1.heap.size + 1) 248 4 (.slice va k vc) k (flat Pt.enc ((l.take k).map (seedP base)))) (fun i _ => n - (intOf i).toNat)
  case atStart => exact ⟨0, none, 0, Nat.zero_le _, rfl, Hb4.out.setCell (by simp; omega) _, heap_set H3.out _, heap_set_ne H2.out (by simp; omega) _, World.ownsRow_nil _ _ _ _⟩
  case round =>
    obtain ⟨k, va, vc, hk, rfl, hb, hG, hR, hown⟩ := hrel
    by_cases hlt : k < n
    · obtain ⟨r, off, rfl, hr, hcc⟩ := HS.out (by intro h; have h1 := Hn.out; rw [h] at h1; simp at h1; omega)
      obtain ⟨y, hx⟩ : ∃ y, l[k]? = some y := ⟨_, List.getElem?_eq_getElem (by rw [Hn.out]; exact hlt)⟩
      have e0 := (hb.cell (p := ⟨r, off + k * 3 + 0, none⟩) hr).trans (hcc k y hx 0 _ rfl)
      have e1 := (hb.cell (p := ⟨r, off + k * 3 + 1, none⟩) hr).trans (hcc k y hx 1 _ rfl)
      have e2 := (hb.cell (p := ⟨r, off + k * 3 + 2, none⟩) hr).trans (hcc k y hx 2 _ rfl)
      simp only [Nat.add_zero] at e0
      obtain ⟨m1, m2, m3, m4, m5, m6⟩ := mayB_true (Hmay.out y (List.mem_of_getElem? hx))
      obtain ⟨g0, g1, g2, y0, y1, y2, gsz⟩ := blk3 hG
      have hsub : IntKind.i64.wrap (base - y.lag) = base - y.lag := IntWalk.i64_in _ (by omega)
      have hsz := hb.size
      have hP : w1.heap.size ≠ wr.heap.size := by omega
      have hki : (k : Int) < n := by omega
      have ag : (Value.slice va k vc).ownBlock ≠ some w1.heap.size := fun e => by have := (hown.lt _ e).1; omega
      have aR : (Value.slice va k vc).ownBlock ≠ some (w.heap.size + 1) := fun e => by have := (hown.lt _ e).1; omega
      have HG := Lib.hid hG
      have HR := Lib.hid hR
      have Hown := Lib.hid hown
      have Hx := Lib.hid hx
      have Hag := Lib.hid ag
      have HaR := Lib.hid aR
      clear hG hR hown hx ag aR hcc
      go_wp2_with fail
      refine wp_region_chain 50 [0, 1, 0, 4, 0, 16, 0, 0, 128, 448, 1020, 2044, 4092, 8191, 16383, 32767] [(0, none), (1, none), (2, none), (3, none), (4, none), (5, none), (6, none), (7, none), (8, none), (9, none), (10, none), (11, some [0, 1]), (12, some [0, 1]), (13, some []), (14, none), (15, some [])] (by kernel_rfl) (by kernel_rfl) (by rfl) ?_; simp only [chain, Obs, List.getElem?_toArray, List.getElem?_cons_zero, List.getElem?_cons_succ]
      go_wp2_with (first
        | (with_reducible refine And.intro (by first | with_reducible exact True.intro | with_reducible rfl | go_simp) ?_)
        | (go_at_call 151; refine (day_any _ _ _ _ _ m3 m4 (by omega) (by omega)).mono ?_; rintro e w3 ⟨rfl, hb5⟩; have h5 := heap_drew_below HG.out hb5; obtain ⟨g0, g1, g2, y0, y1, y2, gsz⟩ := blk3 h5; have H5 := Lib.hid h5; have H6 := Lib.hid (heap_drew_below HR.out hb5); have Hb5 := Lib.hid hb5; clear h5 hb5)
        | (at_builtin; refine wpList_append_lies _ (by rfl) _ _ _ (by rfl) (w1.heap.size + 1) 248 i0 _ 4 32 Tryz.underlying187 hi0 hz0 hz1 hz2 rfl (by omega) (.slice va k vc) k (flat Pt.enc ((l.take k).map (seedP base))) (by rfl) ((own_fr (F := fun _ => False) Hown.out (((Fr.refl _ wr).alloc _).drew.trans (Fr.of_below Hb5.out) (fun _ _ h => h)) (fun _ _ h => h)).alloc _) ⟨w3.heap.size, 0, none⟩ 1 1 (Pt.enc (seedP base y)) (by rfl) (by rfl) (World.news_of_block (cs := #[.int .i64 y.id, .int .i64 y.w, .int .i64 (base - y.lag), .int .i64 (base - y.lag + 4 * step y.w)]) (t := 248) (fr := (0, 0)) (heap_at (by simp) _)) (by simp [Value.oneCell', Pt.enc]) (by omega) (by unfold maxLen; omega) (by omega) (by simp; omega) (w3.heap.size + 1) (by simp) ?_
           intro gg cap w4 hown3 hgrow hat hglt
           have hfr3 : Fr (fun q => (Value.slice va k vc).ownBlock = some q) w3 w4 := ((Fr.refl _ w3).alloc _).trans (Fr.of_grown hgrow) (fun _ _ h => h)
           have h7 := heap_fr H5.out hfr3 Hag.out
           obtain ⟨g0, g1, g2, y0, y1, y2, gsz⟩ := blk3 h7
           have H7 := Lib.hid h7
           have H8 := Lib.hid (heap_fr H6.out hfr3 HaR.out)
           have Hfr3 := Lib.hid hfr3
           have Hown3 := Lib.hid hown3
           clear h7 hat hgrow hown3 hfr3))
      refine NoPanic.normal ?_
      go_wp2_with fail
      go_roundw
      case rel =>
        have hov := Hown.out.lt
        have hGg : (Value.slice (some ⟨gg, 0, none⟩) (k + 1) cap).ownBlock ≠ some w1.heap.size := fun e => by have := (Hown3.out.lt _ e).1; omega
        have hfr : Fr (fun q => (Value.slice va k vc).ownBlock = some q) wr w4 := (((Fr.refl _ wr).alloc _).drew.trans (Fr.of_below Hb5.out) (fun _ _ h => h)).trans Hfr3.out (fun _ _ h => h)
        refine ⟨k + 1, _, cap, by omega, by go_num, ?_, heap_set H7.out _, heap_set_ne H8.out (by simp; omega) _, ?_⟩
        · exact (hb.trans (hfr.below hsz fun k' hk' => by have := (hov _ hk').1; omega)).setCell (by simp; omega) _
        · have e1 : (l.take (k + 1)).map (seedP base) = (l.take k).map (seedP base) ++ [seedP base y] := by
            rw [List.take_succ_eq_append_getElem (List.getElem?_eq_some_iff.1 Hx.out).1, List.map_append, (List.getElem?_eq_some_iff.1 Hx.out).2]; rfl
          rw [e1, flat_append, flat_one]
          exact own_set Hown3.out hGg
      case measure => simp [intOf]; omega
    · obtain rfl : k = n := by omega
      obtain ⟨g0, g1, g2, y0, y1, y2, gsz⟩ := blk3 hG
      obtain ⟨r0, r1, r2, v0, v1, v2, rsz⟩ := blk3 hR
      have HR := Lib.hid hR
      have Hown := Lib.hid hown
      have hneR : w1.heap.size ≠ w.heap.size + 1 := by omega
      clear hR hown hG
      go_wp2_with fail
      have haR : (Value.slice va k vc).ownBlock ≠ some (w.heap.size + 1) := fun e => by have := (Hown.out.lt _ e).1; omega
      refine bodyPost_ret (res_ct _ _ (w.heap.size + 1) 189 #[.int .i64 base, .int .i64 cur, .slice va k vc] (0, 0) _ rfl rfl (heap_set (heap_set (heap_set HR.out _) _) _) Tryz.underlying189 rfl (by kernel_rfl)) rfl ⟨va, vc, ?_, ?_, ?_⟩
      · rw [List.length_map, Hn.out]; rfl
      · rw [List.length_map, Hn.out]
        have e1 : l.take k = l := List.take_of_length_le (by have := Hn.out; omega)
        have ho := Hown.out
        rw [e1] at ho
        exact own_base (own_set (own_set (own_set ho haR) haR) haR) (by omega)
      · exact ((hb.setCell (by simp) _).setCell (by simp) _).setCell (by simp) _
end Go.Proofs.YtlgkkolgdjgclaaGreat
/- The plain model of a queue: what each call does to base, core and points. -/
namespace Go.Proofs.YtlgkkolgdjgclaaGreat
open Go.RowKit
set_option linter.unusedVariables false
set_option linter.unusedSimpArgs false

structure OkS (K : Int) (S : Ln) : Prop where
  k0 : 0 ≤ K
  k1 : K ≤ 1152921504606846976
  byid : ById S.l
  len : S.l.length ≤ 64
  blo : -1152921504606846976 ≤ S.base
  bhi : S.base ≤ 2305843009213693952 + K
  pts : ∀ x ∈ S.l, 0 ≤ x.id ∧ x.id ≤ 1073741824 ∧ 1 ≤ x.w ∧ x.w ≤ 20 ∧ -1154047404513689600 ≤ x.v ∧ x.v ≤ 2305843009213693952 + K
  cur : S.cur = -1 ∨ ∃ x ∈ S.l, x.id = S.cur

theorem OkS.mono {K K' : Int} {S : Ln} (h : OkS K S) (hk : K ≤ K') (h1 : K' ≤ 1152921504606846976) : OkS K' S :=
  ⟨by have := h.k0; omega, h1, h.byid, h.len, h.blo, by have := h.bhi; omega, fun x hx => by have := h.pts x hx; omega, h.cur⟩

theorem best_mem : ∀ (l : List Pt) (m : Pt), best l m = m ∨ best l m ∈ l
  | [], m => .inl rfl
  | x :: t, m => by
    unfold best
    rcases best_mem t (if x.v < m.v then x else m) with h | h
    · rw [h]; split
      · exact .inr (by simp)
      · exact .inl rfl
    · exact .inr (by simp [h])
theorem least_mem {l : List Pt} {z : Pt} (h : least l = some z) : z ∈ l := by
  cases l with
  | nil => simp [least] at h
  | cons x t =>
    simp [least] at h
    rcases best_mem t x with h1 | h1
    · rw [← h, h1]; simp
    · rw [← h]; simp [h1]
theorem best_le : ∀ (l : List Pt) (m : Pt), (best l m).v ≤ m.v ∧ ∀ x ∈ l, (best l m).v ≤ x.v
  | [], m => ⟨Int.le_refl _, fun x hx => by cases hx⟩
  | x :: t, m => by
    unfold best
    obtain ⟨h1, h2⟩ := best_le t (if x.v < m.v then x else m)
    have h3 : (if x.v < m.v then x else m).v ≤ m.v ∧ (if x.v < m.v then x else m).v ≤ x.v := by split <;> omega
    refine ⟨by omega, fun y hy => ?_⟩
    rcases List.mem_cons.1 hy with rfl | hy
    · omega
    · exact h2 y hy
theorem least_le {l : List Pt} {z : Pt} (h : least l = some z) : ∀ x ∈ l, z.v ≤ x.v := by
  cases l with
  | nil => simp [least] at h
  | cons x t =>
    simp [least] at h
    obtain ⟨h1, h2⟩ := best_le t x
    intro y hy
    rw [← h]
    rcases List.mem_cons.1 hy with rfl | hy
    · exact h1
    · exact h2 y hy
theorem least_none {l : List Pt} : least l = none ↔ l = [] := by cases l <;> simp [least]

theorem growB_ge (base : Int) (l : List Pt) : base ≤ growB base l := by unfold growB; split <;> omega
theorem growB_le {base c : Int} {l : List Pt} (hb : base ≤ c) (h : ∀ x ∈ l, x.v ≤ c) : growB base l ≤ c := by
  unfold growB
  split
  · exact hb
  · rename_i z hz
    have := h z (least_mem hz); omega

/-- The calls. -/
def putR (S : Ln) (id w lag : Int) : Ln := if mayE S.l id w lag = 0 then ⟨growB S.base (insP (newP S.base id w lag) S.l), S.cur, insP (newP S.base id w lag) S.l⟩ else S
def enterR (held : Int → Int) (S : Ln) (id w lag : Int) : Ln := if mayE S.l id w lag = 0 then putR S id w (held lag) else S
/-- The place of a task, and the task. -/
def at? (S : Ln) (id : Int) : Option (Nat × Pt) := match S.l.findIdx? (isId id) with | some j => (S.l[j]?).map fun x => (j, x) | none => none
theorem at_cases (S : Ln) (id : Int) : (at? S id = none ∧ fi (isId id) S.l = -1 ∧ ∀ x ∈ S.l, x.id ≠ id) ∨ ∃ j x, at? S id = some (j, x) ∧ fi (isId id) S.l = (j : Nat) ∧ j < S.l.length ∧ S.l[j]? = some x ∧ x.id = id := by
  rcases fi_cases (isId id) S.l with ⟨h1, h2⟩ | ⟨j, x, h1, h2, h3, h4, h5⟩
  · left
    refine ⟨?_, h1, fun x hx e => by have := h2 x hx; simp [isId, e] at this⟩
    unfold at?
    have : S.l.findIdx? (isId id) = none := List.findIdx?_eq_none_iff.2 fun x hx => by simp [h2 x hx]
    rw [this]
  · right
    refine ⟨j, x, ?_, h1, h2, h3, by simpa [isId] using h4⟩
    unfold at?
    have : S.l.findIdx? (isId id) = some j := by
      unfold fi at h1
      split at h1
      · rename_i i hi; rw [hi]; congr 1; omega
      · omega
    rw [this]; simp [h3]
def leaveR (S : Ln) (id : Int) : Ln × Int × Int := match at? S id with
  | none => (S, 0, 2)
  | some (j, x) => (⟨growB S.base (S.l.eraseIdx j), if S.cur = id then -1 else S.cur, S.l.eraseIdx j⟩, S.base - x.v, 0)
def weighR (S : Ln) (id w : Int) : Ln × Int := match at? S id with
  | none => (S, 2)
  | some (j, x) => if goodW w = true then (⟨growB S.base (S.l.set j (dayOf { x with w := w })), S.cur, S.l.set j (dayOf { x with w := w })⟩, 0) else (S, 1)
def chargeR (S : Ln) : Ln × Int × Int := match at? S S.cur with
  | none => (S, 0, 14)
  | some (j, x) => if 2305843009213693952 < x.v + step x.w then (S, 0, 7) else (⟨growB S.base (S.l.set j (chargeP x)), S.cur, S.l.set j (chargeP x)⟩, x.id, 0)
def backR (S : Ln) : Ln × Bool := ({ S with cur := -1 }, S.cur != -1)
def takeR (S : Ln) : Option Pt → Ln × Int × Bool
  | none => ({ S with cur := -1 }, 0, false)
  | some z => ({ S with cur := z.id }, z.id, true)
def formR (S : Ln) : Fm := ⟨S.cur, S.l.map (itOf S.base)⟩
def seedR (f : Fm) (base : Int) : Ln := ⟨base, f.cur, f.l.map (seedP base)⟩

theorem ById.sub {l m : List Pt} (h : ById l) (hs : m.Sublist l) : ById m := List.Pairwise.sublist hs h
theorem ById.set {l : List Pt} (h : ById l) {j : Nat} {x y : Pt} (hx : l[j]? = some x) (hy : y.id = x.id) : ById (l.set j y) := by
  refine List.pairwise_iff_getElem.2 fun a b ha hb hab => ?_
  have hg := List.pairwise_iff_getElem.1 h
  obtain ⟨hj, rfl⟩ := List.getElem?_eq_some_iff.1 hx
  simp only [List.length_set] at ha hb
  simp only [List.getElem_set]
  have h0 := hg a b ha hb hab
  split
  · rename_i e; subst e
    split
    · omega
    · omega
  · split
    · rename_i e; subst e; omega
    · omega
theorem mem_set {l : List Pt} {j : Nat} {x y z : Pt} (hx : l[j]? = some x) (hz : z ∈ l.set j y) : z = y ∨ z ∈ l := by
  rcases List.mem_or_eq_of_mem_set hz with h | h
  · exact .inr h
  · exact .inl h

theorem OkS.put {K : Int} {S : Ln} (h : OkS K S) (id w lag : Int) (hk : K + 1125899906842624 ≤ 1152921504606846976) : OkS (K + 1125899906842624) (putR S id w lag) := by
  have k0 := h.k0
  unfold putR
  split
  · rename_i hm
    obtain ⟨hm1, hm2, hm3⟩ := mayE_zero h.len hm
    obtain ⟨i1, i2, w1, w2, g1, g2⟩ := mayB_true hm1
    have hb := h.bhi
    have hl := h.blo
    have hpts : ∀ x ∈ insP (newP S.base id w lag) S.l, 0 ≤ x.id ∧ x.id ≤ 1073741824 ∧ 1 ≤ x.w ∧ x.w ≤ 20 ∧ -1154047404513689600 ≤ x.v ∧ x.v ≤ 2305843009213693952 + (K + 1125899906842624) := by
      intro x hx
      rcases insP_mem.1 hx with rfl | hx
      · simp only [newP]; omega
      · have := h.pts x hx; omega
    refine ⟨by omega, hk, insP_sorted h.byid (fun y hy => hm2 y hy), by simp only; rw [insP_len]; omega, Int.le_trans h.blo (growB_ge _ _), growB_le (by omega) fun x hx => (hpts x hx).2.2.2.2.2, hpts, ?_⟩
    rcases h.cur with hc | ⟨x, hx, hc⟩
    · exact .inl hc
    · exact .inr ⟨x, insP_mem.2 (.inr hx), hc⟩
  · exact h.mono (by omega) hk
theorem OkS.enter {K : Int} {S : Ln} (held : Int → Int) (h : OkS K S) (id w lag : Int) (hk : K + 1125899906842624 ≤ 1152921504606846976) : OkS (K + 1125899906842624) (enterR held S id w lag) := by
  unfold enterR
  split
  · exact h.put _ _ _ hk
  · exact h.mono (by omega) hk
theorem OkS.leave {K : Int} {S : Ln} (h : OkS K S) (id : Int) : OkS K (leaveR S id).1 := by
  unfold leaveR
  rcases at_cases S id with ⟨h1, _⟩ | ⟨j, x, h1, _, hj, hx, hid⟩
  · rw [h1]; exact h
  · rw [h1]
    have hsub : (S.l.eraseIdx j).Sublist S.l := List.eraseIdx_sublist _ _
    have hpts := fun y (hy : y ∈ S.l.eraseIdx j) => h.pts y (hsub.subset hy)
    refine ⟨h.k0, h.k1, h.byid.sub hsub, Nat.le_trans hsub.length_le h.len, Int.le_trans h.blo (growB_ge _ _), growB_le h.bhi fun x hx => (hpts x hx).2.2.2.2.2, hpts, ?_⟩
    simp only
    split
    · exact .inl rfl
    · rename_i hne
      rcases h.cur with hc | ⟨y, hy, hc⟩
      · exact .inl hc
      · refine .inr ⟨y, ?_, hc⟩
        obtain ⟨i, hi, rfl⟩ := List.getElem_of_mem hy
        obtain ⟨hj', rfl⟩ := List.getElem?_eq_some_iff.1 hx
        refine List.mem_eraseIdx_iff_getElem.2 ⟨i, hi, fun e => hne ?_, rfl⟩
        subst e; rw [← hc, ← hid]
theorem OkS.setP {K : Int} {S : Ln} (h : OkS K S) {j : Nat} {x y : Pt} (hx : S.l[j]? = some x) (hy : y.id = x.id) (hw : 1 ≤ y.w ∧ y.w ≤ 20) (hv : x.v ≤ y.v ∧ y.v ≤ 2305843009213693952 + K) : OkS K ⟨growB S.base (S.l.set j y), S.cur, S.l.set j y⟩ := by
  have hmem := List.mem_of_getElem? hx
  have h0 := h.pts x hmem
  have hpts : ∀ z ∈ S.l.set j y, 0 ≤ z.id ∧ z.id ≤ 1073741824 ∧ 1 ≤ z.w ∧ z.w ≤ 20 ∧ -1154047404513689600 ≤ z.v ∧ z.v ≤ 2305843009213693952 + K := fun z hz => by
    rcases mem_set hx hz with rfl | hz
    · omega
    · exact h.pts z hz
  refine ⟨h.k0, h.k1, h.byid.set hx hy, by simp only; rw [List.length_set]; exact h.len, Int.le_trans h.blo (growB_ge _ _), growB_le h.bhi fun z hz => (hpts z hz).2.2.2.2.2, hpts, ?_⟩
  rcases h.cur with hc | ⟨z, hz, hc⟩
  · exact .inl hc
  · right
    simp only
    obtain ⟨i, hi, rfl⟩ := List.getElem_of_mem hz
    by_cases hij : j = i
    · subst hij
      obtain ⟨_, rfl⟩ := List.getElem?_eq_some_iff.1 hx
      exact ⟨y, List.mem_set hi y, by omega⟩
    · exact ⟨S.l[i], List.mem_iff_getElem.2 ⟨i, by rw [List.length_set]; exact hi, by rw [List.getElem_set, if_neg hij]⟩, hc⟩
theorem OkS.weigh {K : Int} {S : Ln} (h : OkS K S) (id w : Int) : OkS K (weighR S id w).1 := by
  unfold weighR
  rcases at_cases S id with ⟨h1, _⟩ | ⟨j, x, h1, _, hj, hx, hid⟩
  · rw [h1]; exact h
  · rw [h1]
    simp only
    split
    · rename_i hg
      obtain ⟨g1, g2⟩ := goodW_true hg
      exact h.setP hx rfl ⟨g1, g2⟩ ⟨Int.le_refl _, (h.pts x (List.mem_of_getElem? hx)).2.2.2.2.2⟩
    · exact h
theorem chargeP_is (x : Pt) : (chargeP x).id = x.id ∧ (chargeP x).w = x.w ∧ (chargeP x).v = x.v + step x.w := by unfold chargeP dayOf; split <;> simp
theorem OkS.charge {K : Int} {S : Ln} (h : OkS K S) : OkS K (chargeR S).1 := by
  unfold chargeR
  rcases at_cases S S.cur with ⟨h1, _⟩ | ⟨j, x, h1, _, hj, hx, hid⟩
  · rw [h1]; exact h
  · rw [h1]
    simp only
    split
    · exact h
    · rename_i hg
      have hp := h.pts x (List.mem_of_getElem? hx)
      have hs := step_le x.w
      have k0 := h.k0
      obtain ⟨c1, c2, c3⟩ := chargeP_is x
      exact h.setP hx c1 (by rw [c2]; omega) (by rw [c3]; omega)
theorem OkS.curs {K : Int} {S : Ln} (h : OkS K S) (c : Int) (hc : c = -1 ∨ ∃ x ∈ S.l, x.id = c) : OkS K { S with cur := c } := ⟨h.k0, h.k1, h.byid, h.len, h.blo, h.bhi, h.pts, hc⟩
theorem OkS.back {K : Int} {S : Ln} (h : OkS K S) : OkS K (backR S).1 := h.curs _ (.inl rfl)
theorem OkS.take {K : Int} {S : Ln} (h : OkS K S) (z : Option Pt) (hz : ∀ x, z = some x → x ∈ S.l) : OkS K (takeR S z).1 := by
  cases z with
  | none => exact h.curs _ (.inl rfl)
  | some x => exact h.curs _ (.inr ⟨x, hz x rfl, rfl⟩)
theorem OkS.new {base : Int} (h1 : -1152921504606846976 ≤ base) (h2 : base ≤ 1152921504606846976) : OkS 0 ⟨base, -1, []⟩ :=
  ⟨by omega, by omega, List.Pairwise.nil, by simp, h1, by simp only; omega, (fun x hx => by cases hx), .inl rfl⟩
theorem seed_byid {base : Int} {l : List It} (h : l.Pairwise fun a b => a.id < b.id) : ById (l.map (seedP base)) := List.pairwise_map.2 h
theorem OkS.seed {base : Int} {f : Fm} (h1 : -1152921504606846976 ≤ base) (h2 : base ≤ 1152921504606846976) (hg : goodF f = true) : OkS 0 (seedR f base) := by
  obtain ⟨g1, g2, g3, g4, g5⟩ := (of_decide_eq_true hg : GoodP f)
  refine ⟨by omega, by omega, seed_byid g4, by simp only [seedR]; rw [List.length_map]; exact g1, h1, by simp only [seedR]; omega, fun x hx => ?_, ?_⟩
  · simp only [seedR, List.mem_map] at hx
    obtain ⟨y, hy, rfl⟩ := hx
    have := mayB_true (g3 y hy)
    simp only [seedP, newP]; omega
  · rcases g2 with h | ⟨x, hx, h⟩
    · exact .inl h
    · exact .inr ⟨seedP base x, List.mem_map.2 ⟨x, hx, rfl⟩, h⟩
/-- What is told of a seed is the form. -/
theorem form_seed (f : Fm) (base : Int) : formR (seedR f base) = f := by
  unfold formR seedR
  cases f with
  | mk c l =>
    simp only [List.map_map, Fm.mk.injEq, true_and]
    have : ∀ x : It, (itOf base ∘ seedP base) x = x := fun x => by
      cases x
      simp only [Function.comp, itOf, seedP, newP, It.mk.injEq, true_and]; omega
    rw [List.map_congr_left (fun x _ => this x)]; simp
end Go.Proofs.YtlgkkolgdjgclaaGreat
