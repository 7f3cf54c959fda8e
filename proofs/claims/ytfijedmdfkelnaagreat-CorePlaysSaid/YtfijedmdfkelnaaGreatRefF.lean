/- The document's own queue: Form; forms compared. -/
import Derived.Test.YtfijedmdfkelnaaGreatRefD
namespace Go.Proofs.YtfijedmdfkelnaaGreat
open Go.RowKit
set_option linter.unusedVariables false
set_option linter.unusedSimpArgs false

theorem infoRIt : (Tryz.prog.info? 97).map (fun i => (i.zero, i.size, i.bytes)) = some (some (.agg #[.int .i64 0, .int .i64 0, .int .i64 0]), 3, 24) := by kernel_rfl
/-- What Form tells, in new memory. -/
def RFormPost (w : World) (cur : Int) (its : List It) (e : Ending) (w' : World) : Prop :=
  ∃ a c, e = .returned (.agg #[.int .i64 cur, .slice a its.length c]) ∧ w'.ownsRow w.heap.size 97 3 (.slice a its.length c) its.length (flat It.enc its) ∧ Below w.heap.size w w'

set_option maxHeartbeats 3200000 in
set_option maxRecDepth 100000 in
theorem rForm_any {w : World} {b c : Nat} {a : Option Addr} {tag : Int} {S : Ln} (h : RAt w b a c tag S) (hl : S.l.length ≤ 64)
    (hb1 : -2305843009213693952 ≤ S.base) (hb2 : S.base ≤ 4611686018427387904) (hv : ∀ x ∈ S.l, -2305843009213693952 ≤ x.v ∧ x.v ≤ 4611686018427387904) :
    Calls Tryz.prog 18 #[.pointer (some ⟨b, 0, none⟩)] w (RFormPost w S.cur (S.l.map (itOf S.base))) := by
  obtain ⟨base, cur, l⟩ := S
  simp only at hl hb1 hb2 hv ⊢
  obtain ⟨c0, c1, c2, c3, f0, f1, f2, f3, hlt⟩ := blk4 h.blk
  obtain ⟨i0, hi0, hz0, hz1, hz2⟩ := info_parts infoRIt
  have hne : b ≠ w.heap.size := by omega
  have hne1 : b ≠ w.heap.size + 1 := by omega
  simp only at c1 c2 c3
  have HB0 := h.blk
  simp only at HB0
  generalize hn : l.length = n at c3 HB0
  have hnn : n ≤ 64 := by omega
  have Hn := Lib.hid hn
  have H0 := Lib.hid h
  have HB := Lib.hid HB0
  have Hv := Lib.hid hv
  clear h hn hl hv HB0
  go_enter Tryz.func18, Tryz.ntmps18
  go_wp2_with fail
  go_loopw [4] (fun i wr => ∃ (k : Nat) (va : Option Addr) (vc : Nat), k ≤ n ∧ i = .int .i64 k ∧ Below w.heap.size w wr ∧ wr.heap[w.heap.size + 1]? = some (.cells #[.int .i64 cur, .slice va k vc] 36 (0, 0)) ∧
      wr.heap[w.heap.size]? = some (.cells #[.int .i64 0, .slice none 0 0] 36 (0, 0)) ∧ wr.ownsRow (w.heap.size + 2) 97 3 (.slice va k vc) k (flat It.enc ((l.take k).map (itOf base)))) (fun i _ => n - (intOf i).toNat)
  case atStart => exact ⟨0, none, 0, Nat.zero_le _, rfl, ((Below.refl _ _).alloc (Nat.le_refl _) _).alloc (by simp) _, heap_at (by simp) _, heap_alloc (heap_new _ _) _, World.ownsRow_nil _ _ _ _⟩
  case round =>
    obtain ⟨k, va, vc, hk, rfl, hb, hG, hR, hown⟩ := hrel
    by_cases hlt : k < n
    · obtain ⟨x, hx⟩ : ∃ x, l[k]? = some x := ⟨_, List.getElem?_eq_getElem (by have := Hn.out; omega)⟩
      obtain ⟨r, ra, d0, d1, d2, d3, z0, z1, z2, z3, hrb, hrl⟩ := (H0.out.below hb).elem k x hx
      obtain ⟨g0, g1, y0, y1, gsz⟩ := blk2 hG
      obtain ⟨C0, C1, C2, C3, F0, F1, F2, F3, hlt1⟩ := blk4 (heap_below HB.out hb)
      obtain ⟨hx1, hx2⟩ := Hv.out x (List.mem_of_getElem? hx)
      have hsz := hb.size
      subst ra
      have hk0 : (0 : Int) ≤ k := by omega
      have hki : (k : Int) < n := by omega
      have hkn : decide ((k : Int) < n) = true := by simp; omega
      have hP : wr.heap.size ≠ w.heap.size + 1 := by omega
      have hbP : b ≠ wr.heap.size := by omega
      have hbG : w.heap.size + 1 ≠ b := by omega
      have hov : ∀ g, (Value.slice va k vc).ownBlock = some g → w.heap.size + 2 ≤ g ∧ g < wr.heap.size := fun g hg => hown.lt g hg
      have ag : (Value.slice va k vc).ownBlock ≠ some (w.heap.size + 1) := fun e => by have := hov _ e; omega
      have HG := Lib.hid hG
      have HR := Lib.hid hR
      have Hown := Lib.hid hown
      have Hx := Lib.hid hx
      have Hag := Lib.hid ag
      have hsub : IntKind.i64.wrap (base - x.v) = base - x.v := IntWalk.i64_in _ (by omega)
      clear hG hR hown hx ag hov
      go_wp2_with fail
      refine wp_region_chain 55 [0, 1, 0, 4, 12, 28, 0, 124, 252, 508, 0, 1024, 3072, 7168, 0, 31744, 64512, 130048, 0, 262144, 786432, 1835008, 0, 4194304, 12582912, 29360128, 0, 130023424, 264241152, 532676608, 1073479680, 2147483644, 4294967292, 8589934591, 17179869183, 34359738367] [(0, none), (1, none), (2, none), (3, none), (4, none), (5, none), (6, none), (7, none), (8, none), (9, none), (10, none), (11, none), (12, none), (13, none), (14, none), (15, none), (16, none), (17, none), (18, none), (19, none), (20, none), (21, none), (22, none), (23, none), (24, none), (25, none), (26, none), (27, none), (28, none), (29, none), (30, none), (31, none), (32, some [0, 1]), (33, some []), (34, none), (35, some [])] (by kernel_rfl) (by kernel_rfl) (by rfl) ?_; simp only [chain, Obs, List.getElem?_toArray, List.getElem?_cons_zero, List.getElem?_cons_succ]
      go_wp2_with (first
        | (with_reducible refine And.intro (by first | with_reducible exact True.intro | with_reducible rfl | go_simp) ?_)
        | (at_builtin; go_loud (refine wpList_append_lies _ (by rfl) _ _ _ (by rfl) (w.heap.size + 2) 97 i0 _ 3 24 Tryz.underlying34 hi0 hz0 hz1 hz2 rfl (by omega) (.slice va k vc) k _ (by rfl) ((Hown.out.alloc _).drew) ⟨wr.heap.size, 0, none⟩ 1 1 [.int .i64 x.id, .int .i64 x.w, .int .i64 (base - x.v)] (by rfl) (by rfl) (World.news_of_block (cs := #[.int .i64 x.id, .int .i64 x.w, .int .i64 (base - x.v)]) (t := 97) (fr := (0, 0)) (heap_at (by simp) _)) (by simp [Value.oneCell']) (by omega) (by unfold maxLen; omega) (by omega) (by simp; omega) (wr.heap.size + 1) (by simp) ?_); intro gg cap w1 hown1 hgrow hat hlt; have hfr1 : Fr (fun q => (Value.slice va k vc).ownBlock = some q) wr w1 := (((Fr.refl _ wr).alloc _).drew).trans (Fr.of_grown hgrow) (fun _ _ h => h); have q1 := (hfr1.cell (p := ⟨w.heap.size + 1, 1, none⟩) gsz Hag.out).trans g1; have q2 := (hfr1.frozen (p := ⟨w.heap.size + 1, 1, none⟩) gsz Hag.out).trans y1; have q0 := Lib.hid hat; have q3 := Lib.hid hgrow; have q4 := Lib.hid hown1; clear hat hgrow hown1))
      refine NoPanic.normal ?_
      go_wp2_with fail
      go_roundw
      case rel =>
        have hov := Hown.out.lt
        have hG1 : w1.heap[w.heap.size + 1]? = some (.cells #[.int .i64 cur, .slice va k vc] 36 (0, 0)) := heap_fr HG.out hfr1 Hag.out
        have haR : (Value.slice va k vc).ownBlock ≠ some w.heap.size := fun e => by have := (hov _ e).1; omega
        have hR1 : w1.heap[w.heap.size]? = some (.cells #[.int .i64 0, .slice none 0 0] 36 (0, 0)) := heap_fr HR.out hfr1 haR
        have hown := q4.out
        have hGg : (Value.slice (some ⟨gg, 0, none⟩) (k + 1) cap).ownBlock ≠ some (w.heap.size + 1) := fun e => by have := (hown.lt _ e).1; omega
        refine ⟨k + 1, _, cap, by omega, by go_num, ?_, heap_set hG1 _, heap_set_ne hR1 (by simp) _, ?_⟩
        · exact (hb.trans (hfr1.below hsz fun k' hk' => by have := (hov _ hk').1; omega)).setCell (by simp) _
        · have e1 : (l.take (k + 1)).map (itOf base) = (l.take k).map (itOf base) ++ [itOf base x] := by
            rw [List.take_succ_eq_append_getElem (List.getElem?_eq_some_iff.1 Hx.out).1, List.map_append, (List.getElem?_eq_some_iff.1 Hx.out).2]; rfl
          rw [e1, flat_append, flat_one]
          exact own_set hown hGg
      case measure => simp [intOf]; omega
    · have hkn : k = n := by omega
      subst hkn
      obtain ⟨g0, g1, y0, y1, gsz⟩ := blk2 hG
      obtain ⟨r0, r1, v0, v1, rsz⟩ := blk2 hR
      obtain ⟨C0, C1, C2, C3, F0, F1, F2, F3, hlt1⟩ := blk4 (heap_below HB.out hb)
      have hR0 := Lib.hid hR
      have Hown := Lib.hid hown
      clear hR hown hG
      go_wp2_with fail
      have haR : (Value.slice va k vc).ownBlock ≠ some w.heap.size := fun e => by have := (Hown.out.lt _ e).1; omega
      refine bodyPost_ret (res_c _ _ w.heap.size 36 #[.int .i64 cur, .slice va k vc] (0, 0) _ rfl rfl (heap_set (heap_set hR0.out _) _) Tryz.underlying36 rfl (by kernel_rfl)) rfl ⟨va, vc, ?_, ?_, ?_⟩
      · rw [List.length_map, Hn.out]
      · rw [List.length_map, Hn.out]
        have e1 : l.take k = l := List.take_of_length_le (by have := Hn.out; omega)
        have ho := Hown.out
        rw [e1] at ho
        exact own_base (own_set (own_set ho haR) haR) (by omega)
      · exact (hb.setCell (Nat.le_refl _) _).setCell (Nat.le_refl _) _

set_option maxHeartbeats 3200000 in
set_option maxRecDepth 100000 in
theorem rSame_any (cu1 cu2 : Int) (l1 l2 : List It) (n1 n2 : Nat) (a1 a2 : Option Addr) (d1 d2 : Nat) (w : World) (hn1 : l1.length = n1) (hn2 : l2.length = n2) (hl1 : n1 ≤ 4611686018427387904) (hl2 : n2 ≤ 4611686018427387904)
    (h1 : Sl It.enc 3 w a1 l1) (h2 : Sl It.enc 3 w a2 l2) (he : (⟨cu1, l1⟩ : Fm) = ⟨cu2, l2⟩) :
    Calls Tryz.prog 17 #[.agg #[.int .i64 cu1, .slice a1 n1 d1], .agg #[.int .i64 cu2, .slice a2 n2 d2]] w fun e w' => e = .returned (.bool true) ∧ Below w.heap.size w w' := by
  obtain ⟨rfl, rfl⟩ : cu1 = cu2 ∧ l1 = l2 := by simpa using he
  obtain rfl : n1 = n2 := by omega
  have HX := Lib.hid (heap_alloc (heap_new w (.cells #[.int .i64 cu1, .slice a1 n1 d1] 36)) (.cells #[.int .i64 cu1, .slice a2 n1 d2] 36))
  have HY := Lib.hid (heap_at (w := w.alloc (.cells #[.int .i64 cu1, .slice a1 n1 d1] 36)) (n := w.heap.size + 1) (by simp) (.cells #[.int .i64 cu1, .slice a2 n1 d2] 36))
  have hb0 : Below w.heap.size w ((w.alloc (.cells #[.int .i64 cu1, .slice a1 n1 d1] 36)).alloc (.cells #[.int .i64 cu1, .slice a2 n1 d2] 36)) := ((Below.refl _ _).alloc (Nat.le_refl _) _).alloc (by simp) _
  have Hb0 := Lib.hid hb0
  have N1 := Lib.hid hn1
  have H1 := Lib.hid h1
  have H2 := Lib.hid h2
  clear hn1 hn2 h1 h2 he hb0
  go_enter Tryz.func17, Tryz.ntmps17
  go_wp2_with fail
  go_loopw [5] (fun i wr => ∃ k : Nat, k ≤ n1 ∧ i = .int .i64 k ∧ Below (w.heap.size + 2) ((w.alloc (.cells #[.int .i64 cu1, .slice a1 n1 d1] 36)).alloc (.cells #[.int .i64 cu1, .slice a2 n1 d2] 36)) wr) (fun i _ => n1 - (intOf i).toNat)
  case atStart => exact ⟨0, Nat.zero_le _, rfl, Below.refl _ _⟩
  case round =>
    obtain ⟨k, hk, rfl, hb⟩ := hrel
    have hb' : Below ((w.alloc (.cells #[.int .i64 cu1, .slice a1 n1 d1] 36)).alloc (.cells #[.int .i64 cu1, .slice a2 n1 d2] 36)).heap.size ((w.alloc (.cells #[.int .i64 cu1, .slice a1 n1 d1] 36)).alloc (.cells #[.int .i64 cu1, .slice a2 n1 d2] 36)) wr := by simpa using hb
    obtain ⟨x0, x1, v0, v1, xl⟩ := blk2 (heap_below HX.out hb')
    obtain ⟨y0, y1, t0, t1, yl⟩ := blk2 (heap_below HY.out hb')
    have hbw := Hb0.out.trans (hb'.mono (by simp; omega))
    have Hbw := Lib.hid hbw
    clear hb'
    by_cases hlt : k < n1
    · obtain ⟨r1, o1, rfl, hr1, hc1⟩ := H1.out (by intro h; have := N1.out; rw [h] at this; simp at this; omega)
      obtain ⟨r2, o2, rfl, hr2, hc2⟩ := H2.out (by intro h; have := N1.out; rw [h] at this; simp at this; omega)
      obtain ⟨x, hx⟩ : ∃ x, l1[k]? = some x := ⟨_, List.getElem?_eq_getElem (by rw [N1.out]; exact hlt)⟩
      have e0 := (hbw.cell (p := ⟨r1, o1 + k * 3 + 0, none⟩) hr1).trans (hc1 k x hx 0 _ rfl)
      have e1 := (hbw.cell (p := ⟨r1, o1 + k * 3 + 1, none⟩) hr1).trans (hc1 k x hx 1 _ rfl)
      have e2 := (hbw.cell (p := ⟨r1, o1 + k * 3 + 2, none⟩) hr1).trans (hc1 k x hx 2 _ rfl)
      have g0 := (hbw.cell (p := ⟨r2, o2 + k * 3 + 0, none⟩) hr2).trans (hc2 k x hx 0 _ rfl)
      have g1 := (hbw.cell (p := ⟨r2, o2 + k * 3 + 1, none⟩) hr2).trans (hc2 k x hx 1 _ rfl)
      have g2 := (hbw.cell (p := ⟨r2, o2 + k * 3 + 2, none⟩) hr2).trans (hc2 k x hx 2 _ rfl)
      simp only [Nat.add_zero] at e0 g0
      have hki : (k : Int) < n1 := by omega
      clear hx hc1 hc2 hbw
      go_wp2_with fail
      refine wp_region_chain 38 [0, 1, 0, 7, 15, 0, 32, 0, 224, 480, 1023] [(0, none), (1, none), (2, none), (3, none), (4, none), (5, none), (6, none), (7, none), (8, none), (9, none), (10, none)] (by kernel_rfl) (by kernel_rfl) (by rfl) ?_; simp only [chain, Obs, List.getElem?_toArray, List.getElem?_cons_zero, List.getElem?_cons_succ]
      go_wp2_with (first
        | (with_reducible refine And.intro (by first | with_reducible exact True.intro | with_reducible rfl | go_simp) ?_))
      refine NoPanic.normal ?_
      go_wp2_with fail
      go_roundw
      case rel => exact ⟨k + 1, hlt, by go_num, hb.drew⟩
      case measure => simp [intOf]; omega
    · go_wp2_with fail
      go_ret
      exact ⟨rfl, Hbw.out⟩
end Go.Proofs.YtfijedmdfkelnaaGreat
