/- The document's own queue: Seed. -/
import Derived.Test.YtfijedmdfkelnaaGreatRefH
import Derived.Test.YtfijedmdfkelnaaGreatRefQ
namespace Go.Proofs.YtfijedmdfkelnaaGreat
open Go.RowKit
set_option linter.unusedVariables false
set_option linter.unusedSimpArgs false

set_option maxHeartbeats 1600000 in
set_option maxRecDepth 100000 in
theorem rSeed_err (tag cur : Int) (l : List It) (n : Nat) (a : Option Addr) (c : Nat) (base : Int) (w : World) (hn : l.length = n) (hl : n ≤ 4611686018427387904) (hs : Sl It.enc 3 w a l) (h : ¬ ((tag = 0 ∨ tag = 1 ∨ tag = 2) ∧ BaseOk base) ∨ goodF ⟨cur, l⟩ = false) :
    Calls Tryz.prog 9 #[.int .i64 tag, .agg #[.int .i64 cur, .slice a n c], .int .i64 base] w fun e w' => e = .returned (.tuple #[.pointer none, .int .i64 1]) ∧ Below w.heap.size w w' := by
  have HF := Lib.hid (heap_new w (.cells #[.int .i64 cur, .slice a n c] 36))
  have HS := Lib.hid (hs.below ((Below.refl _ _).alloc (Nat.le_refl _) (.cells #[.int .i64 cur, .slice a n c] 36)))
  by_cases hb : (tag = 0 ∨ tag = 1 ∨ tag = 2) ∧ BaseOk base
  · have hg : goodF ⟨cur, l⟩ = false := by
      rcases h with h | h
      · exact absurd hb h
      · exact h
    have Hg := Lib.hid hg
    have HN := Lib.hid (fun W => rNew_ok tag base W hb.1 hb.2)
    have Hn := Lib.hid hn
    clear h hb hg hs hn
    go_enter Tryz.func9, Tryz.ntmps9
    go_wp2_with (first
      | (go_at_call 32; refine (HN.out _).mono ?_; rintro e w1 ⟨rfl, _, hb1⟩; have h1 := heap_below HF.out hb1; obtain ⟨x0, x1, v0, v1, xl⟩ := blk2 h1)
      | (go_at_call 45; refine (rGoodF_any cur l n a c _ Hn.out hl (HS.out.below hb1) Hg.out).mono ?_; rintro e w2 ⟨rfl, hb2⟩))
    go_ret2
    exact ⟨rfl, ((Below.refl w.heap.size w).alloc (Nat.le_refl _) _).trans ((hb1.trans (hb2.mono hb1.size)).mono (by simp))⟩
  · have HN := Lib.hid (fun W => rNew_err tag base W hb)
    clear h hb hs hn
    go_enter Tryz.func9, Tryz.ntmps9
    go_wp2_with (first
      | (go_at_call 32; refine (HN.out _).mono ?_; rintro e w1 ⟨rfl, rfl⟩))
    go_ret2
    exact ⟨rfl, (Below.refl w.heap.size w).alloc (Nat.le_refl _) _⟩

set_option maxHeartbeats 6400000 in
set_option maxRecDepth 100000 in
theorem rSeed_ok (tag cur : Int) (l : List It) (n : Nat) (a : Option Addr) (c : Nat) (base : Int) (w : World) (hn : l.length = n) (hs : Sl It.enc 3 w a l) (ht : tag = 0 ∨ tag = 1 ∨ tag = 2) (hb : BaseOk base) (hg : goodF ⟨cur, l⟩ = true) :
    Calls Tryz.prog 9 #[.int .i64 tag, .agg #[.int .i64 cur, .slice a n c], .int .i64 base] w fun e w' => ∃ r a' c', e = .returned (.tuple #[.pointer (some ⟨r, 0, none⟩), .int .i64 0]) ∧
      RAt w' r a' c' tag (seedR ⟨cur, l⟩ base) ∧ (∀ k, foot r a' k → w.heap.size ≤ k) ∧ Below w.heap.size w w' := by
  have hgp : GoodP ⟨cur, l⟩ := of_decide_eq_true hg
  have hl64 : n ≤ 64 := by rw [← hn]; exact hgp.1
  have Hmay := Lib.hid hgp.2.2.1
  have HF := Lib.hid (heap_new w (.cells #[.int .i64 cur, .slice a n c] 36))
  have HS := Lib.hid (hs.below ((Below.refl _ _).alloc (Nat.le_refl _) (.cells #[.int .i64 cur, .slice a n c] 36)))
  have Hg := Lib.hid hg
  have Hn := Lib.hid hn
  have HN := Lib.hid (fun W => rNew_ok tag base W ht hb)
  obtain ⟨hb1, hb2⟩ := hb
  obtain ⟨i0, hi0, hz0, hz1, hz2⟩ := info_parts infoTask
  clear hs hn hg hgp ht
  go_enter Tryz.func9, Tryz.ntmps9
  go_wp2_with (first
    | (go_at_call 32; refine (HN.out _).mono ?_; rintro e w1 ⟨rfl, hra, hbn⟩; have h1 := heap_below HF.out hbn; obtain ⟨x0, x1, v0, v1, xl⟩ := blk2 h1; have H1 := Lib.hid h1; have HRa := Lib.hid hra; have Hbn := Lib.hid hbn; have hszn := hra.lt; clear h1 hra hbn)
    | (go_at_call 45; refine (rGoodF_any cur l n a c _ Hn.out (by omega) (HS.out.below Hbn.out) Hg.out).mono ?_; rintro e w2 ⟨rfl, hb2'⟩; have h2 := heap_below H1.out hb2'; obtain ⟨x0, x1, v0, v1, xl⟩ := blk2 h2; have H2 := Lib.hid h2; have HR2 := Lib.hid (HRa.out.below hb2'); have Hb2 := Lib.hid (((Below.refl w.heap.size w).alloc (Nat.le_refl _) (.cells #[.int .i64 cur, .slice a n c] 36)).trans ((Hbn.out.trans (hb2'.mono Hbn.out.size)).mono (by simp))); have HbA2 := Lib.hid (show Below (w.heap.size + 1) (w.alloc (.cells #[.int .i64 cur, .slice a n c] 36)) w2 by have h := Hbn.out.trans (hb2'.mono Hbn.out.size); simpa using h); have hsz2 := hb2'.size; clear h2 hb2'))
  simp only [World.size_alloc] at hszn
  go_loopw [10] (fun i wr => ∃ (k : Nat) (va : Option Addr) (vc : Nat), k ≤ n ∧ i = .int .i64 k ∧ Below w.heap.size w wr ∧ Below (w.heap.size + 1) (w.alloc (.cells #[.int .i64 cur, .slice a n c] 36)) wr ∧ RAt wr (w.heap.size + 1) va vc tag ⟨base, -1, (l.take k).map (seedP base)⟩ ∧ (∀ p, va = some p → w.heap.size + 2 ≤ p.block) ∧ wr.heap[w.heap.size]? = some (.cells #[.int .i64 cur, .slice a n c] 36 (0, 0))) (fun i _ => n - (intOf i).toNat)
  case atStart => exact ⟨0, none, 0, Nat.zero_le _, rfl, Hb2.out, HbA2.out, by simpa using HR2.out, (fun p hp => by cases hp), H2.out⟩
  case round =>
    obtain ⟨k, va, vc, hk, rfl, hb, hbA0, hR, hva, hT⟩ := hrel
    obtain ⟨t0, t1, y0, y1, tl⟩ := blk2 hT
    have hlk : ((l.take k).map (seedP base)).length = k := by rw [List.length_map, List.length_take, Hn.out]; omega
    have hB := hR.blk
    have hrow := hR.row
    simp only [hlk] at hB hrow
    obtain ⟨c0, c1, c2, c3, f0, f1, f2, f3, rl⟩ := blk4 hB
    by_cases hlt : k < n
    · obtain ⟨r, off, rfl, hr, hcc⟩ := HS.out (by intro h; have h1 := Hn.out; rw [h] at h1; simp at h1; omega)
      obtain ⟨y, hx⟩ : ∃ y, l[k]? = some y := ⟨_, List.getElem?_eq_getElem (by rw [Hn.out]; exact hlt)⟩
      simp only [World.size_alloc] at hr
      have hbA : Below (w.heap.size + 1) (w.alloc (.cells #[.int .i64 cur, .slice (some ⟨r, off, none⟩) n c] 36)) wr := hbA0
      have e0 := (hbA.cell (p := ⟨r, off + k * 3 + 0, none⟩) hr).trans (hcc k y hx 0 _ rfl)
      have e1 := (hbA.cell (p := ⟨r, off + k * 3 + 1, none⟩) hr).trans (hcc k y hx 1 _ rfl)
      have e2 := (hbA.cell (p := ⟨r, off + k * 3 + 2, none⟩) hr).trans (hcc k y hx 2 _ rfl)
      simp only [Nat.add_zero] at e0
      obtain ⟨m1, m2, m3, m4, m5, m6⟩ := mayB_true (Hmay.out y (List.mem_of_getElem? hx))
      have hs := step_le y.w
      have hwv : IntKind.i64.wrap (base - y.lag) = base - y.lag := IntWalk.i64_in _ (by omega)
      have hwd : IntKind.i64.wrap (base - y.lag + 4 * step y.w) = base - y.lag + 4 * step y.w := IntWalk.i64_in _ (by omega)
      have hki : (k : Int) < n := by omega
      have hsz := hb.size
      have hszA : w.heap.size + 1 ≤ wr.heap.size := by have := hbA.size; simpa using this
      have hov : ∀ g, (Value.slice va k vc).ownBlock = some g → w.heap.size + 2 ≤ g ∧ g < wr.heap.size := fun g hg => by
        refine ⟨?_, (hrow.lt g hg).2⟩
        cases va with
        | none => simp [Value.ownBlock] at hg
        | some p => have := hva p rfl; simp [Value.ownBlock] at hg; omega
      have hP1 : w.heap.size + 1 ≠ wr.heap.size := by omega
      have hP2 : w.heap.size ≠ wr.heap.size := by omega
      have hP3 : w.heap.size + 1 < wr.heap.size := rl
      have hrP : r ≠ wr.heap.size := by omega
      have hrl : r < wr.heap.size := by omega
      have HB := Lib.hid hB
      have HT := Lib.hid hT
      have Hown := Lib.hid hrow
      have Hx := Lib.hid hx
      have Hov := Lib.hid hov
      have HbA := Lib.hid hbA
      clear hB hT hrow hx hov hcc hR hva hlk hbA0 hbA
      go_wp2_with fail
      refine wp_region_chain 78 [0, 0, 2, 6, 14, 0, 32, 0, 224, 480, 992, 0, 2048, 0, 14336, 30720, 63488, 0, 0, 0, 524288, 0, 3670016, 7864320, 16252928, 33030144, 66846720, 134217696, 268435424, 536870910, 1073741823, 2147483647, 4294967295] [(0, none), (1, none), (2, none), (3, none), (4, none), (5, none), (6, none), (7, none), (8, none), (9, none), (10, none), (11, none), (12, none), (13, none), (14, none), (15, none), (16, none), (17, none), (18, none), (19, none), (20, none), (21, none), (22, none), (23, none), (24, none), (25, some [0, 1, 2, 3, 4, 5, 6, 7, 8, 9, 10, 11, 12, 13, 14, 15, 16, 17, 18]), (26, none), (27, none), (28, some [0, 1, 2, 3, 4]), (29, some [0]), (30, none), (31, none), (32, some [])] (by kernel_rfl) (by kernel_rfl) (by rfl) ?_; simp only [chain, Obs, List.getElem?_toArray, List.getElem?_cons_zero, List.getElem?_cons_succ]
      go_wp2_with (first
        | (with_reducible refine And.intro (by first | with_reducible exact True.intro | with_reducible rfl | go_simp) ?_)
        | (go_at_call 46; refine (rday_any _ _ m3 m4).mono ?_; rintro e wd ⟨rfl, rfl⟩)
        | (at_builtin; go_loud (refine wpList_append_lies _ (by rfl) _ _ _ (by rfl) 0 82 i0 _ 4 32 Tryz.underlying53 hi0 hz0 hz1 hz2 rfl (by omega) (.slice va k vc) k _ (by rfl) ((Hown.out.drew).alloc _) ⟨wr.heap.size, 0, none⟩ 1 1 (Pt.enc (seedP base y)) (by rfl) (by rfl) (World.news_of_block (cs := #[.int .i64 y.id, .int .i64 y.w, .int .i64 (base - y.lag), .int .i64 (base - y.lag + 4 * step y.w)]) (t := 82) (fr := (0, 0)) (heap_at (by simp) _)) (by simp [Value.oneCell', Pt.enc]) (by omega) (by unfold maxLen; omega) (by omega) (by omega) (wr.heap.size + 1) (by simp) ?_)
           intro gg cap w3 hown3 hgrow hat hgl
           go_loud (have hfr3 : Fr (fun q => (Value.slice va k vc).ownBlock = some q) wr w3 := (((Fr.refl _ wr).drew).alloc _).trans (Fr.of_grown hgrow) (fun _ _ h => h))
           go_loud (have hB3 := heap_fr HB.out hfr3 (fun e => by have := (Hov.out _ e).1; omega))
           go_loud (have hT3 := heap_fr HT.out hfr3 (fun e => by have := (Hov.out _ e).1; omega))
           obtain ⟨c0, c1, c2, c3, f0, f1, f2, f3, rl⟩ := blk4 hB3
           obtain ⟨t0, t1, y0, y1, tl⟩ := blk2 hT3
           have HB3 := Lib.hid hB3
           have HT3 := Lib.hid hT3
           have Hfr3 := Lib.hid hfr3
           have Hown3 := Lib.hid hown3
           have hg2 : w.heap.size + 2 ≤ gg := by
             rcases hat with h | h
             · exact (Hov.out gg h).1
             · omega
           clear hB3 hT3 hfr3 hown3 hgrow hat))
      refine NoPanic.normal ?_
      go_wp2_with fail
      go_roundw
      case rel =>
        have hne : (Value.slice (some ⟨gg, 0, none⟩) (k + 1) cap).ownBlock ≠ some (w.heap.size + 1) := fun e => by simp [Value.ownBlock] at e; omega
        have e1 : (l.take (k + 1)).map (seedP base) = (l.take k).map (seedP base) ++ [seedP base y] := by
          rw [List.take_succ_eq_append_getElem (List.getElem?_eq_some_iff.1 Hx.out).1, List.map_append, (List.getElem?_eq_some_iff.1 Hx.out).2]; rfl
        have hl2 : ((l.take (k + 1)).map (seedP base)).length = k + 1 := by rw [List.length_map, List.length_take, Hn.out]; omega
        refine ⟨k + 1, some ⟨gg, 0, none⟩, cap, hlt, by go_num, ?_, ?_, ⟨?_, ?_, ?_⟩, fun p hp => by cases hp; exact hg2, heap_set_ne HT3.out (by simp only; omega) _⟩
        · exact (hb.trans (Hfr3.out.below hsz fun q hq => by have := (Hov.out q hq).1; omega)).setCell (by simp only; omega) _
        · exact (HbA.out.trans (Hfr3.out.below hszA fun q hq => by have := (Hov.out q hq).1; omega)).setCell (by simp only; omega) _
        · simp only; rw [hl2]; exact heap_set HB3.out _
        · simp only; rw [hl2, e1, flat_append, flat_one]; exact own_set Hown3.out hne
        · intro p hp; cases hp; simp only; omega
      case measure => simp [intOf]; omega
    · obtain rfl : k = n := by omega
      have e1 : l.take k = l := List.take_of_length_le (by have := Hn.out; omega)
      have HR := Lib.hid hR
      have Hva := Lib.hid hva
      have He1 := Lib.hid e1
      clear hB hT hrow hR hva hlk e1
      go_wp2_with fail
      go_ret2
      have h2 := HR.out.cur cur
      rw [He1.out] at h2
      refine ⟨_, va, vc, rfl, h2, ?_, hb.setCell (by simp only; omega) _⟩
      rintro q (rfl | ⟨p, hp, rfl⟩)
      · omega
      · have := Hva.out p hp; omega
end Go.Proofs.YtfijedmdfkelnaaGreat
