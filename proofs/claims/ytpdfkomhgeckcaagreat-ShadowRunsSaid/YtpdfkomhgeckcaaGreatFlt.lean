/- Package check: a form as wanted has no faults. -/
import Derived.Test.YtpdfkomhgeckcaaGreatChk
namespace Go.Proofs.YtpdfkomhgeckcaaGreat
open Go.RowKit
set_option linter.unusedVariables false
set_option linter.unusedSimpArgs false

theorem fi_asc {l : List It} (h : l.Pairwise fun a b => a.id < b.id) {k : Nat} {x : It} (hx : l[k]? = some x) : fi (isIt x.id) l = k := by
  refine fi_at hx (by simp [isIt]) fun i hi y hy => ?_
  have h1 := List.getElem?_eq_some_iff.1 hx
  have h2 := List.getElem?_eq_some_iff.1 hy
  have := List.pairwise_iff_getElem.1 h i k h2.1 h1.1 hi
  rw [h2.2, h1.2] at this
  simp [isIt]; omega

set_option maxHeartbeats 800000 in
theorem ClipNil (w : World) : Calls Tryz.prog 36 #[.slice none 0 0] w fun e w' => e = .returned (.slice none 0 0) ∧ w = w' := by
  go_enter Tryz.func36, Tryz.ntmps36
  go_wp2_with fail
  go_ret
  exact ⟨rfl, rfl⟩

set_option maxHeartbeats 3200000 in
set_option maxRecDepth 100000 in
theorem FaultsSame (cur : Int) (l : List It) (n : Nat) (a a2 : Option Addr) (c c2 : Nat) (w : World) (hn : l.length = n) (hs : Sl It.enc 3 w a l) (hs2 : Sl It.enc 3 w a2 l) (hg : GoodP ⟨cur, l⟩) :
    Calls Tryz.prog 26 #[.agg #[.int .i64 cur, .slice a n c], .agg #[.int .i64 cur, .slice a2 n c2]] w fun e w' => e = .returned (.slice none 0 0) ∧ Below w.heap.size w w' := by
  have hb0 := ((Below.refl w.heap.size w).alloc (Nat.le_refl _) (.cells #[.int .i64 cur, .slice a n c] 24)).alloc (by simp) (.cells #[.int .i64 cur, .slice a2 n c2] 24)
  have HF := Lib.hid (ChkForm cur l n a c _ hn (hs.below hb0) hg)
  have h64 : n ≤ 64 := by have := hg.1; simp only at this; omega
  have Ha := Lib.hid (hg.2.2.2.1 : l.Pairwise fun a b => a.id < b.id)
  have HS := Lib.hid hs
  have HS2 := Lib.hid hs2
  have Hn := Lib.hid hn
  have hB1 := heap_alloc (heap_new w (.cells #[.int .i64 cur, .slice a n c] 24)) (.cells #[.int .i64 cur, .slice a2 n c2] 24)
  have hB2 : ((w.alloc (.cells #[.int .i64 cur, .slice a n c] 24)).alloc (.cells #[.int .i64 cur, .slice a2 n c2] 24)).heap[w.heap.size + 1]? = some (.cells #[.int .i64 cur, .slice a2 n c2] 24) := heap_at (by simp) _
  have HB1 := Lib.hid hB1
  have HB2 := Lib.hid hB2
  have HB0 := Lib.hid hb0
  clear hs hs2 hn hg hB1 hB2 hb0
  go_enter Tryz.func26, Tryz.ntmps26
  go_wp2_with (go_at_call 34; refine HF.out.mono ?_; rintro e w1 ⟨rfl, hb1⟩; have hX1 := heap_below HB1.out hb1; have hX2 := heap_below HB2.out hb1; obtain ⟨g0, g1, y0, y1, gl⟩ := blk2 hX1; obtain ⟨q0, q1, z0, z1, ql⟩ := blk2 hX2; have HX1 := Lib.hid hX1; have HX2 := Lib.hid hX2; have hbw := Lib.hid (HB0.out.trans (hb1.mono HB0.out.size)); clear hX1 hX2)
  go_loopw [5, 23] (fun s i wr => ∃ k : Nat, k ≤ n ∧ s = .slice none 0 0 ∧ i = .int .i64 k ∧ wr.heap[w.heap.size]? = some (.cells #[.int .i64 cur, .slice a n c] 24 (0, 0)) ∧ wr.heap[w.heap.size + 1]? = some (.cells #[.int .i64 cur, .slice a2 n c2] 24 (0, 0)) ∧ Below w.heap.size w wr) (fun _ i _ => n - (intOf i).toNat)
  case atStart => exact ⟨0, Nat.zero_le _, rfl, rfl, HX1.out, HX2.out, hbw.out⟩
  case round =>
    obtain ⟨k, hk, rfl, rfl, hX1, hX2, hb⟩ := hrel
    have hsz := hb.size
    obtain ⟨g0, g1, y0, y1, gl⟩ := blk2 hX1
    obtain ⟨q0, q1, z0, z1, ql⟩ := blk2 hX2
    have HY1 := Lib.hid hX1
    have HY2 := Lib.hid hX2
    clear hX1 hX2
    by_cases hlt : k < n
    · have hlt0 := hlt
      obtain ⟨r, off, rfl, hr, hcc⟩ := HS2.out (by intro h; have h1 := Hn.out; rw [h] at h1; simp at h1; omega)
      obtain ⟨x, hx⟩ : ∃ x, l[k]? = some x := ⟨_, List.getElem?_eq_getElem (by rw [Hn.out]; exact hlt)⟩
      have e0 := (hb.cell (p := ⟨r, off + k * 3 + 0, none⟩) hr).trans (hcc k x hx 0 _ rfl)
      have e1 := (hb.cell (p := ⟨r, off + k * 3 + 1, none⟩) hr).trans (hcc k x hx 1 _ rfl)
      have e2 := (hb.cell (p := ⟨r, off + k * 3 + 2, none⟩) hr).trans (hcc k x hx 2 _ rfl)
      simp only [Nat.add_zero] at e0
      have hfi := fi_asc Ha.out hx
      have HFi := Lib.hid (fun W (h : Below w.heap.size w W) => FindF_some cur x.id l n a c W Hn.out (by omega) (HS.out.below h) k x hfi hx)
      have hI := heap_new wr (.cells #[.int .i64 x.id, .int .i64 x.w, .int .i64 x.lag] 68)
      have HI := Lib.hid hI
      have hbI := hb.alloc hsz (.cells #[.int .i64 x.id, .int .i64 x.w, .int .i64 x.lag] 68)
      have w1w : (x.w != x.w) = false := by simp
      clear hcc hx hfi hI
      go_wp2_with (go_at_call 35; refine (HFi.out _ hbI).mono ?_; rintro e w3 ⟨rfl, hb3⟩; have hI3 := heap_below HI.out hb3; obtain ⟨p0, p1, p2, u0, u1, u2, pl⟩ := blk3 hI3; have hZ1 := Lib.hid (heap_below (heap_alloc HY1.out _) hb3); have hZ2 := Lib.hid (heap_below (heap_alloc HY2.out _) hb3); have hbJ := Lib.hid (hbI.trans (hb3.mono hbI.size)); clear hI3)
      go_roundw
      case rel => exact ⟨k + 1, by omega, rfl, by go_num, heap_alloc hZ1.out _, heap_alloc hZ2.out _, hbJ.out.alloc hbJ.out.size _⟩
      case measure => simp [intOf]; omega
    · have hkn : n = k := by omega
      subst hkn
      go_wp2_with fail
      go_loopw [5, 68] (fun s i wr => ∃ k : Nat, k ≤ n ∧ s = .slice none 0 0 ∧ i = .int .i64 k ∧ wr.heap[w.heap.size]? = some (.cells #[.int .i64 cur, .slice a n c] 24 (0, 0)) ∧ wr.heap[w.heap.size + 1]? = some (.cells #[.int .i64 cur, .slice a2 n c2] 24 (0, 0)) ∧ Below w.heap.size w wr) (fun _ i _ => n - (intOf i).toNat)
      case atStart => exact ⟨0, Nat.zero_le _, rfl, rfl, HY1.out, HY2.out, hb⟩
      case round =>
        obtain ⟨k, hk, rfl, rfl, hX1, hX2, hb⟩ := hrel
        have hsz := hb.size
        obtain ⟨g0, g1, y0, y1, gl⟩ := blk2 hX1
        obtain ⟨q0, q1, z0, z1, ql⟩ := blk2 hX2
        have HZ1 := Lib.hid hX1
        have HZ2 := Lib.hid hX2
        clear hX1 hX2
        by_cases hlt : k < l.length
        · have hlt : k < n := by rw [← Hn.out]; exact hlt
          obtain ⟨r, off, rfl, hr, hcc⟩ := HS.out (by intro h; have h1 := Hn.out; rw [h] at h1; simp at h1; omega)
          obtain ⟨x, hx⟩ : ∃ x, l[k]? = some x := ⟨_, List.getElem?_eq_getElem (by rw [Hn.out]; exact hlt)⟩
          have e0 := (hb.cell (p := ⟨r, off + k * 3 + 0, none⟩) hr).trans (hcc k x hx 0 _ rfl)
          have e1 := (hb.cell (p := ⟨r, off + k * 3 + 1, none⟩) hr).trans (hcc k x hx 1 _ rfl)
          have e2 := (hb.cell (p := ⟨r, off + k * 3 + 2, none⟩) hr).trans (hcc k x hx 2 _ rfl)
          simp only [Nat.add_zero] at e0
          have hfi := fi_asc Ha.out hx
          have HFi := Lib.hid (fun W (h : Below w.heap.size w W) => FindF_some cur x.id l n a2 c2 W Hn.out (by omega) (HS2.out.below h) k x hfi hx)
          have hI := heap_new wr (.cells #[.int .i64 x.id, .int .i64 x.w, .int .i64 x.lag] 68)
          have hbI := hb.alloc hsz (.cells #[.int .i64 x.id, .int .i64 x.w, .int .i64 x.lag] 68)
          have HI := Lib.hid hI
          clear hcc hx hfi hI
          go_wp2_with (go_at_call 35; refine (HFi.out _ hbI).mono ?_; rintro e w3 ⟨rfl, hb3⟩; have hZ1 := Lib.hid (heap_below (heap_alloc HZ1.out _) hb3); have hZ2 := Lib.hid (heap_below (heap_alloc HZ2.out _) hb3); have hbJ := Lib.hid (hbI.trans (hb3.mono hbI.size)))
          go_roundw
          case rel => first
            | exact ⟨k + 1, by omega, rfl, by go_num, hZ1.out, hZ2.out, hbJ.out⟩
            | exact ⟨k + 1, by omega, rfl, by go_num, heap_alloc hZ1.out _, heap_alloc hZ2.out _, hbJ.out.alloc hbJ.out.size _⟩
          case measure => simp [intOf]; omega
        · have hkn : n = k := by have := Hn.out; omega
          subst hkn
          go_wp2_with (go_at_call 36; refine (ClipNil _).mono ?_; rintro e w9 ⟨rfl, rfl⟩)
          go_ret
          exact ⟨rfl, hb⟩
end Go.Proofs.YtpdfkomhgeckcaaGreat
