/- Package code: a form is written, opened. -/
import Derived.Test.YtpdfkomhgeckcaaGreatByX
namespace Go.Proofs.YtpdfkomhgeckcaaGreat
open Go.RowKit
set_option linter.unusedVariables false
set_option linter.unusedSimpArgs false

theorem own_cap {w : World} {B e k n c : Nat} {a : Option Addr} {xs : List Value} (h : w.ownsRow B e k (.slice a n c) n xs) : n ≤ c := by
  rcases h.2 with ⟨h1, h2⟩ | ⟨g, cap, cur, hv, _, _, h3, _⟩
  · subst h2; exact Nat.zero_le _
  · simp at hv; obtain ⟨_, rfl⟩ := hv; exact h3

theorem own_len {w : World} {B e n : Nat} {v : Value} {l : List Int} (h : w.ownsRow B e 1 v n (flat encU l)) : l.length = n := by
  have h1 := h.1
  rw [flat_length encU_len] at h1
  omega
theorem own_sl {w : World} {B e n c : Nat} {a : Option Addr} {l : List Int} (h : w.ownsRow B e 1 (.slice a n c) n (flat encU l)) : Sl encU 1 w a l := by
  obtain rfl := own_len h
  exact Sl.of_own encU_len h
theorem Sl.dropV {w : World} {a : Option Addr} {l : List Int} (h : Sl encU 1 w a l) (k : Nat) : Sl encU 1 w (a.map (fun x => ({ block := x.block, off := x.off + k } : Addr))) (l.drop k) := fun hl => by
  obtain ⟨r, off, rfl, hr, hc⟩ := h (by intro h0; rw [h0] at hl; simp at hl)
  refine ⟨r, off + k, rfl, hr, fun j x hj i u hi => ?_⟩
  rw [List.getElem?_drop] at hj
  have := hc (k + j) x hj i u hi
  rw [show off + (k + j) * 1 + i = off + k + j * 1 + i by omega] at this
  exact this
set_option maxHeartbeats 1600000 in
set_option maxRecDepth 100000 in
theorem Open_any (l : List Int) (n : Nat) (a : Option Addr) (c : Nat) (w : World) (hn : l.length = n) (hl : n ≤ 1000000000000) (hc : n ≤ c) (hB : ∀ x ∈ l, Byte x) (hs : Sl encU 1 w a l) :
    Calls Tryz.prog 59 #[.slice a n c] w fun e w' => ∃ a' c', e = .returned (.tuple #[.slice a' (openB l).1.length c', .int .i64 (openB l).2.1, .int .i64 (openB l).2.2]) ∧ Sl encU 1 w' a' (openB l).1 ∧ (openB l).1.length ≤ c' ∧ Below w.heap.size w w' := by
  cases hg : sealG l with
  | none =>
    have e : openB l = ([], 0, 9) := by unfold openB; rw [hg]
    rw [e]
    have HG := Lib.hid (SealGet_none l n a c w hn hl hc hB hs hg)
    clear hs hB hn e hg
    go_enter Tryz.func59, Tryz.ntmps59
    go_wp2_with (go_at_call 68; refine HG.out.mono ?_; rintro e w1 ⟨rfl, hb1⟩)
    go_ret3
    exact ⟨none, 0, rfl, Sl.nil, Nat.le_refl _, hb1⟩
  | some x =>
    have HG := Lib.hid (SealGet_some l x n a c w hn hl hc hB hs hg)
    have hBx := sealG_byte hB hg
    have hxl : x.length ≤ n := by
      unfold sealG at hg
      split at hg
      · cases hg; rw [List.length_take]; omega
      · cases hg
    by_cases hv : 3 ≤ x.length ∧ x.getD 0 0 = 83 ∧ x.getD 1 0 = 72
    · have e : openB l = (x.drop 3, x.getD 2 0, 0) := by unfold openB; rw [hg]; simp only; rw [if_pos hv]
      rw [e]
      have HV := Lib.hid (fun W b d (h : Sl encU 1 W b x) => Version_yes x x.length b d W rfl (by omega) hBx h hv.1 hv.2.1 hv.2.2)
      have h3 : (3 : Int) ≤ x.length := by omega
      have h3n : 3 ≤ x.length := hv.1
      have Hld := Lib.hid (List.length_drop (i := 3) (l := x))
      generalize hln : x.length = m at *
      have Hln := Lib.hid hln
      clear hs hB hn e hg hv hBx hln
      go_enter Tryz.func59, Tryz.ntmps59
      go_wp2_with (first
        | (go_at_call 68; refine HG.out.mono ?_; rintro e w1 ⟨a1, c1, rfl, ho, hb1⟩; have hmc := own_cap ho; have hmci : (m : Int) ≤ c1 := (by omega); rw [← Hln.out] at ho; have Hs1 := Lib.hid (Sl.of_own encU_len ho); clear ho)
        | (go_at_call 69; refine (HV.out _ _ _ Hs1.out).mono ?_; rintro e w2 ⟨rfl, rfl⟩))
      · have hm3 : m = 3 := by omega
        subst hm3
        go_ret3
        refine ⟨a1, 0, by rw [Hln.out]; rfl, ?_, by rw [Hln.out]; omega, hb1⟩
        rw [List.drop_eq_nil_of_le (by rw [Hln.out]; omega)]
        exact Sl.nil
      · go_ret3
        exact ⟨_, _, by rw [Hln.out]; rfl, Hs1.out.dropV 3, by rw [Hln.out]; omega, hb1⟩
    · have e : openB l = ([], 0, 8) := by unfold openB; rw [hg]; simp only; rw [if_neg hv]
      rw [e]
      have HV := Lib.hid (fun W b d (h : Sl encU 1 W b x) => Version_no x x.length b d W rfl (by omega) hBx h hv)
      generalize hln : x.length = m at *
      have Hln := Lib.hid hln
      clear hs hB hn e hg hv hBx hln
      go_enter Tryz.func59, Tryz.ntmps59
      go_wp2_with (first
        | (go_at_call 68; refine HG.out.mono ?_; rintro e w1 ⟨a1, c1, rfl, ho, hb1⟩; rw [← Hln.out] at ho; have Hs1 := Lib.hid (Sl.of_own encU_len ho); clear ho)
        | (go_at_call 69; refine (HV.out _ _ _ Hs1.out).mono ?_; rintro e w2 ⟨rfl, rfl⟩))
      go_ret3
      exact ⟨none, 0, rfl, Sl.nil, Nat.le_refl _, hb1⟩

def formTo (tag cur : Int) (l : List It) (k : Nat) : List Int := [83, 72, 3, tag] ++ numB (cur + 1) 4 ++ ((l.length : Int) :: (l.take k).flatMap itemB)

set_option maxHeartbeats 3200000 in
set_option maxRecDepth 100000 in
theorem CodePut_ok (tag cur : Int) (l : List It) (n : Nat) (a : Option Addr) (c : Nat) (w : World) (hn : l.length = n) (hs : Sl It.enc 3 w a l) (hg : goodC tag ⟨cur, l⟩ = true) :
    Calls Tryz.prog 32 #[.int .i64 tag, .agg #[.int .i64 cur, .slice a n c]] w fun e w' => ∃ a' c', e = .returned (.tuple #[.slice a' (putB tag ⟨cur, l⟩).length c', .int .i64 0]) ∧ w'.ownsRow w.heap.size 5 1 (.slice a' (putB tag ⟨cur, l⟩).length c') (putB tag ⟨cur, l⟩).length (flat encU (putB tag ⟨cur, l⟩)) ∧ Below w.heap.size w w' := by
  have hgg := hg
  unfold goodC at hgg
  rw [Bool.and_eq_true, decide_eq_true_eq] at hgg
  have hp := goodF_P hgg.2
  have hcb := cur_bound hp
  simp only at hcb
  have hl64 : n ≤ 64 := by have := hp.1; simp only at this; omega
  have hlen : (putB tag ⟨cur, l⟩).length = 9 + 13 * n + 4 := by
    unfold putB formB
    rw [sealP_length]
    simp only [List.length_append, List.length_cons, List.length_nil, numB_length, flatB_length]
    omega
  rw [hlen]
  obtain ⟨i0, hi0, hz0, hz1, hz2⟩ := info_parts infoU
  have HG := Lib.hid (CodeGood tag cur l n a c _ hn (by omega) (hs.below ((Below.refl _ _).alloc (Nat.le_refl _) (.cells #[.int .i64 cur, .slice a n c] 24))) hg)
  have HS := Lib.hid hs
  have Hn := Lib.hid hn
  have Hp := Lib.hid hp.2.2.1
  have Hlen := Lib.hid hlen
  have t0 := hgg.1.1
  have t1 := hgg.1.2
  have c0 := hcb.1
  have c1 := hcb.2
  have Hbox := heap_new w (.cells #[.int .i64 cur, .slice a n c] 24)
  have tm : tag % 256 = tag := by omega
  have nm : (n : Int) % 256 = n := by omega
  clear hs hn hg hgg hp hcb hlen
  go_enter Tryz.func32, Tryz.ntmps32
  go_wp2_with (go_at_call 44; refine HG.out.mono ?_; rintro e w1 ⟨rfl, hb1⟩; have hh := heap_below Hbox hb1; obtain ⟨g0, g1, y0, y1, gl⟩ := blk2 hh; have Hh := Lib.hid hh; clear hh)
  have hBw : w.heap.size + 1 ≤ w1.heap.size := gl
  have Ho1 : (w1.alloc (.cells #[.int .u8 83, .int .u8 72, .int .u8 3, .int .u8 tag] 5)).ownsRow (w.heap.size + 1) 5 1 (.slice (some ⟨w1.heap.size, 0, none⟩) 4 4) 4 (flat encU [83, 72, 3, tag]) := ⟨rfl, .inr ⟨w1.heap.size, 4, #[.int .u8 83, .int .u8 72, .int .u8 3, .int .u8 tag], rfl, hBw, heap_new _ _, Nat.le_refl _, by unfold maxLen; omega, rfl, rfl⟩⟩
  refine (Number4 [83, 72, 3, tag] (cur + 1) 4 (w.heap.size + 1) _ _ _ (by omega) (by omega) (by simp; omega) Ho1).mono ?_
  rintro e w2 ⟨a2, k2, rfl, ho2, hf2, hq2⟩
  have hb2 := hf2.below (B := w.heap.size + 1) (by simp; omega) (fun k hk => (Ho1.lt k hk).1)
  have hc2 : Below w.heap.size w w2 := (((((Below.refl w.heap.size w).alloc (Nat.le_refl _) _).trans (hb1.mono (by simp))).alloc (by omega) _).trans (hb2.mono (by omega)))
  have hx2 : w2.heap[w.heap.size]? = some (.cells #[.int .i64 cur, .slice a n c] 24 (0, 0)) := (hb2.block w.heap.size (by omega)).trans (heap_alloc Hh.out _)
  obtain ⟨g0, g1, y0, y1, gl2⟩ := blk2 hx2
  have Ho2 := Lib.hid ho2
  have Hx2 := Lib.hid hx2
  have Hc2 := Lib.hid hc2
  clear ho2 hf2 hq2 hb2 hx2 hc2 Ho1
  go_wp2_with (at_builtin; go_loud (refine wpList_append_lies _ (by rfl) _ _ _ (by rfl) (w.heap.size + 1) 5 i0 _ 1 1 Tryz.underlying62 hi0 hz0 hz1 hz2 rfl (by omega) (.slice a2 (4 + 4) k2) (4 + 4) _ (by rfl) (Ho2.out.alloc _) ⟨w2.heap.size, 0, none⟩ 1 1 [.int .u8 n] (by rfl) (by rfl) (World.news_of_block (cs := #[.int .u8 n]) (t := 5) (fr := (0, 0)) (heap_new _ _)) (by simp [Value.oneCell']) (by omega) (by unfold maxLen; omega) (by omega) (by simp; omega) (w2.heap.size + 1) (by simp) ?_); intro gg cap w3 hown1 hgrow hat hlt; have hc3 := Lib.hid ((Hc2.out.alloc (by omega) _).grown hgrow (by simp; omega) (fun k hk => by have := (Ho2.out.lt k hk).1; omega)); have hfr : Fr (fun q => (Value.slice a2 (4 + 4) k2).ownBlock = some q) w2 w3 := ((Fr.refl _ w2).alloc _).trans (Fr.of_grown hgrow) (fun _ _ h => h); have hx3 := heap_fr Hx2.out hfr (fun h => by have := (Ho2.out.lt _ h).1; omega); obtain ⟨p0, p1, v0, v1, pl⟩ := blk2 hx3; have Ho3 := Lib.hid hown1; clear hat hgrow hown1 hfr hx3)
  go_loopw [6, 30] (fun s i wr => ∃ (k m : Nat) (va : Option Addr) (vc : Nat), k ≤ n ∧ m = 9 + 13 * k ∧ s = .slice va m vc ∧ i = .int .i64 k ∧ wr.ownsRow (w.heap.size + 1) 5 1 (.slice va m vc) m (flat encU (formTo tag cur l k)) ∧ Below w.heap.size w wr ∧ w.heap.size + 1 ≤ wr.heap.size) (fun _ i _ => n - (intOf i).toNat)
  case atStart =>
    refine ⟨0, 9, _, _, Nat.zero_le _, rfl, rfl, rfl, ?_, hc3.out, by have := Ho3.out.lt gg rfl; omega⟩
    have e : flat encU (formTo tag cur l 0) = flat encU ([83, 72, 3, tag] ++ numB (cur + 1) 4) ++ [Value.int .u8 n] := by
      unfold formTo
      rw [flat_append]
      rw [← Hn.out]
      rfl
    rw [e]
    exact Ho3.out
  case round =>
    obtain ⟨k, m, va, vc, hk, hm, rfl, rfl, hown, hb, hsz1⟩ := hrel
    have hsz := hb.size
    by_cases hlt : k < n
    · obtain ⟨r, off, rfl, hr, hcc⟩ := HS.out (by intro h; have h1 := Hn.out; rw [h] at h1; simp at h1; omega)
      obtain ⟨x, hx⟩ : ∃ x, l[k]? = some x := ⟨_, List.getElem?_eq_getElem (by rw [Hn.out]; exact hlt)⟩
      have e0 := (hb.cell (p := ⟨r, off + k * 3 + 0, none⟩) hr).trans (hcc k x hx 0 _ rfl)
      have e1 := (hb.cell (p := ⟨r, off + k * 3 + 1, none⟩) hr).trans (hcc k x hx 1 _ rfl)
      have e2 := (hb.cell (p := ⟨r, off + k * 3 + 2, none⟩) hr).trans (hcc k x hx 2 _ rfl)
      simp only [Nat.add_zero] at e0
      have hxm := mayB_true (Hp.out x (List.mem_of_getElem? hx))
      have hxw : x.w % 256 = x.w := by omega
      have hmb : m ≤ 1000 := by omega
      have HX := Lib.hid (heap_new wr (.cells #[.int .i64 x.id, .int .i64 x.w, .int .i64 x.lag] 68))
      have Ho := Lib.hid hown
      have Hx := Lib.hid hx
      have Hm := Lib.hid hm
      have N4 := Lib.hid (Number4 (formTo tag cur l k) x.id m (w.heap.size + 1) va vc _ (by omega) (by omega) (by simp; omega) (hown.alloc (.cells #[.int .i64 x.id, .int .i64 x.w, .int .i64 x.lag] 68)))
      have hxl : -9223372036854775808 ≤ x.lag ∧ x.lag ≤ 9223372036854775807 := by omega
      clear hcc hx hown hxm hm
      go_wp2_with (first
        | (go_at_call 45; first
          | ((with_reducible refine (N8.out).mono ?_); rintro e w6 ⟨a6, k6, rfl, ho6, hf6, hq6⟩; have H6 := Lib.hid ho6; have hs6 := Lib.hid (Nat.le_trans hs5 hf6.size); have hc6 := Lib.hid (hc5.out.trans (hf6.below (B := w.heap.size) (by have := hc5.out.size; omega) (fun k hk => by have := (Ho5.out.lt k hk).1; omega))); clear ho6 hf6 hq6)
          | ((with_reducible refine (N4.out).mono ?_); rintro e w4 ⟨a4, k4, rfl, ho4, hf4, hq4⟩; have hx4 := heap_fr HX.out hf4 (fun h => by have := (Ho.out.lt _ h).2; omega); obtain ⟨p0, p1, p2, q0, q1, q2, pl⟩ := blk3 hx4; have D4 := Lib.hid (fun q (h : (Value.slice a4 (m + 4) k4).ownBlock = some q) => (by rcases hq4 q h with h1 | h1; (have := (Ho.out.lt _ h1).2; omega); (simp at h1; omega) : q ≠ wr.heap.size)); have hc4 := Lib.hid ((hb.alloc hsz (.cells #[.int .i64 x.id, .int .i64 x.w, .int .i64 x.lag] 68)).trans (hf4.below (B := w.heap.size) (by simp; omega) (fun k hk => by have := (Ho.out.lt k hk).1; omega))); have hs4 : w.heap.size + 1 ≤ w4.heap.size := (by have := hf4.size; simp at this; omega); have Ho4 := Lib.hid ho4; have HX4 := Lib.hid hx4; clear ho4 hf4 hq4 hx4))
        | (at_builtin; go_loud (refine wpList_append_lies _ (by rfl) _ _ _ (by rfl) (w.heap.size + 1) 5 i0 _ 1 1 Tryz.underlying62 hi0 hz0 hz1 hz2 rfl (by omega) (.slice a4 (m + 4) k4) (m + 4) _ (by rfl) (Ho4.out.alloc _) ⟨w4.heap.size, 0, none⟩ 1 1 [.int .u8 x.w] (by rfl) (by rfl) (World.news_of_block (cs := #[.int .u8 x.w]) (t := 5) (fr := (0, 0)) (heap_new _ _)) (by simp [Value.oneCell']) (by omega) (by unfold maxLen; omega) (by omega) (by simp; omega) (w4.heap.size + 1) (by simp) ?_); intro g5 cap5 w5 hown5 hgrow hat hlt5; have hc5 := Lib.hid ((hc4.out.alloc (by omega) _).grown hgrow (by simp; omega) (fun k hk => by have := (Ho4.out.lt k hk).1; omega)); have hfr : Fr (fun q => (Value.slice a4 (m + 4) k4).ownBlock = some q) w4 w5 := ((Fr.refl _ w4).alloc _).trans (Fr.of_grown hgrow) (fun _ _ h => h); have hx5 := heap_fr HX4.out hfr (fun h => D4.out _ h rfl); obtain ⟨p3, p4, p5, q3, q4, q5, pl5⟩ := blk3 hx5; have hs5 : w.heap.size + 1 ≤ w5.heap.size := Nat.le_trans hs4 hfr.size; have Ho5 := Lib.hid hown5; have N8 := Lib.hid (Number8 (formTo tag cur l k ++ numB x.id 4 ++ [x.w]) x.lag (m + 4 + 1) (w.heap.size + 1) _ cap5 _ hxl (by omega) (by omega) (by rw [flat_append]; exact hown5)); clear hat hgrow hown5 hfr hx5))
      go_roundw
      case rel =>
        refine ⟨k + 1, m + 4 + 1 + 8, _, _, by omega, by have := Hm.out; omega, rfl, by go_num, ?_, hc6.out, hs6.out⟩
        have e : formTo tag cur l (k + 1) = formTo tag cur l k ++ numB x.id 4 ++ [x.w] ++ numB x.lag 8 := by
          unfold formTo
          rw [List.take_succ_eq_append_getElem (List.getElem?_eq_some_iff.1 Hx.out).1, (List.getElem?_eq_some_iff.1 Hx.out).2, List.flatMap_append]
          simp [itemB]
        rw [e]
        exact H6.out
      case measure => simp [intOf]; omega
    · obtain rfl : k = n := by omega
      have hfl : (formTo tag cur l k).length = m := own_len hown
      have hs7 : Sl encU 1 wr va (formTo tag cur l k) := own_sl hown
      have HZ := Lib.hid (SealPut (formTo tag cur l k) m va vc wr hfl (by omega) hs7)
      have Hm := Lib.hid hm
      clear hm hfl hs7
      go_wp2_with (go_at_call 46; refine HZ.out.mono ?_; rintro e w7 ⟨a7, k7, rfl, ho7, hb7⟩; have Ho7 := Lib.hid ho7; clear ho7)
      go_ret2
      have e : putB tag ⟨cur, l⟩ = sealP (formTo tag cur l k) := by
        unfold putB formB formTo
        rw [← Hn.out, List.take_length]
      refine ⟨a7, k7, by rw [← Hm.out]; rfl, ?_, hb.trans (hb7.mono hsz)⟩
      rw [e, ← Hm.out]
      exact own_base Ho7.out hsz
end Go.Proofs.YtpdfkomhgeckcaaGreat
