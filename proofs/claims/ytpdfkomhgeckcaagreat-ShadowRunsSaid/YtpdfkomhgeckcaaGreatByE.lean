/- Package elder: items as they were written once. -/
import Derived.Test.YtpdfkomhgeckcaaGreatByG
namespace Go.Proofs.YtpdfkomhgeckcaaGreat
open Go.RowKit
set_option linter.unusedVariables false
set_option linter.unusedSimpArgs false

set_option maxHeartbeats 1600000 in
set_option maxRecDepth 100000 in
theorem SlClone_any (l : List Int) (n : Nat) (a : Option Addr) (c : Nat) (w : World) (hn : l.length = n) (hl : n ≤ 100000000000000) (hs : Sl encU 1 w a l) :
    Calls Tryz.prog 60 #[.slice a n c] w fun e w' => ∃ a' c', e = .returned (.slice a' n c') ∧ w'.ownsRow w.heap.size 5 1 (.slice a' n c') n (flat encU l) ∧ Below w.heap.size w w' := by
  have q22 : ∀ (w : World) (a : Option Addr) (n c n' c' : Nat), (binOp .eql 62 (.slice a n c) (.slice none n' c')).run Tryz.prog w = .ok (.bool a.isNone) w := fun w a n c n' c' => Lib.run_eql_slice_nil w _ _ a n c n' c' Tryz.underlying62
  cases a with
  | none =>
    obtain rfl : l = [] := by
      cases l with
      | nil => rfl
      | cons x l => obtain ⟨r, off, h, _⟩ := hs (by simp); cases h
    subst hn
    go_enter Tryz.func60, Tryz.ntmps60
    go_wp2
    go_ret
    exact ⟨none, 0, rfl, World.ownsRow_nil _ _ _ _, Below.refl _ _⟩
  | some A =>
    obtain ⟨i0, hi, hz0, hz1, hz2⟩ := info_parts infoU
    have hcc : ∀ i, i < n → w.cell? (A.add i) = some (.int .u8 (l.getD i 0)) := (fun i hi => by
      obtain ⟨r, off, h, _, hc⟩ := hs (by intro h0; rw [h0] at hn; simp at hn; omega)
      cases h
      have := hc i (l.getD i 0) (by rw [List.getD_eq_getElem?_getD, List.getElem?_eq_getElem (by omega)]; rfl) 0 _ rfl
      rw [show (⟨r, off, none⟩ : Addr).add i = ⟨r, off + i, none⟩ from Addr.add_lit _ _ _]
      simpa using this)
    have Hc := Lib.hid hcc
    have Hn := Lib.hid hn
    clear hs hn hcc
    go_enter Tryz.func60, Tryz.ntmps60
    go_wp2_with (at_builtin; refine wpList_append_own _ rfl _ _ 62 rfl w.heap.size 5 i0 (.int .u8 0) 1 1 Tryz.underlying62 hi hz0 hz1 hz2 rfl (by decide) _ _ _ rfl (World.ownsRow_made w #[] 0 (Nat.le_refl _) (Nat.zero_le _) rfl) A n c (l.map (Value.int .u8)) rfl ?qc1 ?qc2 ?qc3 ?qc4 ?qc5 ?qc6 ?_)
    case qc1 => simp [Hn.out]
    case qc2 =>
      intro j u hj
      have hjn : j < n := by
        have := (List.getElem?_eq_some_iff.1 hj).1
        have h2 := Hn.out
        simp at this
        omega
      refine Lib.cell?_alloc_some _ ?_
      rw [Hc.out j hjn]
      have e : (l.map (Value.int .u8))[j]? = some (Value.int .u8 (l.getD j 0)) := by simp [List.getD, List.getElem?_eq_getElem (show j < l.length by have := Hn.out; omega)]
      rw [e] at hj
      exact hj
    case qc3 => intro u hu; obtain ⟨x, _, rfl⟩ := List.mem_map.1 hu; rfl
    case qc4 => unfold maxLen; omega
    case qc5 => omega
    case qc6 => simp
    intro v' w1 hown hgrow hnil
    go_wp2
    go_ret
    have h2 : w1.ownsRow w.heap.size 5 1 v' n (l.map (Value.int .u8)) := by simpa using hown
    obtain ⟨a', c', rfl, _⟩ := own_slice h2
    exact ⟨a', c', rfl, by rw [flatU]; exact h2, ((Below.refl _ w).alloc (Nat.le_refl _) _).grown hgrow (by simp) (by intro k hk; simp [Value.ownBlock] at hk; omega)⟩

def itE (lags : Bool) (b : List Int) : It := ⟨readB (b.take 2), readB ((b.drop 2).take 1), if lags = true then W32 (readB (((b.drop 2).drop 1).take 4)) * 232792560 else 0⟩
theorem itemsE_succ (lags : Bool) : ∀ (k : Nat) (b : List Int), itemsE lags (k + 1) b = itemsE lags k b ++ [itE lags (b.drop (sizeE lags * k))]
  | 0, b => by rw [Nat.mul_zero]; rfl
  | k + 1, b => by
    rw [itemsE, itemsE_succ lags k, itemsE, List.cons_append]
    cases lags
    · simp only [Bool.false_eq_true, if_false, List.drop_drop, sizeE]
      rw [show 2 + 1 + 3 * k = 3 * (k + 1) by omega]
    · simp only [if_true, List.drop_drop, sizeE]
      rw [show 2 + 1 + 4 + 7 * k = 7 * (k + 1) by omega]
theorem itemsE_length (lags : Bool) : ∀ (k : Nat) (b : List Int), (itemsE lags k b).length = k
  | 0, _ => rfl
  | k + 1, b => by rw [itemsE, List.length_cons, itemsE_length lags k]

set_option maxHeartbeats 1600000 in
set_option maxRecDepth 100000 in
theorem Items_no (l : List Int) (lags : Bool) (n : Nat) (a : Option Addr) (c : Nat) (w : World) (hn : l.length = n) (hl : n ≤ 1000000000000) (hB : ∀ x ∈ l, Byte x) (hs : Sl encU 1 w a l) (hf : ¬ fitsE lags l) :
    Calls Tryz.prog 62 #[.slice a n c, .bool lags] w fun e w' => e = .returned (.tuple #[.slice none 0 0, .bool false]) ∧ Below w.heap.size w w' := by
  by_cases h1 : 1 ≤ n
  · have h1i : ¬ (n : Int) < 1 := by omega
    obtain ⟨x0, hx0⟩ : ∃ z, l.getD 0 0 = z := ⟨_, rfl⟩
    have h0 : l[0]? = some x0 := by rw [← hx0, List.getD_eq_getElem?_getD, List.getElem?_eq_getElem (by omega)]; rfl
    have b0 := hB x0 (List.mem_of_getElem? h0)
    unfold Byte at b0
    obtain ⟨r, off, rfl, _, hc⟩ := hs (by intro h; rw [h] at hn; simp at hn; omega)
    have e0 := hc 0 x0 h0 0 _ rfl
    simp only [Nat.zero_mul, Nat.add_zero] at e0
    have hne : ((n : Int) - 1 != sizeE lags * x0) = true := by simpa using (fun h => hf ⟨by omega, by rw [hn, hx0]; exact h⟩)
    clear hc hf hB hx0 h0
    cases lags
    · have hne2 : ((n : Int) - 1 != 3 * x0) = true := hne
      clear hne
      go_enter Tryz.func62, Tryz.ntmps62
      go_wp2_with fail
      all_goals go_ret2
      all_goals exact ⟨rfl, Below.refl _ _⟩
    · have hne2 : ((n : Int) - 1 != 7 * x0) = true := hne
      clear hne
      go_enter Tryz.func62, Tryz.ntmps62
      go_wp2_with fail
      all_goals go_ret2
      all_goals exact ⟨rfl, Below.refl _ _⟩
  · have h1i : (n : Int) < 1 := by omega
    clear hs hB hf
    cases lags <;>
    · go_enter Tryz.func62, Tryz.ntmps62
      go_wp2_with fail
      all_goals go_ret2
      all_goals exact ⟨rfl, Below.refl _ _⟩

set_option maxHeartbeats 3200000 in
set_option maxRecDepth 100000 in
theorem Items_yes (l : List Int) (n cnt : Nat) (a : Option Addr) (c : Nat) (w : World) (hn : l.length = n) (hl : n ≤ 1000000000000) (hc : n ≤ c) (hB : ∀ x ∈ l, Byte x) (hs : Sl encU 1 w a l) (hf : n = 1 + 7 * cnt) (hx : l[0]? = some (cnt : Int)) :
    Calls Tryz.prog 62 #[.slice a n c, .bool true] w fun e w' => ∃ fa fc, e = .returned (.tuple #[.slice fa cnt fc, .bool true]) ∧ w'.ownsRow w.heap.size 68 3 (.slice fa cnt fc) cnt (flat It.enc (itemsE true cnt (l.drop 1))) ∧ Below w.heap.size w w' := by
  obtain ⟨i0, hi0, hz0, hz1, hz2⟩ := info_parts itInfo
  have b0 := hB _ (List.mem_of_getElem? hx)
  unfold Byte at b0
  have h1i : ¬ (n : Int) < 1 := by omega
  have hne : ((n : Int) - 1 != 7 * (cnt : Int)) = false := by simp; omega
  obtain ⟨r, off, rfl, hr, hcc⟩ := hs (by intro h; rw [h] at hn; simp at hn; omega)
  have e0 := hcc 0 _ hx 0 _ rfl
  simp only [Nat.zero_mul, Nat.add_zero] at e0
  have hS := hs.dropV 1
  obtain ⟨rest, hrest⟩ : ∃ rest, l.drop 1 = rest := ⟨_, rfl⟩
  have hrl : rest.length = 7 * cnt := by rw [← hrest, List.length_drop, hn]; omega
  have hBr : ∀ z ∈ rest, Byte z := fun z hz => hB z (by rw [← hrest] at hz; exact List.mem_of_mem_drop hz)
  rw [hrest] at hS ⊢
  have HS := Lib.hid hS
  have Hrl := Lib.hid hrl
  have HBr := Lib.hid hBr
  have Hf := Lib.hid hf
  clear hS hrl hBr hrest hcc hx hB hn hf
  go_enter Tryz.func62, Tryz.ntmps62
  go_wp2_with fail
  · have hS0 : Sl encU 1 w (some ⟨r, off, none⟩) rest := by
      obtain rfl : rest = [] := List.eq_nil_of_length_eq_zero (by rw [Hrl.out]; have := Hf.out; omega)
      exact Sl.nil
    have HS0 := Lib.hid hS0
    clear hS0
    go_loopw [0, 7] (fun s i wr => ∃ (k mb : Nat) (ab : Option Addr) (cb : Nat) (fa : Option Addr) (fc : Nat), k ≤ cnt ∧ mb + 7 * k = 7 * cnt ∧ mb ≤ cb ∧ s = .slice ab mb cb ∧ i = .slice fa k fc ∧ Sl encU 1 w ab (rest.drop (7 * k)) ∧ wr.ownsRow w.heap.size 68 3 (.slice fa k fc) k (flat It.enc (itemsE true k rest)) ∧ Below w.heap.size w wr) (fun s _ _ => lenOf s)
    case atStart => exact ⟨0, _, _, _, none, 0, Nat.zero_le _, by have := Hf.out; omega, by have := Hf.out; omega, rfl, rfl, HS0.out, World.ownsRow_nil _ _ _ _, Below.refl _ _⟩
    case round =>
      obtain ⟨k, mb, ab, cb, fa, fc, hk, hmb, hcb, rfl, rfl, hs, hown, hb⟩ := hrel
      have hszr := hb.size
      by_cases hlt : k < cnt
      · obtain ⟨y, hy⟩ : ∃ y, rest.drop (7 * k) = y := ⟨_, rfl⟩
        have hyl : y.length = mb := by rw [← hy, List.length_drop, Hrl.out]; omega
        have hm13 : 7 ≤ mb := by omega
        have hm0 : (0 : Int) < mb := by omega
        have hBy : ∀ z ∈ y, Byte z := fun z hz => HBr.out z (by rw [← hy] at hz; exact List.mem_of_mem_drop hz)
        rw [hy] at hs
        have hmx : mb ≤ 4000 := by omega
        have RQ2 := Lib.hid (fun W (h : Below w.heap.size w W) => Read2 y mb ab cb W hyl (by omega) hcb hBy (hs.below h) (by omega))
        have RQ1 := Lib.hid (fun W (h : Below w.heap.size w W) => Read1 (y.drop 2) (mb - 2) (cutA ab cb 2) (cb - 2) W (by rw [List.length_drop]; omega) (by omega) (by omega) (fun z hz => hBy z (List.mem_of_mem_drop hz)) ((hs.cutU cb 2 (by omega)).below h) (by omega))
        have RQ4 := Lib.hid (fun W (h : Below w.heap.size w W) => Read4 ((y.drop 2).drop 1) (mb - 2 - 1) (cutA (cutA ab cb 2) (cb - 2) 1) (cb - 2 - 1) W (by rw [List.length_drop, List.length_drop]; omega) (by omega) (by omega) (fun z hz => hBy z (List.mem_of_mem_drop (List.mem_of_mem_drop hz))) (((hs.cutU cb 2 (by omega)).cutU (cb - 2) 1 (by rw [List.length_drop]; omega)).below h) (by omega))
        have hS8 := Lib.hid (((hs.cutU cb 2 (by omega)).cutU (cb - 2) 1 (by rw [List.length_drop]; omega)).cutU (cb - 2 - 1) 4 (by rw [List.length_drop, List.length_drop]; omega))
        obtain ⟨i1, hi1⟩ : ∃ z, readB (y.take 2) = z := ⟨_, rfl⟩
        obtain ⟨i2, hi2⟩ : ∃ z, readB ((y.drop 2).take 1) = z := ⟨_, rfl⟩
        obtain ⟨i3, hi3⟩ : ∃ z, readB (((y.drop 2).drop 1).take 4) = z := ⟨_, rfl⟩
        obtain ⟨j3, hj3⟩ : ∃ z, W32 i3 * 232792560 = z := ⟨_, rfl⟩
        have hw3 : wrap64 (wrap64 (wrap32 i3) * 232792560) = j3 := by rw [← hj3]; unfold wrap64 wrap32 W32; omega
        have hit : itE true y = ⟨i1, i2, j3⟩ := by unfold itE; rw [hi1, hi2, hi3, if_pos rfl, hj3]
        unfold ReadPost at RQ4 RQ1 RQ2
        rw [hi1] at RQ2
        rw [hi2] at RQ1
        rw [hi3] at RQ4
        have Hit := Lib.hid hit
        have Hy := Lib.hid hy
        have Ho := Lib.hid hown
        have Hmb := Lib.hid hmb
        clear hs hi1 hi2 hi3 hit hy hown hBy hmb hyl hj3
        go_wp2_with (first
          | (go_at_call 61; first
            | ((with_reducible refine (RQ4.out _ (hb.trans (hb4.mono hszr))).mono ?_); rintro e w5 ⟨rfl, hb5⟩; have hb5 := hb4.trans (hb5.mono hb4.size))
            | ((with_reducible refine (RQ1.out _ (hb.trans (hb3.mono hszr))).mono ?_); rintro e w4 ⟨rfl, hb4⟩; have hb4 := hb3.trans (hb4.mono hb3.size))
            | ((with_reducible refine (RQ2.out _ hb).mono ?_); rintro e w3 ⟨rfl, hb3⟩))
          | (at_builtin; go_loud (refine wpList_append_lies _ (by rfl) _ _ _ (by rfl) w.heap.size 68 i0 _ 3 24 Tryz.underlying22 hi0 hz0 hz1 hz2 rfl (by omega) (.slice fa k fc) k _ (by rfl) ((own_below Ho.out hb5).alloc _) ⟨w5.heap.size, 0, none⟩ 1 1 [.int .i64 i1, .int .i64 i2, .int .i64 j3] (by rfl) (by rfl) (World.news_of_block (cs := #[.int .i64 i1, .int .i64 i2, .int .i64 j3]) (t := 68) (fr := (0, 0)) (heap_new _ _)) (by simp [Value.oneCell']) (by omega) (by unfold maxLen; omega) (by omega) (by have := hb5.size; simp; omega) (w5.heap.size + 1) (by simp) ?_); intro gg cap w6 hown1 hgrow hat hltg; have hfr : Fr (fun q => (Value.slice fa k fc).ownBlock = some q) w5 w6 := ((Fr.refl _ w5).alloc _).trans (Fr.of_grown hgrow) (fun _ _ h => h); have Ho6 := Lib.hid hown1; have hb6 := Lib.hid ((hb.trans (hb5.mono hszr)).trans (hfr.below (B := w.heap.size) (by have := hb5.size; omega) (fun q hq => by have := (Ho.out.lt q hq).1; omega))); clear hat hgrow hown1 hfr))
        go_roundw
        case rel =>
          refine ⟨k + 1, _, _, _, _, cap, by omega, ?_, ?_, rfl, rfl, ?_, ?_, hb6.out⟩
          rotate_left 2
          · have := hS8.out
            rw [List.drop_drop, List.drop_drop, ← Hy.out, List.drop_drop] at this
            rw [show 7 * (k + 1) = 7 * k + (2 + 1 + 4) by omega]
            exact this
          · rw [itemsE_succ, show sizeE true * k = 7 * k from rfl, Hy.out, Hit.out, flat_append, flat_one]
            exact Ho6.out
          · have := Hmb.out; omega
          · omega
        case measure => simp [lenOf]; omega
      · obtain rfl : k = cnt := by omega
        obtain rfl : mb = 0 := by omega
        go_wp2_with fail
        go_ret2
        exact ⟨fa, fc, rfl, hown, hb⟩
  · have hS0 : Sl encU 1 w (some ⟨r, off + 1, none⟩) rest := HS.out
    have HS0 := Lib.hid hS0
    clear hS0
    go_loopw [0, 7] (fun s i wr => ∃ (k mb : Nat) (ab : Option Addr) (cb : Nat) (fa : Option Addr) (fc : Nat), k ≤ cnt ∧ mb + 7 * k = 7 * cnt ∧ mb ≤ cb ∧ s = .slice ab mb cb ∧ i = .slice fa k fc ∧ Sl encU 1 w ab (rest.drop (7 * k)) ∧ wr.ownsRow w.heap.size 68 3 (.slice fa k fc) k (flat It.enc (itemsE true k rest)) ∧ Below w.heap.size w wr) (fun s _ _ => lenOf s)
    case atStart => exact ⟨0, _, _, _, none, 0, Nat.zero_le _, by have := Hf.out; omega, by have := Hf.out; omega, rfl, rfl, HS0.out, World.ownsRow_nil _ _ _ _, Below.refl _ _⟩
    case round =>
      obtain ⟨k, mb, ab, cb, fa, fc, hk, hmb, hcb, rfl, rfl, hs, hown, hb⟩ := hrel
      have hszr := hb.size
      by_cases hlt : k < cnt
      · obtain ⟨y, hy⟩ : ∃ y, rest.drop (7 * k) = y := ⟨_, rfl⟩
        have hyl : y.length = mb := by rw [← hy, List.length_drop, Hrl.out]; omega
        have hm13 : 7 ≤ mb := by omega
        have hm0 : (0 : Int) < mb := by omega
        have hBy : ∀ z ∈ y, Byte z := fun z hz => HBr.out z (by rw [← hy] at hz; exact List.mem_of_mem_drop hz)
        rw [hy] at hs
        have hmx : mb ≤ 4000 := by omega
        have RQ2 := Lib.hid (fun W (h : Below w.heap.size w W) => Read2 y mb ab cb W hyl (by omega) hcb hBy (hs.below h) (by omega))
        have RQ1 := Lib.hid (fun W (h : Below w.heap.size w W) => Read1 (y.drop 2) (mb - 2) (cutA ab cb 2) (cb - 2) W (by rw [List.length_drop]; omega) (by omega) (by omega) (fun z hz => hBy z (List.mem_of_mem_drop hz)) ((hs.cutU cb 2 (by omega)).below h) (by omega))
        have RQ4 := Lib.hid (fun W (h : Below w.heap.size w W) => Read4 ((y.drop 2).drop 1) (mb - 2 - 1) (cutA (cutA ab cb 2) (cb - 2) 1) (cb - 2 - 1) W (by rw [List.length_drop, List.length_drop]; omega) (by omega) (by omega) (fun z hz => hBy z (List.mem_of_mem_drop (List.mem_of_mem_drop hz))) (((hs.cutU cb 2 (by omega)).cutU (cb - 2) 1 (by rw [List.length_drop]; omega)).below h) (by omega))
        have hS8 := Lib.hid (((hs.cutU cb 2 (by omega)).cutU (cb - 2) 1 (by rw [List.length_drop]; omega)).cutU (cb - 2 - 1) 4 (by rw [List.length_drop, List.length_drop]; omega))
        obtain ⟨i1, hi1⟩ : ∃ z, readB (y.take 2) = z := ⟨_, rfl⟩
        obtain ⟨i2, hi2⟩ : ∃ z, readB ((y.drop 2).take 1) = z := ⟨_, rfl⟩
        obtain ⟨i3, hi3⟩ : ∃ z, readB (((y.drop 2).drop 1).take 4) = z := ⟨_, rfl⟩
        obtain ⟨j3, hj3⟩ : ∃ z, W32 i3 * 232792560 = z := ⟨_, rfl⟩
        have hw3 : wrap64 (wrap64 (wrap32 i3) * 232792560) = j3 := by rw [← hj3]; unfold wrap64 wrap32 W32; omega
        have hit : itE true y = ⟨i1, i2, j3⟩ := by unfold itE; rw [hi1, hi2, hi3, if_pos rfl, hj3]
        unfold ReadPost at RQ4 RQ1 RQ2
        rw [hi1] at RQ2
        rw [hi2] at RQ1
        rw [hi3] at RQ4
        have Hit := Lib.hid hit
        have Hy := Lib.hid hy
        have Ho := Lib.hid hown
        have Hmb := Lib.hid hmb
        clear hs hi1 hi2 hi3 hit hy hown hBy hmb hyl hj3
        go_wp2_with (first
          | (go_at_call 61; first
            | ((with_reducible refine (RQ4.out _ (hb.trans (hb4.mono hszr))).mono ?_); rintro e w5 ⟨rfl, hb5⟩; have hb5 := hb4.trans (hb5.mono hb4.size))
            | ((with_reducible refine (RQ1.out _ (hb.trans (hb3.mono hszr))).mono ?_); rintro e w4 ⟨rfl, hb4⟩; have hb4 := hb3.trans (hb4.mono hb3.size))
            | ((with_reducible refine (RQ2.out _ hb).mono ?_); rintro e w3 ⟨rfl, hb3⟩))
          | (at_builtin; go_loud (refine wpList_append_lies _ (by rfl) _ _ _ (by rfl) w.heap.size 68 i0 _ 3 24 Tryz.underlying22 hi0 hz0 hz1 hz2 rfl (by omega) (.slice fa k fc) k _ (by rfl) ((own_below Ho.out hb5).alloc _) ⟨w5.heap.size, 0, none⟩ 1 1 [.int .i64 i1, .int .i64 i2, .int .i64 j3] (by rfl) (by rfl) (World.news_of_block (cs := #[.int .i64 i1, .int .i64 i2, .int .i64 j3]) (t := 68) (fr := (0, 0)) (heap_new _ _)) (by simp [Value.oneCell']) (by omega) (by unfold maxLen; omega) (by omega) (by have := hb5.size; simp; omega) (w5.heap.size + 1) (by simp) ?_); intro gg cap w6 hown1 hgrow hat hltg; have hfr : Fr (fun q => (Value.slice fa k fc).ownBlock = some q) w5 w6 := ((Fr.refl _ w5).alloc _).trans (Fr.of_grown hgrow) (fun _ _ h => h); have Ho6 := Lib.hid hown1; have hb6 := Lib.hid ((hb.trans (hb5.mono hszr)).trans (hfr.below (B := w.heap.size) (by have := hb5.size; omega) (fun q hq => by have := (Ho.out.lt q hq).1; omega))); clear hat hgrow hown1 hfr))
        go_roundw
        case rel =>
          refine ⟨k + 1, _, _, _, _, cap, by omega, ?_, ?_, rfl, rfl, ?_, ?_, hb6.out⟩
          rotate_left 2
          · have := hS8.out
            rw [List.drop_drop, List.drop_drop, ← Hy.out, List.drop_drop] at this
            rw [show 7 * (k + 1) = 7 * k + (2 + 1 + 4) by omega]
            exact this
          · rw [itemsE_succ, show sizeE true * k = 7 * k from rfl, Hy.out, Hit.out, flat_append, flat_one]
            exact Ho6.out
          · have := Hmb.out; omega
          · omega
        case measure => simp [lenOf]; omega
      · obtain rfl : k = cnt := by omega
        obtain rfl : mb = 0 := by omega
        go_wp2_with fail
        go_ret2
        exact ⟨fa, fc, rfl, hown, hb⟩

set_option maxHeartbeats 3200000 in
set_option maxRecDepth 100000 in
theorem Items_yes0 (l : List Int) (n cnt : Nat) (a : Option Addr) (c : Nat) (w : World) (hn : l.length = n) (hl : n ≤ 1000000000000) (hc : n ≤ c) (hB : ∀ x ∈ l, Byte x) (hs : Sl encU 1 w a l) (hf : n = 1 + 3 * cnt) (hx : l[0]? = some (cnt : Int)) :
    Calls Tryz.prog 62 #[.slice a n c, .bool false] w fun e w' => ∃ fa fc, e = .returned (.tuple #[.slice fa cnt fc, .bool true]) ∧ w'.ownsRow w.heap.size 68 3 (.slice fa cnt fc) cnt (flat It.enc (itemsE false cnt (l.drop 1))) ∧ Below w.heap.size w w' := by
  obtain ⟨i0, hi0, hz0, hz1, hz2⟩ := info_parts itInfo
  have b0 := hB _ (List.mem_of_getElem? hx)
  unfold Byte at b0
  have h1i : ¬ (n : Int) < 1 := by omega
  have hne : ((n : Int) - 1 != 3 * (cnt : Int)) = false := by simp; omega
  obtain ⟨r, off, rfl, hr, hcc⟩ := hs (by intro h; rw [h] at hn; simp at hn; omega)
  have e0 := hcc 0 _ hx 0 _ rfl
  simp only [Nat.zero_mul, Nat.add_zero] at e0
  have hS := hs.dropV 1
  obtain ⟨rest, hrest⟩ : ∃ rest, l.drop 1 = rest := ⟨_, rfl⟩
  have hrl : rest.length = 3 * cnt := by rw [← hrest, List.length_drop, hn]; omega
  have hBr : ∀ z ∈ rest, Byte z := fun z hz => hB z (by rw [← hrest] at hz; exact List.mem_of_mem_drop hz)
  rw [hrest] at hS ⊢
  have HS := Lib.hid hS
  have Hrl := Lib.hid hrl
  have HBr := Lib.hid hBr
  have Hf := Lib.hid hf
  clear hS hrl hBr hrest hcc hx hB hn hf
  go_enter Tryz.func62, Tryz.ntmps62
  go_wp2_with fail
  · have hS0 : Sl encU 1 w (some ⟨r, off, none⟩) rest := by
      obtain rfl : rest = [] := List.eq_nil_of_length_eq_zero (by rw [Hrl.out]; have := Hf.out; omega)
      exact Sl.nil
    have HS0 := Lib.hid hS0
    clear hS0
    go_loopw [0, 7] (fun s i wr => ∃ (k mb : Nat) (ab : Option Addr) (cb : Nat) (fa : Option Addr) (fc : Nat), k ≤ cnt ∧ mb + 3 * k = 3 * cnt ∧ mb ≤ cb ∧ s = .slice ab mb cb ∧ i = .slice fa k fc ∧ Sl encU 1 w ab (rest.drop (3 * k)) ∧ wr.ownsRow w.heap.size 68 3 (.slice fa k fc) k (flat It.enc (itemsE false k rest)) ∧ Below w.heap.size w wr) (fun s _ _ => lenOf s)
    case atStart => exact ⟨0, _, _, _, none, 0, Nat.zero_le _, by have := Hf.out; omega, by have := Hf.out; omega, rfl, rfl, HS0.out, World.ownsRow_nil _ _ _ _, Below.refl _ _⟩
    case round =>
      obtain ⟨k, mb, ab, cb, fa, fc, hk, hmb, hcb, rfl, rfl, hs, hown, hb⟩ := hrel
      have hszr := hb.size
      by_cases hlt : k < cnt
      · obtain ⟨y, hy⟩ : ∃ y, rest.drop (3 * k) = y := ⟨_, rfl⟩
        have hyl : y.length = mb := by rw [← hy, List.length_drop, Hrl.out]; omega
        have hm13 : 3 ≤ mb := by omega
        have hm0 : (0 : Int) < mb := by omega
        have hBy : ∀ z ∈ y, Byte z := fun z hz => HBr.out z (by rw [← hy] at hz; exact List.mem_of_mem_drop hz)
        rw [hy] at hs
        have hmx : mb ≤ 4000 := by omega
        have RQ2 := Lib.hid (fun W (h : Below w.heap.size w W) => Read2 y mb ab cb W hyl (by omega) hcb hBy (hs.below h) (by omega))
        have RQ1 := Lib.hid (fun W (h : Below w.heap.size w W) => Read1 (y.drop 2) (mb - 2) (cutA ab cb 2) (cb - 2) W (by rw [List.length_drop]; omega) (by omega) (by omega) (fun z hz => hBy z (List.mem_of_mem_drop hz)) ((hs.cutU cb 2 (by omega)).below h) (by omega))
        have hS8 := Lib.hid ((hs.cutU cb 2 (by omega)).cutU (cb - 2) 1 (by rw [List.length_drop]; omega))
        obtain ⟨i1, hi1⟩ : ∃ z, readB (y.take 2) = z := ⟨_, rfl⟩
        obtain ⟨i2, hi2⟩ : ∃ z, readB ((y.drop 2).take 1) = z := ⟨_, rfl⟩
        have hit : itE false y = ⟨i1, i2, 0⟩ := by unfold itE; rw [hi1, hi2, if_neg (by simp)]
        unfold ReadPost at RQ1 RQ2
        rw [hi1] at RQ2
        rw [hi2] at RQ1
        have Hit := Lib.hid hit
        have Hy := Lib.hid hy
        have Ho := Lib.hid hown
        have Hmb := Lib.hid hmb
        clear hs hi1 hi2 hit hy hown hBy hmb hyl
        go_wp2_with (first
          | (go_at_call 61; first
            | ((with_reducible refine (RQ1.out _ (hb.trans (hb3.mono hszr))).mono ?_); rintro e w4 ⟨rfl, hb4⟩; have hb4 := hb3.trans (hb4.mono hb3.size))
            | ((with_reducible refine (RQ2.out _ hb).mono ?_); rintro e w3 ⟨rfl, hb3⟩))
          | (at_builtin; go_loud (refine wpList_append_lies _ (by rfl) _ _ _ (by rfl) w.heap.size 68 i0 _ 3 24 Tryz.underlying22 hi0 hz0 hz1 hz2 rfl (by omega) (.slice fa k fc) k _ (by rfl) ((own_below Ho.out hb4).alloc _) ⟨w4.heap.size, 0, none⟩ 1 1 [.int .i64 i1, .int .i64 i2, .int .i64 0] (by rfl) (by rfl) (World.news_of_block (cs := #[.int .i64 i1, .int .i64 i2, .int .i64 0]) (t := 68) (fr := (0, 0)) (heap_new _ _)) (by simp [Value.oneCell']) (by omega) (by unfold maxLen; omega) (by omega) (by have := hb4.size; simp; omega) (w4.heap.size + 1) (by simp) ?_); intro gg cap w6 hown1 hgrow hat hltg; have hfr : Fr (fun q => (Value.slice fa k fc).ownBlock = some q) w4 w6 := ((Fr.refl _ w4).alloc _).trans (Fr.of_grown hgrow) (fun _ _ h => h); have Ho6 := Lib.hid hown1; have hb6 := Lib.hid ((hb.trans (hb4.mono hszr)).trans (hfr.below (B := w.heap.size) (by have := hb4.size; omega) (fun q hq => by have := (Ho.out.lt q hq).1; omega))); clear hat hgrow hown1 hfr))
        go_roundw
        case rel =>
          refine ⟨k + 1, _, _, _, _, cap, by omega, ?_, ?_, rfl, rfl, ?_, ?_, hb6.out⟩
          rotate_left 2
          · have := hS8.out
            rw [List.drop_drop, ← Hy.out, List.drop_drop] at this
            rw [show 3 * (k + 1) = 3 * k + (2 + 1) by omega]
            exact this
          · rw [itemsE_succ, show sizeE false * k = 3 * k from rfl, Hy.out, Hit.out, flat_append, flat_one]
            exact Ho6.out
          · have := Hmb.out; omega
          · omega
        case measure => simp [lenOf]; omega
      · obtain rfl : k = cnt := by omega
        obtain rfl : mb = 0 := by omega
        go_wp2_with fail
        go_ret2
        exact ⟨fa, fc, rfl, hown, hb⟩
  · have hS0 : Sl encU 1 w (some ⟨r, off + 1, none⟩) rest := HS.out
    have HS0 := Lib.hid hS0
    clear hS0
    go_loopw [0, 7] (fun s i wr => ∃ (k mb : Nat) (ab : Option Addr) (cb : Nat) (fa : Option Addr) (fc : Nat), k ≤ cnt ∧ mb + 3 * k = 3 * cnt ∧ mb ≤ cb ∧ s = .slice ab mb cb ∧ i = .slice fa k fc ∧ Sl encU 1 w ab (rest.drop (3 * k)) ∧ wr.ownsRow w.heap.size 68 3 (.slice fa k fc) k (flat It.enc (itemsE false k rest)) ∧ Below w.heap.size w wr) (fun s _ _ => lenOf s)
    case atStart => exact ⟨0, _, _, _, none, 0, Nat.zero_le _, by have := Hf.out; omega, by have := Hf.out; omega, rfl, rfl, HS0.out, World.ownsRow_nil _ _ _ _, Below.refl _ _⟩
    case round =>
      obtain ⟨k, mb, ab, cb, fa, fc, hk, hmb, hcb, rfl, rfl, hs, hown, hb⟩ := hrel
      have hszr := hb.size
      by_cases hlt : k < cnt
      · obtain ⟨y, hy⟩ : ∃ y, rest.drop (3 * k) = y := ⟨_, rfl⟩
        have hyl : y.length = mb := by rw [← hy, List.length_drop, Hrl.out]; omega
        have hm13 : 3 ≤ mb := by omega
        have hm0 : (0 : Int) < mb := by omega
        have hBy : ∀ z ∈ y, Byte z := fun z hz => HBr.out z (by rw [← hy] at hz; exact List.mem_of_mem_drop hz)
        rw [hy] at hs
        have hmx : mb ≤ 4000 := by omega
        have RQ2 := Lib.hid (fun W (h : Below w.heap.size w W) => Read2 y mb ab cb W hyl (by omega) hcb hBy (hs.below h) (by omega))
        have RQ1 := Lib.hid (fun W (h : Below w.heap.size w W) => Read1 (y.drop 2) (mb - 2) (cutA ab cb 2) (cb - 2) W (by rw [List.length_drop]; omega) (by omega) (by omega) (fun z hz => hBy z (List.mem_of_mem_drop hz)) ((hs.cutU cb 2 (by omega)).below h) (by omega))
        have hS8 := Lib.hid ((hs.cutU cb 2 (by omega)).cutU (cb - 2) 1 (by rw [List.length_drop]; omega))
        obtain ⟨i1, hi1⟩ : ∃ z, readB (y.take 2) = z := ⟨_, rfl⟩
        obtain ⟨i2, hi2⟩ : ∃ z, readB ((y.drop 2).take 1) = z := ⟨_, rfl⟩
        have hit : itE false y = ⟨i1, i2, 0⟩ := by unfold itE; rw [hi1, hi2, if_neg (by simp)]
        unfold ReadPost at RQ1 RQ2
        rw [hi1] at RQ2
        rw [hi2] at RQ1
        have Hit := Lib.hid hit
        have Hy := Lib.hid hy
        have Ho := Lib.hid hown
        have Hmb := Lib.hid hmb
        clear hs hi1 hi2 hit hy hown hBy hmb hyl
        go_wp2_with (first
          | (go_at_call 61; first
            | ((with_reducible refine (RQ1.out _ (hb.trans (hb3.mono hszr))).mono ?_); rintro e w4 ⟨rfl, hb4⟩; have hb4 := hb3.trans (hb4.mono hb3.size))
            | ((with_reducible refine (RQ2.out _ hb).mono ?_); rintro e w3 ⟨rfl, hb3⟩))
          | (at_builtin; go_loud (refine wpList_append_lies _ (by rfl) _ _ _ (by rfl) w.heap.size 68 i0 _ 3 24 Tryz.underlying22 hi0 hz0 hz1 hz2 rfl (by omega) (.slice fa k fc) k _ (by rfl) ((own_below Ho.out hb4).alloc _) ⟨w4.heap.size, 0, none⟩ 1 1 [.int .i64 i1, .int .i64 i2, .int .i64 0] (by rfl) (by rfl) (World.news_of_block (cs := #[.int .i64 i1, .int .i64 i2, .int .i64 0]) (t := 68) (fr := (0, 0)) (heap_new _ _)) (by simp [Value.oneCell']) (by omega) (by unfold maxLen; omega) (by omega) (by have := hb4.size; simp; omega) (w4.heap.size + 1) (by simp) ?_); intro gg cap w6 hown1 hgrow hat hltg; have hfr : Fr (fun q => (Value.slice fa k fc).ownBlock = some q) w4 w6 := ((Fr.refl _ w4).alloc _).trans (Fr.of_grown hgrow) (fun _ _ h => h); have Ho6 := Lib.hid hown1; have hb6 := Lib.hid ((hb.trans (hb4.mono hszr)).trans (hfr.below (B := w.heap.size) (by have := hb4.size; omega) (fun q hq => by have := (Ho.out.lt q hq).1; omega))); clear hat hgrow hown1 hfr))
        go_roundw
        case rel =>
          refine ⟨k + 1, _, _, _, _, cap, by omega, ?_, ?_, rfl, rfl, ?_, ?_, hb6.out⟩
          rotate_left 2
          · have := hS8.out
            rw [List.drop_drop, ← Hy.out, List.drop_drop] at this
            rw [show 3 * (k + 1) = 3 * k + (2 + 1) by omega]
            exact this
          · rw [itemsE_succ, show sizeE false * k = 3 * k from rfl, Hy.out, Hit.out, flat_append, flat_one]
            exact Ho6.out
          · have := Hmb.out; omega
          · omega
        case measure => simp [lenOf]; omega
      · obtain rfl : k = cnt := by omega
        obtain rfl : mb = 0 := by omega
        go_wp2_with fail
        go_ret2
        exact ⟨fa, fc, rfl, hown, hb⟩
end Go.Proofs.YtpdfkomhgeckcaaGreat
