/- Package elder: One: a form as it was written first. -/
import Derived.Test.YthdilellcaebfaaGreatDoorByt
import Derived.Test.YthdilellcaebfaaGreatDoorRf
namespace Go.Proofs.YthdilellcaebfaaGreatDoor
open Go.RowKit
set_option linter.unusedVariables false
set_option linter.unusedSimpArgs false

/-- What the first version can say of an item. -/
def plainI (x : It) : Prop := x.id ≤ 65535 ∧ x.lag = 0
def itemB1 (x : It) : List Int := numB x.id 2 ++ [x.w]
def oneTo (tag : Int) (l : List It) (k : Nat) : List Int := [83, 72, 1, tag, (l.length : Int)] ++ (l.take k).flatMap itemB1
def oneB (tag : Int) (l : List It) : List Int := sealP (oneTo tag l l.length)
theorem Number2 (l : List Int) (v : Int) (n : Nat) (B : Nat) (a : Option Addr) (c : Nat) (w : World) (hv : -9223372036854775808 ≤ v ∧ v ≤ 9223372036854775807) (hn : n ≤ 10000000000) (hB : B ≤ w.heap.size) (ho : w.ownsRow B 5 1 (.slice a n c) n (flat encU l)) :
    Calls Tryz.prog 31 #[.slice a n c, .int .i64 v, .int .i64 2] w (NumPost B a n c 2 (l ++ numB v 2) w) := Number_any l v 2 n B a c w hv (by omega) hn hB ho
set_option maxHeartbeats 800000 in
theorem OneOdd (x : It) (w : World) (h : plainI x) : Calls Tryz.prog 37 #[.agg #[.int .i64 x.id, .int .i64 x.w, .int .i64 x.lag]] w fun e w' => e = .returned (.bool false) ∧ Below w.heap.size w w' := by
  have h1 : ¬ 65535 < x.id := by have := h.1; omega
  have h2 : x.lag = 0 := h.2
  obtain ⟨i, tw, lag⟩ := x
  simp only at h1 h2
  subst h2
  clear h
  go_enter Tryz.func37, Tryz.ntmps37
  go_wp2_with fail
  go_ret
  exact ⟨rfl, (Below.refl _ _).alloc (Nat.le_refl _) _⟩
set_option maxHeartbeats 800000 in
set_option maxRecDepth 100000 in
theorem indexOdd (l : List It) (n : Nat) (a : Option Addr) (c : Nat) (w : World) (hn : l.length = n) (hl : n ≤ 4611686018427387904) (hs : Sl It.enc 3 w a l) (h : ∀ x ∈ l, plainI x) :
    Calls Tryz.prog 71 #[.slice a n c, .func (.func 37) #[] #[]] w fun e w' => e = .returned (.int .i64 (-1)) ∧ Below w.heap.size w w' := by
  have HS := Lib.hid hs
  have HP := Lib.hid h
  have Hn := Lib.hid hn
  clear hs h hn
  go_enter Tryz.func71, Tryz.ntmps71
  go_wp2_with fail
  go_loopw [8] (fun i wr => ∃ k : Nat, k ≤ n ∧ i = .int .i64 k ∧ Below w.heap.size w wr) (fun i _ => n - (intOf i).toNat)
  case atStart => exact ⟨0, Nat.zero_le _, rfl, Below.refl _ _⟩
  case round =>
    obtain ⟨k, hk, rfl, hb⟩ := hrel
    have hsz := hb.size
    by_cases hlt : k < n
    · obtain ⟨r, off, rfl, hr, hcc⟩ := HS.out (by intro h; have h1 := Hn.out; rw [h] at h1; simp at h1; omega)
      obtain ⟨x, hx⟩ : ∃ x, l[k]? = some x := ⟨_, List.getElem?_eq_getElem (by rw [Hn.out]; exact hlt)⟩
      have e0 := (hb.cell (p := ⟨r, off + k * 3 + 0, none⟩) hr).trans (hcc k x hx 0 _ rfl)
      have e1 := (hb.cell (p := ⟨r, off + k * 3 + 1, none⟩) hr).trans (hcc k x hx 1 _ rfl)
      have e2 := (hb.cell (p := ⟨r, off + k * 3 + 2, none⟩) hr).trans (hcc k x hx 2 _ rfl)
      simp only [Nat.add_zero] at e0
      have hkn : (k : Int) < n := by omega
      have HO := Lib.hid (fun W => OneOdd x W (HP.out x (List.mem_of_getElem? hx)))
      clear hcc hx
      go_wp2_with (go_at_call 37; refine (HO.out _).mono ?_; rintro e w1 ⟨rfl, hb1⟩)
      go_roundw
      case rel => exact ⟨k + 1, hlt, by go_num, hb.trans (hb1.mono hsz)⟩
      case measure => simp [intOf]; omega
    · go_wp2
      go_ret
      exact ⟨rfl, hb⟩
set_option maxHeartbeats 800000 in
theorem containsOdd (l : List It) (n : Nat) (a : Option Addr) (c : Nat) (w : World) (hn : l.length = n) (hl : n ≤ 4611686018427387904) (hs : Sl It.enc 3 w a l) (h : ∀ x ∈ l, plainI x) :
    Calls Tryz.prog 36 #[.slice a n c, .func (.func 37) #[] #[]] w fun e w' => e = .returned (.bool false) ∧ Below w.heap.size w w' := by
  have HI := Lib.hid (indexOdd l n a c w hn hl hs h)
  clear hs h hn
  go_enter Tryz.func36, Tryz.ntmps36
  go_wp2_with (go_at_call 71; refine HI.out.mono ?_; rintro e w1 ⟨rfl, hb1⟩)
  go_ret
  exact ⟨rfl, hb1⟩

set_option maxHeartbeats 3200000 in
set_option maxRecDepth 100000 in
theorem One_ok (tag : Int) (l : List It) (n : Nat) (a : Option Addr) (c : Nat) (w : World) (hn : l.length = n) (hs : Sl It.enc 3 w a l) (hg : goodC tag ⟨-1, l⟩ = true) (hp1 : ∀ x ∈ l, plainI x) :
    Calls Tryz.prog 14 #[.int .i64 tag, .agg #[.int .i64 (-1), .slice a n c]] w fun e w' => ∃ a' c', e = .returned (.tuple #[.slice a' (oneB tag l).length c', .int .i64 0]) ∧ w'.ownsRow w.heap.size 5 1 (.slice a' (oneB tag l).length c') (oneB tag l).length (flat encU (oneB tag l)) ∧ Below w.heap.size w w' := by
  have hgg := hg
  unfold goodC at hgg
  rw [Bool.and_eq_true, decide_eq_true_eq] at hgg
  have hp := goodF_P hgg.2
  have hl64 : n ≤ 64 := by have := hp.1; simp only at this; omega
  obtain ⟨i0, hi0, hz0, hz1, hz2⟩ := info_parts infoU
  have hbA := (Below.refl w.heap.size w).alloc (Nat.le_refl _) (.cells #[.int .i64 (-1), .slice a n c] 37)
  have HG := Lib.hid (CodeGood tag (-1) l n a c _ hn (by omega) (hs.below hbA) hg)
  have HC := Lib.hid (fun W (h : Below w.heap.size w W) => containsOdd l n a c W hn (by omega) (hs.below h) hp1)
  have HS := Lib.hid hs
  have Hn := Lib.hid hn
  have Hp := Lib.hid hp.2.2.1
  have t0 := hgg.1.1
  have t1 := hgg.1.2
  have Hbox := Lib.hid (heap_new w (.cells #[.int .i64 (-1), .slice a n c] 37))
  have HbA := Lib.hid hbA
  have tm : tag % 256 = tag := by omega
  have nm : (n : Int) % 256 = n := by omega
  clear hs hn hg hgg hp hp1 hbA
  go_enter Tryz.func14, Tryz.ntmps14
  go_wp2_with (first
    | (go_at_call 30; refine HG.out.mono ?_; rintro e w1 ⟨rfl, hb1⟩; have hh := heap_below Hbox.out hb1; obtain ⟨g0, g1, y0, y1, gl⟩ := blk2 hh; have Hh := Lib.hid hh; have hb1a := HbA.out.trans (hb1.mono HbA.out.size); clear hh)
    | (go_at_call 36; refine (HC.out _ hb1a).mono ?_; rintro e w2 ⟨rfl, hb2⟩; have hh := heap_below Hh.out hb2; obtain ⟨g0, g1, y0, y1, gl⟩ := blk2 hh; have Hh2 := Lib.hid hh; have hb2a := hb1a.trans (hb2.mono hb1a.size); clear hh))
  have Ho0 : (w2.alloc (.cells #[.int .u8 83, .int .u8 72, .int .u8 1, .int .u8 tag, .int .u8 n] 5)).ownsRow w.heap.size 5 1 (.slice (some ⟨w2.heap.size, 0, none⟩) 5 5) 5 (flat encU [83, 72, 1, tag, (n : Int)]) := ⟨rfl, .inr ⟨w2.heap.size, 5, #[.int .u8 83, .int .u8 72, .int .u8 1, .int .u8 tag, .int .u8 n], rfl, hb2a.size, heap_new _ _, Nat.le_refl _, by unfold maxLen; omega, rfl, rfl⟩⟩
  have HO0 := Lib.hid Ho0
  have hbS := hb2a.alloc hb2a.size (.cells #[.int .u8 83, .int .u8 72, .int .u8 1, .int .u8 tag, .int .u8 n] 5)
  clear Ho0
  go_loopw [6, 31] (fun s i wr => ∃ (k m : Nat) (va : Option Addr) (vc : Nat), k ≤ n ∧ m = 5 + 3 * k ∧ s = .slice va m vc ∧ i = .int .i64 k ∧ wr.ownsRow w.heap.size 5 1 (.slice va m vc) m (flat encU (oneTo tag l k)) ∧ Below w.heap.size w wr) (fun _ i _ => n - (intOf i).toNat)
  case atStart =>
    refine ⟨0, 5, _, _, Nat.zero_le _, rfl, rfl, rfl, ?_, hbS⟩
    have e : oneTo tag l 0 = [83, 72, 1, tag, (n : Int)] := by unfold oneTo; rw [Hn.out]; rfl
    rw [e]
    exact HO0.out
  case round =>
    obtain ⟨k, m, va, vc, hk, hm, rfl, rfl, hown, hb⟩ := hrel
    have hsz := hb.size
    by_cases hlt : k < n
    · obtain ⟨r, off, rfl, hr, hcc⟩ := HS.out (by intro h; have h1 := Hn.out; rw [h] at h1; simp at h1; omega)
      obtain ⟨x, hx⟩ : ∃ x, l[k]? = some x := ⟨_, List.getElem?_eq_getElem (by rw [Hn.out]; exact hlt)⟩
      have e0 := (hb.cell (p := ⟨r, off + k * 3 + 0, none⟩) hr).trans (hcc k x hx 0 _ rfl)
      have e1 := (hb.cell (p := ⟨r, off + k * 3 + 1, none⟩) hr).trans (hcc k x hx 1 _ rfl)
      have e2 := (hb.cell (p := ⟨r, off + k * 3 + 2, none⟩) hr).trans (hcc k x hx 2 _ rfl)
      simp only [Nat.add_zero] at e0
      have hxm := mayB_true (Hp.out x (List.mem_of_getElem? hx))
      have hxw : x.w % 256 = x.w := by omega
      have hmb : m ≤ 1000 := by omega
      have hxid : -9223372036854775808 ≤ x.id ∧ x.id ≤ 9223372036854775807 := by omega
      have hwr : IntKind.u8.wrap x.w = x.w := by rw [show IntKind.u8.wrap x.w = x.w % 256 from rfl]; exact hxw
      have HX := Lib.hid (heap_new wr (.cells #[.int .i64 x.id, .int .i64 x.w, .int .i64 x.lag] 34))
      have Ho := Lib.hid hown
      have Hx := Lib.hid hx
      have Hm := Lib.hid hm
      have HB0 := Lib.hid (hb.alloc hsz (.cells #[.int .i64 x.id, .int .i64 x.w, .int .i64 x.lag] 34))
      have hstep : ∀ g5 cap5 (W : World), W.ownsRow w.heap.size 5 1 (.slice (some ⟨g5, 0, none⟩) (m + 2 + 1) cap5) (m + 2 + 1) (flat encU (oneTo tag l k ++ numB x.id 2) ++ [.int .u8 x.w]) → W.ownsRow w.heap.size 5 1 (.slice (some ⟨g5, 0, none⟩) (m + 2 + 1) cap5) (m + 2 + 1) (flat encU (oneTo tag l (k + 1))) := by
        intro g5 cap5 W hW
        have e : oneTo tag l (k + 1) = (oneTo tag l k ++ numB x.id 2) ++ [x.w] := by
          unfold oneTo
          rw [List.take_succ_eq_append_getElem (List.getElem?_eq_some_iff.1 Hx.out).1, (List.getElem?_eq_some_iff.1 Hx.out).2, List.flatMap_append]
          simp [itemB1]
        rw [e, flat_append]
        exact hW
      clear hcc hx hxm hm
      go_wp2_with fail
      refine wp_region_tree 47 [0, 0, 2, 7, 0, 16, 48, 112, 255, 511] (.one 0 (.one 1 (.one 2 (.one 4 (.one 5 (.one 6 (.fork 3 [4, 5, 6] (.act 7 [] (.act 8 [] (.one 9 .done))) 7 [0, 1, 2] (.act 3 [] (.act 8 [] (.one 9 .done)))))))))) (by kernel_rfl) (by kernel_rfl) (by rfl) ?_; simp only [chainT, Obs, List.getElem?_toArray, List.getElem?_cons_zero, List.getElem?_cons_succ]
      have HXd := Lib.hid (show (wr.alloc (.cells #[.int .i64 x.id, .int .i64 x.w, .int .i64 x.lag] 34)).drew.heap[wr.heap.size]? = some (.cells #[.int .i64 x.id, .int .i64 x.w, .int .i64 x.lag] 34) from HX.out)
      have hd1 : (wr.alloc (.cells #[.int .i64 x.id, .int .i64 x.w, .int .i64 x.lag] 34)).drew.heap.size = wr.heap.size + 1 := by simp [World.drew]
      have hB1 : Below w.heap.size w (wr.alloc (.cells #[.int .i64 x.id, .int .i64 x.w, .int .i64 x.lag] 34)).drew := (hb.alloc hsz _).drew
      have hO1 : (wr.alloc (.cells #[.int .i64 x.id, .int .i64 x.w, .int .i64 x.lag] 34)).drew.ownsRow w.heap.size 5 1 (.slice va m vc) m (flat encU (oneTo tag l k)) := (Ho.out.alloc _).drew
      generalize hW1 : (wr.alloc (.cells #[.int .i64 x.id, .int .i64 x.w, .int .i64 x.lag] 34)).drew = W1 at hB1 hO1 HXd hd1 ⊢
      obtain ⟨p0, p1, p2, q0, q1, q2, pl⟩ := blk3 HXd.out
      have HB1 := Lib.hid hB1
      have HO1 := Lib.hid hO1
      have hOl := fun q hq => (hO1.lt q hq)
      have hHl := Lib.hid (fun q hq => (Ho.out.lt q hq).2)
      have hOa : (W1.alloc (.cells #[.int .u8 x.w] 5)).ownsRow w.heap.size 5 1 (.slice va m vc) m (flat encU (oneTo tag l k)) := hO1.alloc _
      have NA := Lib.hid (Number2 (oneTo tag l k) x.id m w.heap.size va vc W1 hxid (by omega) hB1.size hO1)
      have NB := Lib.hid (Number2 (oneTo tag l k) x.id m w.heap.size va vc _ hxid (by omega) (by have := hB1.size; simp; omega) hOa)
      have hBb := Lib.hid (hB1.alloc hB1.size (.cells #[.int .u8 x.w] 5))
      have HZB := Lib.hid (heap_new W1 (.cells #[.int .u8 x.w] 5))
      clear hB1 hO1 hOa hOl
      go_wp2_with (first
        | (with_reducible refine And.intro True.intro ?_)
        | (with_reducible refine And.intro rfl ?_))
      refine And.intro ?_ ?_
      · go_wp2_with (first
          | (with_reducible refine And.intro True.intro ?_)
          | (with_reducible refine And.intro rfl ?_)
          | (with_reducible refine And.intro (show _ = _ by go_simp) ?_)
          | (with_reducible refine And.intro (show _ = _ by go_simp; exact hwr) ?_)
          | (go_at_call 31; (with_reducible refine (NA.out).mono ?_); rintro e w4 ⟨a4, k4, rfl, ho4, hf4, hq4⟩; have hx4 := heap_fr HXd.out hf4 (fun h => by have := hHl.out _ h; omega); obtain ⟨z0, z1, z2, y0, y1, y2, yl⟩ := blk3 hx4; have hc4 := Lib.hid (HB1.out.trans (hf4.below (B := w.heap.size) HB1.out.size (fun k hk => by have := (HO1.out.lt k hk).1; omega))); have hs4 := hc4.out.size; have Ho4 := Lib.hid ho4; clear ho4 hf4 hq4 hx4)
          | (at_builtin; go_loud (refine wpList_append_lies _ (by rfl) _ _ _ (by rfl) w.heap.size 5 i0 _ 1 1 Tryz.underlying40 hi0 hz0 hz1 hz2 rfl (by omega) (.slice a4 (m + 2) k4) (m + 2) _ (by rfl) (Ho4.out.alloc _) ⟨w4.heap.size, 0, none⟩ 1 1 [.int .u8 x.w] (by rfl) (by rfl) (World.news_of_block (cs := #[.int .u8 x.w]) (t := 5) (fr := (0, 0)) (heap_new _ _)) (by simp [Value.oneCell']) (by omega) (by unfold maxLen; omega) (by omega) (by simp; omega) (w4.heap.size + 1) (by simp) ?_); intro g5 cap5 w5 hown5 hgrow hat hlt5; have hc5 := Lib.hid ((hc4.out.alloc (by omega) _).grown hgrow (by simp; omega) (fun k hk => by have := (Ho4.out.lt k hk).1; omega)); have Ho5 := Lib.hid hown5; clear hat hgrow hown5))
        refine NoPanic.normal ?_
        go_wp2_with fail
        go_roundw
        case rel => exact ⟨k + 1, m + 2 + 1, _, _, by omega, by have := Hm.out; omega, rfl, by go_num, hstep _ _ _ Ho5.out, hc5.out⟩
        case measure => simp [intOf]; omega
      · go_wp2_with (first
          | (with_reducible refine And.intro True.intro ?_)
          | (with_reducible refine And.intro rfl ?_)
          | (with_reducible refine And.intro (show _ = _ by go_simp) ?_)
          | (with_reducible refine And.intro (show _ = _ by go_simp; exact hwr) ?_)
          | (go_at_call 31; (with_reducible refine (NB.out).mono ?_); rintro e w4 ⟨a4, k4, rfl, ho4, hf4, hq4⟩; have hz4 := heap_fr HZB.out hf4 (fun h => by have := hHl.out _ h; omega); rw [hd1] at hz4; have HZ4 := Lib.hid hz4; have hc4 := Lib.hid (hBb.out.trans (hf4.below (B := w.heap.size) hBb.out.size (fun k hk => by have := (HO1.out.lt k hk).1; omega))); have hs4 := hc4.out.size; have hsw := hf4.size; have Ho4 := Lib.hid ho4; clear ho4 hf4 hq4 hz4)
          | (at_builtin; go_loud (refine wpList_append_lies _ (by rfl) _ _ _ (by rfl) w.heap.size 5 i0 _ 1 1 Tryz.underlying40 hi0 hz0 hz1 hz2 rfl (by omega) (.slice a4 (m + 2) k4) (m + 2) _ (by rfl) (Ho4.out) ⟨wr.heap.size + 1, 0, none⟩ 1 1 [.int .u8 x.w] (by rfl) (by rfl) (World.news_of_block (cs := #[.int .u8 x.w]) (t := 5) (fr := (0, 0)) HZ4.out) (by simp [Value.oneCell']) (by omega) (by unfold maxLen; omega) (by omega) (by omega) w4.heap.size rfl ?_); intro g5 cap5 w5 hown5 hgrow hat hlt5; have hc5 := Lib.hid ((hc4.out).grown hgrow hs4 (fun k hk => by have := (Ho4.out.lt k hk).1; omega)); have Ho5 := Lib.hid hown5; clear hat hgrow hown5))
        refine NoPanic.normal ?_
        go_wp2_with fail
        go_roundw
        case rel => exact ⟨k + 1, m + 2 + 1, _, _, by omega, by have := Hm.out; omega, rfl, by go_num, hstep _ _ _ Ho5.out, hc5.out⟩
        case measure => simp [intOf]; omega
    · obtain rfl : k = n := by omega
      have hfl : (oneTo tag l k).length = m := own_len hown
      have hs7 : Sl encU 1 wr va (oneTo tag l k) := own_sl hown
      have HZ := Lib.hid (SealPut (oneTo tag l k) m va vc wr hfl (by omega) hs7)
      have Hfl := Lib.hid hfl
      clear hm hfl hs7
      go_wp2_with (go_at_call 32; refine HZ.out.mono ?_; rintro e w7 ⟨a7, k7, rfl, ho7, hb7⟩; have Ho7 := Lib.hid ho7; clear ho7)
      go_ret2
      have e : oneB tag l = sealP (oneTo tag l k) := by unfold oneB; rw [Hn.out]
      have el : (oneB tag l).length = m + 4 := by rw [e, sealP_length, Hfl.out]
      rw [el, e]
      exact ⟨a7, k7, rfl, own_base Ho7.out hsz, hb.trans (hb7.mono hsz)⟩
end Go.Proofs.YthdilellcaebfaaGreatDoor
