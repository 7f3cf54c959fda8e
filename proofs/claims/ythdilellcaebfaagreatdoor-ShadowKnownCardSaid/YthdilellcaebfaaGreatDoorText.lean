/- Package owed: Text: a form's text. -/
import Derived.Test.YthdilellcaebfaaGreatDoorG
import Derived.Test.YthdilellcaebfaaGreatDoorR
import Derived.Test.YthdilellcaebfaaGreatDoorNum
import Derived.Lib.AppendIntMem
import Derived.Lib.ItoaLen
import Derived.Laws.Concat
namespace Go.Proofs.YthdilellcaebfaaGreatDoor
open Go.RowKit
set_option linter.unusedVariables false
set_option linter.unusedSimpArgs false

/-- The table of strconv's reads so, whatever is laid behind w's heap. -/
def Tab (w : World) : Prop := Lib.TabBelow Tryz.prog w.heap.size w "internal/strconv.uint64pow10" .u64 Lib.pow10Tab
theorem Tab.on {w w1 : World} (h : Tab w) (hb : Below w.heap.size w w1) : Tab w1 := fun w' h' => h w' (hb.trans (h'.mono hb.size))
theorem Tab.here {w : World} (h : Tab w) : Lib.TabIs Tryz.prog w "internal/strconv.uint64pow10" .u64 Lib.pow10Tab := Lib.TabBelow.here h
theorem Tab.of {w : World} (h : Lib.TabIs Tryz.prog w "internal/strconv.uint64pow10" .u64 Lib.pow10Tab) : Tab w := Lib.tabBelow_of_tabIs h
theorem Itoa_any (n : Int) (w : World) (h : -9223372036854775808 ≤ n ∧ n ≤ 9223372036854775807) (ht : Tab w) :
    Calls Tryz.prog 40 #[.int .i64 n] w fun e w' => e = .returned (.string ⟨(Lib.itoa n).toArray⟩) ∧ Below w.heap.size w w' :=
  (Any.strconv_Itoa Tryz.laysItoa n h.1 h.2 w ht.here).mono fun e w' ⟨h1, k, os, h2⟩ => ⟨h1, by rw [h2]; exact Lib.below_grow _ _ (Nat.le_refl _) k os⟩
theorem Fmt_any (n : Int) (w : World) (h : -9223372036854775808 ≤ n ∧ n ≤ 9223372036854775807) (ht : Tab w) :
    Calls Tryz.prog 41 #[.int .i64 n, .int .i64 10] w fun e w' => e = .returned (.string ⟨(Lib.itoa n).toArray⟩) ∧ Below w.heap.size w w' :=
  (Any.strconv_FormatInt_10 Tryz.laysFmt n h.1 h.2 w ht.here).mono fun e w' ⟨h1, k, os, h2⟩ => ⟨h1, by rw [h2]; exact Lib.below_grow _ _ (Nat.le_refl _) k os⟩

/-- Two strings, one behind the other: what a walk asks of them. -/
theorem cat_of {x y z : ByteArray} (a b : List UInt8) (hx : x = ⟨a.toArray⟩) (hy : y = ⟨b.toArray⟩) (hz : z = ⟨(a ++ b).toArray⟩) (hl : a.length + b.length ≤ 1000000) :
    ¬ (x.size + y.size > 9223372036854775807) ∧ x ++ y = z ∧ ∀ W, (Op.stringOp .add x y).run Tryz.prog W = .ok (.string z) W := by
  subst hx hy hz
  have e : ¬ ((⟨a.toArray⟩ : ByteArray).size + (⟨b.toArray⟩ : ByteArray).size > 9223372036854775807) := by simp [ByteArray.size]; omega
  refine ⟨e, ByteArray.mk_append_mk _ _, fun W => ?_⟩
  rw [run_string_add_sum W _ _ (by omega), ByteArray.mk_append_mk]

def textI (x : It) : List UInt8 := 32 :: (Lib.itoa x.id ++ 47 :: (Lib.itoa x.w ++ 47 :: Lib.itoa x.lag))
def textTo (cur : Int) (l : List It) : List UInt8 := Lib.itoa cur ++ 58 :: l.flatMap textI
def It64 (x : It) : Prop := (-9223372036854775808 ≤ x.id ∧ x.id ≤ 9223372036854775807) ∧ (-9223372036854775808 ≤ x.w ∧ x.w ≤ 9223372036854775807) ∧ (-9223372036854775808 ≤ x.lag ∧ x.lag ≤ 9223372036854775807)
theorem textI_len {x : It} (h : It64 x) : (textI x).length ≤ 66 := by
  have h1 := Lib.itoa_length_le x.id h.1.1 h.1.2
  have h2 := Lib.itoa_length_le x.w h.2.1.1 h.2.1.2
  have h3 := Lib.itoa_length_le x.lag h.2.2.1 h.2.2.2
  simp only [textI, List.length_cons, List.length_append]; omega
theorem flat_len : ∀ (l : List It), (∀ x ∈ l, It64 x) → (l.flatMap textI).length ≤ 66 * l.length
  | [], _ => by simp
  | x :: l, h => by
    have h1 := textI_len (h x List.mem_cons_self)
    have h2 := flat_len l fun y hy => h y (List.mem_cons_of_mem _ hy)
    simp only [List.flatMap_cons, List.length_append, List.length_cons]; omega

set_option maxHeartbeats 3200000 in
set_option maxRecDepth 100000 in
theorem Text_any (cur : Int) (l : List It) (n : Nat) (a : Option Addr) (c : Nat) (w : World) (hn : l.length = n) (hl : n ≤ 64) (hs : Sl It.enc 3 w a l) (hc : -9223372036854775808 ≤ cur ∧ cur ≤ 9223372036854775807) (hi : ∀ x ∈ l, It64 x) (ht : Tab w) :
    Calls Tryz.prog 20 #[.agg #[.int .i64 cur, .slice a n c]] w fun e w' => e = .returned (.string ⟨(textTo cur l).toArray⟩) ∧ Below w.heap.size w w' := by
  obtain ⟨s0, hs0⟩ : ∃ s : ByteArray, s = ⟨(Lib.itoa cur).toArray⟩ := ⟨_, rfl⟩
  obtain ⟨s1, hs1⟩ : ∃ s : ByteArray, s = ⟨(Lib.itoa cur ++ [58]).toArray⟩ := ⟨_, rfl⟩
  have hl0 := Lib.itoa_length_le cur hc.1 hc.2
  obtain ⟨c1, c2, c3⟩ := cat_of (y := ⟨#[58]⟩) (Lib.itoa cur) [58] hs0 rfl hs1 (by simp; omega)
  have H0 := Lib.hid (Itoa_any cur _ hc (ht.on ((Below.refl _ _).alloc (Nat.le_refl _) (.cells #[.int .i64 cur, .slice a n c] 37))))
  rw [← hs0] at H0
  have HS := Lib.hid hs
  have Hn := Lib.hid hn
  have Hi := Lib.hid hi
  have Ht := Lib.hid ht
  have He := Lib.hid hs1
  clear hs hn hi hc ht hs0 hs1
  go_enter Tryz.func20, Tryz.ntmps20
  go_wp2_with (go_at_call 40; refine H0.out.mono ?_; rintro e w1 ⟨rfl, hb1⟩; have hh := heap_below (heap_new w (.cells #[.int .i64 cur, .slice a n c] 37)) hb1; obtain ⟨g0, g1, y0, y1, gl⟩ := blk2 hh; have Hh := Lib.hid hh; clear hh)
  go_loopw [3, 13] (fun s i wr => ∃ (k : Nat) (z : ByteArray), k ≤ n ∧ s = .string z ∧ z = ⟨(textTo cur (l.take k)).toArray⟩ ∧ i = .int .i64 k ∧ Below w.heap.size w wr) (fun _ i _ => n - (intOf i).toNat)
  case atStart => exact ⟨0, s1, Nat.zero_le _, rfl, by rw [He.out]; rfl, rfl, ((Below.refl _ _).alloc (Nat.le_refl _) _).trans (hb1.mono (by simp))⟩
  case round =>
    obtain ⟨k, z, hk, rfl, hz, rfl, hb⟩ := hrel
    have hsz := hb.size
    by_cases hlt : k < n
    · obtain ⟨r, off, rfl, hr, hcc⟩ := HS.out (by intro h; have h1 := Hn.out; rw [h] at h1; simp at h1; omega)
      obtain ⟨x, hx⟩ : ∃ x, l[k]? = some x := ⟨_, List.getElem?_eq_getElem (by rw [Hn.out]; exact hlt)⟩
      have e0 := (hb.cell (p := ⟨r, off + k * 3 + 0, none⟩) hr).trans (hcc k x hx 0 _ rfl)
      have e1 := (hb.cell (p := ⟨r, off + k * 3 + 1, none⟩) hr).trans (hcc k x hx 1 _ rfl)
      have e2 := (hb.cell (p := ⟨r, off + k * 3 + 2, none⟩) hr).trans (hcc k x hx 2 _ rfl)
      simp only [Nat.add_zero] at e0
      have hxi := Hi.out x (List.mem_of_getElem? hx)
      have hi1 := Lib.itoa_length_le x.id hxi.1.1 hxi.1.2
      have hi2 := Lib.itoa_length_le x.w hxi.2.1.1 hxi.2.1.2
      have hi3 := Lib.itoa_length_le x.lag hxi.2.2.1 hxi.2.2.2
      have hzl : (textTo cur (l.take k)).length ≤ 5000 := by
        have h1 := flat_len (l.take k) fun y hy => Hi.out y (List.mem_of_mem_take hy)
        have h2 : (l.take k).length ≤ 64 := by rw [List.length_take, Hn.out]; omega
        simp only [textTo, List.length_append, List.length_cons]; omega
      have hnx : textTo cur (l.take k) ++ (((([32] ++ Lib.itoa x.id) ++ [47]) ++ Lib.itoa x.w) ++ [47] ++ Lib.itoa x.lag) = textTo cur (l.take (k + 1)) := by
        rw [List.take_succ_eq_append_getElem (List.getElem?_eq_some_iff.1 hx).1, (List.getElem?_eq_some_iff.1 hx).2]
        simp [textTo, textI, List.append_assoc]
      obtain ⟨j1, hj1⟩ : ∃ s : ByteArray, s = ⟨(Lib.itoa x.id).toArray⟩ := ⟨_, rfl⟩
      obtain ⟨j2, hj2⟩ : ∃ s : ByteArray, s = ⟨(Lib.itoa x.w).toArray⟩ := ⟨_, rfl⟩
      obtain ⟨j3, hj3⟩ : ∃ s : ByteArray, s = ⟨(Lib.itoa x.lag).toArray⟩ := ⟨_, rfl⟩
      obtain ⟨z1, hz1⟩ : ∃ s : ByteArray, s = ⟨([32] ++ Lib.itoa x.id).toArray⟩ := ⟨_, rfl⟩
      obtain ⟨z2, hz2⟩ : ∃ s : ByteArray, s = ⟨(([32] ++ Lib.itoa x.id) ++ [47]).toArray⟩ := ⟨_, rfl⟩
      obtain ⟨z3, hz3⟩ : ∃ s : ByteArray, s = ⟨((([32] ++ Lib.itoa x.id) ++ [47]) ++ Lib.itoa x.w).toArray⟩ := ⟨_, rfl⟩
      obtain ⟨z4, hz4⟩ : ∃ s : ByteArray, s = ⟨(((([32] ++ Lib.itoa x.id) ++ [47]) ++ Lib.itoa x.w) ++ [47]).toArray⟩ := ⟨_, rfl⟩
      obtain ⟨z5, hz5⟩ : ∃ s : ByteArray, s = ⟨((((([32] ++ Lib.itoa x.id) ++ [47]) ++ Lib.itoa x.w) ++ [47]) ++ Lib.itoa x.lag).toArray⟩ := ⟨_, rfl⟩
      obtain ⟨z6, hz6⟩ : ∃ s : ByteArray, s = ⟨(textTo cur (l.take k) ++ (((([32] ++ Lib.itoa x.id) ++ [47]) ++ Lib.itoa x.w) ++ [47] ++ Lib.itoa x.lag)).toArray⟩ := ⟨_, rfl⟩
      obtain ⟨n1, a1, f1⟩ := cat_of (x := ⟨#[32]⟩) [32] _ rfl hj1 hz1 (by simp; omega)
      obtain ⟨n2, a2, f2⟩ := cat_of (y := ⟨#[47]⟩) _ [47] hz1 rfl hz2 (by simp; omega)
      obtain ⟨n3, a3, f3⟩ := cat_of _ _ hz2 hj2 hz3 (by simp; omega)
      obtain ⟨n4, a4, f4⟩ := cat_of (y := ⟨#[47]⟩) _ [47] hz3 rfl hz4 (by simp; omega)
      obtain ⟨n5, a5, f5⟩ := cat_of _ _ hz4 hj3 hz5 (by simp; omega)
      obtain ⟨n6, a6, f6⟩ := cat_of _ _ hz hz5 hz6 (by simp; omega)
      rw [hnx] at hz6
      have I1 := Lib.hid (fun (W : World) (h : Below w.heap.size w W) => Itoa_any x.id W hxi.1 (Ht.out.on h))
      have I2 := Lib.hid (fun (W : World) (h : Below w.heap.size w W) => Itoa_any x.w W hxi.2.1 (Ht.out.on h))
      have I3 := Lib.hid (fun (W : World) (h : Below w.heap.size w W) => Fmt_any x.lag W hxi.2.2 (Ht.out.on h))
      rw [← hj1] at I1
      rw [← hj2] at I2
      rw [← hj3] at I3
      have Hz := Lib.hid hz6
      clear hz hz1 hz2 hz3 hz4 hz5 hz6 hj1 hj2 hj3 hnx hzl hi1 hi2 hi3 hxi hx hcc
      go_wp2_with fail
      refine wp_region_chain 35 [0, 0, 2, 6, 14, 30, 0, 64, 206, 510, 1022, 0, 2048, 6606, 16382, 32767, 65535] [(0, none), (1, none), (2, none), (6, none), (7, none), (11, none), (12, none), (3, some [0, 6, 7, 11, 12]), (4, none), (5, none), (8, some [0, 11, 12, 4, 5]), (9, none), (10, none), (13, some [0, 4, 5, 9, 10]), (14, none), (15, none), (16, none)] (by kernel_rfl) (by kernel_rfl) (by rfl) ?_; simp only [chain, Obs, List.getElem?_toArray, List.getElem?_cons_zero, List.getElem?_cons_succ]
      have hX := heap_new wr (.cells #[.int .i64 x.id, .int .i64 x.w, .int .i64 x.lag] 34)
      have HX := Lib.hid hX
      have HB := Lib.hid ((hb.alloc hsz (.cells #[.int .i64 x.id, .int .i64 x.w, .int .i64 x.lag] 34)).drew)
      clear hX
      go_wp2_with (first
        | (with_reducible refine And.intro (by first | with_reducible exact True.intro | with_reducible rfl | go_simp) ?_)
        | (go_at_call 40; first
          | ((with_reducible refine (I1.out _ HB.out).mono ?_); rintro e w2 ⟨rfl, hb2⟩; have HB2 := Lib.hid (HB.out.trans (hb2.mono HB.out.size)); have hX2 := heap_below (w := (wr.alloc (.cells #[.int .i64 x.id, .int .i64 x.w, .int .i64 x.lag] 34)).drew) HX.out hb2; obtain ⟨p0, p1, p2, q0, q1, q2, pl⟩ := blk3 hX2; have HX2 := Lib.hid hX2; clear hX2 hb2)
          | ((with_reducible refine (I2.out _ HB2.out).mono ?_); rintro e w3 ⟨rfl, hb3⟩; have HB3 := Lib.hid (HB2.out.trans (hb3.mono HB2.out.size)); have hX3 := heap_below (w := w2) HX2.out hb3; obtain ⟨p3, p4, p5, q3, q4, q5, pm⟩ := blk3 hX3; clear hX3 hb3))
        | (go_at_call 41; (with_reducible refine (I3.out _ HB3.out).mono ?_); rintro e w4 ⟨rfl, hb4⟩; have HB4 := Lib.hid (HB3.out.trans (hb4.mono HB3.out.size)); clear hb4))
      refine NoPanic.normal ?_
      go_wp2_with fail
      go_roundw
      case rel => exact ⟨k + 1, z6, by omega, rfl, Hz.out, by go_num, HB4.out⟩
      case measure => simp [intOf]; omega
    · obtain rfl : k = n := by omega
      go_wp2_with fail
      go_ret
      exact ⟨by rw [hz, ← Hn.out, List.take_length]; rfl, hb⟩
end Go.Proofs.YthdilellcaebfaaGreatDoor
