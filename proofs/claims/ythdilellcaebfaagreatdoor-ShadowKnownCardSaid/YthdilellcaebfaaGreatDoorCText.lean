/- Package check: Text: faults as a text. -/
import Derived.Test.YthdilellcaebfaaGreatDoorText
import Derived.Test.YthdilellcaebfaaGreatDoorChks
namespace Go.Proofs.YthdilellcaebfaaGreatDoor
open Go.RowKit
set_option linter.unusedVariables false
set_option linter.unusedSimpArgs false

def ftText (k : Nat) (x : Ft) : List UInt8 := (if k = 0 then [] else [32]) ++ (Lib.itoa x.kind ++ 64 :: Lib.itoa x.id)
def ftsTo : Nat → List Ft → List UInt8
  | _, [] => []
  | k, x :: l => ftText k x ++ ftsTo (k + 1) l
theorem ftsTo_snoc : ∀ (l : List Ft) (k : Nat) (x : Ft), ftsTo k (l ++ [x]) = ftsTo k l ++ ftText (k + l.length) x
  | [], k, x => by simp [ftsTo]
  | y :: l, k, x => by
    rw [List.cons_append, ftsTo, ftsTo, ftsTo_snoc l (k + 1) x, List.append_assoc, List.length_cons, show k + 1 + l.length = k + (l.length + 1) by omega]
def Ft64 (x : Ft) : Prop := (-9223372036854775808 ≤ x.kind ∧ x.kind ≤ 9223372036854775807) ∧ (-9223372036854775808 ≤ x.id ∧ x.id ≤ 9223372036854775807)
theorem ftText_len {k : Nat} {x : Ft} (h : Ft64 x) : (ftText k x).length ≤ 44 := by
  have h1 := Lib.itoa_length_le x.kind h.1.1 h.1.2
  have h2 := Lib.itoa_length_le x.id h.2.1 h.2.2
  unfold ftText
  split <;> simp only [List.length_cons, List.length_append, List.length_nil] <;> omega
theorem ftsTo_len : ∀ (l : List Ft) (k : Nat), (∀ x ∈ l, Ft64 x) → (ftsTo k l).length ≤ 44 * l.length
  | [], _, _ => by simp [ftsTo]
  | x :: l, k, h => by
    have h1 := ftText_len (k := k) (h x List.mem_cons_self)
    have h2 := ftsTo_len l (k + 1) fun y hy => h y (List.mem_cons_of_mem _ hy)
    simp only [ftsTo, List.length_append, List.length_cons]; omega

set_option maxHeartbeats 3200000 in
set_option maxRecDepth 100000 in
theorem ChkText (l : List Ft) (n : Nat) (a : Option Addr) (c : Nat) (w : World) (hn : l.length = n) (h1 : 1 ≤ n) (hl : n ≤ 1000) (hs : Sl Ft.enc 2 w a l) (hi : ∀ x ∈ l, Ft64 x) (ht : Tab w) :
    Calls Tryz.prog 19 #[.slice a n c] w fun e w' => e = .returned (.string ⟨(ftsTo 0 l).toArray⟩) ∧ Below w.heap.size w w' := by
  have HS := Lib.hid hs
  have Hn := Lib.hid hn
  have Hi := Lib.hid hi
  have Ht := Lib.hid ht
  have hn0 : ((n : Int) == 0) = false := by simp; omega
  have hn00 : ¬ n = 0 := by omega
  obtain ⟨s1, hs1⟩ : ∃ s : ByteArray, s = ⟨([] : List UInt8).toArray⟩ := ⟨_, rfl⟩
  clear hs hn hi ht
  go_enter Tryz.func19, Tryz.ntmps19
  go_wp2_with fail
  go_loopw [3, 11] (fun s i wr => ∃ (k : Nat) (z : ByteArray), k ≤ n ∧ s = .string z ∧ z = ⟨(ftsTo 0 (l.take k)).toArray⟩ ∧ i = .int .i64 k ∧ Below w.heap.size w wr) (fun _ i _ => n - (intOf i).toNat)
  case atStart => exact ⟨0, ⟨#[]⟩, Nat.zero_le _, rfl, rfl, rfl, Below.refl _ _⟩
  case round =>
    obtain ⟨k, z, hk, rfl, hz, rfl, hb⟩ := hrel
    have hsz := hb.size
    by_cases hlt : k < n
    · obtain ⟨r, off, rfl, hr, hcc⟩ := HS.out (by intro h; have h1 := Hn.out; rw [h] at h1; simp at h1; omega)
      obtain ⟨x, hx⟩ : ∃ x, l[k]? = some x := ⟨_, List.getElem?_eq_getElem (by rw [Hn.out]; exact hlt)⟩
      have e0 := (hb.cell (p := ⟨r, off + k * 2 + 0, none⟩) hr).trans (hcc k x hx 0 _ rfl)
      have e1 := (hb.cell (p := ⟨r, off + k * 2 + 1, none⟩) hr).trans (hcc k x hx 1 _ rfl)
      simp only [Nat.add_zero] at e0
      have hxi := Hi.out x (List.mem_of_getElem? hx)
      have hi1 := Lib.itoa_length_le x.kind hxi.1.1 hxi.1.2
      have hi2 := Lib.itoa_length_le x.id hxi.2.1 hxi.2.2
      have hzl : (ftsTo 0 (l.take k)).length ≤ 50000 := by
        have h1 := ftsTo_len (l.take k) 0 fun y hy => Hi.out y (List.mem_of_mem_take hy)
        have h2 : (l.take k).length ≤ 1000 := by rw [List.length_take, Hn.out]; omega
        omega
      have hlk : (l.take k).length = k := by rw [List.length_take, Hn.out]; omega
      have hnx : ftsTo 0 (l.take k) ++ ftText k x = ftsTo 0 (l.take (k + 1)) := by
        rw [List.take_succ_eq_append_getElem (List.getElem?_eq_some_iff.1 hx).1, (List.getElem?_eq_some_iff.1 hx).2, ftsTo_snoc, hlk, Nat.zero_add]
      obtain ⟨j1, hj1⟩ : ∃ s : ByteArray, s = ⟨(Lib.itoa x.kind).toArray⟩ := ⟨_, rfl⟩
      obtain ⟨j2, hj2⟩ : ∃ s : ByteArray, s = ⟨(Lib.itoa x.id).toArray⟩ := ⟨_, rfl⟩
      obtain ⟨y1, hy1⟩ : ∃ s : ByteArray, s = ⟨(Lib.itoa x.kind ++ [64]).toArray⟩ := ⟨_, rfl⟩
      obtain ⟨y2, hy2⟩ : ∃ s : ByteArray, s = ⟨((Lib.itoa x.kind ++ [64]) ++ Lib.itoa x.id).toArray⟩ := ⟨_, rfl⟩
      obtain ⟨n1, a1, f1⟩ := cat_of (y := ⟨#[64]⟩) _ [64] hj1 rfl hy1 (by simp; omega)
      obtain ⟨n2, a2, f2⟩ := cat_of _ _ hy1 hj2 hy2 (by simp; omega)
      have hX := heap_new wr (.cells #[.int .i64 x.kind, .int .i64 x.id] 85)
      have HX := Lib.hid hX
      have HB := Lib.hid (hb.alloc hsz (.cells #[.int .i64 x.kind, .int .i64 x.id] 85)).drew
      have I1 := Lib.hid (fun (W : World) (h : Below w.heap.size w W) => Itoa_any x.kind W hxi.1 (Ht.out.on h))
      have I2 := Lib.hid (fun (W : World) (h : Below w.heap.size w W) => Itoa_any x.id W hxi.2 (Ht.out.on h))
      rw [← hj1] at I1
      rw [← hj2] at I2
      by_cases hk0 : k = 0
      · subst hk0
        simp only [Nat.zero_mul, Nat.add_zero] at e0 e1
        obtain ⟨y3, hy3⟩ : ∃ s : ByteArray, s = ⟨(ftsTo 0 (l.take 0) ++ ((Lib.itoa x.kind ++ [64]) ++ Lib.itoa x.id)).toArray⟩ := ⟨_, rfl⟩
        obtain ⟨n3, a3, f3⟩ := cat_of _ _ hz hy2 hy3 (by simp [ftsTo]; omega)
        have hy4 : y3 = ⟨(ftsTo 0 (l.take (0 + 1))).toArray⟩ := by rw [hy3, ← hnx]; simp [ftText]
        have Hy := Lib.hid hy4
        clear hz hy1 hy2 hy3 hj1 hj2 hnx hzl hlk hx hcc hX hy4
        go_wp2_with fail
        refine wp_region_chain 32 [0, 0, 2, 6, 14, 0, 32, 110, 254, 511, 1023] [(0, none), (1, none), (2, none), (5, none), (6, none), (3, some [0, 5, 6]), (4, none), (7, some [0, 4]), (8, none), (9, none), (10, none)] (by kernel_rfl) (by kernel_rfl) (by rfl) ?_; simp only [chain, Obs, List.getElem?_toArray, List.getElem?_cons_zero, List.getElem?_cons_succ]
        go_wp2_with (first
          | (with_reducible refine And.intro (by first | with_reducible exact True.intro | with_reducible rfl | go_simp) ?_)
          | (go_at_call 40; first
            | ((with_reducible refine (I2.out _ HB2.out).mono ?_); rintro e w3 ⟨rfl, hb3⟩; have HB3 := Lib.hid (HB2.out.trans (hb3.mono HB2.out.size)); clear hb3)
            | ((with_reducible refine (I1.out _ HB.out).mono ?_); rintro e w2 ⟨rfl, hb2⟩; have HB2 := Lib.hid (HB.out.trans (hb2.mono HB.out.size)); have hX2 := heap_below (w := (wr.alloc (.cells #[.int .i64 x.kind, .int .i64 x.id] 85)).drew) HX.out hb2; obtain ⟨p0, p1, q0, q1, pl⟩ := blk2 hX2; clear hX2 hb2)))
        refine NoPanic.normal ?_
        go_wp2_with fail
        go_roundw
        case rel => exact ⟨1, y3, by omega, rfl, Hy.out, by go_num, HB3.out⟩
        case measure => simp [intOf]; omega
      · have hk1 : (0 : Int) < k := by omega
        obtain ⟨z1, hz1⟩ : ∃ s : ByteArray, s = ⟨(ftsTo 0 (l.take k) ++ [32]).toArray⟩ := ⟨_, rfl⟩
        obtain ⟨n0, a0, f0⟩ := cat_of (y := ⟨#[32]⟩) _ [32] hz rfl hz1 (by simp; omega)
        obtain ⟨y3, hy3⟩ : ∃ s : ByteArray, s = ⟨((ftsTo 0 (l.take k) ++ [32]) ++ ((Lib.itoa x.kind ++ [64]) ++ Lib.itoa x.id)).toArray⟩ := ⟨_, rfl⟩
        obtain ⟨n3, a3, f3⟩ := cat_of _ _ hz1 hy2 hy3 (by simp; omega)
        have hy4 : y3 = ⟨(ftsTo 0 (l.take (k + 1))).toArray⟩ := by rw [hy3, ← hnx]; simp [ftText, hk0]
        have Hy := Lib.hid hy4
        clear hz hz1 hy1 hy2 hy3 hj1 hj2 hnx hzl hlk hx hcc hX hy4
        go_wp2_with fail
        refine wp_region_chain 32 [0, 0, 2, 6, 14, 0, 32, 110, 254, 511, 1023] [(0, none), (1, none), (2, none), (5, none), (6, none), (3, some [0, 5, 6]), (4, none), (7, some [0, 4]), (8, none), (9, none), (10, none)] (by kernel_rfl) (by kernel_rfl) (by rfl) ?_; simp only [chain, Obs, List.getElem?_toArray, List.getElem?_cons_zero, List.getElem?_cons_succ]
        go_wp2_with (first
          | (with_reducible refine And.intro (by first | with_reducible exact True.intro | with_reducible rfl | go_simp) ?_)
          | (go_at_call 40; first
            | ((with_reducible refine (I2.out _ HB2.out).mono ?_); rintro e w3 ⟨rfl, hb3⟩; have HB3 := Lib.hid (HB2.out.trans (hb3.mono HB2.out.size)); clear hb3)
            | ((with_reducible refine (I1.out _ HB.out).mono ?_); rintro e w2 ⟨rfl, hb2⟩; have HB2 := Lib.hid (HB.out.trans (hb2.mono HB.out.size)); have hX2 := heap_below (w := (wr.alloc (.cells #[.int .i64 x.kind, .int .i64 x.id] 85)).drew) HX.out hb2; obtain ⟨p0, p1, q0, q1, pl⟩ := blk2 hX2; clear hX2 hb2)))
        refine NoPanic.normal ?_
        go_wp2_with fail
        go_roundw
        case rel => exact ⟨k + 1, y3, by omega, rfl, Hy.out, by go_num, HB3.out⟩
        case measure => simp [intOf]; omega
    · obtain rfl : k = n := by omega
      go_wp2_with fail
      go_ret
      exact ⟨by rw [hz, ← Hn.out, List.take_length]; rfl, hb⟩
end Go.Proofs.YthdilellcaebfaaGreatDoor
