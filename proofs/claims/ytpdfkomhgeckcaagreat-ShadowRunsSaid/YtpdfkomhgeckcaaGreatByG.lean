/- Package code: a form is read. -/
import Derived.Test.YtpdfkomhgeckcaaGreatByP
namespace Go.Proofs.YtpdfkomhgeckcaaGreat
open Go.RowKit
set_option linter.unusedVariables false
set_option linter.unusedSimpArgs false

theorem own_below {w w' : World} {B e k n : Nat} {v : Value} {xs : List Value} (h : w.ownsRow B e k v n xs) (hb : Below w.heap.size w w') : w'.ownsRow B e k v n xs :=
  own_fr (F := fun _ => False) h (Fr.of_below hb) (fun _ _ h => h)
theorem itInfo : (Tryz.prog.info? 68).map (fun i => (i.zero, i.size, i.bytes)) = some (some (.agg #[.int .i64 0, .int .i64 0, .int .i64 0]), 3, 24) := by kernel_rfl

/-- What Read leaves. -/
def ReadPost (l : List Int) (a : Option Addr) (size n c : Nat) (w : World) (e : Ending) (w' : World) : Prop :=
  e = .returned (.tuple #[.int .i64 (readB (l.take size)), .slice (cutA a c size) (n - size) (c - size)]) ∧ Below w.heap.size w w'
section
variable (l : List Int) (n : Nat) (a : Option Addr) (c : Nat) (w : World) (hn : l.length = n) (hl : n ≤ 4611686018427387904) (hc : n ≤ c) (hB : ∀ x ∈ l, Byte x) (hs : Sl encU 1 w a l)
include hn hl hc hB hs
theorem Read1 (hz : 1 ≤ n) : Calls Tryz.prog 61 #[.slice a n c, .int .i64 1] w (ReadPost l a 1 n c w) := Read_any l 1 n a c w hn hl hz hc hB hs
theorem Read2 (hz : 2 ≤ n) : Calls Tryz.prog 61 #[.slice a n c, .int .i64 2] w (ReadPost l a 2 n c w) := Read_any l 2 n a c w hn hl hz hc hB hs
theorem Read4 (hz : 4 ≤ n) : Calls Tryz.prog 61 #[.slice a n c, .int .i64 4] w (ReadPost l a 4 n c w) := Read_any l 4 n a c w hn hl hz hc hB hs
theorem Read8 (hz : 8 ≤ n) : Calls Tryz.prog 61 #[.slice a n c, .int .i64 8] w (ReadPost l a 8 n c w) := Read_any l 8 n a c w hn hl hz hc hB hs
end

set_option maxHeartbeats 800000 in
theorem CodePut_err (tag cur : Int) (l : List It) (n : Nat) (a : Option Addr) (c : Nat) (w : World) (hn : l.length = n) (hl : n ≤ 4611686018427387904) (hs : Sl It.enc 3 w a l) (hg : goodC tag ⟨cur, l⟩ = false) :
    Calls Tryz.prog 32 #[.int .i64 tag, .agg #[.int .i64 cur, .slice a n c]] w fun e w' => e = .returned (.tuple #[.slice none 0 0, .int .i64 1]) ∧ Below w.heap.size w w' := by
  have HG := Lib.hid (CodeGood tag cur l n a c _ hn hl (hs.below ((Below.refl _ _).alloc (Nat.le_refl _) (.cells #[.int .i64 cur, .slice a n c] 24))) hg)
  clear hs hn hg
  go_enter Tryz.func32, Tryz.ntmps32
  go_wp2_with (go_at_call 44; refine HG.out.mono ?_; rintro e w1 ⟨rfl, hb1⟩)
  go_ret2
  exact ⟨rfl, ((Below.refl _ _).alloc (Nat.le_refl _) _).trans (hb1.mono (by simp))⟩

def it3 (b : List Int) : It := ⟨readB (b.take 4), readB ((b.drop 4).take 1), readB (((b.drop 4).drop 1).take 8)⟩
theorem items3_succ : ∀ (k : Nat) (b : List Int), items3 (k + 1) b = items3 k b ++ [it3 (b.drop (13 * k))]
  | 0, b => rfl
  | k + 1, b => by
    rw [items3, items3_succ k, items3, List.cons_append, List.drop_drop, List.drop_drop, List.drop_drop]
    rw [show 4 + 1 + 8 + 13 * k = 13 * (k + 1) by omega]
theorem items3_length : ∀ (k : Nat) (b : List Int), (items3 k b).length = k
  | 0, _ => rfl
  | k + 1, b => by rw [items3, List.length_cons, items3_length k]

/-- What Get leaves. -/
def GetPost (R : Int × Fm × Int) (w : World) (e : Ending) (w' : World) : Prop :=
  ∃ fa fc, e = .returned (.tuple #[.int .i64 R.1, .agg #[.int .i64 R.2.1.cur, .slice fa R.2.1.l.length fc], .int .i64 R.2.2]) ∧ w'.ownsRow w.heap.size 68 3 (.slice fa R.2.1.l.length fc) R.2.1.l.length (flat It.enc R.2.1.l) ∧ Below w.heap.size w w'

def lenOf : Value → Nat
  | .slice _ n _ => n
  | _ => 0
theorem lenOf_slice (a : Option Addr) (n c : Nat) : lenOf (.slice a n c) = n := rfl

set_option maxHeartbeats 6400000 in
set_option maxRecDepth 100000 in
theorem Get_any (l : List Int) (n : Nat) (a : Option Addr) (c : Nat) (w : World) (hn : l.length = n) (hl : n ≤ 1000000000000) (hc : n ≤ c) (hB : ∀ x ∈ l, Byte x) (hs : Sl encU 1 w a l) {R : Int × Fm × Int} (hR : getB l = R) :
    Calls Tryz.prog 48 #[.slice a n c] w (GetPost R w) := by
  obtain ⟨i0, hi0, hz0, hz1, hz2⟩ := info_parts itInfo
  have hO := Open_any l n a c (w.alloc (.cells #[.int .i64 0, .slice none 0 0] 24)) hn hl hc hB (hs.below ((Below.refl _ _).alloc (Nat.le_refl _) _))
  have hBx := openB_byte hB
  have hT := heap_new w (.cells #[.int .i64 0, .slice none 0 0] 24)
  unfold getB at hR
  generalize (openB l).1 = x at *
  generalize (openB l).2.1 = v at *
  generalize (openB l).2.2 = er at *
  have HO := Lib.hid hO
  have HT := Lib.hid hT
  clear hO hT hs hB hn
  by_cases h1 : er = 0
  case neg =>
    rw [if_pos h1] at hR
    subst hR
    have h1b : (er != 0) = true := by simpa using h1
    clear hBx h1
    go_enter Tryz.func48, Tryz.ntmps48
    go_wp2_with (go_at_call 59; refine HO.out.mono ?_; rintro e w1 ⟨a1, c1, rfl, hs1, hc1, hb1⟩; have hh := heap_below HT.out hb1; obtain ⟨g0, g1, y0, y1, gl⟩ := blk2 hh; have Hh := Lib.hid hh; clear hh)
    refine bodyPost_ret (res_tct _ _ w.heap.size 24 #[.int .i64 0, .slice none 0 0] (0, 0) _ rfl rfl (heap_set (heap_set Hh.out _) _) Tryz.underlying24 rfl (by kernel_rfl)) rfl ⟨none, 0, rfl, World.ownsRow_nil _ _ _ _, ?_⟩
    exact ((((Below.refl _ _).alloc (Nat.le_refl _) _).trans (hb1.mono (by simp))).setCell (by simp) _).setCell (by simp) _
  case pos =>
    subst h1
    rw [if_neg (by simp)] at hR
    by_cases h2 : v = 3
    case neg =>
      rw [if_pos h2] at hR
      subst hR
      have h2b : (v != 3) = true := by simpa using h2
      clear hBx h2
      go_enter Tryz.func48, Tryz.ntmps48
      go_wp2_with (go_at_call 59; refine HO.out.mono ?_; rintro e w1 ⟨a1, c1, rfl, hs1, hc1, hb1⟩; have hh := heap_below HT.out hb1; obtain ⟨g0, g1, y0, y1, gl⟩ := blk2 hh; have Hh := Lib.hid hh; clear hh)
      refine bodyPost_ret (res_tct _ _ w.heap.size 24 #[.int .i64 0, .slice none 0 0] (0, 0) _ rfl rfl (heap_set (heap_set Hh.out _) _) Tryz.underlying24 rfl (by kernel_rfl)) rfl ⟨none, 0, rfl, World.ownsRow_nil _ _ _ _, ?_⟩
      exact ((((Below.refl _ _).alloc (Nat.le_refl _) _).trans (hb1.mono (by simp))).setCell (by simp) _).setCell (by simp) _
    case pos =>
      subst h2
      rw [if_neg (by simp)] at hR
      have Hx := Lib.hid hBx
      by_cases h6 : 6 ≤ x.length
      case neg =>
        have hf : ¬ fits3 x := fun h => h6 h.1
        rw [if_pos hf] at hR
        subst hR
        have h6b : (x.length : Int) < 6 := by omega
        clear hBx hf h6
        generalize x.length = m at *
        go_enter Tryz.func48, Tryz.ntmps48
        go_wp2_with (go_at_call 59; refine HO.out.mono ?_; rintro e w1 ⟨a1, c1, rfl, hs1, hc1, hb1⟩; have hh := heap_below HT.out hb1; obtain ⟨g0, g1, y0, y1, gl⟩ := blk2 hh; have Hh := Lib.hid hh; clear hh)
        all_goals (refine bodyPost_ret (res_tct _ _ w.heap.size 24 #[.int .i64 0, .slice none 0 0] (0, 0) _ rfl rfl (heap_set (heap_set Hh.out _) _) Tryz.underlying24 rfl (by kernel_rfl)) rfl ⟨none, 0, rfl, World.ownsRow_nil _ _ _ _, ?_⟩; exact ((((Below.refl _ _).alloc (Nat.le_refl _) _).trans (hb1.mono (by simp))).setCell (by simp) _).setCell (by simp) _)
      case pos =>
        have hat : ∀ i, i < 6 → x[i]? = some (x.getD i 0) ∧ Byte (x.getD i 0) := fun i hi => by
          rw [List.getD_eq_getElem?_getD, List.getElem?_eq_getElem (by omega)]
          exact ⟨rfl, hBx _ (List.getElem_mem _)⟩
        obtain ⟨x5, hx5⟩ : ∃ z, x.getD 5 0 = z := ⟨_, rfl⟩
        obtain ⟨x0, hx0⟩ : ∃ z, x.getD 0 0 = z := ⟨_, rfl⟩
        have h5 := hat 5 (by omega)
        have h0 := hat 0 (by omega)
        rw [hx5] at h5
        rw [hx0] at h0
        have b5 := h5.2
        have b0 := h0.2
        unfold Byte at b5 b0
        have Hx5 := Lib.hid h5.1
        have Hx0 := Lib.hid h0.1
        obtain ⟨m, hm⟩ : ∃ m, x.length = m := ⟨_, rfl⟩
        have Hm := Lib.hid hm
        rw [hm] at h6
        have h6i : ¬ (m : Int) < 6 := by omega
        by_cases hf : (m : Int) = 6 + 13 * x5
        case neg =>
          have hf3 : ¬ fits3 x := fun h => hf (by rw [← hm, ← hx5]; exact h.2)
          rw [if_pos hf3] at hR
          subst hR
          have hne : ((m : Int) != 9 + 13 * x5 + 4 - 3 - 4) = true := by simpa using (fun h => hf (by omega) : (m : Int) ≠ 9 + 13 * x5 + 4 - 3 - 4)
          have hne2 : ((m : Int) != 9 + 13 * x5 + 1 - 4) = true := by simpa using (fun h => hf (by omega) : (m : Int) ≠ 9 + 13 * x5 + 1 - 4)
          have hne3 : ((m : Int) != 6 + 13 * x5) = true := by simpa using hf
          rw [hm] at HO
          clear hBx hf3 hf hat h5 h0 hm hx5 hx0
          go_enter Tryz.func48, Tryz.ntmps48
          go_wp2_with (first
            | (go_at_call 59; refine HO.out.mono ?_; rintro e w1 ⟨a1, c1, rfl, hs1, hc1, hb1⟩; have hh := heap_below HT.out hb1; obtain ⟨g0, g1, y0, y1, gl⟩ := blk2 hh; have Hh := Lib.hid hh; obtain ⟨r, off, rfl, hr, hcc⟩ := hs1 (by intro h; have := Hm.out; rw [h] at this; simp at this; omega); have f5 := hcc 5 x5 Hx5.out 0 _ rfl; simp only [Nat.mul_one, Nat.add_zero] at f5; clear hh hcc)
            | (go_at_call 63; refine (Size_any _ _ (by omega)).mono ?_; rintro e w2 ⟨rfl, rfl⟩))
          all_goals (refine bodyPost_ret (res_tct _ _ w.heap.size 24 #[.int .i64 0, .slice none 0 0] (0, 0) _ rfl rfl (heap_set (heap_set Hh.out _) _) Tryz.underlying24 rfl (by kernel_rfl)) rfl ⟨none, 0, rfl, World.ownsRow_nil _ _ _ _, ?_⟩; exact ((((Below.refl _ _).alloc (Nat.le_refl _) _).trans (hb1.mono (by simp))).setCell (by simp) _).setCell (by simp) _)
        case pos =>
          have hf3 : fits3 x := ⟨by rw [hm]; exact h6, by rw [hm, hx5]; exact hf⟩
          rw [if_neg (by simpa using hf3)] at hR
          obtain ⟨cnt, hcnt⟩ : ∃ cnt : Nat, x5 = cnt := ⟨x5.toNat, by omega⟩
          subst hcnt
          have hmc : m = 6 + 13 * cnt := by omega
          have hne : ((m : Int) != 9 + 13 * (cnt : Int) + 4 - 3 - 4) = false := by simp; omega
          obtain ⟨cu, hcu⟩ : ∃ cu, readB ((x.drop 1).take 4) = cu := ⟨_, rfl⟩
          have hcb := read_bound (l := (x.drop 1).take 4) (fun y hy => hBx y (List.mem_of_mem_drop (List.mem_of_mem_take hy))) (by rw [List.length_take]; omega)
          have hl4 : ((x.drop 1).take 4).length = 4 := by rw [List.length_take, List.length_drop]; omega
          rw [hl4, hcu, show (256 : Int) ^ 4 = 4294967296 from by decide] at hcb
          have hcb0 := hcb.1
          have hcb1 := hcb.2
          obtain ⟨rest, hrest⟩ : ∃ rest, ((x.drop 1).drop 4).drop 1 = rest := ⟨_, rfl⟩
          have hrl : rest.length = 13 * cnt := by rw [← hrest, List.length_drop, List.length_drop, List.length_drop]; omega
          have hRd : readF x = ⟨cu - 1, items3 cnt rest⟩ := by unfold readF; rw [hcu, hrest, hx5, Int.toNat_natCast]
          rw [hx0, hRd] at hR
          have R4 := Lib.hid (fun W r off c1 (hc1 : m ≤ c1) (hs : Sl encU 1 W (some ⟨r, off, none⟩) x) => Read4 (x.drop 1) (m - 1) (some ⟨r, off + 1, none⟩) (c1 - 1) W (by rw [List.length_drop]; omega) (by omega) (by omega) (fun y hy => hBx y (List.mem_of_mem_drop hy)) (hs.dropV 1) (by omega))
          have HBr := Lib.hid (fun y (hy : y ∈ rest) => hBx y (by rw [← hrest] at hy; exact List.mem_of_mem_drop (List.mem_of_mem_drop (List.mem_of_mem_drop hy))))
          have HR := Lib.hid hR
          have Hrl := Lib.hid hrl
          have Hrest := Lib.hid hrest
          have Hcu := Lib.hid hcu
          have Hmc := Lib.hid hmc
          rw [hm] at HO
          clear hBx hf3 hf hat h5 h0 hm hx5 hx0 hR hRd hrl hrest hcb hl4 hcu hmc
          go_enter Tryz.func48, Tryz.ntmps48
          go_wp2_with (first
            | (go_at_call 59; refine HO.out.mono ?_; rintro e w1 ⟨a1, c1, rfl, hs1, hc1, hb1⟩; have hh := heap_below HT.out hb1; have Hh := Lib.hid hh; obtain ⟨r, off, rfl, hr, hcc⟩ := hs1 (by intro h; have := Hm.out; rw [h] at this; simp at this; omega); have f5 := hcc 5 _ Hx5.out 0 _ rfl; have f0 := hcc 0 _ Hx0.out 0 _ rfl; simp only [Nat.mul_one, Nat.zero_mul, Nat.add_zero] at f5 f0; have hc1n : ¬ c1 = 1 := (by omega); have HX1 := Lib.hid hs1; clear hh hcc hs1)
            | (go_at_call 63; refine (Size_any _ _ (by omega)).mono ?_; rintro e w2 ⟨rfl, rfl⟩)
            | (go_at_call 61; refine (R4.out _ r off c1 hc1 HX1.out).mono ?_; rintro e w2 ⟨rfl, hb2⟩; have h2 := heap_below Hh.out hb2; have H2 := Lib.hid h2; have HX2 := Lib.hid ((((HX1.out.dropV 1).cutU (c1 - 1) 4 (by rw [List.length_drop, Hm.out]; omega)).below hb2)); rw [Hcu.out]; clear h2))
          · have hS : Sl encU 1 w2 (cutA (some ⟨r, off + 1, none⟩) (c1 - 1) 4) rest := by
              obtain rfl : rest = [] := List.eq_nil_of_length_eq_zero (by rw [Hrl.out]; have := Hmc.out; omega)
              exact Sl.nil
            have hb02 : Below w.heap.size w w2 := ((Below.refl w.heap.size w).alloc (Nat.le_refl _) _).trans ((hb1.mono (by simp)).trans (hb2.mono (by have := hb1.size; simp at this; omega)))
            have HS0 := Lib.hid hS
            have HB2 := Lib.hid hb02
            have hszw := hb02.size
            clear hS hb02 hb1 hb2
            go_loopw [0] (fun s wr => ∃ (k mb : Nat) (ab : Option Addr) (cb : Nat) (fa : Option Addr) (fc : Nat), k ≤ cnt ∧ mb + 13 * k = 13 * cnt ∧ mb ≤ cb ∧ s = .slice ab mb cb ∧ Sl encU 1 w2 ab (rest.drop (13 * k)) ∧ wr.heap[w2.heap.size]? = some (.cells #[.int .i64 (cu - 1), .slice fa k fc] 24 (0, 0)) ∧ wr.ownsRow (w2.heap.size + 1) 68 3 (.slice fa k fc) k (flat It.enc (items3 k rest)) ∧ Below w2.heap.size w2 wr) (fun s _ => lenOf s)
            case atStart => exact ⟨0, _, _, _, none, 0, Nat.zero_le _, by have := Hmc.out; omega, by have := Hmc.out; omega, rfl, HS0.out, heap_new _ _, World.ownsRow_nil _ _ _ _, (Below.refl _ _).alloc (Nat.le_refl _) _⟩
            case round =>
              obtain ⟨k, mb, ab, cb, fa, fc, hk, hmb, hcb, rfl, hs, hG, hown, hb⟩ := hrel
              have hszr := hb.size
              by_cases hlt : k < cnt
              · obtain ⟨y, hy⟩ : ∃ y, rest.drop (13 * k) = y := ⟨_, rfl⟩
                have hyl : y.length = mb := by rw [← hy, List.length_drop, Hrl.out]; omega
                have hm13 : 13 ≤ mb := by omega
                have hm0 : (0 : Int) < mb := by omega
                have hBy : ∀ z ∈ y, Byte z := fun z hz => HBr.out z (by rw [← hy] at hz; exact List.mem_of_mem_drop hz)
                rw [hy] at hs
                have hmx : mb ≤ 4000 := by omega
                have RQ4 := Lib.hid (fun W (h : Below w2.heap.size w2 W) => Read4 y mb ab cb W hyl (by omega) hcb hBy (hs.below h) (by omega))
                have RQ1 := Lib.hid (fun W (h : Below w2.heap.size w2 W) => Read1 (y.drop 4) (mb - 4) (cutA ab cb 4) (cb - 4) W (by rw [List.length_drop]; omega) (by omega) (by omega) (fun z hz => hBy z (List.mem_of_mem_drop hz)) ((hs.cutU cb 4 (by omega)).below h) (by omega))
                have RQ8 := Lib.hid (fun W (h : Below w2.heap.size w2 W) => Read8 ((y.drop 4).drop 1) (mb - 4 - 1) (cutA (cutA ab cb 4) (cb - 4) 1) (cb - 4 - 1) W (by rw [List.length_drop, List.length_drop]; omega) (by omega) (by omega) (fun z hz => hBy z (List.mem_of_mem_drop (List.mem_of_mem_drop hz))) (((hs.cutU cb 4 (by omega)).cutU (cb - 4) 1 (by rw [List.length_drop]; omega)).below h) (by omega))
                have hS8 := Lib.hid (((hs.cutU cb 4 (by omega)).cutU (cb - 4) 1 (by rw [List.length_drop]; omega)).cutU (cb - 4 - 1) 8 (by rw [List.length_drop, List.length_drop]; omega))
                obtain ⟨i1, hi1⟩ : ∃ z, readB (y.take 4) = z := ⟨_, rfl⟩
                obtain ⟨i2, hi2⟩ : ∃ z, readB ((y.drop 4).take 1) = z := ⟨_, rfl⟩
                obtain ⟨i3, hi3⟩ : ∃ z, readB (((y.drop 4).drop 1).take 8) = z := ⟨_, rfl⟩
                have hit : it3 y = ⟨i1, i2, i3⟩ := by unfold it3; rw [hi1, hi2, hi3]
                unfold ReadPost at RQ4 RQ1 RQ8
                rw [hi1] at RQ4
                rw [hi2] at RQ1
                rw [hi3] at RQ8
                have Hit := Lib.hid hit
                have Hy := Lib.hid hy
                have HG := Lib.hid hG
                have Ho := Lib.hid hown
                have Hmb := Lib.hid hmb
                clear hs hi1 hi2 hi3 hit hy hG hown hBy hmb hyl
                go_wp2_with (first
                  | (go_at_call 61; first
                    | ((with_reducible refine (RQ8.out _ (hb.trans (hb4.mono hszr))).mono ?_); rintro e w5 ⟨rfl, hb5⟩; have hb5 := hb4.trans (hb5.mono hb4.size); have hG5 := heap_below HG.out hb5; obtain ⟨g0, g1, y0, y1, gl⟩ := blk2 hG5; have HG5 := Lib.hid hG5; clear hG5)
                    | ((with_reducible refine (RQ1.out _ (hb.trans (hb3.mono hszr))).mono ?_); rintro e w4 ⟨rfl, hb4⟩; have hb4 := hb3.trans (hb4.mono hb3.size))
                    | ((with_reducible refine (RQ4.out _ hb).mono ?_); rintro e w3 ⟨rfl, hb3⟩))
                  | (at_builtin; go_loud (refine wpList_append_lies _ (by rfl) _ _ _ (by rfl) (w2.heap.size + 1) 68 i0 _ 3 24 Tryz.underlying22 hi0 hz0 hz1 hz2 rfl (by omega) (.slice fa k fc) k _ (by rfl) ((own_below Ho.out hb5).alloc _) ⟨w5.heap.size, 0, none⟩ 1 1 [.int .i64 i1, .int .i64 i2, .int .i64 i3] (by rfl) (by rfl) (World.news_of_block (cs := #[.int .i64 i1, .int .i64 i2, .int .i64 i3]) (t := 68) (fr := (0, 0)) (heap_new _ _)) (by simp [Value.oneCell']) (by omega) (by unfold maxLen; omega) (by omega) (by simp; omega) (w5.heap.size + 1) (by simp) ?_); intro gg cap w6 hown1 hgrow hat hltg; have hfr : Fr (fun q => (Value.slice fa k fc).ownBlock = some q) w5 w6 := ((Fr.refl _ w5).alloc _).trans (Fr.of_grown hgrow) (fun _ _ h => h); have hnG : ¬ (Value.slice fa k fc).ownBlock = some w2.heap.size := (fun h => by have := (Ho.out.lt _ h).1; omega); have q1 := (hfr.cell (p := ⟨w2.heap.size, 1, none⟩) gl hnG).trans g1; have q2 := (hfr.frozen (p := ⟨w2.heap.size, 1, none⟩) gl hnG).trans y1; have HG6 := Lib.hid (heap_fr HG5.out hfr hnG); have Ho6 := Lib.hid hown1; have hb6 := Lib.hid ((hb.trans (hb5.mono hszr)).trans (hfr.below (B := w2.heap.size) (by have := hb5.size; omega) (fun q hq => by have := (Ho.out.lt q hq).1; omega))); clear hat hgrow hown1 hfr))
                go_roundw
                case rel =>
                  refine ⟨k + 1, _, _, _, _, cap, by omega, ?_, ?_, rfl, ?_, heap_set HG6.out _, ?_, (hb6.out).setCell (by simp) _⟩
                  rotate_left 2
                  · have := hS8.out
                    rw [List.drop_drop, List.drop_drop, ← Hy.out, List.drop_drop] at this
                    rw [show 13 * (k + 1) = 13 * k + (4 + 1 + 8) by omega]
                    exact this
                  · rw [items3_succ, Hy.out, Hit.out, flat_append, flat_one]
                    exact own_set Ho6.out (fun e => by have := (Ho6.out.lt _ e).1; omega)
                  · have := Hmb.out; omega
                  · omega
                case measure => simp [lenOf]; omega
              · obtain rfl : k = cnt := by omega
                obtain rfl : mb = 0 := by omega
                have hT6 := heap_below H2.out hb
                have Ho := Lib.hid hown
                have HG := Lib.hid hG
                have HTT := Lib.hid hT6
                obtain ⟨g0, g1, y0, y1, gl⟩ := blk2 hG
                obtain ⟨t0, t1, v0, v1, tl⟩ := blk2 hT6
                have hlen := items3_length k rest
                have hsI : Sl It.enc 3 wr fa (items3 k rest) := Sl.of_own (n := k) (c := fc) It.len (by rw [hlen]; exact hown)
                have HI := Lib.hid hsI
                have Hlen := Lib.hid hlen
                have hb2r := HB2.out.trans (hb.mono hszw)
                by_cases hgd : goodC x0 ⟨cu - 1, items3 k rest⟩ = true
                · have HGd := Lib.hid (CodeGood x0 (cu - 1) (items3 k rest) k fa fc wr hlen (by omega) hsI hgd)
                  have hR := HR.out
                  rw [if_pos hgd] at hR
                  have HR2 := Lib.hid hR
                  clear hown hG hT6 hs hlen hsI hgd hR
                  go_wp2_with (go_at_call 44; refine HGd.out.mono ?_; rintro e w7 ⟨rfl, hb7⟩; have hG7 := heap_below HG.out hb7; have hT7 := heap_below HTT.out hb7; obtain ⟨p0, p1, u0, u1, pl⟩ := blk2 hG7; obtain ⟨t0, t1, v0, v1, tl⟩ := blk2 hT7; have HT7 := Lib.hid hT7; clear hG7 hT7)
                  refine wp_region_chain 94 [0, 0, 1, 7, 15] [(0, none), (1, none), (2, none), (3, some []), (4, none)] (by kernel_rfl) (by kernel_rfl) (by rfl) ?_; simp only [chain, Obs, List.getElem?_toArray, List.getElem?_cons_zero, List.getElem?_cons_succ]
                  go_wp2_with (with_reducible refine And.intro (by first | with_reducible exact True.intro | with_reducible rfl | go_simp) ?_)
                  refine NoPanic.normal ?_
                  go_wp2_with fail
                  rw [← HR2.out]
                  refine bodyPost_ret (res_tct _ _ w.heap.size 24 #[.int .i64 (cu - 1), .slice fa k fc] (0, 0) _ rfl rfl (heap_set (heap_set HT7.out _) _) Tryz.underlying24 rfl (by kernel_rfl)) rfl ⟨fa, fc, by rw [Hlen.out]; rfl, ?_, ?_⟩
                  · have ho7 : w7.drew.ownsRow (w2.heap.size + 1) 68 3 (.slice fa k fc) k (flat It.enc (items3 k rest)) := own_below (own_below Ho.out hb7) (Below.refl _ _).drew
                    have hn7 : (Value.slice fa k fc).ownBlock ≠ some w.heap.size := fun e => by have := (ho7.lt _ e).1; omega
                    have hg := own_base (own_set (u := .slice fa k fc) (i := 1) (own_set (u := .int .i64 (cu - 1)) (i := 0) ho7 hn7) hn7) (show w.heap.size ≤ w2.heap.size + 1 by omega)
                    rw [← Hlen.out] at hg
                    simp only [Hlen.out] at hg ⊢
                    exact hg
                  · exact (((hb2r.trans (hb7.mono hb2r.size)).drew).setCell (by simp) _).setCell (by simp) _
                · have hgf : goodC x0 ⟨cu - 1, items3 k rest⟩ = false := by simpa using hgd
                  have HGd := Lib.hid (CodeGood x0 (cu - 1) (items3 k rest) k fa fc wr hlen (by omega) hsI hgf)
                  have hR := HR.out
                  rw [if_neg hgd] at hR
                  have HR2 := Lib.hid hR
                  clear hown hG hT6 hs hlen hsI hgd hgf hR
                  go_wp2_with (go_at_call 44; refine HGd.out.mono ?_; rintro e w7 ⟨rfl, hb7⟩; have hT7 := heap_below HTT.out hb7; obtain ⟨t0, t1, v0, v1, tl⟩ := blk2 hT7; have HT7 := Lib.hid hT7; clear hT7)
                  rw [← HR2.out]
                  refine bodyPost_ret (res_tct _ _ w.heap.size 24 #[.int .i64 0, .slice none 0 0] (0, 0) _ rfl rfl (heap_set (heap_set HT7.out _) _) Tryz.underlying24 rfl (by kernel_rfl)) rfl ⟨none, 0, rfl, World.ownsRow_nil _ _ _ _, ?_⟩
                  exact ((hb2r.trans (hb7.mono hb2r.size)).setCell (by simp) _).setCell (by simp) _
          · have hS := HX2.out.dropV 1
            rw [Hrest.out] at hS
            have hb02 : Below w.heap.size w w2 := ((Below.refl w.heap.size w).alloc (Nat.le_refl _) _).trans ((hb1.mono (by simp)).trans (hb2.mono (by have := hb1.size; simp at this; omega)))
            have HS0 := Lib.hid hS
            have HB2 := Lib.hid hb02
            have hszw := hb02.size
            clear hS hb02 hb1 hb2
            go_loopw [0] (fun s wr => ∃ (k mb : Nat) (ab : Option Addr) (cb : Nat) (fa : Option Addr) (fc : Nat), k ≤ cnt ∧ mb + 13 * k = 13 * cnt ∧ mb ≤ cb ∧ s = .slice ab mb cb ∧ Sl encU 1 w2 ab (rest.drop (13 * k)) ∧ wr.heap[w2.heap.size]? = some (.cells #[.int .i64 (cu - 1), .slice fa k fc] 24 (0, 0)) ∧ wr.ownsRow (w2.heap.size + 1) 68 3 (.slice fa k fc) k (flat It.enc (items3 k rest)) ∧ Below w2.heap.size w2 wr) (fun s _ => lenOf s)
            case atStart => exact ⟨0, _, _, _, none, 0, Nat.zero_le _, by have := Hmc.out; omega, by have := Hmc.out; omega, rfl, HS0.out, heap_new _ _, World.ownsRow_nil _ _ _ _, (Below.refl _ _).alloc (Nat.le_refl _) _⟩
            case round =>
              obtain ⟨k, mb, ab, cb, fa, fc, hk, hmb, hcb, rfl, hs, hG, hown, hb⟩ := hrel
              have hszr := hb.size
              by_cases hlt : k < cnt
              · obtain ⟨y, hy⟩ : ∃ y, rest.drop (13 * k) = y := ⟨_, rfl⟩
                have hyl : y.length = mb := by rw [← hy, List.length_drop, Hrl.out]; omega
                have hm13 : 13 ≤ mb := by omega
                have hm0 : (0 : Int) < mb := by omega
                have hBy : ∀ z ∈ y, Byte z := fun z hz => HBr.out z (by rw [← hy] at hz; exact List.mem_of_mem_drop hz)
                rw [hy] at hs
                have hmx : mb ≤ 4000 := by omega
                have RQ4 := Lib.hid (fun W (h : Below w2.heap.size w2 W) => Read4 y mb ab cb W hyl (by omega) hcb hBy (hs.below h) (by omega))
                have RQ1 := Lib.hid (fun W (h : Below w2.heap.size w2 W) => Read1 (y.drop 4) (mb - 4) (cutA ab cb 4) (cb - 4) W (by rw [List.length_drop]; omega) (by omega) (by omega) (fun z hz => hBy z (List.mem_of_mem_drop hz)) ((hs.cutU cb 4 (by omega)).below h) (by omega))
                have RQ8 := Lib.hid (fun W (h : Below w2.heap.size w2 W) => Read8 ((y.drop 4).drop 1) (mb - 4 - 1) (cutA (cutA ab cb 4) (cb - 4) 1) (cb - 4 - 1) W (by rw [List.length_drop, List.length_drop]; omega) (by omega) (by omega) (fun z hz => hBy z (List.mem_of_mem_drop (List.mem_of_mem_drop hz))) (((hs.cutU cb 4 (by omega)).cutU (cb - 4) 1 (by rw [List.length_drop]; omega)).below h) (by omega))
                have hS8 := Lib.hid (((hs.cutU cb 4 (by omega)).cutU (cb - 4) 1 (by rw [List.length_drop]; omega)).cutU (cb - 4 - 1) 8 (by rw [List.length_drop, List.length_drop]; omega))
                obtain ⟨i1, hi1⟩ : ∃ z, readB (y.take 4) = z := ⟨_, rfl⟩
                obtain ⟨i2, hi2⟩ : ∃ z, readB ((y.drop 4).take 1) = z := ⟨_, rfl⟩
                obtain ⟨i3, hi3⟩ : ∃ z, readB (((y.drop 4).drop 1).take 8) = z := ⟨_, rfl⟩
                have hit : it3 y = ⟨i1, i2, i3⟩ := by unfold it3; rw [hi1, hi2, hi3]
                unfold ReadPost at RQ4 RQ1 RQ8
                rw [hi1] at RQ4
                rw [hi2] at RQ1
                rw [hi3] at RQ8
                have Hit := Lib.hid hit
                have Hy := Lib.hid hy
                have HG := Lib.hid hG
                have Ho := Lib.hid hown
                have Hmb := Lib.hid hmb
                clear hs hi1 hi2 hi3 hit hy hG hown hBy hmb hyl
                go_wp2_with (first
                  | (go_at_call 61; first
                    | ((with_reducible refine (RQ8.out _ (hb.trans (hb4.mono hszr))).mono ?_); rintro e w5 ⟨rfl, hb5⟩; have hb5 := hb4.trans (hb5.mono hb4.size); have hG5 := heap_below HG.out hb5; obtain ⟨g0, g1, y0, y1, gl⟩ := blk2 hG5; have HG5 := Lib.hid hG5; clear hG5)
                    | ((with_reducible refine (RQ1.out _ (hb.trans (hb3.mono hszr))).mono ?_); rintro e w4 ⟨rfl, hb4⟩; have hb4 := hb3.trans (hb4.mono hb3.size))
                    | ((with_reducible refine (RQ4.out _ hb).mono ?_); rintro e w3 ⟨rfl, hb3⟩))
                  | (at_builtin; go_loud (refine wpList_append_lies _ (by rfl) _ _ _ (by rfl) (w2.heap.size + 1) 68 i0 _ 3 24 Tryz.underlying22 hi0 hz0 hz1 hz2 rfl (by omega) (.slice fa k fc) k _ (by rfl) ((own_below Ho.out hb5).alloc _) ⟨w5.heap.size, 0, none⟩ 1 1 [.int .i64 i1, .int .i64 i2, .int .i64 i3] (by rfl) (by rfl) (World.news_of_block (cs := #[.int .i64 i1, .int .i64 i2, .int .i64 i3]) (t := 68) (fr := (0, 0)) (heap_new _ _)) (by simp [Value.oneCell']) (by omega) (by unfold maxLen; omega) (by omega) (by simp; omega) (w5.heap.size + 1) (by simp) ?_); intro gg cap w6 hown1 hgrow hat hltg; have hfr : Fr (fun q => (Value.slice fa k fc).ownBlock = some q) w5 w6 := ((Fr.refl _ w5).alloc _).trans (Fr.of_grown hgrow) (fun _ _ h => h); have hnG : ¬ (Value.slice fa k fc).ownBlock = some w2.heap.size := (fun h => by have := (Ho.out.lt _ h).1; omega); have q1 := (hfr.cell (p := ⟨w2.heap.size, 1, none⟩) gl hnG).trans g1; have q2 := (hfr.frozen (p := ⟨w2.heap.size, 1, none⟩) gl hnG).trans y1; have HG6 := Lib.hid (heap_fr HG5.out hfr hnG); have Ho6 := Lib.hid hown1; have hb6 := Lib.hid ((hb.trans (hb5.mono hszr)).trans (hfr.below (B := w2.heap.size) (by have := hb5.size; omega) (fun q hq => by have := (Ho.out.lt q hq).1; omega))); clear hat hgrow hown1 hfr))
                go_roundw
                case rel =>
                  refine ⟨k + 1, _, _, _, _, cap, by omega, ?_, ?_, rfl, ?_, heap_set HG6.out _, ?_, (hb6.out).setCell (by simp) _⟩
                  rotate_left 2
                  · have := hS8.out
                    rw [List.drop_drop, List.drop_drop, ← Hy.out, List.drop_drop] at this
                    rw [show 13 * (k + 1) = 13 * k + (4 + 1 + 8) by omega]
                    exact this
                  · rw [items3_succ, Hy.out, Hit.out, flat_append, flat_one]
                    exact own_set Ho6.out (fun e => by have := (Ho6.out.lt _ e).1; omega)
                  · have := Hmb.out; omega
                  · omega
                case measure => simp [lenOf]; omega
              · obtain rfl : k = cnt := by omega
                obtain rfl : mb = 0 := by omega
                have hT6 := heap_below H2.out hb
                have Ho := Lib.hid hown
                have HG := Lib.hid hG
                have HTT := Lib.hid hT6
                obtain ⟨g0, g1, y0, y1, gl⟩ := blk2 hG
                obtain ⟨t0, t1, v0, v1, tl⟩ := blk2 hT6
                have hlen := items3_length k rest
                have hsI : Sl It.enc 3 wr fa (items3 k rest) := Sl.of_own (n := k) (c := fc) It.len (by rw [hlen]; exact hown)
                have HI := Lib.hid hsI
                have Hlen := Lib.hid hlen
                have hb2r := HB2.out.trans (hb.mono hszw)
                by_cases hgd : goodC x0 ⟨cu - 1, items3 k rest⟩ = true
                · have HGd := Lib.hid (CodeGood x0 (cu - 1) (items3 k rest) k fa fc wr hlen (by omega) hsI hgd)
                  have hR := HR.out
                  rw [if_pos hgd] at hR
                  have HR2 := Lib.hid hR
                  clear hown hG hT6 hs hlen hsI hgd hR
                  go_wp2_with (go_at_call 44; refine HGd.out.mono ?_; rintro e w7 ⟨rfl, hb7⟩; have hG7 := heap_below HG.out hb7; have hT7 := heap_below HTT.out hb7; obtain ⟨p0, p1, u0, u1, pl⟩ := blk2 hG7; obtain ⟨t0, t1, v0, v1, tl⟩ := blk2 hT7; have HT7 := Lib.hid hT7; clear hG7 hT7)
                  refine wp_region_chain 94 [0, 0, 1, 7, 15] [(0, none), (1, none), (2, none), (3, some []), (4, none)] (by kernel_rfl) (by kernel_rfl) (by rfl) ?_; simp only [chain, Obs, List.getElem?_toArray, List.getElem?_cons_zero, List.getElem?_cons_succ]
                  go_wp2_with (with_reducible refine And.intro (by first | with_reducible exact True.intro | with_reducible rfl | go_simp) ?_)
                  refine NoPanic.normal ?_
                  go_wp2_with fail
                  rw [← HR2.out]
                  refine bodyPost_ret (res_tct _ _ w.heap.size 24 #[.int .i64 (cu - 1), .slice fa k fc] (0, 0) _ rfl rfl (heap_set (heap_set HT7.out _) _) Tryz.underlying24 rfl (by kernel_rfl)) rfl ⟨fa, fc, by rw [Hlen.out]; rfl, ?_, ?_⟩
                  · have ho7 : w7.drew.ownsRow (w2.heap.size + 1) 68 3 (.slice fa k fc) k (flat It.enc (items3 k rest)) := own_below (own_below Ho.out hb7) (Below.refl _ _).drew
                    have hn7 : (Value.slice fa k fc).ownBlock ≠ some w.heap.size := fun e => by have := (ho7.lt _ e).1; omega
                    have hg := own_base (own_set (u := .slice fa k fc) (i := 1) (own_set (u := .int .i64 (cu - 1)) (i := 0) ho7 hn7) hn7) (show w.heap.size ≤ w2.heap.size + 1 by omega)
                    rw [← Hlen.out] at hg
                    simp only [Hlen.out] at hg ⊢
                    exact hg
                  · exact (((hb2r.trans (hb7.mono hb2r.size)).drew).setCell (by simp) _).setCell (by simp) _
                · have hgf : goodC x0 ⟨cu - 1, items3 k rest⟩ = false := by simpa using hgd
                  have HGd := Lib.hid (CodeGood x0 (cu - 1) (items3 k rest) k fa fc wr hlen (by omega) hsI hgf)
                  have hR := HR.out
                  rw [if_neg hgd] at hR
                  have HR2 := Lib.hid hR
                  clear hown hG hT6 hs hlen hsI hgd hgf hR
                  go_wp2_with (go_at_call 44; refine HGd.out.mono ?_; rintro e w7 ⟨rfl, hb7⟩; have hT7 := heap_below HTT.out hb7; obtain ⟨t0, t1, v0, v1, tl⟩ := blk2 hT7; have HT7 := Lib.hid hT7; clear hT7)
                  rw [← HR2.out]
                  refine bodyPost_ret (res_tct _ _ w.heap.size 24 #[.int .i64 0, .slice none 0 0] (0, 0) _ rfl rfl (heap_set (heap_set HT7.out _) _) Tryz.underlying24 rfl (by kernel_rfl)) rfl ⟨none, 0, rfl, World.ownsRow_nil _ _ _ _, ?_⟩
                  exact ((hb2r.trans (hb7.mono hb2r.size)).setCell (by simp) _).setCell (by simp) _
end Go.Proofs.YtpdfkomhgeckcaaGreat
