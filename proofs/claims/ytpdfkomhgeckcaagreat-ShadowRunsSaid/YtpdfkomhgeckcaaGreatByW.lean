/- Packages seal and code: the seal; numbers. -/
import Derived.Test.YtpdfkomhgeckcaaGreatByM
import Derived.Test.YtpdfkomhgeckcaaGreatNum
import Derived.Test.YtpdfkomhgeckcaaGreatR
import Derived.Deep.AppendLies
import Derived.Test.YtpdfkomhgeckcaaGreatF
namespace Go.Proofs.YtpdfkomhgeckcaaGreat
open Go.RowKit
set_option linter.unusedVariables false
set_option linter.unusedSimpArgs false

def encU (x : Int) : List Value := [.int .u8 x]
theorem encU_len (x : Int) : (encU x).length = 1 := rfl
theorem flatU : ∀ l : List Int, flat encU l = l.map (Value.int .u8)
  | [] => rfl
  | x :: l => by rw [flat, List.flatMap_cons]; show _ = Value.int .u8 x :: l.map _; rw [← flatU l]; rfl

set_option maxHeartbeats 1600000 in
set_option maxRecDepth 100000 in
theorem SealOf (l : List Int) (n : Nat) (a : Option Addr) (c : Nat) (w : World) (hn : l.length = n) (hl : n ≤ 4611686018427387904) (hs : Sl encU 1 w a l) :
    Calls Tryz.prog 57 #[.slice a n c] w fun e w' => e = .returned (.int .u32 (ofB l)) ∧ Below w.heap.size w w' := by
  have HS := Lib.hid hs
  have Hn := Lib.hid hn
  clear hs hn
  go_enter Tryz.func57, Tryz.ntmps57
  go_wp2_with fail
  go_loopw [3, 8] (fun s i wr => ∃ k : Nat, k ≤ n ∧ s = .int .u32 (ofR 4294967295 (l.take k)) ∧ i = .int .i64 k ∧ Below w.heap.size w wr) (fun _ i _ => n - (intOf i).toNat)
  case atStart => exact ⟨0, Nat.zero_le _, rfl, rfl, Below.refl _ _⟩
  case round =>
    obtain ⟨k, hk, rfl, rfl, hb⟩ := hrel
    by_cases hlt : k < n
    · obtain ⟨r, off, rfl, hr, hcc⟩ := HS.out (by intro h; have h1 := Hn.out; rw [h] at h1; simp at h1; omega)
      obtain ⟨x, hx⟩ : ∃ x, l[k]? = some x := ⟨_, List.getElem?_eq_getElem (by rw [Hn.out]; exact hlt)⟩
      have e0 := (hb.cell (p := ⟨r, off + k * 1 + 0, none⟩) hr).trans (hcc k x hx 0 _ rfl)
      simp only [Nat.add_zero, Nat.mul_one] at e0
      have hki : (k : Int) < n := by omega
      have Hx := Lib.hid hx
      clear hx hcc
      go_wp2_with fail
      go_loopw [3, 16] (fun s i w2 => ∃ j : Nat, j ≤ 8 ∧ s = .int .u32 (stepN j (bits .xor .u32 (ofR 4294967295 (l.take k)) (x % 4294967296))) ∧ i = .int .i64 j ∧ w2 = wr) (fun _ i _ => 8 - (intOf i).toNat)
      case atStart => exact ⟨0, by omega, rfl, rfl, rfl⟩
      case round =>
        obtain ⟨j, hj, rfl, rfl, rfl⟩ := hrel
        by_cases hjt : j < 8
        · have hji : (j : Int) < 8 := by omega
          go_wp2_with fail
          go_roundw
          case rel => exact ⟨j + 1, by omega, rfl, by go_num, trivial⟩
          case measure => simp [intOf]; omega
        · obtain rfl : j = 8 := by omega
          go_wp2_with fail
          go_roundw
          case rel =>
            refine ⟨k + 1, by omega, ?_, by go_num, hb⟩
            rw [List.take_succ_eq_append_getElem (List.getElem?_eq_some_iff.1 Hx.out).1, (List.getElem?_eq_some_iff.1 Hx.out).2]
            unfold ofR
            rw [List.foldl_append]
            rfl
          case measure => simp [intOf]; omega
    · obtain rfl : k = n := by omega
      go_wp2_with fail
      go_ret
      refine ⟨?_, hb⟩
      rw [← Hn.out, List.take_length]
      first | rfl | (unfold ofB; rfl)

theorem Sl.dropU {w : World} {a : Option Addr} {l : List Int} (h : Sl encU 1 w a l) (k : Nat) : Sl encU 1 w (a.map (fun x => x.add k)) (l.drop k) := fun hl => by
  obtain ⟨r, off, rfl, hr, hc⟩ := h (by intro h0; rw [h0] at hl; simp at hl)
  refine ⟨r, off + k, by simp [Addr.add], hr, fun j x hj i u hi => ?_⟩
  rw [List.getElem?_drop] at hj
  have := hc (k + j) x hj i u hi
  rw [show off + (k + j) * 1 + i = off + k + j * 1 + i by omega] at this
  exact this
theorem Sl.takeU {w : World} {a : Option Addr} {l : List Int} (h : Sl encU 1 w a l) (k : Nat) : Sl encU 1 w a (l.take k) := fun hl => by
  obtain ⟨r, off, rfl, hr, hc⟩ := h (by intro h0; rw [h0] at hl; simp at hl)
  refine ⟨r, off, rfl, hr, fun j x hj i u hi => hc j x ?_ i u hi⟩
  rw [List.getElem?_take] at hj
  split at hj
  · exact hj
  · cases hj
theorem rd_is (y x : Int) (hx : Byte x) : bits .or .i64 (wrap64 (y * 256)) (wrap64 x) = rd y x := by
  unfold Byte at hx
  have e1 : wrap64 x = x := by unfold wrap64; omega
  have e2 : wrap64 (y * 256) = W64 (y * 256) := by unfold wrap64 W64; rfl
  rw [e1, e2, or8 _ _ (by unfold W64; omega) hx.1 (by omega)]
  have := W64_mul (y * 256) 1 x
  rw [Int.mul_one, Int.mul_one] at this
  exact this

/-- Where what is behind a cut begins. -/
def cutA (a : Option Addr) (c k : Nat) : Option Addr := if c = k then a else a.map (fun x => x.add k)
theorem Sl.cutU {w : World} {a : Option Addr} {l : List Int} (h : Sl encU 1 w a l) (c k : Nat) (hc : l.length ≤ c) : Sl encU 1 w (cutA a c k) (l.drop k) := by
  unfold cutA
  split
  · rw [List.drop_eq_nil_of_le (by omega)]; exact Sl.nil
  · exact h.dropU k

set_option maxHeartbeats 1600000 in
set_option maxRecDepth 100000 in
theorem Read_any (l : List Int) (size n : Nat) (a : Option Addr) (c : Nat) (w : World) (hn : l.length = n) (hl : n ≤ 4611686018427387904) (hz : size ≤ n) (hc : n ≤ c) (hB : ∀ x ∈ l, Byte x) (hs : Sl encU 1 w a l) :
    Calls Tryz.prog 61 #[.slice a n c, .int .i64 size] w fun e w' => e = .returned (.tuple #[.int .i64 (readB (l.take size)), .slice (cutA a c size) (n - size) (c - size)]) ∧ Below w.heap.size w w' := by
  have HS := Lib.hid hs
  have Hn := Lib.hid hn
  have HB := Lib.hid hB
  clear hs hn hB
  have hzi : (size : Int) ≤ n := by omega
  have hci : (n : Int) ≤ c := by omega
  go_enter Tryz.func61, Tryz.ntmps61
  go_wp2_with fail
  go_loopw [6, 13] (fun s i w2 => ∃ k : Nat, k ≤ size ∧ s = .int .i64 (readB (l.take k)) ∧ i = .int .i64 k ∧ w2 = w) (fun _ i _ => size - (intOf i).toNat)
  case atStart => exact ⟨0, Nat.zero_le _, rfl, rfl, rfl⟩
  case round =>
    obtain ⟨k, hk, rfl, rfl, rfl⟩ := hrel
    by_cases hlt : k < size
    · obtain ⟨r, off, rfl, hr, hcc⟩ := HS.out (by intro h; have h1 := Hn.out; rw [h] at h1; simp at h1; omega)
      obtain ⟨x, hx⟩ : ∃ x, l[k]? = some x := ⟨_, List.getElem?_eq_getElem (by rw [Hn.out]; omega)⟩
      have e0 := hcc k x hx 0 _ rfl
      simp only [Nat.add_zero, Nat.mul_one] at e0
      have hki : (k : Int) < size := by omega
      have Hx := Lib.hid hx
      clear hx hcc
      go_wp2_with fail
      go_roundw
      case rel =>
        refine ⟨k + 1, by omega, ?_, by go_num, trivial⟩
        rw [List.take_succ_eq_append_getElem (List.getElem?_eq_some_iff.1 Hx.out).1, (List.getElem?_eq_some_iff.1 Hx.out).2]
        rw [rd_is _ _ (HB.out x (List.mem_of_getElem? Hx.out))]
        unfold readB
        rw [List.foldl_append]
        rfl
      case measure => simp [intOf]; omega
    · obtain rfl : k = size := by omega
      go_wp2_with fail
      refine wp_region_chain 27 [0, 0, 0, 6, 1, 31] [(0, none), (1, none), (2, none), (3, none), (4, none), (5, none)] (by kernel_rfl) (by kernel_rfl) (by rfl) ?_; simp only [chain, Obs, List.getElem?_toArray, List.getElem?_cons_zero, List.getElem?_cons_succ]
      go_wp2_with (with_reducible refine And.intro (by first | with_reducible exact True.intro | with_reducible rfl | go_simp) ?_)
      · rename_i hck
        obtain rfl : c = k := by omega
        obtain rfl : n = c := by omega
        refine NoPanic.normal ?_
        go_wp2_with fail
        go_ret2
        exact ⟨by simp only [Nat.sub_self]; rw [cutA, if_pos rfl]; rfl, (Below.refl _ _).drew⟩
      · rename_i hck
        refine NoPanic.normal ?_
        go_wp2_with fail
        go_ret2
        have e1 : cutA a c k = a.map (fun x => x.add k) := by unfold cutA; exact if_neg (by omega)
        exact ⟨by rw [e1]; rfl, (Below.refl _ _).drew⟩

theorem Clone_any (l : List Int) (n : Nat) (a : Option Addr) (c : Nat) (w : World) (hn : l.length = n) (hl : n ≤ 100000000000000) (hs : Sl encU 1 w a l) :
    Calls Tryz.prog 58 #[.slice a n c] w fun e w' => ∃ a' c', e = .returned (.slice a' n c') ∧ w'.ownsRow w.heap.size 5 1 (.slice a' n c') n (flat encU l) ∧ Below w.heap.size w w' := by
  cases a with
  | none =>
    obtain rfl : l = [] := by
      cases l with
      | nil => rfl
      | cons x l => obtain ⟨r, off, h, _⟩ := hs (by simp); cases h
    subst hn
    exact (Any.bytes_Clone_nil Tryz.laysClone 0 c w).mono fun e w' ⟨h1, h2⟩ => ⟨none, 0, h1, World.ownsRow_nil _ _ _ _, by rw [h2]; exact Below.refl _ _⟩
  | some A =>
    refine (Any.bytes_Clone_at Tryz.laysClone A n c l w hn (by omega) (fun i hi => ?_)).mono fun e w' ⟨v', h1, h2, _, h4⟩ => ?_
    · obtain ⟨r, off, h, _, hc⟩ := hs (by intro h0; rw [h0] at hn; simp at hn; omega)
      cases h
      have := hc i (l.getD i 0) (by rw [List.getD_eq_getElem?_getD, List.getElem?_eq_getElem (by omega)]; rfl) 0 _ rfl
      rw [show (⟨r, off, none⟩ : Addr).add i = ⟨r, off + i, none⟩ from Addr.add_lit _ _ _]
      simpa using this
    · obtain ⟨a', c', rfl, _⟩ := own_slice h2
      exact ⟨a', c', h1, by rw [flatU]; exact h2, h4⟩

theorem bytesOf_inj : ∀ (l m : List Int), (∀ x ∈ l, Byte x) → (∀ x ∈ m, Byte x) → (Lib.bytesOf l == Lib.bytesOf m) = decide (l = m) := by
  intro l
  induction l with
  | nil => intro m _ _; cases m <;> simp [Lib.bytesOf]
  | cons x l ih =>
    intro m hl hm
    cases m with
    | nil => simp [Lib.bytesOf]
    | cons y m =>
      have h1 := hl x List.mem_cons_self
      have h2 := hm y List.mem_cons_self
      have h3 := ih m (fun z hz => hl z (List.mem_cons_of_mem _ hz)) (fun z hz => hm z (List.mem_cons_of_mem _ hz))
      unfold Byte at h1 h2
      have h4 : (UInt8.ofNat x.toNat == UInt8.ofNat y.toNat) = decide (x = y) := by
        rw [Bool.eq_iff_iff, beq_iff_eq, decide_eq_true_eq]
        constructor
        · intro h
          have := congrArg UInt8.toNat h
          rw [UInt8.toNat_ofNat', UInt8.toNat_ofNat'] at this
          omega
        · intro h; rw [h]
      have e : (Lib.bytesOf (x :: l) == Lib.bytesOf (y :: m)) = ((UInt8.ofNat x.toNat == UInt8.ofNat y.toNat) && (Lib.bytesOf l == Lib.bytesOf m)) := rfl
      rw [e, h3, h4]
      rw [Bool.eq_iff_iff]
      simp
theorem Equal_any (l m : List Int) (n k : Nat) (a b : Option Addr) (c d : Nat) (w : World) (hn : l.length = n) (hk : m.length = k) (hl : ∀ x ∈ l, Byte x) (hm : ∀ x ∈ m, Byte x) (h1 : Sl encU 1 w a l) (h2 : Sl encU 1 w b m) {v : Bool} (hv : decide (l = m) = v) :
    Calls Tryz.prog 71 #[.slice a n c, .slice b k d] w fun e w' => e = .returned (.bool v) ∧ w' = w := by
  have key : ∀ (l : List Int) (n : Nat) (a : Option Addr), l.length = n → Sl encU 1 w a l → Lib.BytesIn w a n l := fun l n a hn hs h0 => by
    obtain ⟨r, off, h, _, hc⟩ := hs (by intro h0; rw [h0] at hn; simp at hn; omega)
    refine ⟨r, off, h, fun i hi => ?_⟩
    have := hc i (l.getD i 0) (by rw [List.getD_eq_getElem?_getD, List.getElem?_eq_getElem (by omega)]; rfl) 0 _ rfl
    simpa using this
  rw [← hv, ← bytesOf_inj l m hl hm]
  exact Any.bytes_Equal_all Tryz.laysEqual a b n c k d l m w hn hk (key l n a hn h1) (key m k b hk h2)

theorem infoU : (Tryz.prog.info? 5).map (fun i => (i.zero, i.size, i.bytes)) = some (some (.int .u8 0), 1, 1) := by kernel_rfl
set_option maxHeartbeats 1600000 in
set_option maxRecDepth 100000 in
theorem SealPut (l : List Int) (n : Nat) (a : Option Addr) (c : Nat) (w : World) (hn : l.length = n) (hl : n ≤ 10000000000000) (hs : Sl encU 1 w a l) :
    Calls Tryz.prog 46 #[.slice a n c] w fun e w' => ∃ a' c', e = .returned (.slice a' (n + 4) c') ∧ w'.ownsRow w.heap.size 5 1 (.slice a' (n + 4) c') (n + 4) (flat encU (sealP l)) ∧ Below w.heap.size w w' := by
  have HO := Lib.hid (SealOf l n a c w hn (by omega) hs)
  have HC := Lib.hid (fun W (h : Below w.heap.size w W) => Clone_any l n a c W hn (by omega) (hs.below h))
  clear hs hn
  obtain ⟨i0, hi0, hz0, hz1, hz2⟩ := info_parts infoU
  go_enter Tryz.func46, Tryz.ntmps46
  go_wp2_with (first
    | (go_at_call 57; refine HO.out.mono ?_; rintro e w1 ⟨rfl, hb1⟩)
    | (go_at_call 58; refine (HC.out _ hb1).mono ?_; rintro e w2 ⟨a', c', rfl, ho, hb2⟩; have hb2 := hb1.trans (hb2.mono hb1.size); have Ho := Lib.hid (own_base ho hb1.size); have hsz2 := hb2.size; clear ho)
    | (at_builtin; go_loud (refine wpList_append_lies _ (by rfl) _ _ _ (by rfl) w.heap.size 5 i0 _ 1 1 Tryz.underlying62 hi0 hz0 hz1 hz2 rfl (by omega) (.slice a' n c') n _ (by rfl) (Ho.out.alloc _) ⟨w2.heap.size, 0, none⟩ 4 4 [.int .u8 (ofB l / 16777216 % 256), .int .u8 (ofB l / 65536 % 256), .int .u8 (ofB l / 256 % 256), .int .u8 (ofB l % 256)] (by rfl) (by rfl) (World.news_of_block (cs := #[.int .u8 (ofB l / 16777216 % 256), .int .u8 (ofB l / 65536 % 256), .int .u8 (ofB l / 256 % 256), .int .u8 (ofB l % 256)]) (t := 5) (fr := (0, 0)) (heap_new _ _)) (by simp [Value.oneCell']) (by omega) (by unfold maxLen; omega) (by omega) (by simp; omega) (w2.heap.size + 1) (by simp) ?_); intro gg cap w3 hown1 hgrow hat hlt; have hbb := (hb2.alloc hsz2 _).grown hgrow (by simp; omega) (fun k hk => (Ho.out.lt k hk).1); have q4 := Lib.hid hown1; clear hat hgrow hown1))
  go_ret
  exact ⟨_, _, rfl, by rw [sealP, flat_append]; exact q4.out, hbb⟩
end Go.Proofs.YtpdfkomhgeckcaaGreat
