/- Packages seal and code: what is sealed is opened; a form in bytes. -/
import Derived.Test.YtpdfkomhgeckcaaGreatByW
namespace Go.Proofs.YtpdfkomhgeckcaaGreat
open Go.RowKit
set_option linter.unusedVariables false
set_option linter.unusedSimpArgs false

set_option maxHeartbeats 1600000 in
set_option maxRecDepth 100000 in
theorem SealGet_some (l x : List Int) (n : Nat) (a : Option Addr) (c : Nat) (w : World) (hn : l.length = n) (hl : n ≤ 1000000000000) (hc : n ≤ c) (hB : ∀ x ∈ l, Byte x) (hs : Sl encU 1 w a l) (hg : sealG l = some x) :
    Calls Tryz.prog 68 #[.slice a n c] w fun e w' => ∃ a' c', e = .returned (.tuple #[.slice a' x.length c', .int .i64 0]) ∧ w'.ownsRow w.heap.size 5 1 (.slice a' x.length c') x.length (flat encU x) ∧ Below w.heap.size w w' := by
  unfold sealG at hg
  split at hg
  case isFalse => cases hg
  case isTrue h0 =>
  obtain ⟨h4, h5⟩ := h0
  cases hg
  rw [hn] at h4 h5 ⊢
  obtain ⟨m, rfl⟩ : ∃ m, n = m + 4 := ⟨n - 4, by omega⟩
  rw [Nat.add_sub_cancel] at h5 ⊢
  have hlm : (l.take m).length = m := by rw [List.length_take, hn]; omega
  rw [hlm]
  have HP := Lib.hid (SealPut (l.take m) m a c w hlm (by omega) (hs.takeU m))
  rw [h5] at HP
  have HE := Lib.hid (fun W b d (h : Below w.heap.size w W) (h2 : Sl encU 1 W b l) => Equal_any l l (m + 4) (m + 4) b a d c W hn hn hB hB h2 (hs.below h) (decide_eq_true rfl))
  have HC := Lib.hid (fun W (h : Below w.heap.size w W) => Clone_any (l.take m) m a c W hlm (by omega) ((hs.takeU m).below h))
  have hmc : (m : Int) ≤ c := by omega
  have Hn := Lib.hid hn
  clear hs hn h5 hB hlm
  go_enter Tryz.func68, Tryz.ntmps68
  go_wp2_with (first
    | (go_at_call 46; refine HP.out.mono ?_; rintro e w1 ⟨a1, c1, rfl, ho, hb1⟩; rw [← Hn.out] at ho; have Ho := Lib.hid (Sl.of_own encU_len ho); clear ho)
    | (go_at_call 71; refine (HE.out _ _ _ hb1 Ho.out).mono ?_; rintro e w2 ⟨rfl, rfl⟩)
    | (go_at_call 58; refine (HC.out _ hb1).mono ?_; rintro e w3 ⟨a3, c3, rfl, ho3, hb3⟩; have Ho3 := Lib.hid ho3; clear ho3))
  go_ret2
  exact ⟨a3, c3, rfl, own_base Ho3.out hb1.size, hb1.trans (hb3.mono hb1.size)⟩

set_option maxHeartbeats 1600000 in
set_option maxRecDepth 100000 in
theorem SealGet_none (l : List Int) (n : Nat) (a : Option Addr) (c : Nat) (w : World) (hn : l.length = n) (hl : n ≤ 1000000000000) (hc : n ≤ c) (hB : ∀ x ∈ l, Byte x) (hs : Sl encU 1 w a l) (hg : sealG l = none) :
    Calls Tryz.prog 68 #[.slice a n c] w fun e w' => e = .returned (.tuple #[.slice none 0 0, .int .i64 9]) ∧ Below w.heap.size w w' := by
  by_cases h4 : 4 ≤ n
  · obtain ⟨m, rfl⟩ : ∃ m, n = m + 4 := ⟨n - 4, by omega⟩
    have h5 : sealP (l.take m) ≠ l := by
      intro h
      unfold sealG at hg
      rw [hn, Nat.add_sub_cancel, if_pos ⟨h4, h⟩] at hg
      cases hg
    have hlm : (l.take m).length = m := by rw [List.length_take, hn]; omega
    have HP := Lib.hid (SealPut (l.take m) m a c w hlm (by omega) (hs.takeU m))
    have HE := Lib.hid (fun W b d (h : Below w.heap.size w W) (h2 : Sl encU 1 W b (sealP (l.take m))) => Equal_any (sealP (l.take m)) l (m + 4) (m + 4) b a d c W (by rw [sealP_length, hlm]) hn (sealP_byte fun x hx => hB x (List.mem_of_mem_take hx)) hB h2 (hs.below h) (decide_eq_false h5))
    have hmc : (m : Int) ≤ c := by omega
    have hpl : (sealP (l.take m)).length = m + 4 := by rw [sealP_length, hlm]
    have Hpl := Lib.hid hpl
    clear hs hn h5 hB hlm hg hpl
    go_enter Tryz.func68, Tryz.ntmps68
    go_wp2_with (first
      | (go_at_call 46; refine HP.out.mono ?_; rintro e w1 ⟨a1, c1, rfl, ho, hb1⟩; rw [← Hpl.out] at ho; have Ho := Lib.hid (Sl.of_own encU_len ho); clear ho)
      | (go_at_call 71; refine (HE.out _ _ _ hb1 Ho.out).mono ?_; rintro e w2 ⟨rfl, rfl⟩))
    go_ret2
    exact ⟨rfl, hb1⟩
  · have h4i : (n : Int) < 4 := by omega
    clear hs hB hg
    go_enter Tryz.func68, Tryz.ntmps68
    go_wp2_with fail
    all_goals go_ret2
    all_goals exact ⟨rfl, Below.refl _ _⟩

set_option maxHeartbeats 1600000 in
set_option maxRecDepth 100000 in
theorem Number_any (l : List Int) (v : Int) (size n : Nat) (B : Nat) (a : Option Addr) (c : Nat) (w : World) (hv : -9223372036854775808 ≤ v ∧ v ≤ 9223372036854775807) (hz : size ≤ 8) (hn : n ≤ 10000000000) (hB : B ≤ w.heap.size) (ho : w.ownsRow B 5 1 (.slice a n c) n (flat encU l)) :
    Calls Tryz.prog 45 #[.slice a n c, .int .i64 v, .int .i64 size] w fun e w' => ∃ a' c', e = .returned (.slice a' (n + size) c') ∧ w'.ownsRow B 5 1 (.slice a' (n + size) c') (n + size) (flat encU (l ++ numB v size)) ∧ Fr (fun q => (Value.slice a n c).ownBlock = some q) w w' ∧ (∀ q, (Value.slice a' (n + size) c').ownBlock = some q → (Value.slice a n c).ownBlock = some q ∨ w.heap.size ≤ q) := by
  obtain ⟨i0, hi0, hz0, hz1, hz2⟩ := info_parts infoU
  have HO := Lib.hid ho
  clear ho
  go_enter Tryz.func45, Tryz.ntmps45
  go_wp2_with fail
  go_loopw [0, 7] (fun s i wr => ∃ (j m : Nat) (a' : Option Addr) (c' : Nat) (xs : List Int), j ≤ size ∧ m + j = n + size ∧ s = .slice a' m c' ∧ i = .int .i64 ((j : Int) - 1) ∧ wr.ownsRow B 5 1 (.slice a' m c') m (flat encU xs) ∧ xs ++ numB v j = l ++ numB v size ∧ Fr (fun q => (Value.slice a n c).ownBlock = some q) w wr ∧ (∀ q, (Value.slice a' m c').ownBlock = some q → (Value.slice a n c).ownBlock = some q ∨ w.heap.size ≤ q)) (fun _ i _ => (intOf i + 1).toNat)
  case atStart => exact ⟨size, n, a, c, l, Nat.le_refl _, rfl, rfl, rfl, HO.out, rfl, Fr.refl _ _, fun q h => .inl h⟩
  case round =>
    obtain ⟨j, m, a', c', xs, hj, hm, rfl, rfl, hown, hxs, hF, hO⟩ := hrel
    have hsz := hF.size
    cases j with
    | zero =>
      go_wp2_with fail
      go_ret
      obtain rfl : m = n + size := by omega
      rw [numB, List.append_nil] at hxs
      exact ⟨a', c', rfl, by rw [← hxs]; exact hown, hF, hO⟩
    | succ j =>
      have e1 : ((j + 1 : Nat) : Int) - 1 = (j : Int) := by omega
      rw [e1]
      have hji : (j : Int) < 8 := by omega
      have hj0 : (0 : Int) ≤ j := by omega
      have Ho := Lib.hid hown
      have Hx := Lib.hid hxs
      have HF := Lib.hid hF
      have HQ := Lib.hid hO
      clear hown hxs hF hO
      have hm1 : m ≤ 10000000008 := by omega
      have ep : v / 2 ^ (8 * j) % 256 = byteAt v j := by unfold byteAt; rw [Int.pow_mul]; rfl
      go_wp2_with (at_builtin; go_loud (refine wpList_append_lies _ (by rfl) _ _ _ (by rfl) B 5 i0 _ 1 1 Tryz.underlying62 hi0 hz0 hz1 hz2 rfl (by omega) (.slice a' m c') m _ (by rfl) (Ho.out.alloc _) ⟨wr.heap.size, 0, none⟩ 1 1 [.int .u8 (byteAt v j)] (by rfl) (by rfl) (World.news_of_block (cs := #[.int .u8 (byteAt v j)]) (t := 5) (fr := (0, 0)) (heap_new _ _)) (by simp [Value.oneCell']) (by omega) (by unfold maxLen; omega) (by omega) (by simp; omega) (wr.heap.size + 1) (by simp) ?_); intro gg cap w3 hown1 hgrow hat hlt; have hfr : Fr (fun q => (Value.slice a' m c').ownBlock = some q) wr w3 := ((Fr.refl _ wr).alloc _).trans (Fr.of_grown hgrow) (fun _ _ h => h); have hbb := Lib.hid (HF.out.trans hfr (fun k hk h => (HQ.out k h).elim id (fun h => by omega))); have hqq := Lib.hid (hat.elim (fun h => HQ.out gg h) (fun h => .inr (by omega)) : (Value.slice a n c).ownBlock = some gg ∨ w.heap.size ≤ gg); have q4 := Lib.hid hown1; clear hat hgrow hown1 hfr)
      go_roundw
      case rel =>
        refine ⟨j, m + 1, _, cap, xs ++ [byteAt v j], by omega, by omega, rfl, rfl, ?_, ?_, hbb.out, fun q hq => by simp only [Value.ownBlock, Option.some.injEq] at hq; subst hq; exact hqq.out⟩
        · rw [flat_append]
          exact q4.out
        · rw [← Hx.out, List.append_assoc]; rfl
      case measure => simp [intOf]; try omega

/-- What a call that writes on leaves. -/
def NumPost (B : Nat) (a : Option Addr) (n c k : Nat) (l : List Int) (w : World) (e : Ending) (w' : World) : Prop :=
  ∃ a' c', e = .returned (.slice a' (n + k) c') ∧ w'.ownsRow B 5 1 (.slice a' (n + k) c') (n + k) (flat encU l) ∧ Fr (fun q => (Value.slice a n c).ownBlock = some q) w w' ∧ (∀ q, (Value.slice a' (n + k) c').ownBlock = some q → (Value.slice a n c).ownBlock = some q ∨ w.heap.size ≤ q)
theorem Number4 (l : List Int) (v : Int) (n : Nat) (B : Nat) (a : Option Addr) (c : Nat) (w : World) (hv : -9223372036854775808 ≤ v ∧ v ≤ 9223372036854775807) (hn : n ≤ 10000000000) (hB : B ≤ w.heap.size) (ho : w.ownsRow B 5 1 (.slice a n c) n (flat encU l)) :
    Calls Tryz.prog 45 #[.slice a n c, .int .i64 v, .int .i64 4] w (NumPost B a n c 4 (l ++ numB v 4) w) := Number_any l v 4 n B a c w hv (by omega) hn hB ho
theorem Number8 (l : List Int) (v : Int) (n : Nat) (B : Nat) (a : Option Addr) (c : Nat) (w : World) (hv : -9223372036854775808 ≤ v ∧ v ≤ 9223372036854775807) (hn : n ≤ 10000000000) (hB : B ≤ w.heap.size) (ho : w.ownsRow B 5 1 (.slice a n c) n (flat encU l)) :
    Calls Tryz.prog 45 #[.slice a n c, .int .i64 v, .int .i64 8] w (NumPost B a n c 8 (l ++ numB v 8) w) := Number_any l v 8 n B a c w hv (by omega) hn hB ho

set_option maxHeartbeats 1600000 in
theorem Version_yes (l : List Int) (n : Nat) (a : Option Addr) (c : Nat) (w : World) (hn : l.length = n) (hl : n ≤ 4611686018427387904) (hB : ∀ x ∈ l, Byte x) (hs : Sl encU 1 w a l) (h3 : 3 ≤ n) (h0 : l.getD 0 0 = 83) (h1 : l.getD 1 0 = 72) :
    Calls Tryz.prog 69 #[.slice a n c] w fun e w' => e = .returned (.tuple #[.int .i64 (l.getD 2 0), .bool true]) ∧ w = w' := by
  have h3i : (3 : Int) ≤ n := by omega
  have hb := hB (l.getD 2 0) (by rw [List.getD_eq_getElem?_getD, List.getElem?_eq_getElem (by omega)]; exact List.getElem_mem _)
  unfold Byte at hb
  obtain ⟨r, off, rfl, _, hc⟩ := hs (by intro h; rw [h] at hn; simp at hn; omega)
  have e0 := hc 0 (l.getD 0 0) (by rw [List.getD_eq_getElem?_getD, List.getElem?_eq_getElem (by omega)]; rfl) 0 _ rfl
  have e1 := hc 1 (l.getD 1 0) (by rw [List.getD_eq_getElem?_getD, List.getElem?_eq_getElem (by omega)]; rfl) 0 _ rfl
  have e2 := hc 2 (l.getD 2 0) (by rw [List.getD_eq_getElem?_getD, List.getElem?_eq_getElem (by omega)]; rfl) 0 _ rfl
  simp only [Nat.zero_mul, Nat.one_mul, Nat.mul_one, Nat.add_zero] at e0 e1 e2
  rw [h0] at e0
  rw [h1] at e1
  generalize l.getD 2 0 = v at *
  clear hc hn hB h0 h1
  go_enter Tryz.func69, Tryz.ntmps69
  go_wp2_with fail
  go_ret2
  exact ⟨rfl, rfl⟩
set_option maxHeartbeats 1600000 in
theorem Version_no (l : List Int) (n : Nat) (a : Option Addr) (c : Nat) (w : World) (hn : l.length = n) (hl : n ≤ 4611686018427387904) (hB : ∀ x ∈ l, Byte x) (hs : Sl encU 1 w a l) (h : ¬ (3 ≤ n ∧ l.getD 0 0 = 83 ∧ l.getD 1 0 = 72)) :
    Calls Tryz.prog 69 #[.slice a n c] w fun e w' => e = .returned (.tuple #[.int .i64 0, .bool false]) ∧ w = w' := by
  by_cases h3 : 3 ≤ n
  · have h3i : ¬ (n : Int) < 3 := by omega
    obtain ⟨r, off, rfl, _, hc⟩ := hs (by intro h; rw [h] at hn; simp at hn; omega)
    have e0 := hc 0 (l.getD 0 0) (by rw [List.getD_eq_getElem?_getD, List.getElem?_eq_getElem (by omega)]; rfl) 0 _ rfl
    have e1 := hc 1 (l.getD 1 0) (by rw [List.getD_eq_getElem?_getD, List.getElem?_eq_getElem (by omega)]; rfl) 0 _ rfl
    simp only [Nat.zero_mul, Nat.one_mul, Nat.mul_one, Nat.add_zero] at e0 e1
    generalize l.getD 0 0 = x0 at *
    generalize l.getD 1 0 = x1 at *
    clear hc hn hB
    by_cases h0 : x0 = 83
    · have h1 : x1 ≠ 72 := fun h1 => h ⟨h3, h0, h1⟩
      have h1b : (x1 != 72) = true := by simpa using h1
      subst h0
      clear h
      go_enter Tryz.func69, Tryz.ntmps69
      go_wp2_with fail
      all_goals go_ret2
      all_goals exact ⟨rfl, rfl⟩
    · have h0b : (x0 != 83) = true := by simpa using h0
      clear h
      go_enter Tryz.func69, Tryz.ntmps69
      go_wp2_with fail
      all_goals go_ret2
      all_goals exact ⟨rfl, rfl⟩
  · have h3i : (n : Int) < 3 := by omega
    clear hs hB h
    go_enter Tryz.func69, Tryz.ntmps69
    go_wp2_with fail
    all_goals go_ret2
    all_goals exact ⟨rfl, rfl⟩

theorem Size_any (n : Int) (w : World) (h : 0 ≤ n ∧ n ≤ 255) : Calls Tryz.prog 63 #[.int .i64 n] w fun e w' => e = .returned (.int .i64 (9 + 13 * n + 4)) ∧ w = w' := by
  go_enter Tryz.func63, Tryz.ntmps63
  go_wp2_with fail
  go_ret
  exact ⟨rfl, rfl⟩

set_option maxHeartbeats 800000 in
theorem CodeGood (tag cur : Int) (l : List It) (n : Nat) (a : Option Addr) (c : Nat) (w : World) (hn : l.length = n) (hl : n ≤ 4611686018427387904) (hs : Sl It.enc 3 w a l) {v : Bool} (hv : goodC tag ⟨cur, l⟩ = v) :
    Calls Tryz.prog 44 #[.int .i64 tag, .agg #[.int .i64 cur, .slice a n c]] w fun e w' => e = .returned (.bool v) ∧ Below w.heap.size w w' := by
  have HG := Lib.hid (GoodF_any cur l n a c _ hn hl (hs.below ((Below.refl _ _).alloc (Nat.le_refl _) (.cells #[.int .i64 cur, .slice a n c] 24))) (v := goodF ⟨cur, l⟩) rfl)
  unfold goodC at hv
  by_cases ht : 0 ≤ tag ∧ tag ≤ 2
  · rw [decide_eq_true ht, Bool.true_and] at hv
    rw [hv] at HG
    have h1 : 0 ≤ tag := ht.1
    have h2 : tag ≤ 2 := ht.2
    clear hv ht hs hn
    go_enter Tryz.func44, Tryz.ntmps44
    go_wp2_with (go_at_call 56; refine HG.out.mono ?_; rintro e w1 ⟨rfl, hb1⟩)
    go_ret
    exact ⟨rfl, ((Below.refl _ _).alloc (Nat.le_refl _) _).trans (hb1.mono (by simp))⟩
  · rw [decide_eq_false ht, Bool.false_and] at hv
    subst hv
    clear HG hs hn
    by_cases h1 : 0 ≤ tag
    · have h2 : ¬ tag ≤ 2 := fun h => ht ⟨h1, h⟩
      clear ht
      go_enter Tryz.func44, Tryz.ntmps44
      go_wp2_with fail
      all_goals go_ret
      all_goals exact ⟨rfl, (Below.refl _ _).alloc (Nat.le_refl _) _⟩
    · clear ht
      go_enter Tryz.func44, Tryz.ntmps44
      go_wp2_with fail
      all_goals go_ret
      all_goals exact ⟨rfl, (Below.refl _ _).alloc (Nat.le_refl _) _⟩
end Go.Proofs.YtpdfkomhgeckcaaGreat
