/- SwapKnown: its states, its walk. -/
import Derived.Test.YtlgkkolgdjgclaaGreatSwP
import Derived.Test.YtlgkkolgdjgclaaGreatMade
import Derived.Test.YtlgkkolgdjgclaaGreatKz
namespace Go.Proofs.YtlgkkolgdjgclaaGreat
open Go.RowKit Go.Shelf Go.Maps
set_option linter.unusedVariables false
set_option linter.unusedSimpArgs false

def ks0 : SysS := madeF 3 [1, 2, 3] (SysS.new [0, 2])
def kz1 : SwS := (SwS.new.openT ks0 0 1).1
def kz2 : SwS := (kz1.step ks0 0).1
def ks1 : SysS := (kz1.step ks0 0).2.1
def kz3 : SwS := (kz2.abortT ks1 0).1
def kz4 : SwS := (kz3.step ks1 0).1
def ks2 : SysS := (kz3.step ks1 0).2.1
def kz5 : SwS := (kz4.allT ks2 0 2).1
def ks3 : SysS := (kz4.allT ks2 0 2).2.1
def kz6 : SwS := (kz5.allT ks3 1 2).1
def ks4 : SysS := (kz5.allT ks3 1 2).2.1
def kz7 : SwS := (kz6.openT ks4 1 0).1
def kz8 : SwS := (kz7.step ks4 1).1
def ks5 : SysS := (kz7.step ks4 1).2.1
def ks6 : SysS := ks5.setC 1 (ks5.core 1).run.1
def kz9 : SwS := (kz8.step ks6 1).1
def ks7 : SysS := (kz8.step ks6 1).2.1
theorem kin0 : 0 ≤ (0 : Int) ∧ (0 : Int) < ks0.cores.length := by
  have h : ks0.cores.length = 2 := by kernel_rfl
  rw [h]; decide
theorem kin1 : 0 ≤ (0 : Int) ∧ (0 : Int) < ks1.cores.length := by
  have h : ks1.cores.length = 2 := by kernel_rfl
  rw [h]; decide
theorem klst2 : ¬ kz2.lst 0 < 0 ∧ (kz2.lst 0).toNat = 0 := by
  have h : kz2.lst 0 = 0 := by kernel_rfl
  rw [h]; decide
section
variable (ok0 : SysOk 36 ks0)
include ok0
theorem kx0 : SwKx ks0 SwS.new ∧ SysOk 36 ks0 := ⟨SwKx.new _, ok0⟩
theorem kx1 : SwKx ks0 kz1 ∧ SysOk 36 ks0 := ⟨open_keep (kx0 ok0).1 ok0 (by decide) 0 1, ok0⟩
theorem kx2 : SwKx ks1 kz2 ∧ SysOk 36 ks1 := step_keep (kx1 ok0).1 (kx1 ok0).2 (by decide) (by decide) 0
theorem kx3 : SwKx ks1 kz3 ∧ SysOk 36 ks1 := ⟨abort_keep (kx2 ok0).1 0, (kx2 ok0).2⟩
theorem kx4 : SwKx ks2 kz4 ∧ SysOk 36 ks2 := step_keep (kx3 ok0).1 (kx3 ok0).2 (by decide) (by decide) 0
theorem kx5 : SwKx ks3 kz5 ∧ SysOk 36 ks3 := by
  have h := attT_keep (l := []) (kx4 ok0).1 (kx4 ok0).2 (by decide) (by decide) (Nat.le_of_ble_eq_true (by kernel_rfl)) 0 2 (fun b hb => by cases hb)
  rw [← allT_att (kx4 ok0).2 (by decide)] at h
  exact h
theorem kx6 : SwKx ks4 kz6 ∧ SysOk 36 ks4 := by
  have h := attT_keep (l := []) (kx5 ok0).1 (kx5 ok0).2 (by decide) (by decide) (Nat.le_of_ble_eq_true (by kernel_rfl)) 1 2 (fun b hb => by cases hb)
  rw [← allT_att (kx5 ok0).2 (by decide)] at h
  exact h
theorem kx7 : SwKx ks4 kz7 ∧ SysOk 36 ks4 := ⟨open_keep (kx6 ok0).1 (kx6 ok0).2 (Nat.le_of_ble_eq_true (by kernel_rfl)) 1 0, (kx6 ok0).2⟩
theorem kx8 : SwKx ks5 kz8 ∧ SysOk 36 ks5 := step_keep (kx7 ok0).1 (kx7 ok0).2 (by decide) (by decide) 1
end
theorem kfree (fr0 : Free 3 2 ks0) : Free 3 2 ks5 := by
  have h1 : Free 3 2 ks1 := step_free fr0 _ _
  have h2 : Free 3 2 ks2 := step_free h1 _ _
  have h3 : Free 3 2 ks3 := all_free h2 _ _ _
  have h4 : Free 3 2 ks4 := all_free h3 _ _ _
  exact step_free h4 _ _
theorem krun (fr0 : Free 3 2 ks0) : (ks5.run 1).1 = ks6 := (kfree fr0).run_eq ⟨by decide, by rw [(kfree fr0).len]; decide⟩
theorem kx8r (ok0 : SysOk 36 ks0) (fr0 : Free 3 2 ks0) : SwKx ks6 kz8 ∧ SysOk 1000 ks6 := by
  have h2 := (kx8 ok0).2.run (by decide) 1
  rw [krun fr0] at h2
  refine ⟨(kx8 ok0).1.aged (by unfold ks6; simp [SysS.setC]) (fun i d' hd => ?_), h2.mono (by decide)⟩
  rcases setC_get (s := ks5) (c := 1) hd with ⟨rfl, rfl⟩ | ⟨-, e⟩
  · obtain ⟨d, hd0⟩ : ∃ d, ks5.cores[1]? = some d := ⟨_, List.getElem?_eq_getElem (by rw [(kfree fr0).len]; decide)⟩
    refine ⟨d, hd0, .inr ?_⟩
    rw [core_get (c := 1) (i := 1) rfl hd0]
    exact run_age ((kx8 ok0).2.cor d (List.mem_of_getElem? hd0)) (by decide)
  · exact ⟨d', e, .inl rfl⟩
theorem ko1 : SwS.new.openT ks0 (2) (1) = (SwS.new, 2) := by kernel_rfl
theorem ko2 : SwS.new.openT ks0 (0) (3) = (SwS.new, 1) := by kernel_rfl
theorem ko3 : SwS.new.openT ks0 (-1) (1) = (SwS.new, 2) := by kernel_rfl
theorem kt1 : SwS.new.step ks0 0 = (SwS.new, ks0, 0, 14) := by kernel_rfl
theorem ka1 : SwS.new.abortT ks0 0 = (SwS.new, 14) := by kernel_rfl
theorem ka2 : SwS.new.abortT ks0 7 = (SwS.new, 2) := by kernel_rfl
theorem ko4 : SwS.new.openT ks0 (0) (1) = (kz1, 0) := by kernel_rfl
theorem ko5 : kz1.openT ks0 (0) (2) = (kz1, 15) := by kernel_rfl
theorem kt2 : kz1.step ks0 0 = (kz2, ks1, 1, 0) := by kernel_rfl
theorem ka3 : kz2.abortT ks1 0 = (kz3, 0) := by kernel_rfl
theorem ka4 : kz3.abortT ks1 0 = (kz3, 14) := by kernel_rfl
theorem kt3 : kz3.step ks1 0 = (kz4, ks2, 6, 13) := by kernel_rfl
theorem kl1 : kz4.allT ks2 0 2 = (kz5, ks3, true, 0) := by kernel_rfl
theorem kl2 : kz5.allT ks3 1 2 = (kz6, ks4, true, 0) := by kernel_rfl
theorem kc1 : cntT kz6.all 5 = 2 ∧ cntT kz6.all 6 = 1 := ⟨by kernel_rfl, by kernel_rfl⟩
theorem ko6 : kz6.openT ks4 (1) (0) = (kz7, 0) := by kernel_rfl
theorem kt4 : kz7.step ks4 1 = (kz8, ks5, 1, 0) := by kernel_rfl
theorem kt5 : kz8.step ks6 1 = (kz9, ks7, 6, 12) := by kernel_rfl
theorem kc2 : cntT kz9.all 5 = 2 ∧ cntT kz9.all 6 = 2 := ⟨by kernel_rfl, by kernel_rfl⟩
theorem kst9 : ∃ x, kz9.all[0]? = some (0, x) ∧ x.stage = 6 := by
  have h : (kz9.all[0]?).map (fun p => (p.1, p.2.stage)) = some (0, 6) := by kernel_rfl
  cases hq : kz9.all[0]? with
  | none => rw [hq] at h; cases h
  | some p =>
    rw [hq] at h
    obtain ⟨c, x⟩ := p
    simp only [Option.map_some, Option.some.injEq, Prod.mk.injEq] at h
    exact ⟨x, by rw [h.1], h.2⟩
theorem bs2k (w : World) (a b : Int) : (Instr.buildSlice 22 2 #[(0, .int .i64 a), (1, .int .i64 b)]).run Tryz.prog w = .ok (.slice (some ⟨w.heap.size, 0, none⟩) 2 2) (w.alloc (.cells #[.int .i64 a, .int .i64 b] 3)) := by kernel_rfl
theorem bs3k (w : World) (a b c : Int) : (Instr.buildSlice 22 3 #[(0, .int .i64 a), (1, .int .i64 b), (2, .int .i64 c)]).run Tryz.prog w = .ok (.slice (some ⟨w.heap.size, 0, none⟩) 3 3) (w.alloc (.cells #[.int .i64 a, .int .i64 b, .int .i64 c] 3)) := by kernel_rfl
set_option maxHeartbeats 12800000 in
set_option maxRecDepth 100000 in
theorem swapKnown_walk (w : World) : Calls Tryz.prog 8 #[] w fun e w' => e = .returned (.bool true) ∧ Below w.heap.size w w' := by
  have HA := Lib.hid (fun (W : World) => awake24 W)
  have HNil := Lib.hid (fun (W : World) => SwNewNil W)
  have hbs2 := bs2k
  have hbs3 := bs3k
  have hg02 : newGood [0, 2] := ⟨by decide, by decide, fun t ht => by simp at ht; rcases ht with rfl | rfl; exact .inl rfl; exact .inr (.inr rfl)⟩
  have HM := Lib.hid (fun (W : World) (a1 a2 : Option Addr) (h1 : Sl int1 1 W a1 [0, 2]) (h2 : Sl int1 1 W a2 [1, 2, 3]) => (made24 [0, 2] 2 a1 2 [1, 2, 3] 3 a2 3 W rfl (by decide) h1 rfl (by decide) h2).mono (fun e w' h => h.resolve_right (fun h => h.1 hg02)))
  rw [show ((2 : Int) ^ 2 - 1) = 3 by decide] at HM
  clear hg02
  obtain ⟨ok0, fr0⟩ : SysOk 36 ks0 ∧ Free 3 2 ks0 := made_ok [0, 2] [1, 2, 3] ⟨by decide, by decide, fun t ht => by simp at ht; rcases ht with rfl | rfl; exact .inl rfl; exact .inr (.inr rfl)⟩ (by decide) (by decide)
  have O1 := Lib.hid (fun (W w0 : World) (B C t : Nat) (K : KZ w0 W B C 0 t ks0 SwS.new) => KZ.call (F := 21) (args := #[.pointer (some ⟨C, 0, none⟩), .int .i64 2, .int .i64 1]) (v := .int .i64 2) (s := ks0) (z := SwS.new) (s' := ks0) (z' := SwS.new) (fun ow L oz M hL hb hc ht => by
      have h := SwOpenC hL (kx0 ok0).1.ok (Nat.le_of_ble_eq_true (by kernel_rfl)) (c := 2) (by unfold I63; decide) 1
      rw [ko1, hc] at h
      exact h) (.inl (by kernel_rfl)) K)
  have O2 := Lib.hid (fun (W w0 : World) (B C t : Nat) (K : KZ w0 W B C 0 t ks0 SwS.new) => KZ.call (F := 21) (args := #[.pointer (some ⟨C, 0, none⟩), .int .i64 0, .int .i64 3]) (v := .int .i64 1) (s := ks0) (z := SwS.new) (s' := ks0) (z' := SwS.new) (fun ow L oz M hL hb hc ht => by
      have h := SwOpenC hL (kx0 ok0).1.ok (Nat.le_of_ble_eq_true (by kernel_rfl)) (c := 0) (by unfold I63; decide) 3
      rw [ko2, hc] at h
      exact h) (.inl (by kernel_rfl)) K)
  have O3 := Lib.hid (fun (W w0 : World) (B C t : Nat) (K : KZ w0 W B C 0 t ks0 SwS.new) => KZ.call (F := 21) (args := #[.pointer (some ⟨C, 0, none⟩), .int .i64 (-1), .int .i64 1]) (v := .int .i64 2) (s := ks0) (z := SwS.new) (s' := ks0) (z' := SwS.new) (fun ow L oz M hL hb hc ht => by
      have h := SwOpenC hL (kx0 ok0).1.ok (Nat.le_of_ble_eq_true (by kernel_rfl)) (c := -1) (by unfold I63; decide) 1
      rw [ko3, hc] at h
      exact h) (.inl (by kernel_rfl)) K)
  have S1 := Lib.hid (fun (W w0 : World) (B C t : Nat) (K : KZ w0 W B C 0 t ks0 SwS.new) => KZ.call (F := 25) (args := #[.pointer (some ⟨C, 0, none⟩), .int .i64 0]) (v := .tuple #[.int .i64 0, .int .i64 14]) (s := ks0) (z := SwS.new) (s' := ks0) (z' := SwS.new) (fun ow L oz M hL hb hc ht => by
      have h := SwStepX hL (kx0 ok0).2 (by decide) (kx0 ok0).1 (c := 0) (by unfold I63; decide)
      rw [kt1, hc] at h
      exact h) (.inl (by kernel_rfl)) K)
  have B1 := Lib.hid (fun (W w0 : World) (B C t : Nat) (K : KZ w0 W B C 0 t ks0 SwS.new) => KZ.call (F := 28) (args := #[.pointer (some ⟨C, 0, none⟩), .int .i64 0]) (v := .int .i64 14) (s := ks0) (z := SwS.new) (s' := ks0) (z' := SwS.new) (fun ow L oz M hL hb hc ht => by
      have h := SwAbort hL (kx0 ok0).1.ok (c := 0) (by unfold I63; decide)
      rw [ka1, hc] at h
      exact h) (.inl (by kernel_rfl)) K)
  have B2 := Lib.hid (fun (W w0 : World) (B C t : Nat) (K : KZ w0 W B C 0 t ks0 SwS.new) => KZ.call (F := 28) (args := #[.pointer (some ⟨C, 0, none⟩), .int .i64 7]) (v := .int .i64 2) (s := ks0) (z := SwS.new) (s' := ks0) (z' := SwS.new) (fun ow L oz M hL hb hc ht => by
      have h := SwAbort hL (kx0 ok0).1.ok (c := 7) (by unfold I63; decide)
      rw [ka2, hc] at h
      exact h) (.inl (by kernel_rfl)) K)
  have T1 := Lib.hid (fun (W w0 : World) (B C t : Nat) (K : KZ w0 W B C 0 t ks0 SwS.new) => KZ.same (F := 22) (args := #[.pointer (some ⟨C, 0, none⟩), .int .i64 0]) (v := .tuple #[.pointer none, .int .i64 14]) (fun ow L oz M hL hb hc ht => by
      have h := SwTry hL (c := 0) (by unfold I63; decide)
      rw [if_pos kin0, if_pos (show SwS.new.lst 0 < 0 by decide), hc] at h
      exact h) K)
  have O4 := Lib.hid (fun (W w0 : World) (B C t : Nat) (K : KZ w0 W B C 0 t ks0 SwS.new) => KZ.opened (F := 21) (args := #[.pointer (some ⟨C, 0, none⟩), .int .i64 0, .int .i64 1]) (v := .int .i64 0) (s := ks0) (z := SwS.new) (s' := ks0) (z' := kz1) (fun ow L oz M hL hb hc => by
      have h := SwOpenC hL (kx0 ok0).1.ok (Nat.le_of_ble_eq_true (by kernel_rfl)) (c := 0) (by unfold I63; decide) 1
      rw [ko4, hc] at h
      exact h) K)
  have O5 := Lib.hid (fun (W w0 : World) (B C t : Nat) (K : KZ w0 W B C 0 t ks0 kz1) => KZ.call (F := 21) (args := #[.pointer (some ⟨C, 0, none⟩), .int .i64 0, .int .i64 2]) (v := .int .i64 15) (s := ks0) (z := kz1) (s' := ks0) (z' := kz1) (fun ow L oz M hL hb hc ht => by
      have h := SwOpenC hL (kx1 ok0).1.ok (Nat.le_of_ble_eq_true (by kernel_rfl)) (c := 0) (by unfold I63; decide) 2
      rw [ko5, hc] at h
      exact h) (.inl (by kernel_rfl)) K)
  have S2 := Lib.hid (fun (W w0 : World) (B C t : Nat) (K : KZ w0 W B C 0 t ks0 kz1) => KZ.call (F := 25) (args := #[.pointer (some ⟨C, 0, none⟩), .int .i64 0]) (v := .tuple #[.int .i64 1, .int .i64 0]) (s := ks0) (z := kz1) (s' := ks1) (z' := kz2) (fun ow L oz M hL hb hc ht => by
      have h := SwStepX hL (kx1 ok0).2 (by decide) (kx1 ok0).1 (c := 0) (by unfold I63; decide)
      rw [kt2, hc] at h
      exact h) (.inl (by kernel_rfl)) K)
  have T2 := Lib.hid (fun (W w0 : World) (B C t : Nat) (K : KZ w0 W B C 0 t ks1 kz2) => KZ.same (F := 22) (args := #[.pointer (some ⟨C, 0, none⟩), .int .i64 0]) (v := .tuple #[.pointer (some ⟨t, 0, none⟩), .int .i64 0]) (fun ow L oz M hL hb hc ht => by
      have h := SwTry hL (c := 0) (by unfold I63; decide)
      rw [if_pos kin1, if_neg klst2.1, show (kz2.lst 0).toNat = 0 from klst2.2, ht (Nat.lt_of_lt_of_le (Nat.lt_succ_self _) (Nat.le_of_ble_eq_true (by kernel_rfl))), hc] at h
      exact h) K)
  have B3 := Lib.hid (fun (W w0 : World) (B C t : Nat) (K : KZ w0 W B C 0 t ks1 kz2) => KZ.call (F := 28) (args := #[.pointer (some ⟨C, 0, none⟩), .int .i64 0]) (v := .int .i64 0) (s := ks1) (z := kz2) (s' := ks1) (z' := kz3) (fun ow L oz M hL hb hc ht => by
      have h := SwAbort hL (kx2 ok0).1.ok (c := 0) (by unfold I63; decide)
      rw [ka3, hc] at h
      exact h) (.inl (by kernel_rfl)) K)
  have B4 := Lib.hid (fun (W w0 : World) (B C t : Nat) (K : KZ w0 W B C 0 t ks1 kz3) => KZ.call (F := 28) (args := #[.pointer (some ⟨C, 0, none⟩), .int .i64 0]) (v := .int .i64 14) (s := ks1) (z := kz3) (s' := ks1) (z' := kz3) (fun ow L oz M hL hb hc ht => by
      have h := SwAbort hL (kx3 ok0).1.ok (c := 0) (by unfold I63; decide)
      rw [ka4, hc] at h
      exact h) (.inl (by kernel_rfl)) K)
  have S3 := Lib.hid (fun (W w0 : World) (B C t : Nat) (K : KZ w0 W B C 0 t ks1 kz3) => KZ.call (F := 25) (args := #[.pointer (some ⟨C, 0, none⟩), .int .i64 0]) (v := .tuple #[.int .i64 6, .int .i64 13]) (s := ks1) (z := kz3) (s' := ks2) (z' := kz4) (fun ow L oz M hL hb hc ht => by
      have h := SwStepX hL (kx3 ok0).2 (by decide) (kx3 ok0).1 (c := 0) (by unfold I63; decide)
      rw [kt3, hc] at h
      exact h) (.inl (by kernel_rfl)) K)
  have L1 := Lib.hid (fun (W w0 : World) (B C t : Nat) (K : KZ w0 W B C 0 t ks2 kz4) => KZ.call (F := 13) (args := #[.pointer (some ⟨C, 0, none⟩), .int .i64 0, .int .i64 2]) (v := .tuple #[.bool true, .int .i64 0]) (s := ks2) (z := kz4) (s' := ks3) (z' := kz5) (fun ow L oz M hL hb hc ht => by
      have h := SwAll hL (kx4 ok0).1.ok (kx4 ok0).2 (by decide) (Nat.le_of_ble_eq_true (by kernel_rfl)) (c := 0) (by unfold I63; decide) 2
      rw [kl1, hc] at h
      exact h) (.inr (Nat.lt_of_lt_of_le (Nat.lt_succ_self _) (Nat.le_of_ble_eq_true (by kernel_rfl)))) K)
  have L2 := Lib.hid (fun (W w0 : World) (B C t : Nat) (K : KZ w0 W B C 0 t ks3 kz5) => KZ.call (F := 13) (args := #[.pointer (some ⟨C, 0, none⟩), .int .i64 1, .int .i64 2]) (v := .tuple #[.bool true, .int .i64 0]) (s := ks3) (z := kz5) (s' := ks4) (z' := kz6) (fun ow L oz M hL hb hc ht => by
      have h := SwAll hL (kx5 ok0).1.ok (kx5 ok0).2 (by decide) (Nat.le_of_ble_eq_true (by kernel_rfl)) (c := 1) (by unfold I63; decide) 2
      rw [kl2, hc] at h
      exact h) (.inr (Nat.lt_of_lt_of_le (Nat.lt_succ_self _) (Nat.le_of_ble_eq_true (by kernel_rfl)))) K)
  have C1 := Lib.hid (fun (W w0 : World) (B C t : Nat) (K : KZ w0 W B C 0 t ks4 kz6) => KZ.same (F := 16) (args := #[.pointer (some ⟨C, 0, none⟩)]) (v := .tuple #[.int .i64 2, .int .i64 1]) (fun ow L oz M hL hb hc ht => by
      have h := SwCounts hL (Nat.le_of_ble_eq_true (by kernel_rfl))
      rw [kc1.1, kc1.2, hc] at h
      exact h) K)
  have O6 := Lib.hid (fun (W w0 : World) (B C t : Nat) (K : KZ w0 W B C 0 t ks4 kz6) => KZ.call (F := 21) (args := #[.pointer (some ⟨C, 0, none⟩), .int .i64 1, .int .i64 0]) (v := .int .i64 0) (s := ks4) (z := kz6) (s' := ks4) (z' := kz7) (fun ow L oz M hL hb hc ht => by
      have h := SwOpenC hL (kx6 ok0).1.ok (Nat.le_of_ble_eq_true (by kernel_rfl)) (c := 1) (by unfold I63; decide) 0
      rw [ko6, hc] at h
      exact h) (.inr (Nat.lt_of_lt_of_le (Nat.lt_succ_self _) (Nat.le_of_ble_eq_true (by kernel_rfl)))) K)
  have S4 := Lib.hid (fun (W w0 : World) (B C t : Nat) (K : KZ w0 W B C 0 t ks4 kz7) => KZ.call (F := 25) (args := #[.pointer (some ⟨C, 0, none⟩), .int .i64 1]) (v := .tuple #[.int .i64 1, .int .i64 0]) (s := ks4) (z := kz7) (s' := ks5) (z' := kz8) (fun ow L oz M hL hb hc ht => by
      have h := SwStepX hL (kx7 ok0).2 (by decide) (kx7 ok0).1 (c := 1) (by unfold I63; decide)
      rw [kt4, hc] at h
      exact h) (.inl (by kernel_rfl)) K)
  have R1 := Lib.hid (fun (W w0 : World) (B C t : Nat) (K : KZ w0 W B C 0 t ks5 kz8) => KZ.call (F := 26) (args := #[.pointer (some ⟨B, 0, none⟩), .int .i64 1]) (v := .tuple #[.int .i64 (ks5.run 1).2.1, .int .i64 (ks5.run 1).2.2]) (s := ks5) (z := kz8) (s' := ks6) (z' := kz8) (fun ow L oz M hL hb hc ht => by
      have h := YRun hL.sys (kx8 ok0).2 (by decide) 1
      rw [krun fr0, hb] at h
      exact h.mono fun e w' ⟨a, b⟩ => ⟨a, hL.sysSw b⟩) (.inl (by kernel_rfl)) K)
  have S5 := Lib.hid (fun (W w0 : World) (B C t : Nat) (K : KZ w0 W B C 0 t ks6 kz8) => KZ.call (F := 25) (args := #[.pointer (some ⟨C, 0, none⟩), .int .i64 1]) (v := .tuple #[.int .i64 6, .int .i64 12]) (s := ks6) (z := kz8) (s' := ks7) (z' := kz9) (fun ow L oz M hL hb hc ht => by
      have h := SwStepX hL (kx8r ok0 fr0).2 (by decide) (kx8r ok0 fr0).1 (c := 1) (by unfold I63; decide)
      rw [kt5, hc] at h
      exact h) (.inl (by kernel_rfl)) K)
  have C2 := Lib.hid (fun (W w0 : World) (B C t : Nat) (K : KZ w0 W B C 0 t ks7 kz9) => KZ.same (F := 16) (args := #[.pointer (some ⟨C, 0, none⟩)]) (v := .tuple #[.int .i64 2, .int .i64 2]) (fun ow L oz M hL hb hc ht => by
      have h := SwCounts hL (Nat.le_of_ble_eq_true (by kernel_rfl))
      rw [kc2.1, kc2.2, hc] at h
      exact h) K)
  clear ok0 fr0
  go_enter Tryz.func8, Tryz.ntmps8
  go_wp2_with (first
    | (go_at_call 11; refine (HA.out _).mono ?_; rintro e w1 ⟨rfl, hb1⟩; have Hb1 := Lib.hid hb1; clear hb1)
    | (go_at_call 27; refine (HNil.out _).mono ?_; rintro e w2 ⟨rfl, rfl⟩)
    | (go_at_call 12; refine (HM.out _ _ _ ((sl2k w1 0 2 _).below ((Below.refl _ _).alloc (Nat.le_refl _) _)) (sl3a w1 _ 1 2 3 _)).mono ?_
       rintro e w2 ⟨-, ow, L, oz, M, s, rfl, h2, -, -, -, hmf⟩
       obtain rfl : s = ks0 := hmf.trans (by unfold ks0; rfl)
       have k : KZ _ w2 L.b M.b 0 0 ks0 SwS.new := ⟨ow, L, oz, M, rfl, rfl, fun h => absurd h (by decide), h2⟩
       have K0 := Lib.hid k
       clear h2 k)
    | (go_at_call 21; refine (O1.out _ _ _ _ _ K0.out).mono ?_; rintro e w2 ⟨rfl, k⟩; have K1 := Lib.hid k; clear k K0)
    | (go_at_call 21; refine (O2.out _ _ _ _ _ K1.out).mono ?_; rintro e w2 ⟨rfl, k⟩; have K2 := Lib.hid k; clear k K1)
    | (go_at_call 21; refine (O3.out _ _ _ _ _ K2.out).mono ?_; rintro e w2 ⟨rfl, k⟩; have K3 := Lib.hid k; clear k K2)
    | (go_at_call 25; refine (S1.out _ _ _ _ _ K3.out).mono ?_; rintro e w2 ⟨rfl, k⟩; have K4 := Lib.hid k; clear k K3)
    | (go_at_call 28; refine (B1.out _ _ _ _ _ K4.out).mono ?_; rintro e w2 ⟨rfl, k⟩; have K5 := Lib.hid k; clear k K4)
    | (go_at_call 28; refine (B2.out _ _ _ _ _ K5.out).mono ?_; rintro e w2 ⟨rfl, k⟩; have K6 := Lib.hid k; clear k K5)
    | (go_at_call 22; refine (T1.out _ _ _ _ _ K6.out).mono ?_; rintro e w2 ⟨rfl, k, -⟩; have K7 := Lib.hid k; clear k K6)
    | (go_at_call 21; refine (O4.out _ _ _ _ _ K7.out).mono ?_; rintro e w2 ⟨rfl, t, k⟩; have K8 := Lib.hid k; clear k K7)
    | (go_at_call 21; refine (O5.out _ _ _ _ _ K8.out).mono ?_; rintro e w2 ⟨rfl, k⟩; have K9 := Lib.hid k; clear k K8)
    | (go_at_call 25; refine (S2.out _ _ _ _ _ K9.out).mono ?_; rintro e w2 ⟨rfl, k⟩; have K10 := Lib.hid k; clear k K9)
    | (go_at_call 22; refine (T2.out _ _ _ _ _ K10.out).mono ?_; rintro e w2 ⟨rfl, k, -⟩; have K11 := Lib.hid k; clear k K10)
    | (go_at_call 28; refine (B3.out _ _ _ _ _ K11.out).mono ?_; rintro e w2 ⟨rfl, k⟩; have K12 := Lib.hid k; clear k K11)
    | (go_at_call 28; refine (B4.out _ _ _ _ _ K12.out).mono ?_; rintro e w2 ⟨rfl, k⟩; have K13 := Lib.hid k; clear k K12)
    | (go_at_call 25; refine (S3.out _ _ _ _ _ K13.out).mono ?_; rintro e w2 ⟨rfl, k⟩; have K14 := Lib.hid k; clear k K13)
    | (go_at_call 13; refine (L1.out _ _ _ _ _ K14.out).mono ?_; rintro e w2 ⟨rfl, k⟩; have K15 := Lib.hid k; clear k K14)
    | (go_at_call 13; refine (L2.out _ _ _ _ _ K15.out).mono ?_; rintro e w2 ⟨rfl, k⟩; have K16 := Lib.hid k; clear k K15)
    | (go_at_call 16; refine (C1.out _ _ _ _ _ K16.out).mono ?_; rintro e w2 ⟨rfl, k, -⟩; have K17 := Lib.hid k; clear k K16)
    | (go_at_call 21; refine (O6.out _ _ _ _ _ K17.out).mono ?_; rintro e w2 ⟨rfl, k⟩; have K18 := Lib.hid k; clear k K17)
    | (go_at_call 25; refine (S4.out _ _ _ _ _ K18.out).mono ?_; rintro e w2 ⟨rfl, k⟩; have K19 := Lib.hid k; clear k K18)
    | (go_at_call 26; refine (R1.out _ _ _ _ _ K19.out).mono ?_; rintro e w2 ⟨rfl, k⟩; have K20 := Lib.hid k; clear k K19)
    | (go_at_call 25; refine (S5.out _ _ _ _ _ K20.out).mono ?_; rintro e w2 ⟨rfl, k⟩; have K21 := Lib.hid k; clear k K20)
    | (go_at_call 16; refine (C2.out _ _ _ _ _ K21.out).mono ?_; rintro e w2 ⟨rfl, k, -⟩; have K22 := Lib.hid k; clear k K21)
    | (go_at_call 29
       obtain ⟨x, hx, hx6⟩ := kst9
       obtain ⟨G, bl, htr⟩ := K22.out.tryat hx
       have hst := StStage htr
       rw [hx6] at hst
       refine hst.mono ?_; rintro e w3 ⟨rfl, rfl⟩
       clear hx hx6 htr hst)
    )
  go_ret
  have hb1 := (Hb1.out.alloc Hb1.out.size (.cells #[.int .i64 0, .int .i64 2] 3)).alloc (by simp; have := Hb1.out.size; omega) (.cells #[.int .i64 1, .int .i64 2, .int .i64 3] 3)
  exact ⟨rfl, hb1.trans (K22.out.old.mono hb1.size)⟩
end Go.Proofs.YtlgkkolgdjgclaaGreat
