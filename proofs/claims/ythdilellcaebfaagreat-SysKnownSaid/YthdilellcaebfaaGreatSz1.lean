/- A system's methods: End, Weigh. -/
import Derived.Test.YthdilellcaebfaaGreatSy2
import Derived.Test.YthdilellcaebfaaGreatRf
import Derived.Test.YthdilellcaebfaaGreatFind
import Derived.Deep.AppendLies
import Derived.OwnWalkIn
namespace Go.Proofs.YthdilellcaebfaaGreat
open Go.RowKit Go.Shelf
set_option linter.unusedVariables false
set_option linter.unusedSimpArgs false

namespace SysS
variable {s : SysS} {t : Tk} {id : Int}
theorem find_delT (h : s.find id = some t) (j : Int) : (s.delT id).find j = if j = id then none else s.find j := by
  obtain ⟨h0, h1, n, hs⟩ := find_slot h
  unfold find
  by_cases e : j = id
  · subst e
    rw [if_pos rfl]
    split
    · rfl
    · simp only [delT, List.getElem?_modify, if_pos, hs, Option.map_eq_map, Option.map_some]
  · rw [if_neg e]
    split
    · rfl
    · simp only [delT, List.getElem?_modify]
      by_cases e2 : (id % 64).toNat = (j % 64).toNat
      · rw [e2] at hs ⊢
        simp only [hs, if_pos, Option.map_eq_map, Option.map_some]
        rw [if_neg (by rw [h1]; exact fun h => e h.symm)]
      · simp [e2]
theorem plcs_delT {n : Int} (hs : s.slots[(id % 64).toNat]? = some ⟨n, some t⟩) : (s.delT id).plcs = s.plcs.set (id % 64).toNat ⟨n, false⟩ := by
  unfold plcs delT
  refine List.ext_getElem? fun k => ?_
  simp only [List.getElem?_map, List.getElem?_modify, List.getElem?_set, List.length_map]
  by_cases e : (id % 64).toNat = k
  · subst e
    rw [if_pos rfl, if_pos (List.getElem?_eq_some_iff.1 hs).1]
    simp [hs]
  · simp [e]
theorem plcs_at {i : Nat} {x : Slo} (h : s.slots[i]? = some x) : s.plcs[i]? = some ⟨x.turn, x.task.isSome⟩ := by unfold plcs; rw [List.getElem?_map, h]; rfl
theorem has_of_find {n : Int} (h0 : 0 ≤ id) (hs : s.slots[(id % 64).toNat]? = some ⟨n, some t⟩) (he : n - 1 = id / 64) : hasS s.plcs id = true := by
  unfold hasS
  rw [plcs_at hs]
  simp [h0, he]
end SysS
section
variable {w0 w : World} {ow : Nat → Option Own} {L : Lay} {s : SysS} {T : Nat}
theorem fmap_delT {id : Int} {t : Tk} (h : s.find id = some t) : fmap L (s.delT id) = updP (fmap L s) id (-1) := by
  funext j
  unfold fmap updP
  rw [SysS.find_delT h]
  by_cases e : j = id
  · rw [if_pos e, if_pos e]
  · rw [if_neg e, if_neg e]
theorem SysIn.delT {w1 w2 : World} (h : SysIn w0 w ow L s) {id n : Int} {t : Tk} (ht : s.find id = some t) (hsl : s.slots[(id % 64).toNat]? = some ⟨n, some t⟩) (hm : MapP w1 L.mp L.mn (updP (fmap L s) id (-1))) (hf1 : Fr (fun k => k = L.mp) w w1)
    (hs : SltM w2 L.sl L.pl (s.plcs.set (id % 64).toNat ⟨n, false⟩)) (hf2 : Fr (fun k => k = L.pl) w1 w2) : SysIn w0 w2 ow L (s.delT id) := by
  have hf : Fr (fun k => k = L.mp ∨ k = L.pl) w w2 := (hf1.mono fun k _ e => .inl e).trans (hf2.mono (G := fun k => k = L.mp ∨ k = L.pl) fun k _ e => .inr e) (fun _ _ h => h)
  have n : ∀ {k x}, ow k = some x → x ≠ .map → x ≠ .plc → ¬ (k = L.mp ∨ k = L.pl) := fun hk h1 h2 e => by
    rcases e with rfl | rfl
    · rw [h.oM] at hk; simp only [Option.some.injEq] at hk; exact h1 hk.symm
    · rw [h.oP] at hk; simp only [Option.some.injEq] at hk; exact h2 hk.symm
  have hne : ¬ (L.mp = L.pl) := fun e => by have := h.oM; rw [e, h.oP] at this; cases this
  have hG : ∀ k, (k = L.mp ∨ k = L.pl) → w0.heap.size ≤ k := fun k e => by rcases e with rfl | rfl; exact (h.lt _ _ h.oM).1; exact (h.lt _ _ h.oP).1
  refine ⟨?_, h.arr.fr hf fun p hp => n (h.oA p hp) (fun e => by cases e) (fun e => by cases e), h.grp.fr hf (n h.oG (fun e => by cases e) (fun e => by cases e)), ?_, ?_, fun j u hu => ?_, fun i c hc => ?_, h.cbl, h.oT, h.oA, h.oG, h.oS, h.oP, h.oM, fun k x hk => ?_, h.old.trans (hf.below h.old.size hG)⟩
  · rw [topCells_eq (s := s) (s' := s.delT id) rfl rfl]; exact heap_fr h.top hf (n h.oT (fun e => by cases e) (fun e => by cases e))
  · rw [SysS.plcs_delT hsl]; exact hs
  · rw [fmap_delT ht]; exact hm.fr hf2 hne
  · rw [SysS.find_delT ht] at hu
    split at hu
    · cases hu
    · obtain ⟨h1, h2⟩ := h.tsk j u hu
      exact ⟨heap_fr h1 hf (n h2 (fun e => by cases e) (fun e => by cases e)), h2⟩
  · obtain ⟨bl, F, p, q, r, h1, h2, h3⟩ := h.cor i c hc
    exact ⟨bl, F, p, q, r, h1, h2.fr hf (fun k hk => n (h3 k hk) (fun e => by cases e) (fun e => by cases e)) hG, h3⟩
  · have := h.lt k x hk
    have := hf.size
    omega
theorem SysS.leaveT_slot {t : Tk} (h : s.find t.id = some t) {n : Int} (hs : s.slots[(t.id % 64).toNat]? = some ⟨n, some t⟩) : (s.leaveT t).1.slots[(t.id % 64).toNat]? = some ⟨n, some (s.leaveT t).2⟩ := by
  unfold SysS.leaveT
  split
  · simp only [SysS.setT, SysS.setC, List.getElem?_modify, if_pos, hs, Option.map_eq_map, Option.map_some]
  · exact hs
set_option maxHeartbeats 3200000 in
set_option maxRecDepth 100000 in
theorem YEnd (h : SysIn w0 w ow L s) (hk : SysOk T s) (hT : T ≤ 10000000) {id : Int} (hi : I63 id) :
    Calls Tryz.prog 17 #[.pointer (some ⟨L.b, 0, none⟩), .int .i64 id] w fun e w' => e = .returned (.int .i64 (s.endT id).2) ∧ SysTo w0 w ow L (s.endT id).1 w' := by
  cases hf : s.find id with
  | none =>
    have e1 : s.endT id = (s, 2) := by unfold SysS.endT; rw [hf]
    rw [e1]
    have HF := Lib.hid (YFind_none h hi hf 8)
    have H := Lib.hid h
    clear h hk hi hf e1
    go_enter Tryz.func17, Tryz.ntmps17
    go_wp2_with (go_at_call 44; refine HF.out.mono ?_; rintro e w1 ⟨rfl, rfl⟩)
    go_ret
    exact ⟨rfl, H.out.same (Below.refl _ _)⟩
  | some t =>
    obtain ⟨hok, hid, hi0, hi1⟩ := hk.tk hf
    subst hid
    have HF := Lib.hid (YFind h hi hf hok.st (act := 8) (.inr (.inr (.inr (.inr (.inr rfl))))))
    have H := Lib.hid h
    have e1 : s.endT t.id = ((s.leaveT t).1.delT t.id, 0) := by unfold SysS.endT; rw [hf]
    rw [e1]
    have e2 : (nextL t.st 8).2 = 0 := by rcases hok.st with h | h | h | h <;> rw [h] <;> decide
    rw [e2] at HF
    have HL := Lib.hid (YLeaveA h hk hT hf)
    obtain ⟨-, -, n, hsl⟩ := SysS.find_slot hf
    obtain ⟨hid2, hn1, -⟩ := hk.slot _ n t hsl
    have hk64 : (t.id % 64).toNat < 64 := by omega
    have HS := Lib.hid (SysS.leaveT_slot hf hsl)
    have HI := Lib.hid (SysS.leaveT_is hf).1
    have hdiv : n - 1 = t.id / 64 := by omega
    have Hdiv := Lib.hid hdiv
    have Hi := Lib.hid hi
    clear h hk hi hf e1 e2 hok hsl hid2 hdiv
    generalize (s.leaveT t).1 = s2 at HL HS HI ⊢
    generalize (s.leaveT t).2 = t2 at HS HI
    go_enter Tryz.func17, Tryz.ntmps17
    go_wp2_with (first
      | (go_at_call 44; refine HF.out.mono ?_; rintro e w1 ⟨rfl, rfl⟩)
      | (go_at_call 54; refine HL.out.mono ?_; rintro e w2 ⟨⟨v, rfl⟩, ow2, h2, hf2, hs2⟩
         obtain ⟨⟨q0, q1, q2, q3⟩, ⟨z0, z1, z2, z3⟩, hlt⟩ := h2.tops
         have H2 := Lib.hid h2; have Hf2 := Lib.hid hf2; have Hs2 := Lib.hid hs2; clear h2 hf2 hs2)
      | (refine wpList_delP _ rfl _ _ rfl L.mp L.mn _ rfl H2.out.map t.id rfl Hi.out ?_; intro w3 hm3 hf3
         have hne : L.b ≠ L.mp := fun e => by have h1 := H2.out.oT; rw [e, H2.out.oM] at h1; cases h1
         have hne2 : ¬ L.sl = L.mp := fun e => by have h1 := H2.out.oS; rw [e, H2.out.oM] at h1; cases h1
         have hne3 : ¬ L.pl = L.mp := fun e => by have h1 := H2.out.oP; rw [e, H2.out.oM] at h1; cases h1
         have y0 := heap_fr H2.out.top hf3 hne
         obtain ⟨b2, c2⟩ := cells_get y0 (i := 66) (by simpa using (top_at L s2).2.2.1)
         have hlt3 := Nat.lt_of_lt_of_le hlt hf3.size
         have HSl := Lib.hid (SFree (H2.out.slt.fr hf3 hne2 hne3) t.id Hi.out.2 (SysS.has_of_find hi0 HS.out Hdiv.out) (SysS.plcs_at HS.out))
         have Hm3 := Lib.hid hm3
         have Hf3 := Lib.hid hf3
         clear hm3 hf3 y0)
      | (go_at_call 57; refine HSl.out.mono ?_; rintro e w4 ⟨rfl, hs4, hf4⟩; have Hs4 := Lib.hid hs4; have Hf4 := Lib.hid hf4; clear hs4 hf4))
    go_ret
    refine ⟨rfl, SysTo.trans Hs2.out Hf2.out ?_⟩
    have h5 := H2.out.delT HI.out HS.out Hm3.out Hf3.out Hs4.out Hf4.out
    refine H2.out.to h5 ((Hf3.out.mono fun k _ e => ?_).trans (Hf4.out.mono (G := fun k => ow2 k ≠ none) fun k _ e => ?_) fun _ _ h => h)
    · subst e; rw [H2.out.oM]; simp
    · subst e; rw [H2.out.oP]; simp
end
end Go.Proofs.YthdilellcaebfaaGreat
/- A system's methods: Weigh, Move. -/
namespace Go.Proofs.YthdilellcaebfaaGreat
open Go.RowKit Go.Shelf
set_option linter.unusedVariables false
set_option linter.unusedSimpArgs false

theorem hasM_lt {m d : Int} {n : Nat} (hg : goodM m n = true) (hh : hasM m d = true) : 0 ≤ d ∧ d < n := by
  simp only [goodM, hasM, decide_eq_true_eq] at hg hh
  obtain ⟨g1, g2, g3, g4⟩ := hg
  obtain ⟨h1, h2, h3⟩ := hh
  refine ⟨h1, Classical.byContradiction fun hn => ?_⟩
  rw [Int.toNat_natCast] at g4
  have e : d.toNat = n + (d.toNat - n) := by omega
  rw [e, Int.pow_add, ← Int.ediv_ediv_of_nonneg (Int.le_of_lt (Int.pow_pos (by decide))), g4] at h3
  simp at h3
theorem SysS.leaveT_cores {s : SysS} {t : Tk} {i : Nat} (h : i ≠ t.core.toNat) : (s.leaveT t).1.cores[i]? = s.cores[i]? := by
  unfold SysS.leaveT
  split
  · simp only [SysS.setT, SysS.setC, List.getElem?_set, if_neg (Ne.symm h)]
  · rfl
theorem SysS.leaveT_len {s : SysS} {t : Tk} : (s.leaveT t).1.cores.length = s.cores.length := by
  unfold SysS.leaveT
  split
  · simp [SysS.setT, SysS.setC]
  · rfl
section
variable {w0 w : World} {ow : Nat → Option Own} {L : Lay} {s : SysS} {T : Nat}
set_option maxHeartbeats 3200000 in
set_option maxRecDepth 100000 in
theorem YWeigh (h : SysIn w0 w ow L s) (hk : SysOk T s) (hT : T ≤ 10000000) {id wt : Int} (hi : I63 id) :
    Calls Tryz.prog 72 #[.pointer (some ⟨L.b, 0, none⟩), .int .i64 id, .int .i64 wt] w fun e w' => e = .returned (.int .i64 (s.weigh id wt).2) ∧ SysTo w0 w ow L (s.weigh id wt).1 w' := by
  obtain ⟨⟨q0, q1, q2, q3⟩, ⟨z0, z1, z2, z3⟩, hlt⟩ := h.tops
  have H := Lib.hid h
  cases hf : s.find id with
  | none =>
    have e1 : s.weigh id wt = (s, 2) := by unfold SysS.weigh; rw [hf]
    rw [e1]
    have hlk := h.look_none hi hf
    clear h hk hi hf e1
    go_enter Tryz.func72, Tryz.ntmps72
    go_wp2
    go_ret
    exact ⟨rfl, H.out.same (Below.refl _ _)⟩
  | some t =>
    obtain ⟨hok, hid, hi0, hi1⟩ := hk.tk hf
    subst hid
    have hlk := h.look hi hf
    have HW := Lib.hid (fun W => WGood_any wt W)
    by_cases hw : 1 ≤ wt ∧ wt ≤ 20
    · have e2 : decide (1 ≤ wt ∧ wt ≤ 20) = true := decide_eq_true hw
      rw [e2] at HW
      have HT := Lib.hid hf
      obtain ⟨⟨c0, c1, c2, c3, c4, c5, c6⟩, ⟨f0, f1, f2, f3, f4, f5, f6⟩, hkl⟩ := TkAt.cells (h.tsk _ t hf).1
      by_cases h2 : t.st = 2
      · obtain ⟨c, j, x, hc, hce, hcf, hat, hxw⟩ := hk.inq hf h2
        obtain ⟨l0, l1⟩ := hok.old (by omega)
        have e1 : s.weigh t.id wt = ((s.setC t.core.toNat (c.weigh t.id wt)).setT { t with w := wt }, 0) := by unfold SysS.weigh; rw [hf]; simp only; rw [if_pos hw, if_pos h2, hce]
        rw [e1]
        obtain ⟨k, hkc⟩ : ∃ k : Nat, t.core = k := ⟨t.core.toNat, by omega⟩
        have hk0 : (0 : Int) ≤ k := by omega
        have hkt : t.core.toNat = k := by omega
        rw [hkc] at c3
        rw [hkt] at hc ⊢
        obtain ⟨bl, F, p, q, r, hbl, hcst, how⟩ := h.cor k c hc
        obtain ⟨ra, off, har, hral, e0⟩ := h.arrc hbl
        have hkn : (k : Int) < s.cores.length := by omega
        obtain ⟨S', y, hx⟩ : ∃ S' y, weighR c.q t.id wt = (S', y) := ⟨_, _, rfl⟩
        have hy : y = 0 := by have := (hcf.q.weigh (by omega) hw hat).2.2.1; rw [hx] at this; exact this
        subst hy
        rw [h2] at c4
        rw [har] at q0
        have HC := Lib.hid (CorWeigh (w := w.drew) (hcst.below (Below.refl _ _).drew) (hcf.ok (by omega)) (by omega) t.id wt hx)
        have HO := Lib.hid how
        have HBL := Lib.hid hbl
        have HCk := Lib.hid hc
        generalize s.cores.length = n at q0 hkn
        clear hcst hbl hc hx h hf how hk har hce hcf hat hxw e1 e2 hi hok h2 l1 hkt
        go_enter Tryz.func72, Tryz.ntmps72
        go_wp2_with (go_at_call 40; refine (HW.out _).mono ?_; rintro e w1 ⟨rfl, rfl⟩)
        refine wp_region_chain 47 [0, 1, 3, 7, 0, 16, 48, 112, 255, 511, 0, 0, 4095, 8191] [(0, none), (1, none), (2, none), (3, none), (4, none), (5, none), (6, none), (7, none), (8, none), (9, none), (10, none), (11, none), (12, some []), (13, none)] (by kernel_rfl) (by kernel_rfl) (by rfl) ?_; simp only [chain, Obs, List.getElem?_toArray, List.getElem?_cons_zero, List.getElem?_cons_succ]
        go_wp2_with (first
          | (with_reducible refine And.intro (by first | with_reducible exact True.intro | with_reducible rfl | go_simp) ?_)
          | (go_at_call 116; refine HC.out.mono ?_; rintro e w1 ⟨rfl, hn⟩
             obtain ⟨ow1, h1, hf1, hs1⟩ := (H.out.below (Below.refl _ _).drew).setC HCk.out HBL.out HO.out hn
             have t1 : TkAt w1 (L.tb t.id) t := (h1.tsk _ t HT.out).1
             obtain ⟨⟨c0, c1, c2, c3, c4, c5, c6⟩, ⟨f0, f1, f2, f3, f4, f5, f6⟩, hkl⟩ := t1.cells
             have T1 := Lib.hid t1
             have H1 := Lib.hid h1
             have Hf1 := Lib.hid hf1
             have Hs1 := Lib.hid hs1
             clear hn h1 hf1 hs1 t1))
        refine NoPanic.normal ?_
        go_wp2_with fail
        go_ret
        exact ⟨rfl, SysTo.drew0 (SysTo.trans Hs1.out Hf1.out (H1.out.setCell (t := t) (t' := { t with w := wt }) HT.out rfl (TkAt.wgt T1.out wt)))⟩
      · have e1 : s.weigh t.id wt = (s.setT { t with w := wt }, 0) := by unfold SysS.weigh; rw [hf]; simp only; rw [if_pos hw, if_neg h2]
        rw [e1]
        have hb2 : (t.st == 2) = false := by simpa using h2
        have T1 := Lib.hid (show TkAt w (L.tb t.id) t from (h.tsk _ t hf).1)
        clear h hk hi hf e1 e2 hok h2
        go_enter Tryz.func72, Tryz.ntmps72
        go_wp2_with (go_at_call 40; refine (HW.out _).mono ?_; rintro e w1 ⟨rfl, rfl⟩)
        go_ret
        exact ⟨rfl, H.out.setCell (t := t) (t' := { t with w := wt }) HT.out rfl (TkAt.wgt T1.out wt)⟩
    · have e1 : s.weigh t.id wt = (s, 1) := by unfold SysS.weigh; rw [hf]; simp only; rw [if_neg hw]
      rw [e1]
      have e2 : decide (1 ≤ wt ∧ wt ≤ 20) = false := decide_eq_false hw
      rw [e2] at HW
      clear h hk hi hf e1 e2 hok hw
      go_enter Tryz.func72, Tryz.ntmps72
      go_wp2_with (go_at_call 40; refine (HW.out _).mono ?_; rintro e w1 ⟨rfl, rfl⟩)
      go_ret
      exact ⟨rfl, H.out.same (Below.refl _ _)⟩
set_option maxHeartbeats 3200000 in
set_option maxRecDepth 100000 in
theorem YMove (h : SysIn w0 w ow L s) (hk : SysOk T s) (hT : T ≤ 10000000) {id d : Int} (hi : I63 id) :
    Calls Tryz.prog 14 #[.pointer (some ⟨L.b, 0, none⟩), .int .i64 id, .int .i64 d] w fun e w' => e = .returned (.int .i64 (s.move id d).2) ∧ SysTo w0 w ow L (s.move id d).1 w' := by
  obtain ⟨⟨q0, q1, q2, q3⟩, ⟨z0, z1, z2, z3⟩, hlt⟩ := h.tops
  have H := Lib.hid h
  cases hf : s.find id with
  | none =>
    have e1 : s.move id d = (s, 2) := by unfold SysS.move; rw [hf]
    rw [e1]
    have hlk := h.look_none hi hf
    clear h hk hi hf e1
    go_enter Tryz.func14, Tryz.ntmps14
    go_wp2
    go_ret
    exact ⟨rfl, H.out.same (Below.refl _ _)⟩
  | some t =>
    obtain ⟨hok, hid, hi0, hi1⟩ := hk.tk hf
    subst hid
    have hlk := h.look hi hf
    have HT := Lib.hid hf
    have T0 : TkAt w (L.tb t.id) t := (h.tsk _ t hf).1
    have HOn := Lib.hid (YOn T0)
    have HHs := Lib.hid (fun W => MHas_any t.mask d W hok.m16)
    obtain ⟨⟨c0, c1, c2, c3, c4, c5, c6⟩, ⟨f0, f1, f2, f3, f4, f5, f6⟩, hkl⟩ := T0.cells
    by_cases hon : SysS.onT t
    · rw [decide_eq_true hon] at HOn
      cases hhs : hasM t.mask d with
      | false =>
        have e1 : s.move t.id d = (s, 5) := by unfold SysS.move; rw [hf]; simp only; rw [if_pos hon, if_neg (by rw [hhs]; decide)]
        rw [e1]
        rw [hhs] at HHs
        clear h hk hi hf e1 hok hon hhs T0
        go_enter Tryz.func14, Tryz.ntmps14
        go_wp2_with (first
          | (go_at_call 52; refine HOn.out.mono ?_; rintro e w1 ⟨rfl, rfl⟩)
          | (go_at_call 53; refine (HHs.out _).mono ?_; rintro e w1 ⟨rfl, rfl⟩))
        go_ret
        exact ⟨rfl, H.out.same (Below.refl _ _)⟩
      | true =>
        have e0 : s.move t.id d = (s.putT t d, 0) := by unfold SysS.move; rw [hf]; simp only; rw [if_pos hon, if_pos hhs]
        rw [e0]
        rw [hhs] at HHs
        by_cases hcd : t.core = d
        · have e1 : s.putT t d = s := by unfold SysS.putT; rw [if_pos hcd]
          rw [e1]
          subst hcd
          clear h hk hi hf e1 e0 hok hon hhs T0
          go_enter Tryz.func14, Tryz.ntmps14
          go_wp2_with (first
            | (go_at_call 52; refine HOn.out.mono ?_; rintro e w1 ⟨rfl, rfl⟩)
            | (go_at_call 53; refine (HHs.out _).mono ?_; rintro e w1 ⟨rfl, rfl⟩))
          go_ret
          exact ⟨rfl, H.out.same (Below.refl _ _)⟩
        · have hdc : (d == t.core) = false := by simpa using fun e => hcd e.symm
          by_cases h5 : t.st = 5
          · have e1 : s.putT t d = s.setT { t with core := d } := by unfold SysS.putT; rw [if_neg hcd, if_pos h5]
            rw [e1]
            rw [h5] at c4
            have T1 := Lib.hid T0
            clear h hk hi hf e1 e0 hok hon hhs T0 hcd h5
            go_enter Tryz.func14, Tryz.ntmps14
            go_wp2_with (first
              | (go_at_call 52; refine HOn.out.mono ?_; rintro e w1 ⟨rfl, rfl⟩)
              | (go_at_call 53; refine (HHs.out _).mono ?_; rintro e w1 ⟨rfl, rfl⟩))
            go_ret
            exact ⟨rfl, H.out.setCell (t := t) (t' := { t with core := d }) HT.out rfl (TkAt.core T1.out d)⟩
          · have h2 : t.st = 2 := hon.resolve_right h5
            have e1 : s.putT t d = ((s.leaveT t).1.setC d.toNat (((s.leaveT t).1.core d).enter t.id t.w (s.leaveT t).2.lag true)).setT { (s.leaveT t).2 with core := d } := by unfold SysS.putT; rw [if_neg hcd, if_neg h5]
            rw [e1]
            obtain ⟨d0, d1⟩ := hasM_lt hok.mask hhs
            obtain ⟨c, j, x, hc, hce, hcf, hat, hxw⟩ := hk.inq hf h2
            obtain ⟨l0, l1⟩ := hok.old (by omega)
            have hne : d.toNat ≠ t.core.toNat := by omega
            obtain ⟨c2, hc2, -, hcf2⟩ := hk.core ⟨d0, d1⟩
            have hni : ∀ y ∈ c2.q.l, y.id ≠ t.id := fun y hy e => by
              obtain ⟨u, hu, -, hu2, -⟩ := hk.rdy _ c2 hc2 y hy
              rw [e, hf] at hu
              simp only [Option.some.injEq] at hu
              subst hu
              omega
            have hlv := hcf.q.leave (by omega) hat
            have hlag : (s.leaveT t).2.lag = c.q.base - x.v := by
              unfold SysS.leaveT; rw [if_pos h2, hce]; simp only; rw [hlv.2.2.1]
            have hm := hk.mayE' hT hf hc2 hni hok.w (lag := (s.leaveT t).2.lag) (by rw [hlag]; exact hlv.2.2.2)
            have hc2' : (s.leaveT t).1.cores[d.toNat]? = some c2 := by rw [SysS.leaveT_cores hne]; exact hc2
            have hce2 : (s.leaveT t).1.core d = c2 := by unfold SysS.core; rw [List.getD_eq_getElem?_getD, hc2']; rfl
            rw [hce2]
            have HL := Lib.hid (YLeaveA h hk hT hf)
            obtain ⟨i1, i2, i3, i4, i5, i6, i7⟩ := SysS.leaveT_is hf
            have hlen := SysS.leaveT_len (s := s) (t := t)
            have HCF := Lib.hid hcf2
            generalize (s.leaveT t).1 = s2 at HL i1 hc2' hlen ⊢
            generalize (s.leaveT t).2 = t2 at i1 i2 i3 i4 i5 i6 i7 hm ⊢
            obtain ⟨k, hkd⟩ : ∃ k : Nat, d = k := ⟨d.toNat, by omega⟩
            subst hkd
            rw [Int.toNat_natCast] at hc2' ⊢
            have hk0 : (0 : Int) ≤ k := d0
            obtain ⟨n, hn⟩ : ∃ n, s.cores.length = n := ⟨_, rfl⟩
            have hkn : (k : Int) < n := by omega
            have HN := Lib.hid (show s2.cores.length = n by rw [hlen, hn])
            have HI1 := Lib.hid i1
            have HI2 := Lib.hid i2
            have HM := Lib.hid hm
            have HC2 := Lib.hid hc2'
            rw [h2] at c4
            have HW := Lib.hid i4
            have HTb : L.tb t2.id = L.tb t.id := by rw [i2]
            have HTB := Lib.hid HTb
            clear h hk hi hf e1 e0 hok hon hhs T0 hcd h5 h2 d0 d1 hc hce hcf hat hxw l0 l1 hne hc2 hcf2 hni hlv hlag hm hc2' hce2 i1 i2 i3 i4 i5 i6 i7 hlen hn HTb
            go_enter Tryz.func14, Tryz.ntmps14
            go_wp2_with (first
              | (go_at_call 52; refine HOn.out.mono ?_; rintro e w1 ⟨rfl, rfl⟩)
              | (go_at_call 53; refine (HHs.out _).mono ?_; rintro e w1 ⟨rfl, rfl⟩)
              | (go_at_call 54; refine HL.out.mono ?_; rintro e w2 ⟨⟨v, rfl⟩, ow2, h2, hf2, hs2⟩
                 obtain ⟨⟨q0, q1, q2, q3⟩, ⟨z0, z1, z2, z3⟩, hlt⟩ := h2.tops
                 have t2a : TkAt w2 (L.tb t.id) t2 := (h2.tsk _ _ HI1.out).1
                 obtain ⟨⟨c0, c1, c2', c3, c4, c5, c6⟩, ⟨f0, f1, f2, f3, f4, f5, f6⟩, hkl⟩ := t2a.cells
                 obtain ⟨bl, F, p, q, r, hbl, hcst, how⟩ := h2.cor k c2 HC2.out
                 obtain ⟨ra, off, har, hral, e0⟩ := h2.arrc hbl
                 rw [har, HN.out] at q0
                 rw [HW.out] at c1
                 have HC := Lib.hid (CorEnter (w := w2.drew) (hcst.below (Below.refl _ _).drew) (HCF.out.ok (by omega)) (by omega) (by decide) t.id t.w t2.lag true HM.out)
                 have HO := Lib.hid how
                 have HBL := Lib.hid hbl
                 have T2 := Lib.hid t2a
                 have H2 := Lib.hid h2; have Hf2 := Lib.hid hf2; have Hs2 := Lib.hid hs2; clear h2 hf2 hs2 t2a hbl hcst how har))
            refine wp_region_chain 93 [0, 1, 3, 7, 0, 31, 63, 0, 0, 256, 768, 1792, 0, 4096, 12288, 28672, 65535, 131071] [(0, none), (1, none), (2, none), (3, none), (4, none), (5, none), (6, none), (7, none), (8, none), (9, none), (10, none), (11, none), (12, none), (13, none), (14, none), (15, none), (16, some []), (17, none)] (by kernel_rfl) (by kernel_rfl) (by rfl) ?_; simp only [chain, Obs, List.getElem?_toArray, List.getElem?_cons_zero, List.getElem?_cons_succ]
            go_wp2_with (first
              | (with_reducible refine And.intro (by first | with_reducible exact True.intro | with_reducible rfl | go_simp) ?_)
              | (go_at_call 55; refine HC.out.mono ?_; rintro e w3 ⟨rfl, hn⟩
                 obtain ⟨ow3, h3, hf3, hs3⟩ := (H2.out.below (Below.refl _ _).drew).setC HC2.out HBL.out HO.out hn
                 have t3 : TkAt w3 (L.tb t.id) t2 := (h3.tsk _ t2 HI1.out).1
                 obtain ⟨⟨c0, c1, c2', c3, c4, c5, c6⟩, ⟨f0, f1, f2, f3, f4, f5, f6⟩, hkl⟩ := t3.cells
                 have T3 := Lib.hid t3
                 have H3 := Lib.hid h3
                 have Hf3 := Lib.hid hf3
                 have Hs3 := Lib.hid hs3
                 clear hn h3 hf3 hs3 t3))
            refine NoPanic.normal ?_
            go_wp2_with fail
            go_ret
            have h4 := H3.out.setCell (t := t2) (t' := { t2 with core := (k : Int) }) (j := 3) (v := .int .i64 k) (by rw [HI2.out]; exact HI1.out) rfl (by rw [HTB.out]; exact TkAt.core T3.out k)
            rw [HTB.out] at h4
            exact ⟨rfl, SysTo.trans Hs2.out Hf2.out (SysTo.drew0 (SysTo.trans Hs3.out Hf3.out h4))⟩
    · have e1 : s.move t.id d = (s, 4) := by unfold SysS.move; rw [hf]; simp only; rw [if_neg hon]
      rw [e1]
      rw [decide_eq_false hon] at HOn
      clear h hk hi hf e1 hok hon T0
      go_enter Tryz.func14, Tryz.ntmps14
      go_wp2_with (first
        | (go_at_call 52; refine HOn.out.mono ?_; rintro e w1 ⟨rfl, rfl⟩))
      go_ret
      exact ⟨rfl, H.out.same (Below.refl _ _)⟩
end
end Go.Proofs.YthdilellcaebfaaGreat
/- A system's methods: Task, Account, Group, Spawn. -/
namespace Go.Proofs.YthdilellcaebfaaGreat
open Go.RowKit Go.Shelf
set_option linter.unusedVariables false
set_option linter.unusedSimpArgs false

set_option maxHeartbeats 2000000 in
theorem set7_heap {b : Nat} {w1 : World} {u0 u1 u2 u3 u4 u5 u6 v0 v1 v2 v3 v4 v5 v6 : Value} {T : TypeId} {fr : Nat × Nat} (h : w1.heap[b]? = some (.cells #[u0, u1, u2, u3, u4, u5, u6] T fr)) : ((((((((w1.setCell ⟨b, 0, none⟩ v0).setCell ⟨b, 1, none⟩ v1).setCell ⟨b, 2, none⟩ v2).setCell ⟨b, 3, none⟩ v3).setCell ⟨b, 4, none⟩ v4).setCell ⟨b, 5, none⟩ v5).setCell ⟨b, 6, none⟩ v6)).heap[b]? = some (.cells #[v0, v1, v2, v3, v4, v5, v6] T fr) := by
  have h1 : (w1.setCell ⟨b, 0, none⟩ v0).heap[b]? = some (.cells #[v0, u1, u2, u3, u4, u5, u6] T fr) := heap_set h v0
  have h2 : ((w1.setCell ⟨b, 0, none⟩ v0).setCell ⟨b, 1, none⟩ v1).heap[b]? = some (.cells #[v0, v1, u2, u3, u4, u5, u6] T fr) := heap_set h1 v1
  have h3 : (((w1.setCell ⟨b, 0, none⟩ v0).setCell ⟨b, 1, none⟩ v1).setCell ⟨b, 2, none⟩ v2).heap[b]? = some (.cells #[v0, v1, v2, u3, u4, u5, u6] T fr) := heap_set h2 v2
  have h4 : ((((w1.setCell ⟨b, 0, none⟩ v0).setCell ⟨b, 1, none⟩ v1).setCell ⟨b, 2, none⟩ v2).setCell ⟨b, 3, none⟩ v3).heap[b]? = some (.cells #[v0, v1, v2, v3, u4, u5, u6] T fr) := heap_set h3 v3
  have h5 : (((((w1.setCell ⟨b, 0, none⟩ v0).setCell ⟨b, 1, none⟩ v1).setCell ⟨b, 2, none⟩ v2).setCell ⟨b, 3, none⟩ v3).setCell ⟨b, 4, none⟩ v4).heap[b]? = some (.cells #[v0, v1, v2, v3, v4, u5, u6] T fr) := heap_set h4 v4
  have h6 : ((((((w1.setCell ⟨b, 0, none⟩ v0).setCell ⟨b, 1, none⟩ v1).setCell ⟨b, 2, none⟩ v2).setCell ⟨b, 3, none⟩ v3).setCell ⟨b, 4, none⟩ v4).setCell ⟨b, 5, none⟩ v5).heap[b]? = some (.cells #[v0, v1, v2, v3, v4, v5, u6] T fr) := heap_set h5 v5
  have h7 : (((((((w1.setCell ⟨b, 0, none⟩ v0).setCell ⟨b, 1, none⟩ v1).setCell ⟨b, 2, none⟩ v2).setCell ⟨b, 3, none⟩ v3).setCell ⟨b, 4, none⟩ v4).setCell ⟨b, 5, none⟩ v5).setCell ⟨b, 6, none⟩ v6).heap[b]? = some (.cells #[v0, v1, v2, v3, v4, v5, v6] T fr) := heap_set h6 v6
  exact h7
theorem set7_below {B b : Nat} {w w1 : World} {v0 v1 v2 v3 v4 v5 v6 : Value} (h : Below B w w1) (hB : B ≤ b) : Below B w ((((((((w1.setCell ⟨b, 0, none⟩ v0).setCell ⟨b, 1, none⟩ v1).setCell ⟨b, 2, none⟩ v2).setCell ⟨b, 3, none⟩ v3).setCell ⟨b, 4, none⟩ v4).setCell ⟨b, 5, none⟩ v5).setCell ⟨b, 6, none⟩ v6)) :=
  (((((((h.setCell (p := ⟨b, 0, none⟩) hB _).setCell (p := ⟨b, 1, none⟩) hB _).setCell (p := ⟨b, 2, none⟩) hB _).setCell (p := ⟨b, 3, none⟩) hB _).setCell (p := ⟨b, 4, none⟩) hB _).setCell (p := ⟨b, 5, none⟩) hB _).setCell (p := ⟨b, 6, none⟩) hB _)
theorem blk7 {w : World} {g : Nat} {u0 u1 u2 u3 u4 u5 u6 : Value} {T : TypeId} (h : w.heap[g]? = some (.cells #[u0, u1, u2, u3, u4, u5, u6] T (0, 0))) : (w.cell? ⟨g, 0, none⟩ = some u0 ∧ w.cell? ⟨g, 1, none⟩ = some u1 ∧ w.cell? ⟨g, 2, none⟩ = some u2 ∧ w.cell? ⟨g, 3, none⟩ = some u3 ∧ w.cell? ⟨g, 4, none⟩ = some u4 ∧ w.cell? ⟨g, 5, none⟩ = some u5 ∧ w.cell? ⟨g, 6, none⟩ = some u6) ∧ (w.frozen? ⟨g, 0, none⟩ = false ∧ w.frozen? ⟨g, 1, none⟩ = false ∧ w.frozen? ⟨g, 2, none⟩ = false ∧ w.frozen? ⟨g, 3, none⟩ = false ∧ w.frozen? ⟨g, 4, none⟩ = false ∧ w.frozen? ⟨g, 5, none⟩ = false ∧ w.frozen? ⟨g, 6, none⟩ = false) ∧ g < w.heap.size := by
  have hg := (Array.getElem?_eq_some_iff.1 h).1
  refine ⟨⟨?_, ?_, ?_, ?_, ?_, ?_, ?_⟩, ⟨?_, ?_, ?_, ?_, ?_, ?_, ?_⟩, hg⟩ <;> simp [World.cell?, World.frozen?, h]
theorem fi_it (base id : Int) (l : List Pt) : fi (isIt id) (l.map (itOf base)) = fi (isId id) l := by
  unfold fi
  rw [List.findIdx?_map]; rfl
section
variable {w0 w : World} {ow : Nat → Option Own} {L : Lay} {s : SysS} {T : Nat}
theorem pathG_pos {ups : List Int} {g : Int} : 0 < (pathG ups g).length ↔ hasG ups g = true := by
  unfold pathG
  rw [pathF]
  split
  · rename_i h; simp [h]
  · rename_i h; simp [h]
set_option maxHeartbeats 1600000 in
set_option maxRecDepth 100000 in
theorem YAccount (h : SysIn w0 w ow L s) (g : Int) (hg16 : s.grps.length ≤ 16) : Calls Tryz.prog 19 #[.pointer (some ⟨L.b, 0, none⟩), .int .i64 g] w fun e w' => e = .returned (if hasG s.ups g = true then .tuple #[.agg (s.acc g.toNat).enc.toArray, .int .i64 0] else .tuple #[.agg #[.int .i64 0, .int .i64 0, .int .i64 0, .int .i64 0], .int .i64 2]) ∧ Below w.heap.size w w' := by
  obtain ⟨⟨q0, q1, q2, q3⟩, -, hlt⟩ := h.tops
  have HD := Lib.hid (fun (W : World) (hW : Below w.heap.size w W) => GDepth (h.grp.below hW) g)
  have hp := pathG_pos (ups := s.ups) (g := g)
  have H := Lib.hid h
  cases hh : hasG s.ups g with
  | true =>
    rw [hh] at hp
    have h0 : 0 < (pathG s.ups g).length := hp.2 rfl
    have hn0 : ¬ ((pathG s.ups g).length : Int) = 0 := by omega
    have hnb : (((pathG s.ups g).length : Int) == 0) = false := by simpa using hn0
    simp only [hasG, decide_eq_true_eq] at hh
    have hl : s.ups.length = s.grps.length := by unfold SysS.ups; rw [List.length_map]
    obtain ⟨k, rfl⟩ : ∃ k : Nat, g = k := ⟨g.toNat, by omega⟩
    have hk16 : k < 16 := by omega
    have hk0 : (0 : Int) ≤ k := by omega
    have hki : (k : Int) < 16 := by omega
    have HB := Lib.hid (show L.b < w.heap.size from hlt)
    generalize (pathG s.ups k).length = m at HD hnb hn0
    rw [if_pos rfl, Int.toNat_natCast]
    clear h hp h0 hh hl hn0
    go_enter Tryz.func19, Tryz.ntmps19
    go_wp2_with (first
      | (go_at_call 42; refine (HD.out _ ((Below.refl _ _).alloc (Nat.le_refl _) _)).mono ?_; rintro e w1 ⟨rfl, hb⟩
         obtain ⟨x0, hs0, hbw⟩ := heap_a1 hb
         obtain ⟨⟨a0, a1, a2, a3⟩, -⟩ := (H.out.below hbw).accs hk16
         obtain ⟨y0, y1, y2, y3, z0, z1, z2, z3, zl⟩ := blk4 x0
         have HX := Lib.hid x0
         have Hbw := Lib.hid hbw
         have hlt1 := Nat.lt_of_lt_of_le HB.out hbw.size
         have hne : L.b ≠ w.heap.size := by have := HB.out; omega
         clear hb x0 hbw))
    exact bodyPost_ret (res_ct _ _ w.heap.size 48 (s.acc k).enc.toArray (0, 0) _ rfl rfl (set4_heap HX.out) Tryz.underlying48 rfl (by kernel_rfl)) rfl ⟨rfl, set4_below Hbw.out (Nat.le_refl _)⟩
  | false =>
    have h0 : (pathG s.ups g).length = 0 := by
      rw [hh] at hp
      rcases Nat.eq_zero_or_pos (pathG s.ups g).length with h | h
      · exact h
      · exact absurd (hp.1 h) (by decide)
    rw [h0] at HD
    rw [if_neg (by decide)]
    clear h hp h0 hh
    go_enter Tryz.func19, Tryz.ntmps19
    go_wp2_with (first
      | (go_at_call 42; refine (HD.out _ ((Below.refl _ _).alloc (Nat.le_refl _) _)).mono ?_; rintro e w1 ⟨rfl, hb⟩
         obtain ⟨x0, hs0, hbw⟩ := heap_a1 hb
         obtain ⟨y0, y1, y2, y3, z0, z1, z2, z3, zl⟩ := blk4 x0
         have HX := Lib.hid x0
         have Hbw := Lib.hid hbw
         clear hb x0 hbw))
    exact bodyPost_ret (res_ct _ _ w.heap.size 48 #[.int .i64 0, .int .i64 0, .int .i64 0, .int .i64 0] (0, 0) _ rfl rfl (set4_heap HX.out) Tryz.underlying48 rfl (by kernel_rfl)) rfl ⟨rfl, set4_below Hbw.out (Nat.le_refl _)⟩
theorem item4_heap {W : World} {r i0 : Nat} {o : Option Obj} {a b c d : Value} (h : W.heap[r]? = o) (hne : r ≠ i0) : ((((W.setCell ⟨i0, 0, none⟩ a).setCell ⟨i0, 1, none⟩ b).setCell ⟨i0, 2, none⟩ c).setCell ⟨r + 1, 6, none⟩ d).heap[r]? = o :=
  heap_set_ne (heap_set_ne (heap_set_ne (heap_set_ne h hne _) hne _) hne _) (show r ≠ r + 1 by omega) _
theorem item4_below {W w : World} {B r i0 : Nat} {a b c d : Value} (h : Below B w W) (hi : B ≤ i0) (hr : B ≤ r) : Below B w ((((W.setCell ⟨i0, 0, none⟩ a).setCell ⟨i0, 1, none⟩ b).setCell ⟨i0, 2, none⟩ c).setCell ⟨r + 1, 6, none⟩ d) :=
  (((h.setCell hi _).setCell hi _).setCell hi _).setCell (show B ≤ r + 1 by omega) _
/-- A task as it is told. -/
def taskV (t : Tk) : Value := .agg t.enc.toArray
theorem TOLD {t : Tk} {k : Nat} {g : Int} (h2 : t.st = 2) (hk : t.core = k) : taskV { t with lag := g } = .agg #[.int .i64 t.id, .int .i64 t.w, .int .i64 t.grp, .int .i64 k, .int .i64 2, .int .u16 t.mask, .int .i64 g] := by
  show Value.agg _ = _
  simp only [Tk.enc, h2, hk]
def noTask : Value := .agg #[.int .i64 0, .int .i64 0, .int .i64 0, .int .i64 0, .int .i64 0, .int .u16 0, .int .i64 0]
set_option maxHeartbeats 3200000 in
set_option maxRecDepth 100000 in
theorem YTask_none (h : SysIn w0 w ow L s) {id : Int} (hi : I63 id) (hf : s.find id = none) : Calls Tryz.prog 13 #[.pointer (some ⟨L.b, 0, none⟩), .int .i64 id] w fun e w' => e = .returned (.tuple #[noTask, .int .i64 2]) ∧ Below w.heap.size w w' := by
  have hb0 := (Below.refl w.heap.size w).alloc (Nat.le_refl _) (.cells #[.int .i64 0, .int .i64 0, .int .i64 0, .int .i64 0, .int .i64 0, .int .u16 0, .int .i64 0] 36)
  have h0 := h.below hb0
  obtain ⟨⟨q0, q1, q2, q3⟩, -, hlt⟩ := h.tops
  have hlk := h0.look_none hi hf
  clear h h0 hi hf
  go_enter Tryz.func13, Tryz.ntmps13
  go_wp2
  exact bodyPost_ret (res_ct _ _ w.heap.size 36 _ (0, 0) _ rfl rfl (heap_new w _) Tryz.underlying36 rfl (by kernel_rfl)) rfl ⟨rfl, hb0⟩
set_option maxHeartbeats 3200000 in
set_option maxRecDepth 100000 in
theorem YTask_some (h : SysIn w0 w ow L s) (hk : SysOk T s) (hT : T ≤ 10000000) {id : Int} (hi : I63 id) {t : Tk} (hf : s.find id = some t) : Calls Tryz.prog 13 #[.pointer (some ⟨L.b, 0, none⟩), .int .i64 id] w fun e w' => e = .returned (.tuple #[taskV (s.view t), .int .i64 0]) ∧ Below w.heap.size w w' := by
  have H := Lib.hid h
  have hb0 := (Below.refl w.heap.size w).alloc (Nat.le_refl _) (.cells #[.int .i64 0, .int .i64 0, .int .i64 0, .int .i64 0, .int .i64 0, .int .u16 0, .int .i64 0] 36)
  have h0 := h.below hb0
  obtain ⟨⟨q0, q1, q2, q3⟩, -, hlt⟩ := h.tops
  obtain ⟨hok, hid, hi0, hi1⟩ := hk.tk hf
  subst hid
  have hlk := h0.look hi hf
  obtain ⟨⟨c0, c1, c2, c3, c4, c5, c6⟩, ⟨f0, f1, f2, f3, f4, f5, f6⟩, hkl⟩ := TkAt.cells (h.tsk _ t hf).1
  have hne : L.tb t.id ≠ w.heap.size := by omega
  have hne1 : L.tb t.id ≠ w.heap.size + 1 := by omega
  have Hb0 := Lib.hid hb0
  by_cases h2 : t.st = 2
  · obtain ⟨c, j, x, hc, hce, hcf, hat, hxw⟩ := hk.inq hf h2
    obtain ⟨l0, l1⟩ := hok.old (by omega)
    have hv : s.view t = { t with lag := c.q.base - x.v } := by unfold SysS.view; rw [if_pos h2, hce, hat]
    rw [hv]
    obtain ⟨k, hkc⟩ : ∃ k : Nat, t.core = k := ⟨t.core.toNat, by omega⟩
    have hk0 : (0 : Int) ≤ k := by omega
    have hkt : t.core.toNat = k := by omega
    rw [hkt] at hc
    obtain ⟨bl, F, p, q, r, hbl, hcst, how⟩ := h.cor k c hc
    obtain ⟨ra, off, har, hral, e0⟩ := h.arrc hbl
    have hkn : (k : Int) < s.cores.length := by omega
    have hrne : ra ≠ w.heap.size := by omega
    have hrne1 : ra ≠ w.heap.size + 1 := by omega
    have hlne : L.b ≠ w.heap.size := by omega
    have hlne1 : L.b ≠ w.heap.size + 1 := by omega
    rw [har] at q0
    have hfi : fi (isIt t.id) (c.q.l.map (itOf c.q.base)) = (j : Nat) := by
      rw [fi_it]
      rcases at_cases c.q t.id with ⟨e, _⟩ | ⟨j', x', e, h3, _, _, _⟩
      · rw [hat] at e; cases e
      · rw [hat] at e
        simp only [Option.some.injEq, Prod.mk.injEq] at e
        rw [h3, e.1]
    have hxi : (c.q.l.map (itOf c.q.base))[j]? = some (itOf c.q.base x) := by rw [List.getElem?_map, (at_mem hat).1]; rfl
    have hl64 : c.q.l.length ≤ 64 := hcf.q.len
    have HC := Lib.hid (fun (W : World) (hW : CSt w0 W F bl p q r c) => CorForm hW hcf.tag (hcf.q.ok (by omega)))
    have HCS := Lib.hid hcst
    have HFi := Lib.hid (fun (W : World) (a : Option Addr) (cp : Nat) (hs : Sl It.enc 3 W a (c.q.l.map (itOf c.q.base))) => FindF_some c.q.cur t.id (c.q.l.map (itOf c.q.base)) c.q.l.length a cp W (by rw [List.length_map]) (by omega) hs j (itOf c.q.base x) hfi hxi)
    simp only [itOf] at HFi
    rw [h2] at c4
    rw [hkc] at c3
    have H2 := Lib.hid h2
    have HKc := Lib.hid hkc
    generalize s.cores.length = n at q0 hkn
    clear h h0 hk hi hf hok hv h2 hc hce hcf hat hxw l0 l1 hkc hkt hbl hcst how har hfi hxi hb0
    go_enter Tryz.func13, Tryz.ntmps13
    go_wp2
    refine wp_region_tree 43 [0, 1, 3, 7, 0, 16, 63, 127, 255, 0, 1023, 2047, 4095, 4095, 0, 24575, 65535] (.one 0 (.one 1 (.one 2 (.one 3 (.one 4 (.one 5 (.one 6 (.one 7 (.one 9 (.fork 8 [9] (.fork 10 [] (.one 11 (.one 12 (.one 13 (.act 14 [11, 12, 13] (.act 15 [13] (.one 16 .done)))))) 14 [9] (.act 10 [] (.one 11 (.one 12 (.one 13 (.act 15 [13] (.one 16 .done))))))) 14 [0, 1, 2, 3, 4, 5, 6, 7, 9] (.act 8 [9] (.act 10 [] (.one 11 (.one 12 (.one 13 (.act 15 [13] (.one 16 .done))))))))))))))))) (by kernel_rfl) (by kernel_rfl) (by rfl) ?_; simp only [chainT, Obs, List.getElem?_toArray, List.getElem?_cons_zero, List.getElem?_cons_succ]
    go_wp2_with (first
      | (with_reducible refine And.intro True.intro ?_)
      | (with_reducible refine And.intro rfl ?_)
      | (with_reducible refine And.intro (show _ = _ by go_simp) ?_))
    refine And.intro ?_ ?_
    · go_wp2_with (first
        | (with_reducible refine And.intro True.intro ?_)
        | (with_reducible refine And.intro rfl ?_)
        | (with_reducible refine And.intro (show _ = _ by go_simp) ?_)
        | (go_at_call 32; refine (HC.out _ (HCS.out.below (((Below.refl _ _).alloc (Nat.le_refl _) _).alloc (by simp) _).drew)).mono ?_; rintro e w1 ⟨a', c', rfl, ho, hb1⟩
           rw [List.length_map] at ho ⊢
           obtain ⟨x0, x1, hs, hbw⟩ := heap_a2 (undrew hb1)
           have HS := Lib.hid (Sl.of_own (l := c.q.l.map (itOf c.q.base)) It.len (by rw [List.length_map]; exact ho))
           have HX0 := Lib.hid x0
           have HX1 := Lib.hid x1
           have Hbw := Lib.hid hbw
           clear ho hb1 x0 x1 hbw)
        )
      refine And.intro ?_ ?_
      · go_wp2_with (first
          | (with_reducible refine And.intro True.intro ?_)
          | (with_reducible refine And.intro rfl ?_)
          | (with_reducible refine And.intro (show _ = _ by go_simp) ?_)
          | (go_at_call 51; refine (HFi.out _ _ _ HS.out).mono ?_; rintro e w2 ⟨rfl, hb2⟩
             have x0 := heap_below HX0.out hb2
             have x1 := heap_below HX1.out hb2
             have hs2 := hb2.size
             obtain ⟨⟨y0, y1, y2, y3, y4, y5, y6⟩, ⟨z0, z1, z2, z3, z4, z5, z6⟩, zl⟩ := blk7 x0
             obtain ⟨⟨g0, g1, g2, g3, g4, g5, g6⟩, ⟨h0, h1, h2, h3, h4, h5, h6⟩, gl⟩ := blk7 x1
             have HZ0 := Lib.hid x0
             have Hbw2 := Lib.hid (Hbw.out.trans (hb2.mono Hbw.out.size))
             have hne3 : w.heap.size ≠ w2.heap.size := by omega
             have hne4 : w.heap.size + 1 ≠ w2.heap.size := by omega
             clear hb2 x0 x1)
          )
        refine NoPanic.normal ?_
        go_wp2
        rw [TOLD H2.out HKc.out]
        refine bodyPost_ret (res_ct _ _ w.heap.size 36 #[.int .i64 t.id, .int .i64 t.w, .int .i64 t.grp, .int .i64 k, .int .i64 2, .int .u16 t.mask, .int .i64 (c.q.base - x.v)] (0, 0) _ rfl rfl ?_ Tryz.underlying36 rfl (by kernel_rfl)) rfl ⟨rfl, ?_⟩
        · refine heap_alloc ?_ _
          with_reducible refine set7_heap (u0 := .int .i64 0) (u1 := .int .i64 0) (u2 := .int .i64 0) (u3 := .int .i64 0) (u4 := .int .i64 0) (u5 := .int .u16 0) (u6 := .int .i64 0) ?_
          exact heap_set_ne HZ0.out (show w.heap.size ≠ w.heap.size + 1 by omega) _
        · refine Below.alloc (set7_below (Hbw2.out.setCell (show w.heap.size ≤ w.heap.size + 1 by omega) _) (Nat.le_refl _)) ?_ _
          simp; omega
      · have hnw : w1.heap.size ≠ w.heap.size := by have := (Array.getElem?_eq_some_iff.1 HX1.out).1; omega
        have hnw1 : w1.heap.size ≠ w.heap.size + 1 := by have := (Array.getElem?_eq_some_iff.1 HX1.out).1; omega
        have HI := Lib.hid (heap_new w1 (.cells #[.int .i64 0, .int .i64 0, .int .i64 0] 120))
        have Hba := Lib.hid ((Below.refl _ w1).alloc (Nat.le_refl _) (.cells #[.int .i64 0, .int .i64 0, .int .i64 0] 120))
        go_wp2_with (first
          | (with_reducible refine And.intro True.intro ?_)
          | (with_reducible refine And.intro rfl ?_)
          | (with_reducible refine And.intro (show _ = _ by go_simp) ?_)
          | (go_at_call 51; refine (HFi.out _ _ _ (HS.out.below Hba.out)).mono ?_; rintro e w2 ⟨rfl, hb2⟩
             have x0 := heap_below (heap_below HX0.out Hba.out) hb2
             have x1 := heap_below (heap_below HX1.out Hba.out) hb2
             have x2 := heap_below HI.out hb2
             obtain ⟨⟨y0, y1, y2, y3, y4, y5, y6⟩, ⟨z0, z1, z2, z3, z4, z5, z6⟩, zl⟩ := blk7 x0
             obtain ⟨⟨g0, g1, g2, g3, g4, g5, g6⟩, ⟨h0, h1, h2, h3, h4, h5, h6⟩, gl⟩ := blk7 x1
             obtain ⟨i0, i1, i2, j0, j1, j2, il⟩ := blk3 x2
             have HZ0 := Lib.hid x0
             have Hbw2 := Lib.hid (Hbw.out.trans ((Hba.out.mono Hbw.out.size).trans (hb2.mono (by have := Hbw.out.size; simp; omega))))
             clear hb2 x0 x1 x2)
          )
        refine NoPanic.normal ?_
        go_wp2
        rw [TOLD H2.out HKc.out]
        refine bodyPost_ret (res_ct _ _ w.heap.size 36 #[.int .i64 t.id, .int .i64 t.w, .int .i64 t.grp, .int .i64 k, .int .i64 2, .int .u16 t.mask, .int .i64 (c.q.base - x.v)] (0, 0) _ rfl rfl ?_ Tryz.underlying36 rfl (by kernel_rfl)) rfl ⟨rfl, ?_⟩
        · with_reducible refine set7_heap (u0 := .int .i64 0) (u1 := .int .i64 0) (u2 := .int .i64 0) (u3 := .int .i64 0) (u4 := .int .i64 0) (u5 := .int .u16 0) (u6 := .int .i64 0) ?_
          exact item4_heap HZ0.out hnw.symm
        · with_reducible refine set7_below ?_ (Nat.le_refl _)
          exact item4_below Hbw2.out Hbw.out.size (Nat.le_refl _)
    · have hbW : Below w.heap.size w (((w.alloc (.cells #[.int .i64 0, .int .i64 0, .int .i64 0, .int .i64 0, .int .i64 0, .int .u16 0, .int .i64 0] 36)).alloc (.cells #[.int .i64 t.id, .int .i64 t.w, .int .i64 t.grp, .int .i64 k, .int .i64 2, .int .u16 t.mask, .int .i64 t.lag] 36)).drew) := (((Below.refl _ _).alloc (Nat.le_refl _) _).alloc (by simp) _).drew
      have hzW : (((w.alloc (.cells #[.int .i64 0, .int .i64 0, .int .i64 0, .int .i64 0, .int .i64 0, .int .u16 0, .int .i64 0] 36)).alloc (.cells #[.int .i64 t.id, .int .i64 t.w, .int .i64 t.grp, .int .i64 k, .int .i64 2, .int .u16 t.mask, .int .i64 t.lag] 36)).drew).heap.size = w.heap.size + 2 := by simp
      have xW0 : (((w.alloc (.cells #[.int .i64 0, .int .i64 0, .int .i64 0, .int .i64 0, .int .i64 0, .int .u16 0, .int .i64 0] 36)).alloc (.cells #[.int .i64 t.id, .int .i64 t.w, .int .i64 t.grp, .int .i64 k, .int .i64 2, .int .u16 t.mask, .int .i64 t.lag] 36)).drew).heap[w.heap.size]? = _ := heap_alloc (heap_new w (.cells #[.int .i64 0, .int .i64 0, .int .i64 0, .int .i64 0, .int .i64 0, .int .u16 0, .int .i64 0] 36)) _
      have xW1 : (((w.alloc (.cells #[.int .i64 0, .int .i64 0, .int .i64 0, .int .i64 0, .int .i64 0, .int .u16 0, .int .i64 0] 36)).alloc (.cells #[.int .i64 t.id, .int .i64 t.w, .int .i64 t.grp, .int .i64 k, .int .i64 2, .int .u16 t.mask, .int .i64 t.lag] 36)).drew).heap[w.heap.size + 1]? = some (.cells #[.int .i64 t.id, .int .i64 t.w, .int .i64 t.grp, .int .i64 k, .int .i64 2, .int .u16 t.mask, .int .i64 t.lag] 36) := by
        have h := heap_new (w.alloc (.cells #[.int .i64 0, .int .i64 0, .int .i64 0, .int .i64 0, .int .i64 0, .int .u16 0, .int .i64 0] 36)) (.cells #[.int .i64 t.id, .int .i64 t.w, .int .i64 t.grp, .int .i64 k, .int .i64 2, .int .u16 t.mask, .int .i64 t.lag] 36)
        rw [show (w.alloc (.cells #[.int .i64 0, .int .i64 0, .int .i64 0, .int .i64 0, .int .i64 0, .int .u16 0, .int .i64 0] 36)).heap.size = w.heap.size + 1 by simp] at h
        exact h
      have qW := (hbW.cell (p := ⟨L.b, 0, none⟩) hlt).trans q0
      have eW := (hbW.cell (p := ⟨ra, off + k, none⟩) hral).trans e0
      generalize ((w.alloc (.cells #[.int .i64 0, .int .i64 0, .int .i64 0, .int .i64 0, .int .i64 0, .int .u16 0, .int .i64 0] 36)).alloc (.cells #[.int .i64 t.id, .int .i64 t.w, .int .i64 t.grp, .int .i64 k, .int .i64 2, .int .u16 t.mask, .int .i64 t.lag] 36)).drew = W at *
      obtain ⟨⟨y0, y1, y2, y3, y4, y5, y6⟩, ⟨z0, z1, z2, z3, z4, z5, z6⟩, zl⟩ := blk7 xW0
      obtain ⟨⟨g0, g1, g2, g3, g4, g5, g6⟩, ⟨h0, h1, h2, h3, h4, h5, h6⟩, gl⟩ := blk7 xW1
      have hlne2 : L.b ≠ W.heap.size := by omega
      have hrne2 : ra ≠ W.heap.size := by omega
      have hz2 : w.heap.size ≠ W.heap.size := by omega
      have hz3 : w.heap.size + 1 ≠ W.heap.size := by omega
      have HbW := Lib.hid hbW
      have HX0 := Lib.hid xW0
      have HX1 := Lib.hid xW1
      have HI := Lib.hid (heap_new W (.cells #[.int .i64 0, .int .i64 0, .int .i64 0] 120))
      have Hba := Lib.hid ((Below.refl _ W).alloc (Nat.le_refl _) (.cells #[.int .i64 0, .int .i64 0, .int .i64 0] 120))
      have qA := (Hba.out.cell (p := ⟨L.b, 0, none⟩) (show L.b < W.heap.size by omega)).trans qW
      have eA := (Hba.out.cell (p := ⟨ra, off + k, none⟩) (show ra < W.heap.size by omega)).trans eW
      have HzW := Lib.hid hzW
      clear hbW xW0 xW1 hzW
      go_wp2_with (first
        | (with_reducible refine And.intro True.intro ?_)
        | (with_reducible refine And.intro rfl ?_)
        | (with_reducible refine And.intro (show _ = _ by go_simp) ?_)
        | (go_at_call 32; refine (HC.out _ (HCS.out.below (HbW.out.trans (Hba.out.mono HbW.out.size)))).mono ?_; rintro e w1 ⟨a', c', rfl, ho, hb1⟩
           rw [List.length_map] at ho ⊢
           have HS := Lib.hid (Sl.of_own (l := c.q.l.map (itOf c.q.base)) It.len (by rw [List.length_map]; exact ho))
           have HY0 := Lib.hid (heap_below (heap_alloc HX0.out _) hb1)
           have HY1 := Lib.hid (heap_below (heap_alloc HX1.out _) hb1)
           have HJ := Lib.hid (heap_below HI.out hb1)
           have Hbw := Lib.hid (HbW.out.trans ((Hba.out.trans (hb1.mono Hba.out.size)).mono HbW.out.size))
           clear ho hb1)
        | (go_at_call 51; refine (HFi.out _ _ _ HS.out).mono ?_; rintro e w2 ⟨rfl, hb2⟩
           have x0 := heap_below HY0.out hb2
           have x1 := heap_below HY1.out hb2
           have x2 := heap_below HJ.out hb2
           obtain ⟨⟨y0, y1, y2, y3, y4, y5, y6⟩, ⟨z0, z1, z2, z3, z4, z5, z6⟩, zl⟩ := blk7 x0
           obtain ⟨⟨g0, g1, g2, g3, g4, g5, g6⟩, ⟨h0, h1, h2, h3, h4, h5, h6⟩, gl⟩ := blk7 x1
           obtain ⟨i0, i1, i2, j0, j1, j2, il⟩ := blk3 x2
           have HZ0 := Lib.hid x0
           have Hbw2 := Lib.hid (Hbw.out.trans (hb2.mono Hbw.out.size))
           clear hb2 x0 x1 x2)
        )
      refine NoPanic.normal ?_
      go_wp2
      rw [TOLD H2.out HKc.out]
      refine bodyPost_ret (res_ct _ _ w.heap.size 36 #[.int .i64 t.id, .int .i64 t.w, .int .i64 t.grp, .int .i64 k, .int .i64 2, .int .u16 t.mask, .int .i64 (c.q.base - x.v)] (0, 0) _ rfl rfl ?_ Tryz.underlying36 rfl (by kernel_rfl)) rfl ⟨rfl, ?_⟩
      · with_reducible refine set7_heap (u0 := .int .i64 0) (u1 := .int .i64 0) (u2 := .int .i64 0) (u3 := .int .i64 0) (u4 := .int .i64 0) (u5 := .int .u16 0) (u6 := .int .i64 0) ?_
        exact item4_heap HZ0.out hz2
      · with_reducible refine set7_below ?_ (Nat.le_refl _)
        exact item4_below Hbw2.out (by have := HzW.out; omega) (Nat.le_refl _)
  · have hv : s.view t = t := by unfold SysS.view; rw [if_neg h2]
    rw [hv]
    have hb2 : (t.st == 2) = false := by simpa using h2
    clear h h0 hk hi hf hok hv h2 hb0
    go_enter Tryz.func13, Tryz.ntmps13
    go_wp2
    exact bodyPost_ret (res_ct _ _ w.heap.size 36 t.enc.toArray (0, 0) _ rfl rfl (heap_alloc (heap_new w _) _) Tryz.underlying36 rfl (by kernel_rfl)) rfl ⟨rfl, ((Below.refl _ _).alloc (Nat.le_refl _) _).alloc (by simp) _⟩
end
end Go.Proofs.YthdilellcaebfaaGreat
/- mask.Of; a system's methods: Served. -/
namespace Go.Proofs.YthdilellcaebfaaGreat
open Go.RowKit Go.Shelf
set_option linter.unusedVariables false
set_option linter.unusedSimpArgs false

section
variable {w0 w : World} {ow : Nat → Option Own} {L : Lay} {s : SysS} {T : Nat}
/-- A mask of these cores. -/
def ofM (l : List Int) : Int := l.foldl (fun m x => if 0 ≤ x ∧ x < 16 then bits .or .u16 m (IntKind.u16.wrap (2 ^ x.toNat)) else m) 0
set_option maxHeartbeats 1600000 in
set_option maxRecDepth 100000 in
theorem MOf (l : List Int) (n : Nat) (hn : l.length = n) (hn16 : n ≤ 1000000) (a : Option Addr) (c : Nat) (w : World) (hs : Sl int1 1 w a l) : Calls Tryz.prog 15 #[.slice a n c] w fun e w' => e = .returned (.int .u16 (ofM l)) ∧ Below w.heap.size w w' := by
  have HS := Lib.hid hs
  have Hn := Lib.hid hn
  clear hs hn
  go_enter Tryz.func15, Tryz.ntmps15
  go_wp2_with fail
  go_loopw [8, 3] (fun ix mx wr => ∃ (k : Nat), k ≤ n ∧ ix = .int .i64 k ∧ mx = .int .u16 (ofM (l.take k)) ∧ wr = w) (fun ix _ _ => n - (intOf ix).toNat)
  case atStart => exact ⟨0, Nat.zero_le _, rfl, rfl, rfl⟩
  case round =>
    obtain ⟨k, hk, rfl, rfl, rfl⟩ := hrel
    have hk0 : (0 : Int) ≤ k := by omega
    by_cases hlt : k < n
    · have hkn : (k : Int) < n := by omega
      obtain ⟨x, hx⟩ : ∃ x, l[k]? = some x := ⟨_, List.getElem?_eq_getElem (by rw [Hn.out]; exact hlt)⟩
      obtain ⟨r, off, rfl, hr, hc⟩ := HS.out (by intro h0; rw [h0] at hx; simp at hx)
      have e0 := hc k x hx 0 _ rfl
      simp only [Nat.mul_one, Nat.add_zero] at e0
      have htk : ofM (l.take (k + 1)) = if 0 ≤ x ∧ x < 16 then bits .or .u16 (ofM (l.take k)) (IntKind.u16.wrap (2 ^ x.toNat)) else ofM (l.take k) := by
        unfold ofM
        rw [List.take_succ_eq_append_getElem (List.getElem?_eq_some_iff.1 hx).1, (List.getElem?_eq_some_iff.1 hx).2, List.foldl_append]
        rfl
      have HT := Lib.hid htk
      have Hk := Lib.hid hk
      generalize ofM (l.take k) = m at HT
      clear htk hc hx
      go_wp2
      all_goals (refine ⟨⟨k + 1, by omega, by go_num, ?_, trivial⟩, by simp [intOf]; omega⟩)
      all_goals (rw [HT.out]; first | rw [if_pos (by omega)] | rw [if_neg (by omega)])
    · obtain rfl : k = n := by omega
      rw [List.take_of_length_le (by rw [Hn.out]; exact Nat.le_refl _)]
      go_wp2_with fail
      go_ret
      exact ⟨rfl, Below.refl _ _⟩
theorem served_take {l : List CoreS} {k : Nat} {c : CoreS} (h : l[k]? = some c) (id : Int) : ((l.take (k + 1)).map fun c => c.sv id).foldl (· + ·) 0 = ((l.take k).map fun c => c.sv id).foldl (· + ·) 0 + c.sv id := by
  rw [List.take_succ_eq_append_getElem (List.getElem?_eq_some_iff.1 h).1, (List.getElem?_eq_some_iff.1 h).2, List.map_append, List.foldl_append]
  rfl
set_option maxHeartbeats 1600000 in
set_option maxRecDepth 100000 in
theorem YServed (h : SysIn w0 w ow L s) (hk : SysOk T s) (hT : T ≤ 10000000) {id : Int} (hi : I63 id) : Calls Tryz.prog 26 #[.pointer (some ⟨L.b, 0, none⟩), .int .i64 id] w fun e w' => e = .returned (.int .i64 (s.served id)) ∧ w' = w := by
  obtain ⟨⟨q0, q1, q2, q3⟩, -, hlt⟩ := h.tops
  have H := Lib.hid h
  have HK := Lib.hid hk
  obtain ⟨n, hn⟩ : ∃ n, s.cores.length = n := ⟨_, rfl⟩
  have hn16 : n ≤ 16 := by have := hk.c16; omega
  rw [hn] at q0
  have Hn := Lib.hid hn
  have Hi := Lib.hid hi
  unfold SysS.served
  clear h hk hn hi
  go_enter Tryz.func26, Tryz.ntmps26
  go_wp2_with fail
  go_loopw [13, 5] (fun ix sx wr => ∃ (k : Nat) (m : Int), k ≤ n ∧ ix = .int .i64 k ∧ sx = .int .i64 m ∧ m = ((s.cores.take k).map fun c => c.sv id).foldl (· + ·) 0 ∧ 0 ≤ m ∧ m ≤ k * T ∧ wr = w) (fun ix _ _ => n - (intOf ix).toNat)
  case atStart => exact ⟨0, 0, Nat.zero_le _, rfl, rfl, rfl, Int.le_refl _, by simp, rfl⟩
  case round =>
    obtain ⟨k, m, hk, rfl, rfl, hm, hm0, hm1, rfl⟩ := hrel
    have hk0 : (0 : Int) ≤ k := by omega
    have hm2 : m ≤ 160000000 := by
      have h1 : (k : Int) * T ≤ 16 * T := Int.mul_le_mul_of_nonneg_right (by omega) (by omega)
      omega
    by_cases hlk : k < n
    · have hki : (k : Int) < n := by omega
      obtain ⟨c, hck⟩ : ∃ c, s.cores[k]? = some c := ⟨_, List.getElem?_eq_getElem (by have := Hn.out; omega)⟩
      obtain ⟨bl, F, p, q, r, hbl, hcst, -⟩ := H.out.cor k c hck
      obtain ⟨ra, off, har, hral, e0⟩ := H.out.arrc hbl
      have hco := (HK.out.cor c (List.mem_of_getElem? hck)).sv id
      have HL := Lib.hid (CorServed hcst id Hi.out)
      have HT := Lib.hid (served_take hck id)
      generalize c.sv id = u at HL HT hco
      have hu0 : -9223372036854775808 ≤ m + u := by omega
      have hu1 : m + u ≤ 9223372036854775807 := by omega
      have hwr : IntKind.i64.wrap (m + u) = m + u := IntWalk.i64_in _ (by omega)
      rw [har] at q0 ⊢
      have Hm := Lib.hid hm
      have Hm1 := Lib.hid hm1
      clear hck hcst hbl har hm hm1
      go_wp2_with (first
        | (go_at_call 65; refine HL.out.mono ?_; rintro e w1 ⟨rfl, rfl⟩))
      go_roundw
      case rel => exact ⟨k + 1, m + u, by omega, by go_num, by first | rfl | go_num, by rw [HT.out, Hm.out], by omega, by have := Hm1.out; rw [Int.natCast_add, Int.add_mul]; omega, trivial⟩
      case measure => simp [intOf]; omega
    · obtain rfl : k = n := by omega
      rw [List.take_of_length_le (by rw [Hn.out]; exact Nat.le_refl _)] at hm
      subst hm
      go_wp2_with fail
      go_ret
      exact ⟨rfl, rfl⟩
end
end Go.Proofs.YthdilellcaebfaaGreat
/- sys.New. -/
namespace Go.Proofs.YthdilellcaebfaaGreat
open Go.RowKit Go.Shelf
set_option linter.unusedVariables false
set_option linter.unusedSimpArgs false

section
variable {w0 w : World} {ow : Nat → Option Own} {L : Lay} {s : SysS} {T : Nat}
theorem ownBlock_some {a : Option Addr} {n c q : Nat} (h : (Value.slice a n c).ownBlock = some q) : ∃ p, a = some p ∧ p.block = q := by
  cases a with
  | none => simp [Value.ownBlock] at h
  | some p => exact ⟨p, rfl, by simpa [Value.ownBlock] using h⟩
/-- One core more. -/
def SysS.push (s : SysS) (c : CoreS) : SysS := { s with cores := s.cores ++ [c] }
def Lay.push (L : Lay) (g cap bl : Nat) : Lay := { L with ar := some ⟨g, 0, none⟩, cap := cap, cb := L.cb ++ [bl] }
theorem top_push (L : Lay) (s : SysS) (c : CoreS) (g cap bl : Nat) : (topCells L s).toArray.setIfInBounds 0 (.slice (some ⟨g, 0, none⟩) (s.cores.length + 1) cap) = (topCells (L.push g cap bl) (s.push c)).toArray := by
  unfold topCells
  simp only [List.cons_append, List.nil_append, List.setIfInBounds_toArray, List.set_cons_zero, SysS.push, Lay.push, List.length_append, List.length_cons, List.length_nil]
  rfl
open Classical in
theorem SysIn.push (h : SysIn w0 w ow L s) {c p b r : Nat} {F : Nat → Prop} {c0 : CoreS} {w1 w2 : World} (hb1 : Below w.heap.size w w1) (hc : CSt w0 w1 F c p b r c0) (hnew : ∀ k, cfoot F c p r k → w.heap.size ≤ k) {n g cap : Nat}
    (hf : Fr (fun q => (Value.slice L.ar n L.cap).ownBlock = some q) w1 w2) (hat : (Value.slice L.ar n L.cap).ownBlock = some g ∨ w1.heap.size ≤ g) (hg : g < w2.heap.size) (hs : Sl ptr1 1 w2 (some ⟨g, 0, none⟩) (L.cb ++ [c])) :
    ∃ ow', SysIn w0 (w2.setCell ⟨L.b, 0, none⟩ (.slice (some ⟨g, 0, none⟩) (s.cores.length + 1) cap)) ow' (L.push g cap c) (s.push c0) := by
  have hown : ∀ q, (Value.slice L.ar n L.cap).ownBlock = some q → ow q = some .arr := fun q hq => by
    obtain ⟨a, ha, rfl⟩ := ownBlock_some hq
    exact h.oA a ha
  have hsz1 := hb1.size
  have hsz2 := hf.size
  have hf2 : Fr (fun k => ow k = some .arr ∨ k = L.b) w (w2.setCell ⟨L.b, 0, none⟩ (.slice (some ⟨g, 0, none⟩) (s.cores.length + 1) cap)) :=
    ((Fr.of_below hb1).trans (hf.mono fun k _ e => .inl (hown k e)) (fun _ _ h => h)).setCell (p := ⟨L.b, 0, none⟩) (fun _ => .inr rfl) _
  have hfc : Fr (fun k => ow k = some .arr ∨ k = L.b) w1 (w2.setCell ⟨L.b, 0, none⟩ (.slice (some ⟨g, 0, none⟩) (s.cores.length + 1) cap)) :=
    (hf.mono (G := fun k => ow k = some .arr ∨ k = L.b) fun k _ e => Or.inl (hown k e)).setCell (p := ⟨L.b, 0, none⟩) (fun _ => .inr rfl) _
  have n : ∀ {k x}, ow k = some x → x ≠ .arr → x ≠ .top → ¬ (ow k = some .arr ∨ k = L.b) := fun hk h1 h2 e => by
    rcases e with e | rfl
    · rw [hk] at e; simp only [Option.some.injEq] at e; exact h1 e
    · rw [h.oT] at hk; simp only [Option.some.injEq] at hk; exact h2 hk.symm
  have hgo : ow g = some .arr ∨ w.heap.size ≤ g := by rcases hat with e | e; exact .inl (hown _ e); exact .inr (by omega)
  have hbg : L.b ≠ g := fun e => by
    rcases hgo with h1 | h1
    · rw [← e, h.oT] at h1; cases h1
    · have := (h.lt _ _ h.oT).2; omega
  have hcl := hc.lt
  have hgF : ∀ k, cfoot F c p r k → k ≠ g := fun k hk e => by
    subst e
    rcases hat with h1 | h1
    · have := (h.lt _ _ (hown _ h1)).2; have := hnew _ hk; omega
    · have := hcl _ hk; omega
  have hG : ∀ k, (ow k = some .arr ∨ k = L.b) → w0.heap.size ≤ k := fun k e => by rcases e with e | rfl; exact (h.lt _ _ e).1; exact (h.lt _ _ h.oT).1
  have o : ∀ {k x}, ow k = some x → (if w.heap.size ≤ k then (if k = g then some Own.arr else if cfoot F c p r k then some (Own.cor s.cores.length) else none) else ow k) = some x := fun hk => by rw [if_neg (by have := (h.lt _ _ hk).2; omega)]; exact hk
  refine ⟨fun k => if w.heap.size ≤ k then (if k = g then some .arr else if cfoot F c p r k then some (.cor s.cores.length) else none) else ow k, ⟨?_, ?_, h.grp.fr hf2 (n h.oG (fun e => by cases e) (fun e => by cases e)), h.slt.fr hf2 (n h.oS (fun e => by cases e) (fun e => by cases e)) (n h.oP (fun e => by cases e) (fun e => by cases e)), h.map.fr hf2 (n h.oM (fun e => by cases e) (fun e => by cases e)), fun id u hu => ?_, fun i d hd => ?_, ?_, o h.oT, fun q hq => ?_, o h.oG, o h.oS, o h.oP, o h.oM, fun k x hk => ?_, h.old.trans (hf2.below h.old.size hG)⟩⟩
  · rw [← top_push]
    refine heap_set ?_ _
    refine heap_fr (heap_below h.top hb1) hf fun e => ?_
    have := hown _ e
    rw [h.oT] at this; cases this
  · refine hs.keep fun q hq => heap_set_ne rfl (fun e => hbg ?_) _
    simp only [Option.some.injEq] at hq
    subst hq
    exact e.symm
  · obtain ⟨h1, h2⟩ := h.tsk id u hu
    exact ⟨heap_fr h1 hf2 (n h2 (fun e => by cases e) (fun e => by cases e)), o h2⟩
  · simp only [SysS.push] at hd
    by_cases hi : i < s.cores.length
    · rw [List.getElem?_append_left hi] at hd
      obtain ⟨bl2, F2, p2, q2, r2, h1, h2, h3⟩ := h.cor i d hd
      exact ⟨bl2, F2, p2, q2, r2, by simp only [Lay.push]; rw [List.getElem?_append_left (by rw [h.cbl]; exact hi)]; exact h1, h2.fr hf2 (fun k hk => n (h3 k hk) (fun e => by cases e) (fun e => by cases e)) hG, fun k hk => o (h3 k hk)⟩
    · rw [List.getElem?_append_right (by omega)] at hd
      have hi2 : i = s.cores.length := by
        have := (List.getElem?_eq_some_iff.1 hd).1
        simp at this; omega
      subst hi2
      simp at hd
      subst hd
      refine ⟨c, F, p, b, r, by simp only [Lay.push]; rw [List.getElem?_append_right (by rw [h.cbl]; exact Nat.le_refl _), h.cbl]; simp, hc.fr hfc (fun k hk e => ?_) hG, fun k hk => ?_⟩
      · have hk2 := hnew k hk
        rcases e with e | rfl
        · have := (h.lt _ _ e).2; omega
        · have := (h.lt _ _ h.oT).2; omega
      · rw [if_pos (hnew k hk), if_neg (hgF k hk), if_pos hk]
  · simp only [Lay.push, SysS.push, List.length_append, h.cbl, List.length_cons, List.length_nil]
  · simp only [Lay.push, Option.some.injEq] at hq
    subst hq
    dsimp only
    split
    · rw [if_pos rfl]
    · rename_i h2
      rcases hgo with h1 | h1
      · exact h1
      · exact absurd h1 h2
  · have hsz3 := hf2.size
    split at hk
    · rename_i h2
      split at hk
      · rename_i h3
        subst h3
        exact ⟨Nat.le_trans h.old.size h2, by simpa using hg⟩
      · split at hk
        · rename_i h4
          exact ⟨Nat.le_trans h.old.size h2, by have := hcl k h4; have := hfc.size; omega⟩
        · cases hk
    · have := h.lt k x hk
      omega
theorem SysS.find_none (s : SysS) (h : ∀ x ∈ s.slots, x.task = none) (id : Int) : s.find id = none := by
  unfold SysS.find
  split
  · rfl
  · split
    · rename_i n t ht
      have := h _ (List.mem_of_getElem? ht)
      cases this
    · rfl
theorem SysS.new_find (tags : List Int) (id : Int) : (SysS.new tags).find id = none := SysS.find_none _ (fun x hx => by rw [(List.mem_replicate.1 (show x ∈ List.replicate 64 (⟨0, none⟩ : Slo) from hx)).2]) id
def lay0 (b g sl pl mp : Nat) : Lay := ⟨b, none, 0, g, sl, pl, mp, 0, fun _ => 0, []⟩
theorem SysIn.start {g sl pl mp b : Nat} (hold : Below w0.heap.size w0 w) (hg : GrpM w g [-1]) (hs : SltM w sl pl (List.replicate 64 ⟨0, false⟩)) (hm : MapP w mp 0 (fun _ => -1)) (ht : w.heap[b]? = some (.cells (topCells (lay0 b g sl pl mp) (SysS.new [])).toArray 104 (0, 0)))
    (h0 : w0.heap.size ≤ g) (h1 : g < pl) (h2 : pl < sl) (h3 : sl < mp) (h4 : mp < b) (h5 : b < w.heap.size) : ∃ ow, SysIn w0 w ow (lay0 b g sl pl mp) (SysS.new []) := by
  refine ⟨fun k => if k = b then some .top else if k = g then some .grp else if k = sl then some .slt else if k = pl then some .plc else if k = mp then some .map else none, ⟨ht, fun h => absurd rfl h, hg, ?_, ?_, fun id t h => ?_, fun i c h => ?_, rfl, ?_, fun p hp => ?_, ?_, ?_, ?_, ?_, fun k x hk => ?_, hold⟩⟩
  · have e : (SysS.new []).plcs = List.replicate 64 ⟨0, false⟩ := by unfold SysS.plcs SysS.new; simp
    rw [e]; exact hs
  · have e : fmap (lay0 b g sl pl mp) (SysS.new []) = fun _ => -1 := by funext id; unfold fmap; rw [SysS.new_find]
    rw [e]; exact hm
  · rw [SysS.new_find] at h; cases h
  · simp [SysS.new] at h
  · simp [lay0]
  · cases hp
  · simp only [lay0]; rw [if_neg (by omega)]; simp
  · simp only [lay0]; rw [if_neg (by omega), if_neg (by omega)]; simp
  · simp only [lay0]; rw [if_neg (by omega), if_neg (by omega), if_neg (by omega)]; simp
  · simp only [lay0]; rw [if_neg (by omega), if_neg (by omega), if_neg (by omega), if_neg (by omega)]; simp
  · split at hk
    · omega
    · split at hk
      · omega
      · split at hk
        · omega
        · split at hk
          · omega
          · split at hk
            · omega
            · cases hk
theorem new_push (tags : List Int) (k : Nat) (x : Int) (h : tags[k]? = some x) : SysS.new (tags.take (k + 1)) = (SysS.new (tags.take k)).push ⟨x, ⟨0, -1, []⟩, fun _ => 0, 0, 0, 0⟩ := by
  unfold SysS.new SysS.push
  rw [List.take_succ_eq_append_getElem (List.getElem?_eq_some_iff.1 h).1, (List.getElem?_eq_some_iff.1 h).2, List.map_append]
  rfl
theorem corp_info : ((Tryz.prog).info? 54).map (fun i => (i.zero, i.size, i.bytes)) = some (some (.pointer none), 1, 8) := by kernel_rfl
def newGood (tags : List Int) : Prop := 1 ≤ tags.length ∧ tags.length ≤ 16 ∧ ∀ t ∈ tags, TagOk t
def YNewPost (w : World) (tags : List Int) (e : Ending) (w' : World) : Prop :=
  (newGood tags ∧ ∃ ow L, e = .returned (.tuple #[.pointer (some ⟨L.b, 0, none⟩), .int .i64 0]) ∧ SysIn w w' ow L (SysS.new tags) ∧ L.mn = 0) ∨
  (¬ newGood tags ∧ e = .returned (.tuple #[.pointer none, .int .i64 1]) ∧ Below w.heap.size w w')
set_option maxHeartbeats 3200000 in
set_option maxRecDepth 100000 in
theorem YNew (tags : List Int) (n : Nat) (hn : tags.length = n) (a : Option Addr) (c : Nat) (w : World) (hs : Sl int1 1 w a tags) : Calls Tryz.prog 9 #[.slice a n c] w (YNewPost w tags) := by
  have Hn := Lib.hid hn
  have HS := Lib.hid hs
  by_cases hlen : 1 ≤ n ∧ n ≤ 16
  · obtain ⟨hn1, hn16⟩ := hlen
    obtain ⟨i0, hi0, hz0, hz1, hz2⟩ := info_parts corp_info
    have hmk : ∀ w, (Instr.makeMap 100 none).run Tryz.prog w = .ok (.map (some w.heap.size)) (w.alloc (.map #[] 0)) := fun w => run_makeMap _ w
    clear hn hs
    go_enter Tryz.func9, Tryz.ntmps9
    go_wp2_with (first
      | (go_at_call 37; refine (GNew _).mono ?_; rintro e w1 ⟨rfl, hg, hb1, hz1⟩; have HG := Lib.hid hg; have Hb1 := Lib.hid hb1; have Hz1 := Lib.hid hz1; clear hg hb1 hz1)
      | (go_at_call 38; refine (SNew _).mono ?_; rintro e w2 ⟨rfl, hs, hb2, hz2⟩; have HSl := Lib.hid hs; have Hb2 := Lib.hid hb2; have Hz2 := Lib.hid hz2; clear hs hb2 hz2))
    have hz1 := Hz1.out
    have hz2 := Hz2.out
    have hbm : Below w.heap.size w (w2.alloc (.map #[] 0)) := ((Hb1.out.trans (Hb2.out.mono (by omega))).alloc (by omega) _)
    have HST := Lib.hid (fun (W : World) (hW : W = (w2.alloc (.map #[] 0)).alloc (.cells (topCells (lay0 (w2.heap.size + 1) w.heap.size (w1.heap.size + 1) w1.heap.size w2.heap.size) (SysS.new [])).toArray 104)) => by
      subst hW
      exact SysIn.start (w0 := w) (g := w.heap.size) (sl := w1.heap.size + 1) (pl := w1.heap.size) (mp := w2.heap.size) (b := w2.heap.size + 1)
        (hbm.alloc (by simp; omega) _) ((HG.out.below Hb2.out).below (((Below.refl _ _).alloc (Nat.le_refl _) _).alloc (by simp) _)) (HSl.out.below (((Below.refl _ _).alloc (Nat.le_refl _) _).alloc (by simp) _)) ((MapP.made w2).below ((Below.refl _ _).alloc (Nat.le_refl _) _)) (heap_at (by simp) _)
        (Nat.le_refl _) (by omega) (by omega) (by omega) (by omega) (by simp))
    clear hz1 hz2 hbm
    go_loopw [24] (fun ix wr => ∃ (k : Nat) (ow : Nat → Option Own) (L : Lay), k ≤ n ∧ ix = .int .i64 k ∧ L.b = w2.heap.size + 1 ∧ L.mn = 0 ∧ SysIn w wr ow L (SysS.new (tags.take k)) ∧ wr.ownsRow w.heap.size 54 1 (.slice L.ar k L.cap) k (flat ptr1 L.cb) ∧ ∀ t ∈ tags.take k, TagOk t) (fun ix _ => n - (intOf ix).toNat)
    case atStart =>
      obtain ⟨ow, h⟩ := HST.out _ rfl
      exact ⟨0, ow, _, Nat.zero_le _, rfl, rfl, rfl, h, World.ownsRow_nil _ _ _ _, fun t ht => by simp at ht⟩
    case round =>
      clear HST
      obtain ⟨k, ow, L, hk, rfl, hLb, hmn, h, hown, htg⟩ := hrel
      have hk0 : (0 : Int) ≤ k := by omega
      obtain ⟨⟨q0, q1, q2, q3⟩, ⟨z0, -, -, -⟩, hlt⟩ := h.tops
      by_cases hlk : k < n
      · have hki : (k : Int) < n := by omega
        obtain ⟨x, hx⟩ : ∃ x, tags[k]? = some x := ⟨_, List.getElem?_eq_getElem (by rw [Hn.out]; exact hlk)⟩
        obtain ⟨r, off, rfl, hr, hc⟩ := HS.out (by intro h0; rw [h0] at hx; simp at hx)
        have e0 := (h.old.cell (p := ⟨r, off + k * 1 + 0, none⟩) hr).trans (hc k x hx 0 _ rfl)
        simp only [Nat.mul_one, Nat.add_zero] at e0
        have hrlt : r < wr.heap.size := Nat.lt_of_lt_of_le hr h.old.size
        have hcl : (SysS.new (tags.take k)).cores.length = k := by unfold SysS.new; simp [Hn.out]; omega
        rw [hcl, hLb] at q0
        rw [hLb] at z0
        by_cases htx : TagOk x
        · have HC := Lib.hid (fun (W : World) => CorNew_ok x 0 W htx (by unfold BaseOk; omega))
          have HTX := Lib.hid htx
          have HX := Lib.hid hx
          have HTG := Lib.hid htg
          have Hlb := Lib.hid hLb
          have Hmn := Lib.hid hmn
          have Hcl := Lib.hid hcl
          have H := Lib.hid h
          have Hown := Lib.hid hown
          clear htx hx htg hLb hmn hcl h hown hc
          go_wp2_with (first
            | (go_at_call 39; refine (HC.out _).mono ?_; intro e w3 hp; obtain ⟨c0, p0, b0, r0, F0, rfl, hcs, hnw, hb3⟩ := hp.st H.out.old
               have q0 := (hb3.cell (p := ⟨w2.heap.size + 1, 0, none⟩) (show w2.heap.size + 1 < wr.heap.size by have := Hlb.out; omega)).trans q0
               have z0 := (hb3.frozen (p := ⟨w2.heap.size + 1, 0, none⟩) (show w2.heap.size + 1 < wr.heap.size by have := Hlb.out; omega)).trans z0
               have hlt3 : w2.heap.size + 1 < w3.heap.size := (by have := Hlb.out; have := hb3.size; omega)
               have hne3 : w2.heap.size + 1 ≠ w3.heap.size := (by omega)
               have HCS := Lib.hid hcs; have HNW := Lib.hid hnw; have HB3 := Lib.hid hb3; have Hown3 := Lib.hid (own_bl Hown.out hb3); clear hp hcs hnw hb3)
            | (at_builtin; go_loud (refine wpList_append_lies _ (by rfl) _ _ _ (by rfl) w.heap.size 54 i0 _ 1 8 Tryz.underlying101 hi0 hz0 hz1 hz2 rfl (by omega) (.slice L.ar k L.cap) k _ (by rfl) (Hown3.out.alloc _) ⟨w3.heap.size, 0, none⟩ 1 1 [.pointer (some ⟨c0, 0, none⟩)] (by rfl) (by rfl) (World.news_of_block (cs := #[.pointer (some ⟨c0, 0, none⟩)]) (t := 54) (fr := (0, 0)) (heap_at (by simp) _)) (by simp [Value.oneCell']) (by omega) (by unfold maxLen; omega) (by omega) (by have := HB3.out.size; have := H.out.old.size; simp; omega) (w3.heap.size + 1) (by simp) ?_); intro gg cap w4 hown4 hgrow hat hltg
               have hfr1 : Fr (fun q => (Value.slice L.ar k L.cap).ownBlock = some q) w3 w4 := (((Fr.refl _ w3).alloc _)).trans (Fr.of_grown hgrow) (fun _ _ h => h)
               have hoA : ∀ q, (Value.slice L.ar k L.cap).ownBlock = some q → q ≠ w2.heap.size + 1 := fun q hq e => (by obtain ⟨p, hp, rfl⟩ := ownBlock_some hq; have h1 := H.out.oA p hp; rw [e, ← Hlb.out, H.out.oT] at h1; cases h1)
               have z4 := (hfr1.frozen (p := ⟨w2.heap.size + 1, 0, none⟩) hlt3 (fun e => hoA _ e rfl)).trans z0
               have y4 := (hfr1.cell (p := ⟨w2.heap.size + 1, 0, none⟩) hlt3 (fun e => hoA _ e rfl)).trans q0
               have hlt4 := Nat.lt_of_lt_of_le hlt3 hfr1.size
               have Hat := Lib.hid hat; have Hfr := Lib.hid hfr1; have Hown4 := Lib.hid hown4; have Hltg := Lib.hid hltg; clear hat hgrow hown4 hfr1 hoA hltg))
          have hbg : gg ≠ L.b := fun e => by
            rcases Hat.out with h1 | h1
            · obtain ⟨p, hp, h2⟩ := ownBlock_some h1
              have h3 := H.out.oA p hp
              rw [h2, e, H.out.oT] at h3; cases h3
            · have := Hlb.out; omega
          have hfl : flat ptr1 (L.cb ++ [c0]) = flat ptr1 L.cb ++ [.pointer (some ⟨c0, 0, none⟩)] := by unfold flat; rw [List.flatMap_append]; rfl
          have hcbl : L.cb.length = k := by rw [H.out.cbl, Hcl.out]
          have hown5 := Hown4.out
          rw [← hfl] at hown5
          obtain ⟨ow', h'⟩ := H.out.push HB3.out HCS.out HNW.out Hfr.out (Hat.out.imp id fun e => by omega) Hltg.out (cap := cap) (Sl.of_own (B := w.heap.size) ptr1_len (l := L.cb ++ [c0]) (by rw [List.length_append, hcbl]; exact hown5))
          rw [Hcl.out, Hlb.out, ← new_push tags k x HX.out] at h'
          refine ⟨⟨k + 1, ow', _, by omega, by go_num, ?_, ?_, h', ?_, fun t ht => ?_⟩, by simp [intOf]; omega⟩
          · exact Hlb.out
          · exact Hmn.out
          · refine own_fr (F := fun q => q = L.b) hown5 ((Fr.refl _ w4).setCell (p := ⟨w2.heap.size + 1, 0, none⟩) (fun _ => Hlb.out.symm) _) fun q hq e => ?_
            have : gg = q := by simpa [Value.ownBlock, Lay.push] using hq
            exact hbg (this.trans e)
          · rw [List.take_succ_eq_append_getElem (List.getElem?_eq_some_iff.1 HX.out).1, (List.getElem?_eq_some_iff.1 HX.out).2, List.mem_append] at ht
            rcases ht with ht | ht
            · exact HTG.out t ht
            · simp only [List.mem_singleton] at ht
              subst ht; exact HTX.out
        · have HC := Lib.hid (fun (W : World) => CorNew_err x 0 W (fun h => htx h.1))
          have HB := Lib.hid h.old
          have hng : ¬ newGood tags := fun hg => htx (hg.2.2 x (List.mem_of_getElem? hx))
          have HN := Lib.hid hng
          clear htx hx htg hLb hmn hcl h hown hc hng
          go_wp2_with (first
            | (go_at_call 39; refine (HC.out _).mono ?_; rintro e w3 ⟨rfl, hb3⟩))
          exact bodyPost_ret (results_tmp2 rfl _ _ _) rfl (.inr ⟨HN.out, rfl, HB.out.trans (hb3.mono HB.out.size)⟩)
      · obtain rfl : k = n := by omega
        rw [List.take_of_length_le (by rw [Hn.out]; exact Nat.le_refl _)] at h htg
        have hg : newGood tags := ⟨by rw [Hn.out]; exact hn1, by rw [Hn.out]; exact hn16, htg⟩
        have H := Lib.hid h
        have HG2 := Lib.hid hg
        have Hlb := Lib.hid hLb
        have Hmn := Lib.hid hmn
        clear h hg htg hown hLb hmn
        go_wp2_with fail
        exact bodyPost_ret (results_tmp2 rfl _ _ _) rfl (.inl ⟨HG2.out, ow, L, by rw [Hlb.out]; rfl, H.out, Hmn.out⟩)
  · have hng : ¬ newGood tags := fun hg => hlen (by have h1 := hg.1; have h2 := hg.2.1; rw [hn] at h1 h2; exact ⟨h1, h2⟩)
    have HN := Lib.hid hng
    clear hn hs hng
    go_enter Tryz.func9, Tryz.ntmps9
    go_wp2
    all_goals (refine bodyPost_ret (results_tmp2 rfl _ _ _) rfl ?_; exact .inr ⟨HN.out, rfl, Below.refl _ _⟩)
end
end Go.Proofs.YthdilellcaebfaaGreat
/- A system's methods: Spawn. -/
namespace Go.Proofs.YthdilellcaebfaaGreat
open Go.RowKit Go.Shelf
set_option linter.unusedVariables false
set_option linter.unusedSimpArgs false

namespace SysS
variable {s : SysS} {t : Tk} {i : Nat} {n : Int}
/-- One comes to a place. -/
def putS (s : SysS) (i : Nat) (t : Tk) : SysS := { s with slots := s.slots.modify i fun x => ⟨x.turn + 1, some t⟩ }
theorem find_putS (hs : s.slots[i]? = some ⟨n, none⟩) (h64 : i < 64) (hid : t.id = i + 64 * n) (hn : 0 ≤ n) (j : Int) : (s.putS i t).find j = if j = t.id then some t else s.find j := by
  have e0 : (t.id % 64).toNat = i := by omega
  by_cases e : j = t.id
  · rw [if_pos e]
    subst e
    refine find_of_slot (n := n + 1) (by omega) rfl ?_
    rw [e0]
    simp [putS, List.getElem?_modify, hs]
  · rw [if_neg e]
    unfold find
    split
    · rfl
    · by_cases e2 : i = (j % 64).toNat
      · rw [← e2]
        simp only [putS, List.getElem?_modify, if_pos, hs, Option.map_eq_map, Option.map_some]
        rw [if_neg (fun h => e h.symm)]
      · simp only [putS, List.getElem?_modify]
        simp [e2]
theorem plcs_putS (hs : s.slots[i]? = some ⟨n, none⟩) : (s.putS i t).plcs = s.plcs.set i ⟨n + 1, true⟩ := by
  unfold plcs putS
  refine List.ext_getElem? fun k => ?_
  simp only [List.getElem?_map, List.getElem?_modify, List.getElem?_set, List.length_map]
  by_cases e : i = k
  · subst e
    rw [if_pos rfl, if_pos (List.getElem?_eq_some_iff.1 hs).1]
    simp [hs]
  · simp [e]
end SysS
section
variable {w0 w : World} {ow : Nat → Option Own} {L : Lay} {s : SysS} {T : Nat}
def Lay.spawn (L : Lay) (id : Int) (b : Nat) : Lay := { L with mn := L.mn + 1, tb := fun j => if j = id then b else L.tb j }
/-- Behind a call that may make a task. -/
def SysNx (w0 w : World) (ow : Nat → Option Own) (L : Lay) (s' : SysS) (w' : World) : Prop := ∃ ow' L', L'.b = L.b ∧ L'.mn ≤ L.mn + 1 ∧ SysIn w0 w' ow' L' s' ∧ Fr (fun k => ow k ≠ none) w w' ∧ ∀ k, ow' k ≠ none → ow k ≠ none ∨ w.heap.size ≤ k
theorem SysIn.nx {w' : World} (h : SysIn w0 w ow L s) (hb : Below w.heap.size w w') : SysNx w0 w ow L s w' := ⟨ow, L, rfl, by omega, h.below hb, Fr.of_below hb, fun k hk => .inl hk⟩
theorem SysTo.nx {s' : SysS} {w' : World} (h : SysTo w0 w ow L s' w') : SysNx w0 w ow L s' w' := by
  obtain ⟨ow', h1, h2, h3⟩ := h
  exact ⟨ow', L, rfl, by omega, h1, h2, h3⟩
theorem SysNx.pre {s' : SysS} {w1 w' : World} (hb : Below w.heap.size w w1) (h : SysNx w0 w1 ow L s' w') : SysNx w0 w ow L s' w' := by
  obtain ⟨ow', L', h1, h2, h3, h4, h5⟩ := h
  exact ⟨ow', L', h1, h2, h3, (Fr.of_below hb).trans h4 (fun _ _ h => h), fun k hk => (h5 k hk).imp id fun h => Nat.le_trans hb.size h⟩
theorem fmap_putS {i : Nat} {n : Int} {t : Tk} (hs : s.slots[i]? = some ⟨n, none⟩) (h64 : i < 64) (hid : t.id = i + 64 * n) (hn : 0 ≤ n) (b : Nat) : fmap (L.spawn t.id b) (s.putS i t) = updP (fmap L s) t.id b := by
  funext j
  unfold fmap updP
  rw [SysS.find_putS hs h64 hid hn]
  by_cases e : j = t.id
  · rw [if_pos e, if_pos e]; simp [Lay.spawn, e]
  · rw [if_neg e, if_neg e]; simp [Lay.spawn, e]
theorem SysIn.spawn {w1 w2 w3 : World} (h : SysIn w0 w ow L s) {i : Nat} {n : Int} {t : Tk} (hs : s.slots[i]? = some ⟨n, none⟩) (h64 : i < 64) (hid : t.id = i + 64 * n) (hn : 0 ≤ n) (h1 : SltM w1 L.sl L.pl (s.plcs.set i ⟨n + 1, true⟩)) (hf1 : Fr (fun k => k = L.pl) w w1)
    (h2 : w2 = w1.alloc (.cells t.enc.toArray 36)) (h3 : MapP w3 L.mp (L.mn + 1) (updP (fmap L s) t.id w1.heap.size)) (hf3 : Fr (fun k => k = L.mp) w2 w3) : SysNx w0 w ow L (s.putS i t) w3 := by
  have hsz1 := hf1.size
  have hsz2 : w2.heap.size = w1.heap.size + 1 := by rw [h2]; simp
  have hsz3 := hf3.size
  have hf2 : Fr (fun k => k = L.mp) w1 w3 := by
    refine Fr.trans (b := w2) ?_ hf3 (fun _ _ h => h)
    rw [h2]; exact (Fr.refl _ w1).alloc _
  have hf : Fr (fun k => k = L.mp ∨ k = L.pl) w w3 := (hf1.mono fun k _ e => .inr e).trans (hf2.mono (G := fun k => k = L.mp ∨ k = L.pl) fun k _ e => .inl e) (fun _ _ h => h)
  have n' : ∀ {k x}, ow k = some x → x ≠ .map → x ≠ .plc → ¬ (k = L.mp ∨ k = L.pl) := fun hk h1 h2 e => by
    rcases e with rfl | rfl
    · rw [h.oM] at hk; simp only [Option.some.injEq] at hk; exact h1 hk.symm
    · rw [h.oP] at hk; simp only [Option.some.injEq] at hk; exact h2 hk.symm
  have hsm : ¬ (L.sl = L.mp) := fun e => by have := h.oS; rw [e, h.oM] at this; cases this
  have hpm : ¬ (L.pl = L.mp) := fun e => by have := h.oP; rw [e, h.oM] at this; cases this
  have hG : ∀ k, (k = L.mp ∨ k = L.pl) → w0.heap.size ≤ k := fun k e => by rcases e with rfl | rfl; exact (h.lt _ _ h.oM).1; exact (h.lt _ _ h.oP).1
  have hml := (h.lt _ _ h.oM).2
  have o : ∀ {k x}, ow k = some x → (if k = w1.heap.size then some (Own.tsk t.id) else ow k) = some x := fun hk => by rw [if_neg (by have := (h.lt _ _ hk).2; omega)]; exact hk
  refine ⟨fun k => if k = w1.heap.size then some (.tsk t.id) else ow k, L.spawn t.id w1.heap.size, rfl, Nat.le_refl _, ⟨?_, h.arr.fr hf fun p hp => n' (h.oA p hp) (fun e => by cases e) (fun e => by cases e), h.grp.fr hf (n' h.oG (fun e => by cases e) (fun e => by cases e)), ?_, ?_, fun j u hu => ?_, fun j c hc => ?_, h.cbl, o h.oT, fun p hp => o (h.oA p hp), o h.oG, o h.oS, o h.oP, o h.oM, fun k x hk => ?_, h.old.trans (hf.below h.old.size hG)⟩, hf.mono fun k _ e => ?_, fun k hk => ?_⟩
  · exact heap_fr h.top hf (n' h.oT (fun e => by cases e) (fun e => by cases e))
  · rw [SysS.plcs_putS hs]; exact h1.fr hf2 hsm hpm
  · rw [fmap_putS hs h64 hid hn]; exact h3
  · rw [SysS.find_putS hs h64 hid hn] at hu
    split at hu
    · rename_i e
      subst e
      simp only [Option.some.injEq] at hu
      subst hu
      simp only [Lay.spawn, if_pos]
      refine ⟨heap_fr (by rw [h2]; exact heap_new w1 _) hf3 (fun e => by omega), by simp⟩
    · rename_i e
      obtain ⟨x1, x2⟩ := h.tsk j u hu
      simp only [Lay.spawn, if_neg e]
      exact ⟨heap_fr x1 hf (n' x2 (fun e => by cases e) (fun e => by cases e)), o x2⟩
  · obtain ⟨bl, F, p, q, r, x1, x2, x3⟩ := h.cor j c hc
    exact ⟨bl, F, p, q, r, x1, x2.fr hf (fun k hk => n' (x3 k hk) (fun e => by cases e) (fun e => by cases e)) hG, fun k hk => o (x3 k hk)⟩
  · have := h.old.size
    split at hk
    · omega
    · have := h.lt k x hk
      omega
  · rcases e with rfl | rfl
    · rw [h.oM]; simp
    · rw [h.oP]; simp
  · dsimp only at hk
    split at hk
    · rename_i e; exact .inr (by omega)
    · exact .inl hk
theorem free_plcs (s : SysS) (i : Nat) : s.slots.findIdx? (fun x => x.task.isNone) = some i → ∃ n, s.slots[i]? = some ⟨n, none⟩ ∧ ∀ j q, j < i → s.plcs[j]? = some q → q.taken = true := by
  intro h
  obtain ⟨h1, h2, h3⟩ := List.findIdx?_eq_some_iff_getElem.1 h
  refine ⟨(s.slots[i]).turn, ?_, fun j q hj hq => ?_⟩
  · rw [List.getElem?_eq_getElem h1]
    cases hx : s.slots[i] with
    | mk n t =>
      rw [hx] at h2
      cases t with
      | none => rfl
      | some u => simp at h2
  · unfold SysS.plcs at hq
    rw [List.getElem?_map, List.getElem?_eq_getElem (by omega)] at hq
    simp only [Option.map_some, Option.some.injEq] at hq
    subst hq
    have := h3 j hj
    cases hx : (s.slots[j]'(by omega)).task with
    | none => rw [hx] at this; simp at this
    | some u => rfl
theorem full_plcs (s : SysS) : s.slots.findIdx? (fun x => x.task.isNone) = none → ∀ q ∈ s.plcs, q.taken = true := by
  intro h q hq
  rw [List.findIdx?_eq_none_iff] at h
  unfold SysS.plcs at hq
  obtain ⟨x, hx, rfl⟩ := List.mem_map.1 hq
  have := h x hx
  cases hx : x.task with
  | none => rw [hx] at this; simp at this
  | some u => rfl
set_option maxHeartbeats 3200000 in
set_option maxRecDepth 100000 in
theorem YSpawn (h : SysIn w0 w ow L s) (hk : SysOk T s) (hT : T ≤ 10000000) (x m g : Int) (hm : 0 ≤ m ∧ m < 65536) (hmn : L.mn < 1000000000) :
    Calls Tryz.prog 10 #[.pointer (some ⟨L.b, 0, none⟩), .int .i64 x, .int .u16 m, .int .i64 g] w fun e w' => e = .returned (.tuple #[.int .i64 (s.spawn x m g).2.1, .int .i64 (s.spawn x m g).2.2]) ∧ SysNx w0 w ow L (s.spawn x m g).1 w' := by
  obtain ⟨⟨q0, q1, q2, q3⟩, -, hlt⟩ := h.tops
  have HW := Lib.hid (WGood_any x)
  have HM := Lib.hid (fun (n : Int) (W : World) => MGood_any m n W hm)
  have HD := Lib.hid (GDepth h.grp g)
  have H := Lib.hid h
  have hp := pathG_pos (ups := s.ups) (g := g)
  by_cases hx : 1 ≤ x ∧ x ≤ 20
  · by_cases hgm : goodM m s.cores.length = true
    · cases hh : hasG s.ups g with
      | true =>
        rw [hh] at hp
        have h0 : 0 < (pathG s.ups g).length := hp.2 rfl
        have hn0 : ¬ ((pathG s.ups g).length : Int) = 0 := by omega
        have hnb : (((pathG s.ups g).length : Int) == 0) = false := by simpa using hn0
        generalize (pathG s.ups g).length = d at HD hnb hn0
        cases hfi : s.slots.findIdx? (fun x => x.task.isNone) with
        | some i =>
          obtain ⟨n, hsl, hbf⟩ := free_plcs s i hfi
          have hi64 : i < 64 := by have := (List.getElem?_eq_some_iff.1 hsl).1; rw [hk.s64] at this; exact this
          have hn0 := (hk.turn _ (List.mem_of_getElem? hsl))
          simp only at hn0
          have hsp : s.spawn x m g = (s.putS i ⟨i + 64 * n, x, g, -1, 1, m, 0⟩, i + 64 * n, 0) := by
            unfold SysS.spawn
            rw [if_pos hx, if_pos hgm, if_pos hh, hfi]
            have e1 : (s.slots.getD i ⟨0, none⟩).turn = n := by rw [List.getD_eq_getElem?_getD, hsl]; rfl
            simp only [e1, Prod.mk.injEq, and_true]
            unfold SysS.putS
            simp only [SysS.mk.injEq, true_and]
            refine List.ext_getElem? fun k => ?_
            simp only [List.getElem?_modify]
            by_cases e : i = k
            · subst e; simp [hsl]
            · simp [e]
          rw [hsp]
          have HTk := Lib.hid (fun (W : World) (hW : Below w.heap.size w W) => STake (h.slt.below hW) (SysS.plcs_at hsl) rfl hbf (by simp only; omega))
          have Hsl := Lib.hid hsl
          rw [show decide (1 ≤ x ∧ x ≤ 20) = true from decide_eq_true hx] at HW
          have hgm2 := Lib.hid hgm
          have Hmn := Lib.hid hmn
          have HI := Lib.hid hi64
          have HN := Lib.hid hn0
          have hlt := Lib.hid hlt
          have hne : L.b ≠ L.pl := fun e => by have h1 := h.oT; rw [e, h.oP] at h1; cases h1
          simp only at HTk
          clear h hk hp hx hgm hh h0 hfi hsl hbf hsp hm hn0
          go_enter Tryz.func10, Tryz.ntmps10
          go_wp2_with (first
            | (go_at_call 40; refine (HW.out _).mono ?_; rintro e w1 ⟨rfl, rfl⟩)
            | (go_at_call 41; refine (HM.out _ _).mono ?_; rintro e w1 ⟨rfl, rfl⟩; rw [hgm2.out])
            | (go_at_call 42; refine HD.out.mono ?_; rintro e w1 ⟨rfl, hb1⟩
               obtain ⟨⟨q0, q1, q2, q3⟩, -, hlt1⟩ := (H.out.below hb1).tops
               have Hb1 := Lib.hid hb1; clear hb1)
            | (go_at_call 43; refine (HTk.out _ Hb1.out).mono ?_; rintro e w2 ⟨rfl, hs2, hf2⟩
               have q3 := (hf2.cell (p := ⟨L.b, 67, none⟩) hlt1 hne).trans q3
               have hlt2 := Nat.lt_of_lt_of_le hlt1 hf2.size
               have hne2 : L.b ≠ w2.heap.size := (by omega)
               have Hs2 := Lib.hid hs2
               have Hf2 := Lib.hid hf2
               have HMp := Lib.hid (((H.out.below Hb1.out).map.fr hf2 (fun e => by have h1 := H.out.oM; rw [e, H.out.oP] at h1; cases h1)).below ((Below.refl _ _).alloc (Nat.le_refl _) (.cells #[.int .i64 (i + 64 * n), .int .i64 x, .int .i64 g, .int .i64 (-1), .int .i64 1, .int .u16 m, .int .i64 0] 36)))
               clear hs2 hf2)
            | (refine wpList_putP _ rfl _ _ _ rfl L.mp L.mn _ rfl HMp.out (by have := Hmn.out; unfold maxLen; omega) (i + 64 * n) w2.heap.size rfl (ptrV_nat _).symm (by omega) (by have := HI.out; have := HN.out; omega) ?_; intro w3 hm3 hf3; have Hm3 := Lib.hid hm3; have Hf3 := Lib.hid hf3; clear hm3 hf3))
          go_ret2
          refine ⟨rfl, SysNx.pre Hb1.out ?_⟩
          exact (H.out.below Hb1.out).spawn (t := ⟨i + 64 * n, x, g, -1, 1, m, 0⟩) Hsl.out HI.out rfl HN.out.1 Hs2.out Hf2.out rfl Hm3.out Hf3.out
        | none =>
          have HTk := Lib.hid (fun (W : World) (hW : Below w.heap.size w W) => STake_full (h.slt.below hW) (full_plcs s hfi))
          have hsp : s.spawn x m g = (s, 0, 3) := by unfold SysS.spawn; rw [if_pos hx, if_pos hgm, if_pos hh, hfi]
          rw [hsp]
          rw [show decide (1 ≤ x ∧ x ≤ 20) = true from decide_eq_true hx] at HW
          have hgm2 := Lib.hid hgm
          clear h hk hp hx hgm hh h0 hfi hsp hm hn0
          go_enter Tryz.func10, Tryz.ntmps10
          go_wp2_with (first
            | (go_at_call 40; refine (HW.out _).mono ?_; rintro e w1 ⟨rfl, rfl⟩)
            | (go_at_call 41; refine (HM.out _ _).mono ?_; rintro e w1 ⟨rfl, rfl⟩; rw [hgm2.out])
            | (go_at_call 42; refine HD.out.mono ?_; rintro e w1 ⟨rfl, hb1⟩
               obtain ⟨⟨q0, q1, q2, q3⟩, -, hlt1⟩ := (H.out.below hb1).tops
               have Hb1 := Lib.hid hb1; clear hb1)
            | (go_at_call 43; refine (HTk.out _ Hb1.out).mono ?_; rintro e w2 ⟨rfl, rfl⟩))
          go_ret2
          exact ⟨rfl, H.out.nx Hb1.out⟩
      | false =>
        have h0 : (pathG s.ups g).length = 0 := by
          rw [hh] at hp
          rcases Nat.eq_zero_or_pos (pathG s.ups g).length with h | h
          · exact h
          · exact absurd (hp.1 h) (by decide)
        rw [h0] at HD
        have hsp : s.spawn x m g = (s, 0, 2) := by unfold SysS.spawn; rw [if_pos hx, if_pos hgm, if_neg (by rw [hh]; decide)]
        rw [hsp]
        rw [show decide (1 ≤ x ∧ x ≤ 20) = true from decide_eq_true hx] at HW
        have hgm2 := Lib.hid hgm
        clear h hk hp hx hgm hh h0 hsp hm
        go_enter Tryz.func10, Tryz.ntmps10
        go_wp2_with (first
          | (go_at_call 40; refine (HW.out _).mono ?_; rintro e w1 ⟨rfl, rfl⟩)
          | (go_at_call 41; refine (HM.out _ _).mono ?_; rintro e w1 ⟨rfl, rfl⟩; rw [hgm2.out])
          | (go_at_call 42; refine HD.out.mono ?_; rintro e w1 ⟨rfl, hb1⟩; have Hb1 := Lib.hid hb1; clear hb1))
        go_ret2
        exact ⟨rfl, H.out.nx Hb1.out⟩
    · have hgm1 : goodM m s.cores.length = false := by simpa using hgm
      have hsp : s.spawn x m g = (s, 0, 5) := by unfold SysS.spawn; rw [if_pos hx, if_neg hgm]
      rw [hsp]
      rw [show decide (1 ≤ x ∧ x ≤ 20) = true from decide_eq_true hx] at HW
      have hgm2 := Lib.hid hgm1
      clear h hk hp hx hgm hgm1 hsp hm
      go_enter Tryz.func10, Tryz.ntmps10
      go_wp2_with (first
        | (go_at_call 40; refine (HW.out _).mono ?_; rintro e w1 ⟨rfl, rfl⟩)
        | (go_at_call 41; refine (HM.out _ _).mono ?_; rintro e w1 ⟨rfl, rfl⟩; rw [hgm2.out]))
      go_ret2
      exact ⟨rfl, H.out.nx (Below.refl _ _)⟩
  · have hsp : s.spawn x m g = (s, 0, 1) := by unfold SysS.spawn; rw [if_neg hx]
    rw [hsp]
    rw [show decide (1 ≤ x ∧ x ≤ 20) = false from decide_eq_false hx] at HW
    clear h hk hp hx hsp hm
    go_enter Tryz.func10, Tryz.ntmps10
    go_wp2_with (first
      | (go_at_call 40; refine (HW.out _).mono ?_; rintro e w1 ⟨rfl, rfl⟩))
    go_ret2
    exact ⟨rfl, H.out.nx (Below.refl _ _)⟩
end
end Go.Proofs.YthdilellcaebfaaGreat
/- A system's methods: Group. -/
namespace Go.Proofs.YthdilellcaebfaaGreat
open Go.RowKit Go.Shelf
set_option linter.unusedVariables false
set_option linter.unusedSimpArgs false

theorem flat_setA (a : Acn) : ∀ (l : List Acn) (j : Nat), j < l.length → ((((flat Acn.enc l).set (j * 4) (.int .i64 a.q)).set (j * 4 + 1) (.int .i64 a.p)).set (j * 4 + 2) (.int .i64 a.l)).set (j * 4 + 3) (.int .i64 a.f) = flat Acn.enc (l.set j a)
  | [], j, h => by simp at h
  | x :: l, 0, _ => rfl
  | x :: l, j + 1, h => by
    have ih := flat_setA a l j (by simpa using h)
    rw [show (j + 1) * 4 = j * 4 + 4 by omega]
    simp only [List.set_cons_succ]
    show _ = Acn.enc x ++ flat Acn.enc (l.set j a)
    rw [← ih]
    show ((((Acn.enc x ++ flat Acn.enc l).set (j * 4 + 4) _).set (j * 4 + 4 + 1) _).set (j * 4 + 4 + 2) _).set (j * 4 + 4 + 3) _ = _
    rfl
section
variable {w0 w : World} {ow : Nat → Option Own} {L : Lay} {s : SysS} {T : Nat}
theorem SysS.acc_setA {g : Nat} (hg : g < s.grps.length) (a : Acn) (j : Nat) : (s.setA g a).acc j = if j = g then a else s.acc j := by
  unfold SysS.acc SysS.setA
  simp only [List.getElem?_modify]
  by_cases e : g = j
  · subst e
    rw [if_pos rfl, List.getElem?_eq_getElem hg]
    simp
  · rw [if_neg (fun h => e h.symm)]
    simp [e]
theorem accL_setA {g : Nat} (hg : g < s.grps.length) (a : Acn) : accL (s.setA g a) = (accL s).set g a := by
  refine List.ext_getElem? fun k => ?_
  unfold accL
  simp only [List.getElem?_map, List.getElem?_set, List.length_map, List.length_range, List.getElem?_range', List.getElem?_range]
  by_cases hk : k < 16
  · rw [List.getElem?_range hk]
    simp only [Option.map_some, SysS.acc_setA hg]
    by_cases e : g = k
    · subst e; simp [hk]
    · rw [if_neg e, if_neg (fun h => e h.symm)]
  · rw [List.getElem?_eq_none (by simp; omega)]
    simp
    omega
theorem ups_setA (g : Nat) (a : Acn) : (s.setA g a).ups = s.ups := by
  unfold SysS.ups SysS.setA
  refine List.ext_getElem? fun k => ?_
  simp only [List.getElem?_map, List.getElem?_modify]
  by_cases e : g = k
  · subst e; cases s.grps[g]? <;> simp
  · simp [e]
theorem top_setA (L : Lay) {g : Nat} (hg : g < s.grps.length) (h16 : g < 16) (a : Acn) : ((((topCells L s).toArray.setIfInBounds (2 + g * 4) (.int .i64 a.q)).setIfInBounds (2 + g * 4 + 1) (.int .i64 a.p)).setIfInBounds (2 + g * 4 + 2) (.int .i64 a.l)).setIfInBounds (2 + g * 4 + 3) (.int .i64 a.f) = (topCells L (s.setA g a)).toArray := by
  unfold topCells
  rw [accL_setA hg, ← flat_setA a _ g (by simp [accL, h16])]
  have hl := flat_accL s
  simp only [List.setIfInBounds_toArray]
  have e : ∀ (i : Nat) (v : Value) (l : List Value), (([.slice L.ar s.cores.length L.cap, .pointer (some ⟨L.g, 0, none⟩)] : List Value) ++ l).set (2 + i) v = [.slice L.ar s.cores.length L.cap, .pointer (some ⟨L.g, 0, none⟩)] ++ l.set i v := fun i v l => by
    rw [show 2 + i = i + 1 + 1 by omega]; rfl
  have e2 : ∀ (i : Nat) (v : Value) (l m : List Value), i < l.length → (l ++ m).set i v = l.set i v ++ m := fun i v l m hi => by rw [List.set_append_left _ _ hi]
  rw [show 2 + g * 4 + 1 = 2 + (g * 4 + 1) by omega, show 2 + g * 4 + 2 = 2 + (g * 4 + 2) by omega, show 2 + g * 4 + 3 = 2 + (g * 4 + 3) by omega]
  rw [e, e, e, e, e2 _ _ _ _ (by omega), e2 _ _ _ _ (by simp; omega), e2 _ _ _ _ (by simp; omega), e2 _ _ _ _ (by simp; omega)]
  rfl
/-- The top's cells are written. -/
theorem SysIn.top' {w' : World} {s' : SysS} (h : SysIn w0 w ow L s) (hf : Fr (fun k => k = L.b) w w') (ht : w'.heap[L.b]? = some (.cells (topCells L s').toArray 104 (0, 0))) (h1 : s'.cores = s.cores) (h2 : s'.slots = s.slots) (h3 : s'.ups = s.ups) : SysIn w0 w' ow L s' := by
  have n' : ∀ {k x}, ow k = some x → x ≠ .top → ¬ (k = L.b) := fun hk h1 e => by
    subst e
    rw [h.oT] at hk; simp only [Option.some.injEq] at hk; exact h1 hk.symm
  have hG : ∀ k, k = L.b → w0.heap.size ≤ k := fun k e => by subst e; exact (h.lt _ _ h.oT).1
  have hfd : ∀ id, s'.find id = s.find id := fun id => by unfold SysS.find; rw [h2]
  refine ⟨ht, h.arr.fr hf fun p hp => n' (h.oA p hp) (fun e => by cases e), ?_, ?_, ?_, fun j u hu => ?_, fun j c hc => ?_, by rw [h1]; exact h.cbl, h.oT, h.oA, h.oG, h.oS, h.oP, h.oM, fun k x hk => ?_, h.old.trans (hf.below h.old.size hG)⟩
  · rw [h3]; exact h.grp.fr hf (n' h.oG (fun e => by cases e))
  · have e : s'.plcs = s.plcs := by unfold SysS.plcs; rw [h2]
    rw [e]; exact h.slt.fr hf (n' h.oS (fun e => by cases e)) (n' h.oP (fun e => by cases e))
  · have e : fmap L s' = fmap L s := by funext id; unfold fmap; rw [hfd]
    rw [e]; exact h.map.fr hf (n' h.oM (fun e => by cases e))
  · rw [hfd] at hu
    obtain ⟨x1, x2⟩ := h.tsk j u hu
    exact ⟨heap_fr x1 hf (n' x2 (fun e => by cases e)), x2⟩
  · rw [h1] at hc
    obtain ⟨bl, F, p, q, r, x1, x2, x3⟩ := h.cor j c hc
    exact ⟨bl, F, p, q, r, x1, x2.fr hf (fun k hk => n' (x3 k hk) (fun e => by cases e)) hG, x3⟩
  · have := h.lt k x hk
    have := hf.size
    omega
def acnW (w : World) (b g : Nat) (a : Acn) : World := (((w.setCell ⟨b, 2 + g * 4, none⟩ (.int .i64 a.q)).setCell ⟨b, 2 + g * 4 + 1, none⟩ (.int .i64 a.p)).setCell ⟨b, 2 + g * 4 + 2, none⟩ (.int .i64 a.l)).setCell ⟨b, 2 + g * 4 + 3, none⟩ (.int .i64 a.f)
theorem fr_acn (w : World) (b g : Nat) (a : Acn) : Fr (fun k => k = b) w (acnW w b g a) :=
  ((((Fr.refl (fun k => k = b) w).setCell (p := ⟨b, _, none⟩) (fun _ => rfl) _).setCell (p := ⟨b, _, none⟩) (fun _ => rfl) _).setCell (p := ⟨b, _, none⟩) (fun _ => rfl) _).setCell (p := ⟨b, _, none⟩) (fun _ => rfl) _
/-- An account is written. -/
theorem SysIn.setA (h : SysIn w0 w ow L s) {g : Nat} (hg : g < s.grps.length) (h16 : g < 16) (a : Acn) : SysIn w0 (acnW w L.b g a) ow L (s.setA g a) := by
  refine h.top' (fr_acn w L.b g a) ?_ rfl rfl (ups_setA g a)
  rw [← top_setA L hg h16 a]
  exact heap_set (heap_set (heap_set (heap_set h.top _) _) _) _
/-- A group more, without account. -/
def SysS.addG (s : SysS) (up : Int) : SysS := { s with grps := s.grps ++ [(up, Acn.zero)] }
theorem SysS.acc_addG (up : Int) (j : Nat) : (s.addG up).acc j = s.acc j := by
  unfold SysS.acc SysS.addG
  by_cases h : j < s.grps.length
  · simp only [List.getElem?_append_left h]
  · simp only [List.getElem?_append_right (Nat.le_of_not_lt h)]
    rw [List.getElem?_eq_none (Nat.le_of_not_lt h)]
    rcases Nat.eq_zero_or_pos (j - s.grps.length) with e | e
    · rw [e]; rfl
    · rw [List.getElem?_eq_none (by simp; omega)]
theorem SysIn.addG {w' : World} (h : SysIn w0 w ow L s) {up : Int} (hg : GrpM w' L.g (s.ups ++ [up])) (hf : Fr (fun k => k = L.g) w w') : SysIn w0 w' ow L (s.addG up) := by
  have n' : ∀ {k x}, ow k = some x → x ≠ .grp → ¬ (k = L.g) := fun hk h1 e => by
    subst e
    rw [h.oG] at hk; simp only [Option.some.injEq] at hk; exact h1 hk.symm
  have hG : ∀ k, k = L.g → w0.heap.size ≤ k := fun k e => by subst e; exact (h.lt _ _ h.oG).1
  have htop : topCells L (s.addG up) = topCells L s := by
    have e : (s.addG up).acc = s.acc := funext (SysS.acc_addG up)
    unfold topCells accL
    rw [e]; rfl
  refine ⟨?_, h.arr.fr hf fun p hp => n' (h.oA p hp) (fun e => by cases e), ?_, h.slt.fr hf (n' h.oS (fun e => by cases e)) (n' h.oP (fun e => by cases e)), h.map.fr hf (n' h.oM (fun e => by cases e)), fun j u hu => ?_, fun j c hc => ?_, h.cbl, h.oT, h.oA, h.oG, h.oS, h.oP, h.oM, fun k x hk => ?_, h.old.trans (hf.below h.old.size hG)⟩
  · rw [htop]; exact heap_fr h.top hf (n' h.oT (fun e => by cases e))
  · have e : (s.addG up).ups = s.ups ++ [up] := by unfold SysS.ups SysS.addG; simp
    rw [e]; exact hg
  · obtain ⟨x1, x2⟩ := h.tsk j u hu
    exact ⟨heap_fr x1 hf (n' x2 (fun e => by cases e)), x2⟩
  · obtain ⟨bl, F, p, q, r, x1, x2, x3⟩ := h.cor j c hc
    exact ⟨bl, F, p, q, r, x1, x2.fr hf (fun k hk => n' (x3 k hk) (fun e => by cases e)) hG, x3⟩
  · have := h.lt k x hk
    have := hf.size
    omega
set_option maxHeartbeats 3200000 in
set_option maxRecDepth 100000 in
theorem YGroup (h : SysIn w0 w ow L s) (hk : SysOk T s) (up q p : Int) :
    Calls Tryz.prog 18 #[.pointer (some ⟨L.b, 0, none⟩), .int .i64 up, .int .i64 q, .int .i64 p] w fun e w' => e = .returned (.tuple #[.int .i64 (s.group up q p).2.1, .int .i64 (s.group up q p).2.2]) ∧ SysTo w0 w ow L (s.group up q p).1 w' := by
  have H := Lib.hid h
  have hl : s.ups.length = s.grps.length := by unfold SysS.ups; rw [List.length_map]
  have hg16 := hk.g16
  cases hgd : (⟨q, p, q, 0⟩ : Acn).good with
  | false =>
    have HN := Lib.hid (fun (W : World) => AcNew_err q p W hgd)
    have hsp : s.group up q p = (s, 0, 1) := by unfold SysS.group; rw [if_neg (by rw [hgd]; decide)]
    rw [hsp]
    clear h hk hl hg16 hgd hsp
    go_enter Tryz.func18, Tryz.ntmps18
    go_wp2_with (first
      | (go_at_call 58; refine (HN.out _).mono ?_; rintro e w1 ⟨rfl, hb1⟩; have Hb1 := Lib.hid hb1; clear hb1))
    go_ret2
    exact ⟨rfl, H.out.same (Hb1.out.alloc Hb1.out.size _)⟩
  | true =>
    have HN := Lib.hid (fun (W : World) => AcNew_ok q p W hgd)
    cases hh : hasG s.ups up with
    | false =>
      have HA := Lib.hid (fun (W : World) (hW : Below w.heap.size w W) => GAdd_none (h.grp.below hW) up hh)
      have hsp : s.group up q p = (s, 0, 2) := by unfold SysS.group; rw [if_pos hgd, if_neg (by rw [hh]; decide)]
      rw [hsp]
      clear h hk hl hg16 hgd hsp hh
      go_enter Tryz.func18, Tryz.ntmps18
      go_wp2_with (first
        | (go_at_call 58; refine (HN.out _).mono ?_; rintro e w1 ⟨rfl, hb1⟩
           have Hb1 := Lib.hid hb1
           have Hb2 := Lib.hid (hb1.alloc hb1.size (.cells #[.int .i64 q, .int .i64 p, .int .i64 q, .int .i64 0] 48))
           obtain ⟨⟨q0, q1, q2, q3⟩, -, hlt1⟩ := (H.out.below hb1).tops
           have hne1 : L.b ≠ w1.heap.size := (by omega)
           clear hb1)
        | (go_at_call 59; refine (HA.out _ Hb2.out).mono ?_; rintro e w2 ⟨rfl, rfl⟩))
      go_ret2
      exact ⟨rfl, H.out.same Hb2.out⟩
    | true =>
      by_cases hd : 4 ≤ (pathG s.ups up).length
      · have HA := Lib.hid (fun (W : World) (hW : Below w.heap.size w W) => GAdd_deep (h.grp.below hW) up hh hd)
        have hsp : s.group up q p = (s, 0, 6) := by unfold SysS.group; rw [if_pos hgd, if_pos hh, if_pos hd]
        rw [hsp]
        clear h hk hl hg16 hgd hsp hh hd
        go_enter Tryz.func18, Tryz.ntmps18
        go_wp2_with (first
          | (go_at_call 58; refine (HN.out _).mono ?_; rintro e w1 ⟨rfl, hb1⟩
             have Hb1 := Lib.hid hb1
             have Hb2 := Lib.hid (hb1.alloc hb1.size (.cells #[.int .i64 q, .int .i64 p, .int .i64 q, .int .i64 0] 48))
             obtain ⟨⟨q0, q1, q2, q3⟩, -, hlt1⟩ := (H.out.below hb1).tops
             have hne1 : L.b ≠ w1.heap.size := (by omega)
             clear hb1)
          | (go_at_call 59; refine (HA.out _ Hb2.out).mono ?_; rintro e w2 ⟨rfl, hb3⟩; have Hb3 := Lib.hid hb3; clear hb3))
        go_ret2
        exact ⟨rfl, H.out.same (Hb2.out.trans (Hb3.out.mono Hb2.out.size))⟩
      · by_cases hn : s.grps.length < 16
        · have HA := Lib.hid (fun (W : World) (hW : Below w.heap.size w W) => GAdd_ok (h.grp.below hW) up hh (by omega) (by rw [hl]; exact hn))
          have hsp : s.group up q p = ((s.addG up).setA s.grps.length ⟨q, p, q, 0⟩, (s.grps.length : Int), 0) := by
            unfold SysS.group
            rw [if_pos hgd, if_pos hh, if_neg hd, if_pos hn]
            simp only [Prod.mk.injEq, and_true]
            unfold SysS.setA SysS.addG
            simp only [SysS.mk.injEq, true_and, and_true]
            refine List.ext_getElem? fun k => ?_
            simp only [List.getElem?_modify]
            by_cases e : s.grps.length = k
            · subst e; simp
            · simp only [if_neg e]
              by_cases e2 : k < s.grps.length
              · simp [List.getElem?_append_left e2]
              · rw [List.getElem?_eq_none (by simp; omega), List.getElem?_eq_none (by simp; omega)]; rfl
          rw [hsp]
          rw [hl] at HA
          have hbg : L.b ≠ L.g := fun e => by have h1 := h.oT; rw [e, h.oG] at h1; cases h1
          have hgl : L.g < w.heap.size := (h.lt _ _ h.oG).2
          obtain ⟨n, hn0⟩ : ∃ n, s.grps.length = n := ⟨_, rfl⟩
          have hnn := Lib.hid hn0
          rw [hn0] at HA hn ⊢
          have hn16 : (n : Int) < 16 := by omega
          have hn00 : (0 : Int) ≤ n := by omega
          have HN16 := Lib.hid hn
          clear h hk hl hg16 hgd hsp hh hd hn hn0
          go_enter Tryz.func18, Tryz.ntmps18
          go_wp2_with (first
            | (go_at_call 58; refine (HN.out _).mono ?_; rintro e w1 ⟨rfl, hb1⟩
               have Hb1 := Lib.hid hb1
               have Hb2 := Lib.hid (hb1.alloc hb1.size (.cells #[.int .i64 q, .int .i64 p, .int .i64 q, .int .i64 0] 48))
               obtain ⟨⟨q0, q1, q2, q3⟩, -, hlt1⟩ := (H.out.below hb1).tops
               have hne1 : L.b ≠ w1.heap.size := (by omega)
               clear hb1)
            | (go_at_call 59; refine (HA.out _ Hb2.out).mono ?_; rintro e w2 ⟨rfl, hg2, hf2⟩
               have hr1 := Nat.lt_of_lt_of_le hgl Hb1.out.size
               have x0 := heap_fr (heap_new w1 (.cells #[.int .i64 q, .int .i64 p, .int .i64 q, .int .i64 0] 48)) hf2 (fun e => by omega)
               obtain ⟨y0, y1, y2, y3, z0, z1, z2, z3, zl⟩ := blk4 x0
               have h2 := (H.out.below Hb2.out).addG hg2 hf2
               obtain ⟨⟨a0, a1, a2, a3⟩, ⟨f0, f1, f2, f3⟩⟩ := h2.accs HN16.out
               have hlt2 := h2.tops.2.2
               have hne2 : L.b ≠ w1.heap.size := (by have := (H.out.lt _ _ H.out.oT).2; have := Hb1.out.size; omega)
               have H2 := Lib.hid h2
               have Hf2 := Lib.hid hf2
               clear hg2 hf2 h2 x0))
          refine wp_region_chain 41 [0, 0, 0, 1, 9, 31, 63] [(0, none), (1, none), (2, none), (3, none), (4, none), (5, none), (6, some [])] (by kernel_rfl) (by kernel_rfl) (by rfl) ?_; simp only [chain, Obs, List.getElem?_toArray, List.getElem?_cons_zero, List.getElem?_cons_succ]
          go_wp2_with (first
            | (with_reducible refine And.intro (by first | with_reducible exact True.intro | with_reducible rfl | go_simp) ?_))
          refine NoPanic.normal ?_
          go_wp2_with fail
          go_ret2
          have h3 := H2.out.setA (g := n) (by simp [SysS.addG, hnn.out]) HN16.out ⟨q, p, q, 0⟩
          have hf3 : Fr (fun k => ow k ≠ none) w (acnW w2 L.b n ⟨q, p, q, 0⟩) :=
            ((Fr.of_below Hb2.out).trans (Hf2.out.mono (G := fun k => ow k ≠ none) fun k _ e => by subst e; rw [H.out.oG]; simp) (fun _ _ h => h)).trans ((fr_acn w2 L.b n ⟨q, p, q, 0⟩).mono (G := fun k => ow k ≠ none) fun k _ e => by subst e; rw [H.out.oT]; simp) (fun _ _ h => h)
          exact ⟨rfl, SysTo.drew (H.out.to h3 hf3)⟩
        · have HA := Lib.hid (fun (W : World) (hW : Below w.heap.size w W) => GAdd_full (h.grp.below hW) up hh (by omega) (by omega))
          have hsp : s.group up q p = (s, 0, 3) := by unfold SysS.group; rw [if_pos hgd, if_pos hh, if_neg hd, if_neg hn]
          rw [hsp]
          clear h hk hl hg16 hgd hsp hh hd hn
          go_enter Tryz.func18, Tryz.ntmps18
          go_wp2_with (first
            | (go_at_call 58; refine (HN.out _).mono ?_; rintro e w1 ⟨rfl, hb1⟩
               have Hb1 := Lib.hid hb1
               have Hb2 := Lib.hid (hb1.alloc hb1.size (.cells #[.int .i64 q, .int .i64 p, .int .i64 q, .int .i64 0] 48))
               obtain ⟨⟨q0, q1, q2, q3⟩, -, hlt1⟩ := (H.out.below hb1).tops
               have hne1 : L.b ≠ w1.heap.size := (by omega)
               clear hb1)
            | (go_at_call 59; refine (HA.out _ Hb2.out).mono ?_; rintro e w2 ⟨rfl, hb3⟩; have Hb3 := Lib.hid hb3; clear hb3))
          go_ret2
          exact ⟨rfl, H.out.same (Hb2.out.trans (Hb3.out.mono Hb2.out.size))⟩
end
end Go.Proofs.YthdilellcaebfaaGreat
/- A system's methods: Tasks. -/
namespace Go.Proofs.YthdilellcaebfaaGreat
open Go.RowKit Go.Shelf
attribute [local go_sem] Oper.semAt_some wide_fn wide_depth
set_option linter.unusedVariables false
set_option linter.unusedSimpArgs false

/-- append, in a round. -/
theorem wpListIn_append_lies {F : Fence} {nF : Nat} {P : Program} (w : World) {ops : Array Oper} {rest : List Oper} {o : Oper} {a : Act} {Q : Exit → Act → World → Prop} (hgd : o.guard = none) (s x : Operand) (t : TypeId)
    (ho : o.op = .call { callee := .builtin .append, args := #[s, x], argTypes := #[t, t] })
    (base : Nat) (e : TypeId) (i : TypeInfo) (z : Value) (size bytes : Nat) (ht : P.underlying t = some (.slice e)) (hi : P.info? e = some i) (hz : i.zero = some z)
    (hsize : i.size = size) (hby : i.bytes = bytes) (hzs : z.cells.size = size) (hsz : 0 < size)
    (v : Value) (n : Nat) (xs : List Value) (hs : a.eval s = v) (hown : w.ownsRow base e size v n xs)
    (ad : Addr) (m c : Nat) (news : List Value) (hx : a.eval x = .slice (some ad) m c) (hl : news.length = m * size) (hnews : ∀ j u, news[j]? = some u → w.cell? (ad.add j) = some u) (h1 : ∀ u ∈ news, u.oneCell' = true)
    (hm : 0 < m) (h63 : n + m ≤ maxLen) (hbytes : (n + m) * bytes ≤ 140737488355328) (hbase : base ≤ w.heap.size) (H : Nat) (hH : w.heap.size = H)
    (h : ∀ g cap w', w'.ownsRow base e size (.slice (some ⟨g, 0, none⟩) (n + m) cap) (n + m) (xs ++ news) → w.grownBy w' v.ownBlock → (v.ownBlock = some g ∨ g = H) → g < w'.heap.size → wpListIn F nF P ops Q rest (a.put o.dst (.slice (some ⟨g, 0, none⟩) (n + m) cap)) w') :
    wpListIn F nF P ops Q (o :: rest) a w := by
  refine wpListIn_plain hgd fun K hK => ?_
  obtain ⟨g, cap, w', hr, h2, h3, h4, h5⟩ := run_append_lies (P := P) w t o.type base e i z size bytes ht hi hz hsize hby hzs hsz v n xs hown ad m c news hl hnews h1 hm h63 hbytes hbase H hH
  unfold Oper.wpIn
  refine ⟨by simp [Oper.about, ho, resolve, Target.leads, Sem.run_pure], ?_⟩
  rw [Oper.semAt_plain F _ _ (by rw [ho]; intro c hc'; cases hc')]
  simp [execOp, ho, resolve, invoke, builtin, hs, hx, hr, Result.andThen]
  exact hK _ _ (h g cap w' h2 h3 h4 h5)
/-! ### who is there, and the names -/
theorem names_slots : ∀ (l : List Slo) (b : Nat), (∀ (i : Nat) (n : Int) (t : Tk), l[i]? = some ⟨n, some t⟩ → t.id = (b + i : Nat) + 64 * (n - 1)) → namesF b (l.map fun x => ⟨x.turn, x.task.isSome⟩) = (l.filterMap Slo.task).map Tk.id
  | [], b, h => rfl
  | ⟨n, x⟩ :: l, b, h => by
    have ih := names_slots l (b + 1) (fun i n t hi => by have := h (i + 1) n t hi; rw [this]; congr 2; omega)
    cases x with
    | none =>
      show namesF (b + 1) _ = _
      rw [ih]; rfl
    | some t =>
      have h0 := h 0 n t rfl
      show ((b : Int) + 64 * (n - 1)) :: namesF (b + 1) _ = _
      rw [ih]
      show _ = t.id :: _
      rw [h0]; rfl
theorem SysOk.names {T : Nat} {s : SysS} (hk : SysOk T s) : namesL s.plcs = s.all.map Tk.id := names_slots s.slots 0 (fun i n t h => by have := (hk.slot i n t h).1; rw [this, Nat.zero_add])
theorem SysOk.all_find {T : Nat} {s : SysS} (hk : SysOk T s) {t : Tk} (ht : t ∈ s.all) : s.find t.id = some t := by
  obtain ⟨x, hx, he⟩ := List.mem_filterMap.1 ht
  obtain ⟨i, hi⟩ := List.getElem?_of_mem hx
  obtain ⟨n, y⟩ := x
  simp only at he
  subst he
  obtain ⟨h1, h2, -⟩ := hk.slot i n t hi
  have h64 : i < 64 := by have := (List.getElem?_eq_some_iff.1 hi).1; rw [hk.s64] at this; exact this
  refine SysS.find_of_slot (n := n) (by omega) rfl ?_
  rw [show (t.id % 64).toNat = i by omega]
  exact hi
section
variable {w0 w : World} {ow : Nat → Option Own} {L : Lay} {s : SysS} {T : Nat}
theorem task_info : ((Tryz.prog).info? 36).map (fun i => (i.zero, i.size, i.bytes)) = some (some (.agg #[.int .i64 0, .int .i64 0, .int .i64 0, .int .i64 0, .int .i64 0, .int .u16 0, .int .i64 0]), 7, 56) := by kernel_rfl
set_option maxHeartbeats 3200000 in
set_option maxRecDepth 100000 in
theorem YTasks (h : SysIn w0 w ow L s) (hk : SysOk T s) (hT : T ≤ 10000000) : Calls Tryz.prog 16 #[.pointer (some ⟨L.b, 0, none⟩)] w fun e w' => ∃ a c, e = .returned (.slice a s.tasks.length c) ∧ Sl Tk.enc 7 w' a s.tasks ∧ Below w.heap.size w w' := by
  obtain ⟨⟨q0, q1, q2, q3⟩, ⟨z0, z1, z2, z3⟩, hlt⟩ := h.tops
  have H := Lib.hid h
  clear h
  refine (callsIn_wide (n := 0)).1 (callsIn_of_wp_marks Tryz.func16 rfl trivial ?_ rfl)
  simp only [ Tryz.ntmps16, List.size_toArray, List.length_cons, List.length_nil, Nat.reduceAdd, Nat.reduceSub, Array.replicate_succ, Array.replicate_zero, List.push_toArray, List.append_toArray, List.nil_append, List.cons_append]
  refine wpIn_wide.2 ?_
  go_wp2_with (go_at_call 56; refine (SAll _ _).mono ?_; rintro e w1 ⟨rfl, rfl⟩)
  obtain ⟨i0, hi0, hz0, hz1, hz2⟩ := info_parts task_info
  obtain ⟨w4, hw4⟩ : ∃ w4, ((w.alloc (.cells #[.pointer (some ⟨L.b, 0, none⟩)] 24)).alloc (.cells #[.slice none 0 0] 43)).alloc (.cells #[.pointer (some ⟨L.sl, 0, none⟩)] 98) = w4 := ⟨_, rfl⟩
  rw [hw4]
  obtain ⟨x0, x1, x2, hs3, hb3⟩ := heap_a3 (w := w) (o1 := (.cells #[.pointer (some ⟨L.b, 0, none⟩)] 24)) (o2 := (.cells #[.slice none 0 0] 43)) (o3 := (.cells #[.pointer (some ⟨L.sl, 0, none⟩)] 98)) (Below.refl _ _)
  have e4 : w4.heap.size = w.heap.size + 3 := by rw [← hw4]; simp
  rw [hw4] at x0 x1 x2 hb3
  clear hs3 hw4
  have hlen : s.tasks.length = s.all.length := by unfold SysS.tasks; rw [List.length_map]
  refine wp_range rfl (enters_of Tryz.func98 (by kernel_rfl) rfl) (SAllIter (H.out.slt.below hb3) x2) (Below.refl _ _) (fun _ => rfl)
    (fun r k W => W.heap[w.heap.size]? = some (.cells #[.pointer (some ⟨L.b, 0, none⟩)] 24 (0, 0)) ∧ Below w.heap.size w W ∧ (∀ p, r = some p → w.heap.size + 5 ≤ p.block ∧ p.block < W.heap.size) ∧ ∃ va vc, W.heap[w.heap.size + 1]? = some (.cells #[.slice va k vc] 43 (0, 0)) ∧ W.ownsRow (w.heap.size + 5) 36 7 (.slice va k vc) k (flat Tk.enc (s.tasks.take k)) ∧ ∀ q, (Value.slice va k vc).ownBlock = some q → ∀ p, r = some p → q ≠ p.block)
    (fun _ e k W => False) ?hI ?hX ?h0 ?round ?done ?stop
  case hI =>
    rintro r k W o ⟨h1, h2, h3, va, vc, h4, h5, h6⟩ hl
    have h7 := h5.lt
    exact ⟨(World.putObj_heap_other (by omega)).trans h1, Below.putObj h2 (by omega) _, fun p hp => by rw [World.putObj_size]; exact h3 p hp, va, vc, (World.putObj_heap_other (by omega)).trans h4, own_fr (F := fun i => i = w4.heap.size + 1) h5 ((Fr.refl (fun i => i = w4.heap.size + 1) W).putObj (l := w4.heap.size + 1) (fun _ => rfl) o) (fun q hq e => by have := (h7 q hq).1; omega), h6⟩
  case hX => exact fun r e k W o h hl => h
  case h0 =>
    rintro r W hs hb ⟨Lv, hR⟩
    exact ⟨heap_below x0 (hb.mono (by omega)), hb3.trans (hb.mono (by omega)), fun p hp => ⟨by have := (hR p hp).1; simp at this; omega, (hR p hp).2⟩, none, 0, heap_below x1 hb, World.ownsRow_nil _ _ _ _, fun q hq => by simp [Value.ownBlock] at hq⟩
  case round =>
    rintro r j x W hx ⟨hc0, hb, hr, va, vc, hc1, hown, hap⟩ hl
    refine ⟨_, fun W' K hK => by gi_wp2; exact hK, ?_⟩
    have hnm := hk.names
    rw [hnm, List.getElem?_map] at hx
    obtain ⟨t, htj, rfl⟩ : ∃ t, s.all[j]? = some t ∧ t.id = x := by
      cases h : s.all[j]? with
      | none => rw [h] at hx; simp at hx
      | some t => rw [h] at hx; simp at hx; exact ⟨t, rfl, hx⟩
    have htf := hk.all_find (List.mem_of_getElem? htj)
    obtain ⟨hok, -, hid0, hid1⟩ := hk.tk htf
    have hT1 : s.tasks[j]? = some (s.view t) := by unfold SysS.tasks; rw [List.getElem?_map, htj]; rfl
    have hall : s.all.length ≤ 64 := by unfold SysS.all; exact Nat.le_trans (List.length_filterMap_le _ _) (by rw [hk.s64]; exact Nat.le_refl _)
    have hj64 : j < 64 := by have := (List.getElem?_eq_some_iff.1 htj).1; omega
    have HTk := Lib.hid (fun (W' : World) (hW : Below W.heap.size W W') => YTask_some ((H.out.below hb).below hW) hk hT (id := t.id) ⟨by omega, by omega⟩ htf)
    generalize s.view t = u at HTk hT1
    simp only [taskV, Tk.enc] at HTk
    obtain ⟨d0, f0, l0⟩ := blk1 hc0
    obtain ⟨d1, f1, l1⟩ := blk1 hc1
    have H0 := Lib.hid hc0
    have H1 := Lib.hid hc1
    have HB := Lib.hid hb
    have HO := Lib.hid hown
    have HR := Lib.hid hr
    have HAP := Lib.hid hap
    have HT1 := Lib.hid hT1
    clear hc0 hc1 hb hx hown hr hap hT1 hnm htj htf hok hall
    gi_wp2_with (first
      | (gi_at_call 13; refine (CallsIn.inRound _ (callsIn_wide.2 (HTk.out _ (Below.refl _ _)))).mono ?_; rintro e w1 ⟨rfl, hb1⟩
         have y0 := heap_below H0.out hb1
         have y1 := heap_below H1.out hb1
         obtain ⟨d0, f0, l0⟩ := blk1 y0
         obtain ⟨d1, f1, l1⟩ := blk1 y1
         have hsz1 := hb1.size
         have HY0 := Lib.hid y0; have HY1 := Lib.hid y1; have HB1 := Lib.hid hb1; have HO1 := Lib.hid (((own_bl HO.out hb1).alloc (.cells #[.int .i64 u.id, .int .i64 u.w, .int .i64 u.grp, .int .i64 u.core, .int .i64 u.st, .int .u16 u.mask, .int .i64 u.lag] 36)).alloc (.cells #[.int .i64 u.id, .int .i64 u.w, .int .i64 u.grp, .int .i64 u.core, .int .i64 u.st, .int .u16 u.mask, .int .i64 u.lag] 36)); clear y0 y1 hb1)
      | (gi_at_builtin; go_loud (refine wpListIn_append_lies _ (by rfl) _ _ _ (by rfl) (w.heap.size + 5) 36 i0 _ 7 56 Tryz.underlying43 hi0 hz0 hz1 hz2 rfl (by omega) (.slice va j vc) j _ (by rfl) HO1.out ⟨w1.heap.size + 1, 0, none⟩ 1 1 [.int .i64 u.id, .int .i64 u.w, .int .i64 u.grp, .int .i64 u.core, .int .i64 u.st, .int .u16 u.mask, .int .i64 u.lag] (by rfl) (by rfl) (World.news_of_block (cs := #[.int .i64 u.id, .int .i64 u.w, .int .i64 u.grp, .int .i64 u.core, .int .i64 u.st, .int .u16 u.mask, .int .i64 u.lag]) (t := 36) (fr := (0, 0)) (heap_at (by simp) _)) (by simp [Value.oneCell']) (by omega) (by unfold maxLen; omega) (by omega) (by simp; omega) (w1.heap.size + 2) (by simp) ?_)
         intro gg cap w2 hown2 hgrow hat hltg
         have hfr1 : Fr (fun q => (Value.slice va j vc).ownBlock = some q) w1 w2 := ((((Fr.refl _ w1).alloc _).alloc _).trans (Fr.of_grown hgrow) (fun _ _ h => h))
         have hol := HO.out.lt
         have y0 := heap_fr HY0.out hfr1 (fun e => by have := (hol _ e).1; omega)
         have y1 := heap_fr HY1.out hfr1 (fun e => by have := (hol _ e).1; omega)
         obtain ⟨d0, f0, l0⟩ := blk1 y0
         obtain ⟨d1, f1, l1⟩ := blk1 y1
         have HZ0 := Lib.hid y0; have HZ1 := Lib.hid y1; have HF := Lib.hid hfr1; have HO2 := Lib.hid hown2; have HAt := Lib.hid hat; have HLg := Lib.hid hltg
         clear y0 y1 hfr1 hown2 hat hltg hgrow hol))
    have hsF := HF.out.size
    have hsB := HB1.out.size
    have hol := HO.out.lt
    have hgg := (HO2.out.lt gg rfl).1
    have keep : ∀ b, b < W.heap.size → b ≠ w.heap.size + 1 → (Value.slice va j vc).ownBlock ≠ some b → (w2.setCell ⟨w.heap.size + 1, 0, none⟩ (.slice (some ⟨gg, 0, none⟩) (j + 1) cap)).heap[b]? = W.heap[b]? := fun b h1 h2 h3 => by
      rw [Below.heap_setCell _ _ _ _ h2]
      exact (HF.out.block b (by omega) h3).trans (HB1.out.block b h1)
    refine ⟨⟨keep _ (by omega) (by omega) (fun e => by have := (hol _ e).1; omega), keep _ (by omega) (by omega) (fun e => by have := (hol _ e).1; omega), fun b hb _ => ?_⟩, heap_set_ne HZ0.out (show w.heap.size ≠ w.heap.size + 1 by omega) _, ?_, fun p hp => ⟨(HR.out p hp).1, by have := (HR.out p hp).2; simp; omega⟩, some ⟨gg, 0, none⟩, cap, heap_set HZ1.out _, ?_, fun q hq p hp => ?_⟩
    · obtain ⟨p, hp, rfl⟩ := hb
      have := HR.out p hp
      exact keep _ this.2 (by omega) (fun e => HAP.out _ e p hp rfl)
    · exact ((HB.out.trans (HB1.out.mono (by omega))).trans (HF.out.below (B := w.heap.size) (by omega) (fun q hq => by have := (hol _ hq).1; omega))).setCell (p := ⟨_, 0, none⟩) (by simp) _
    · obtain ⟨hjl, e⟩ := List.getElem?_eq_some_iff.1 HT1.out
      rw [List.take_succ_eq_append_getElem hjl, e, flat_append]
      refine own_fr (F := fun i => i = w.heap.size + 1) HO2.out ((Fr.refl (fun i => i = w.heap.size + 1) w2).setCell (p := ⟨w.heap.size + 1, 0, none⟩) (fun _ => rfl) _) fun q hq e => ?_
      have : gg = q := by simpa [Value.ownBlock] using hq
      omega
    · have : gg = q := by simpa [Value.ownBlock] using hq
      subst this
      rcases HAt.out with e | e
      · exact HAP.out _ e p hp
      · have := (HR.out p hp).2; omega
  case done =>
    rintro r W ⟨hc0, hb, hr, va, vc, hc1, hown, hap⟩ hl hK
    have hn : (namesL s.plcs).length = s.tasks.length := by rw [hk.names, List.length_map, hlen]
    rw [hn] at hc1 hown
    rw [List.take_length] at hown
    obtain ⟨d1, f1, l1⟩ := blk1 hc1
    have HO := Lib.hid hown
    have HB := Lib.hid hb
    clear hc0 hc1 hown hap hr hb hn
    go_wp2
    refine ⟨by simp, .inl ⟨_, _, rfl, run_takeDeferred hK, ?_⟩⟩
    refine ⟨_, results_tmp rfl _ _ _, va, vc, by rw [hlen]; rfl, Sl.of_own (B := w.heap.size + 5) (n := s.tasks.length) (c := vc) Tk.len (own_fr (F := fun i => i = w4.heap.size) HO.out ((Fr.refl (fun i => i = w4.heap.size) W).putObj (l := w4.heap.size) (fun _ => rfl) _) (fun q hq e => by have := (HO.out.lt q hq).1; omega)), Below.putObj HB.out (by omega) _⟩
  case stop => exact fun r e k x W hx h => h.elim
end
end Go.Proofs.YthdilellcaebfaaGreat
