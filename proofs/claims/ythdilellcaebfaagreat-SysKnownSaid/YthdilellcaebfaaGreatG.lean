/- Contracts of package owed's line: weighing; who has the core. -/
import Derived.Test.YthdilellcaebfaaGreatD
import Derived.Test.YthdilellcaebfaaGreatR
import Derived.Deep.DeepCutAuto
import Derived.KernelRfl
import Derived.Deep.CutBlock
namespace Go.Proofs.YthdilellcaebfaaGreat
open Go.RowKit
set_option linter.unusedVariables false
set_option linter.unusedSimpArgs false

theorem flat_setW (w' : Int) : ∀ (l : List Pt) (j : Nat) (x : Pt), l[j]? = some x → (flat Pt.enc l).set (j * 4 + 1) (.int .i64 w') = flat Pt.enc (l.set j { x with w := w' })
  | [], j, x, h => by simp at h
  | y :: l, 0, x, h => by simp at h; subst h; simp [flat, Pt.enc]
  | y :: l, j + 1, x, h => by
    have := flat_setW w' l j x (by simpa using h)
    have e1 : (j + 1) * 4 + 1 = (j * 4 + 1) + 4 := by omega
    rw [e1]
    simp only [flat, List.flatMap_cons, Pt.enc, List.cons_append, List.nil_append, List.set_cons_succ] at this ⊢
    rw [this]
theorem LineAt.setW {w : World} {B b r c : Nat} {base cur : Int} {l : List Pt} (h : LineAt w B b (some ⟨r, 0, none⟩) c base cur l) (j : Nat) (x : Pt) (hx : l[j]? = some x) (w' : Int) :
    LineAt (w.setCell ⟨r, j * 4 + 1, none⟩ (.int .i64 w')) B b (some ⟨r, 0, none⟩) c base cur (l.set j { x with w := w' }) := by
  obtain ⟨T, hT⟩ := h.blk
  have hne := h.apart _ rfl
  simp only at hne
  refine ⟨h.hb, ⟨T, ?_⟩, ?_, h.apart⟩
  · rw [List.length_set]; exact heap_set_ne hT hne.symm _
  · have h4 := (h.row.stored (j * 4 + 1) (.int .i64 w')).1
    rw [flat_setW w' l j x hx] at h4
    rw [List.length_set]
    exact h4

def goodW (w : Int) : Bool := decide (1 ≤ w ∧ w ≤ 20)
theorem goodW_true {w : Int} (h : goodW w = true) : 1 ≤ w ∧ w ≤ 20 := of_decide_eq_true h
set_option maxHeartbeats 800000 in
theorem Good_any (x : Int) (w : World) {r : Bool} (hr : goodW x = r) : Calls Tryz.prog 40 #[.int .i64 x] w fun e w' => e = .returned (.bool r) ∧ w = w' := by
  have Hr := Lib.hid hr
  clear hr
  go_enter Tryz.func40, Tryz.ntmps40
  go_wp2
  all_goals go_ret
  all_goals (refine ⟨ret_bool ?_, rfl⟩; rw [← Hr.out]; unfold goodW; simp; omega)

set_option maxHeartbeats 1600000 in
theorem Weigh_none {w : World} {B b : Nat} {a : Option Addr} {c : Nat} {base cur : Int} {l : List Pt} (h : LineAt w B b a c base cur l) (hl : l.length ≤ 64) (id tw : Int) (hf : fi (isId id) l = -1) :
    Calls Tryz.prog 216 #[.pointer (some ⟨b, 0, none⟩), .int .i64 id, .int .i64 tw] w fun e w' => e = .returned (.int .i64 2) ∧ Below w.heap.size w w' := by
  have Hf := Lib.hid (find_any h hl id hf)
  clear h hf
  go_enter Tryz.func216, Tryz.ntmps216
  go_wp2_with (go_at_call 217; refine Hf.out.mono ?_; rintro e w1 ⟨rfl, hb1⟩)
  go_ret
  exact ⟨rfl, hb1⟩

set_option maxHeartbeats 1600000 in
theorem Weigh_arg {w : World} {B b : Nat} {a : Option Addr} {c : Nat} {base cur : Int} {l : List Pt} (h : LineAt w B b a c base cur l) (hl : l.length ≤ 64) (id tw : Int) (j : Nat) (hf : fi (isId id) l = j) (ht : goodW tw = false) :
    Calls Tryz.prog 216 #[.pointer (some ⟨b, 0, none⟩), .int .i64 id, .int .i64 tw] w fun e w' => e = .returned (.int .i64 1) ∧ Below w.heap.size w w' := by
  have Hf := Lib.hid (find_any h hl id hf)
  have hj0 : ¬ (j : Int) < 0 := by omega
  have Ht := Lib.hid ht
  clear h hf ht
  go_enter Tryz.func216, Tryz.ntmps216
  go_wp2_with (first
    | (go_at_call 217; refine Hf.out.mono ?_; rintro e w1 ⟨rfl, hb1⟩)
    | (go_at_call 40; refine (Good_any _ _ Ht.out).mono ?_; rintro e w' ⟨rfl, rfl⟩))
  go_ret
  exact ⟨rfl, hb1⟩

set_option maxHeartbeats 3200000 in
set_option maxRecDepth 100000 in
theorem Weigh_go {w : World} {B b : Nat} {a : Option Addr} {c : Nat} {base cur : Int} {l : List Pt} (h : LineAt w B b a c base cur l) (hl : l.length ≤ 64) (id tw : Int) (j : Nat) (x : Pt) (hf : fi (isId id) l = j) (hx : l[j]? = some x)
    (hw1 : 1 ≤ tw) (hw2 : tw ≤ 20) (hv1 : -4611686018427387904 ≤ x.v) (hv2 : x.v ≤ 4611686018427387904) (y : Pt) (hy : dayOf { x with w := tw } = y) :
    Calls Tryz.prog 216 #[.pointer (some ⟨b, 0, none⟩), .int .i64 id, .int .i64 tw] w fun e w' => e = .returned (.int .i64 0) ∧
      LineAt w' B b a c (growB base (l.set j y)) cur (l.set j y) ∧ Fr (foot b a) w w' := by
  have h0 := h
  obtain ⟨T, hT⟩ := h.blk
  have Hf := Lib.hid (find_any h hl id hf)
  have hjl : j < l.length := (List.getElem?_eq_some_iff.1 hx).1
  have hj0 : ¬ (j : Int) < 0 := by omega
  have hj1 : (0 : Int) ≤ j := by omega
  have hjn : (j : Int) < l.length := by omega
  have ht : goodW tw = true := decide_eq_true ⟨hw1, hw2⟩
  have Ht := Lib.hid ht
  obtain ⟨r, rfl, _, _, _, _, _, _, _, _, hne, hr⟩ := h.elem j x hx
  have hst := step_le x.w
  have hy2 : y = ⟨x.id, tw, x.v, x.v + 4 * step tw⟩ := by rw [← hy]; rfl
  have H0 := Lib.hid h0
  have Hx := Lib.hid hx
  have Hy2 := Lib.hid hy2
  clear h hT hf hx h0 hy hy2 ht
  go_enter Tryz.func216, Tryz.ntmps216
  go_wp2_with (first
    | (go_at_call 217; refine Hf.out.mono ?_; rintro e w1 ⟨rfl, hb1⟩
       obtain ⟨r', hr', d0, d1, d2, d3, z0, z1, z2, z3, hne1, hr1⟩ := (H0.out.below hb1).elem j x Hx.out; cases hr'
       obtain ⟨T1, hT1⟩ := (H0.out.below hb1).blk
       obtain ⟨c0, c1, c2, f0, f1, f2, hlt⟩ := blk3 hT1
       clear hT1)
    | (go_at_call 40; refine (Good_any _ _ Ht.out).mono ?_; rintro e w' ⟨rfl, rfl⟩))
  refine wp_region_chain 42 [0, 1, 3, 7, 0, 0, 32, 96, 224, 0, 992, 2016, 4064, 8191, 16383] [(0, none), (1, none), (2, none), (3, none), (4, none), (5, none), (6, none), (7, none), (8, none), (9, none), (10, none), (11, none), (12, some [0, 1, 2, 3, 4]), (13, none), (14, some [])] (by kernel_rfl) (by kernel_rfl) (by rfl) ?_; simp only [chain, Obs, List.getElem?_toArray, List.getElem?_cons_zero, List.getElem?_cons_succ]
  go_wp2_with (first
    | (with_reducible refine And.intro (by first | with_reducible exact True.intro | with_reducible rfl | go_simp) ?_)
    | (go_at_call 219; refine (day_any _ _ _ _ _ hw1 hw2 (by omega) (by omega)).mono ?_; rintro e w2 ⟨rfl, hb2⟩
       have HL2 := Lib.hid ((((H0.out.below hb1).setW j x Hx.out tw).drew).below hb2)
       obtain ⟨r', hr', d0, d1, d2, d3, z0, z1, z2, z3, hne1, hr1⟩ := HL2.out.elem j _ (List.getElem?_set_self hjl); cases hr'
       obtain ⟨T2, hT2⟩ := HL2.out.blk
       rw [List.length_set] at hT2
       obtain ⟨c0, c1, c2, f0, f1, f2, hlt⟩ := blk3 hT2
       clear hT2))
  refine NoPanic.normal ?_
  have hyy := Hy2.out
  subst hyy
  have hjl2 : j < (l.set j { x with w := tw }).length := by rw [List.length_set]; exact hjl
  have HL3 := (HL2.out.setRow j hjl2 (⟨x.id, tw, x.v, x.v + 4 * step tw⟩ : Pt)).2.2
  rw [List.set_set] at HL3
  have HF : Fr (foot b (some ⟨r, 0, none⟩)) w _ := ((((((((Fr.of_below hb1).setCell (p := ⟨r, j * 4 + 1, none⟩) (fun _ => .inr ⟨_, rfl, rfl⟩) (.int .i64 tw)).drew).trans (Fr.of_below hb2) (fun _ _ h => h)).setCell (p := ⟨r, j * 4, none⟩) (fun _ => .inr ⟨_, rfl, rfl⟩) (.int .i64 x.id)).setCell (p := ⟨r, j * 4 + 1, none⟩) (fun _ => .inr ⟨_, rfl, rfl⟩) (.int .i64 tw)).setCell (p := ⟨r, j * 4 + 2, none⟩) (fun _ => .inr ⟨_, rfl, rfl⟩) (.int .i64 x.v)).setCell (p := ⟨r, j * 4 + 3, none⟩) (fun _ => .inr ⟨_, rfl, rfl⟩) (.int .i64 (x.v + 4 * step tw)))
  have HL4 := Lib.hid HL3
  have HF2 := Lib.hid HF
  have hl3 : (l.set j (⟨x.id, tw, x.v, x.v + 4 * step tw⟩ : Pt)).length ≤ 64 := by rw [List.length_set]; exact hl
  clear HL3 HF
  go_wp2_with (go_at_call 220; refine (grow_any HL4.out hl3).mono ?_; rintro e w3 ⟨rfl, hL3, hf3⟩)
  go_ret
  exact ⟨rfl, hL3, HF2.out.trans hf3 (fun i _ hi => .inl hi)⟩
end Go.Proofs.YthdilellcaebfaaGreat
