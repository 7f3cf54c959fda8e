/- A system's methods: End, Weigh. -/
import Derived.Test.YtlgkkolgdjgclaaGreatSy2
import Derived.Test.YtlgkkolgdjgclaaGreatRf
import Derived.Test.YtlgkkolgdjgclaaGreatFind
import Derived.Deep.AppendLies
import Derived.OwnWalkIn
namespace Go.Proofs.YtlgkkolgdjgclaaGreat
open Go.RowKit Go.Shelf
set_option linter.unusedVariables false
set_option linter.unusedSimpArgs false

namespace SysS
variable {s : SysS} {t : Tk} {id : Int}
theorem find_delT (h : s.find id = some t) (j : Int) : (s.delT id).find j = if j = id then none else s.find j := by
  obtain ⟨h0, h1, n, hs⟩ := find_slot h
  unfold find
  by_cases e : j = id
  · subst e
    rw [if_pos rfl]
    split
    · rfl
    · simp only [delT, List.getElem?_modify, if_pos, hs, Option.map_eq_map, Option.map_some]
  · rw [if_neg e]
    split
    · rfl
    · simp only [delT, List.getElem?_modify]
      by_cases e2 : (id % 64).toNat = (j % 64).toNat
      · rw [e2] at hs ⊢
        simp only [hs, if_pos, Option.map_eq_map, Option.map_some]
        rw [if_neg (by rw [h1]; exact fun h => e h.symm)]
      · simp [e2]
theorem plcs_delT {n : Int} (hs : s.slots[(id % 64).toNat]? = some ⟨n, some t⟩) : (s.delT id).plcs = s.plcs.set (id % 64).toNat ⟨n, false⟩ := by
  unfold plcs delT
  refine List.ext_getElem? fun k => ?_
  simp only [List.getElem?_map, List.getElem?_modify, List.getElem?_set, List.length_map]
  by_cases e : (id % 64).toNat = k
  · subst e
    rw [if_pos rfl, if_pos (List.getElem?_eq_some_iff.1 hs).1]
    simp [hs]
  · simp [e]
theorem plcs_at {i : Nat} {x : Slo} (h : s.slots[i]? = some x) : s.plcs[i]? = some ⟨x.turn, x.task.isSome⟩ := by unfold plcs; rw [List.getElem?_map, h]; rfl
theorem has_of_find {n : Int} (h0 : 0 ≤ id) (hs : s.slots[(id % 64).toNat]? = some ⟨n, some t⟩) (he : n - 1 = id / 64) : hasS s.plcs id = true := by
  unfold hasS
  rw [plcs_at hs]
  simp [h0, he]
end SysS
section
variable {w0 w : World} {ow : Nat → Option Own} {L : Lay} {s : SysS} {T : Nat}
theorem fmap_delT {id : Int} {t : Tk} (h : s.find id = some t) : fmap L (s.delT id) = updP (fmap L s) id (-1) := by
  funext j
  unfold fmap updP
  rw [SysS.find_delT h]
  by_cases e : j = id
  · rw [if_pos e, if_pos e]
  · rw [if_neg e, if_neg e]
theorem SysIn.delT {w1 w2 : World} (h : SysIn w0 w ow L s) {id n : Int} {t : Tk} (ht : s.find id = some t) (hsl : s.slots[(id % 64).toNat]? = some ⟨n, some t⟩) (hm : MapP w1 L.mp L.mn (updP (fmap L s) id (-1))) (hf1 : Fr (fun k => k = L.mp) w w1)
    (hs : SltM w2 L.sl L.pl (s.plcs.set (id % 64).toNat ⟨n, false⟩)) (hf2 : Fr (fun k => k = L.pl) w1 w2) : SysIn w0 w2 ow L (s.delT id) := by
  have hf : Fr (fun k => k = L.mp ∨ k = L.pl) w w2 := (hf1.mono fun k _ e => .inl e).trans (hf2.mono (G := fun k => k = L.mp ∨ k = L.pl) fun k _ e => .inr e) (fun _ _ h => h)
  have n : ∀ {k x}, ow k = some x → x ≠ .map → x ≠ .plc → ¬ (k = L.mp ∨ k = L.pl) := fun hk h1 h2 e => by
    rcases e with rfl | rfl
    · rw [h.oM] at hk; simp only [Option.some.injEq] at hk; exact h1 hk.symm
    · rw [h.oP] at hk; simp only [Option.some.injEq] at hk; exact h2 hk.symm
  have hne : ¬ (L.mp = L.pl) := fun e => by have := h.oM; rw [e, h.oP] at this; cases this
  have hG : ∀ k, (k = L.mp ∨ k = L.pl) → w0.heap.size ≤ k := fun k e => by rcases e with rfl | rfl; exact (h.lt _ _ h.oM).1; exact (h.lt _ _ h.oP).1
  refine ⟨?_, h.arr.fr hf fun p hp => n (h.oA p hp) (fun e => by cases e) (fun e => by cases e), h.grp.fr hf (n h.oG (fun e => by cases e) (fun e => by cases e)), ?_, ?_, fun j u hu => ?_, fun i c hc => ?_, h.cbl, h.oT, h.oA, h.oG, h.oS, h.oP, h.oM, fun k x hk => ?_, h.old.trans (hf.below h.old.size hG)⟩
  · rw [topCells_eq (s := s) (s' := s.delT id) rfl rfl]; exact heap_fr h.top hf (n h.oT (fun e => by cases e) (fun e => by cases e))
  · rw [SysS.plcs_delT hsl]; exact hs
  · rw [fmap_delT ht]; exact hm.fr hf2 hne
  · rw [SysS.find_delT ht] at hu
    split at hu
    · cases hu
    · obtain ⟨h1, h2⟩ := h.tsk j u hu
      exact ⟨heap_fr h1 hf (n h2 (fun e => by cases e) (fun e => by cases e)), h2⟩
  · obtain ⟨bl, F, p, q, r, h1, h2, h3⟩ := h.cor i c hc
    exact ⟨bl, F, p, q, r, h1, h2.fr hf (fun k hk => n (h3 k hk) (fun e => by cases e) (fun e => by cases e)) hG, h3⟩
  · have := h.lt k x hk
    have := hf.size
    omega
theorem SysS.leaveT_slot {t : Tk} (h : s.find t.id = some t) {n : Int} (hs : s.slots[(t.id % 64).toNat]? = some ⟨n, some t⟩) : (s.leaveT t).1.slots[(t.id % 64).toNat]? = some ⟨n, some (s.leaveT t).2⟩ := by
  unfold SysS.leaveT
  split
  · simp only [SysS.setT, SysS.setC, List.getElem?_modify, if_pos, hs, Option.map_eq_map, Option.map_some]
  · exact hs
end
end Go.Proofs.YtlgkkolgdjgclaaGreat
/- A system's methods: Weigh, Move. -/
namespace Go.Proofs.YtlgkkolgdjgclaaGreat
open Go.RowKit Go.Shelf
set_option linter.unusedVariables false
set_option linter.unusedSimpArgs false

theorem hasM_lt {m d : Int} {n : Nat} (hg : goodM m n = true) (hh : hasM m d = true) : 0 ≤ d ∧ d < n := by
  simp only [goodM, hasM, decide_eq_true_eq] at hg hh
  obtain ⟨g1, g2, g3, g4⟩ := hg
  obtain ⟨h1, h2, h3⟩ := hh
  refine ⟨h1, Classical.byContradiction fun hn => ?_⟩
  rw [Int.toNat_natCast] at g4
  have e : d.toNat = n + (d.toNat - n) := by omega
  rw [e, Int.pow_add, ← Int.ediv_ediv_of_nonneg (Int.le_of_lt (Int.pow_pos (by decide))), g4] at h3
  simp at h3
theorem SysS.leaveT_cores {s : SysS} {t : Tk} {i : Nat} (h : i ≠ t.core.toNat) : (s.leaveT t).1.cores[i]? = s.cores[i]? := by
  unfold SysS.leaveT
  split
  · simp only [SysS.setT, SysS.setC, List.getElem?_set, if_neg (Ne.symm h)]
  · rfl
theorem SysS.leaveT_len {s : SysS} {t : Tk} : (s.leaveT t).1.cores.length = s.cores.length := by
  unfold SysS.leaveT
  split
  · simp [SysS.setT, SysS.setC]
  · rfl
section
variable {w0 w : World} {ow : Nat → Option Own} {L : Lay} {s : SysS} {T : Nat}
end
end Go.Proofs.YtlgkkolgdjgclaaGreat
/- A system's methods: Task, Account, Group, Spawn. -/
namespace Go.Proofs.YtlgkkolgdjgclaaGreat
open Go.RowKit Go.Shelf
set_option linter.unusedVariables false
set_option linter.unusedSimpArgs false

set_option maxHeartbeats 2000000 in
theorem set7_heap {b : Nat} {w1 : World} {u0 u1 u2 u3 u4 u5 u6 v0 v1 v2 v3 v4 v5 v6 : Value} {T : TypeId} {fr : Nat × Nat} (h : w1.heap[b]? = some (.cells #[u0, u1, u2, u3, u4, u5, u6] T fr)) : ((((((((w1.setCell ⟨b, 0, none⟩ v0).setCell ⟨b, 1, none⟩ v1).setCell ⟨b, 2, none⟩ v2).setCell ⟨b, 3, none⟩ v3).setCell ⟨b, 4, none⟩ v4).setCell ⟨b, 5, none⟩ v5).setCell ⟨b, 6, none⟩ v6)).heap[b]? = some (.cells #[v0, v1, v2, v3, v4, v5, v6] T fr) := by
  have h1 : (w1.setCell ⟨b, 0, none⟩ v0).heap[b]? = some (.cells #[v0, u1, u2, u3, u4, u5, u6] T fr) := heap_set h v0
  have h2 : ((w1.setCell ⟨b, 0, none⟩ v0).setCell ⟨b, 1, none⟩ v1).heap[b]? = some (.cells #[v0, v1, u2, u3, u4, u5, u6] T fr) := heap_set h1 v1
  have h3 : (((w1.setCell ⟨b, 0, none⟩ v0).setCell ⟨b, 1, none⟩ v1).setCell ⟨b, 2, none⟩ v2).heap[b]? = some (.cells #[v0, v1, v2, u3, u4, u5, u6] T fr) := heap_set h2 v2
  have h4 : ((((w1.setCell ⟨b, 0, none⟩ v0).setCell ⟨b, 1, none⟩ v1).setCell ⟨b, 2, none⟩ v2).setCell ⟨b, 3, none⟩ v3).heap[b]? = some (.cells #[v0, v1, v2, v3, u4, u5, u6] T fr) := heap_set h3 v3
  have h5 : (((((w1.setCell ⟨b, 0, none⟩ v0).setCell ⟨b, 1, none⟩ v1).setCell ⟨b, 2, none⟩ v2).setCell ⟨b, 3, none⟩ v3).setCell ⟨b, 4, none⟩ v4).heap[b]? = some (.cells #[v0, v1, v2, v3, v4, u5, u6] T fr) := heap_set h4 v4
  have h6 : ((((((w1.setCell ⟨b, 0, none⟩ v0).setCell ⟨b, 1, none⟩ v1).setCell ⟨b, 2, none⟩ v2).setCell ⟨b, 3, none⟩ v3).setCell ⟨b, 4, none⟩ v4).setCell ⟨b, 5, none⟩ v5).heap[b]? = some (.cells #[v0, v1, v2, v3, v4, v5, u6] T fr) := heap_set h5 v5
  have h7 : (((((((w1.setCell ⟨b, 0, none⟩ v0).setCell ⟨b, 1, none⟩ v1).setCell ⟨b, 2, none⟩ v2).setCell ⟨b, 3, none⟩ v3).setCell ⟨b, 4, none⟩ v4).setCell ⟨b, 5, none⟩ v5).setCell ⟨b, 6, none⟩ v6).heap[b]? = some (.cells #[v0, v1, v2, v3, v4, v5, v6] T fr) := heap_set h6 v6
  exact h7
theorem set7_below {B b : Nat} {w w1 : World} {v0 v1 v2 v3 v4 v5 v6 : Value} (h : Below B w w1) (hB : B ≤ b) : Below B w ((((((((w1.setCell ⟨b, 0, none⟩ v0).setCell ⟨b, 1, none⟩ v1).setCell ⟨b, 2, none⟩ v2).setCell ⟨b, 3, none⟩ v3).setCell ⟨b, 4, none⟩ v4).setCell ⟨b, 5, none⟩ v5).setCell ⟨b, 6, none⟩ v6)) :=
  (((((((h.setCell (p := ⟨b, 0, none⟩) hB _).setCell (p := ⟨b, 1, none⟩) hB _).setCell (p := ⟨b, 2, none⟩) hB _).setCell (p := ⟨b, 3, none⟩) hB _).setCell (p := ⟨b, 4, none⟩) hB _).setCell (p := ⟨b, 5, none⟩) hB _).setCell (p := ⟨b, 6, none⟩) hB _)
theorem blk7 {w : World} {g : Nat} {u0 u1 u2 u3 u4 u5 u6 : Value} {T : TypeId} (h : w.heap[g]? = some (.cells #[u0, u1, u2, u3, u4, u5, u6] T (0, 0))) : (w.cell? ⟨g, 0, none⟩ = some u0 ∧ w.cell? ⟨g, 1, none⟩ = some u1 ∧ w.cell? ⟨g, 2, none⟩ = some u2 ∧ w.cell? ⟨g, 3, none⟩ = some u3 ∧ w.cell? ⟨g, 4, none⟩ = some u4 ∧ w.cell? ⟨g, 5, none⟩ = some u5 ∧ w.cell? ⟨g, 6, none⟩ = some u6) ∧ (w.frozen? ⟨g, 0, none⟩ = false ∧ w.frozen? ⟨g, 1, none⟩ = false ∧ w.frozen? ⟨g, 2, none⟩ = false ∧ w.frozen? ⟨g, 3, none⟩ = false ∧ w.frozen? ⟨g, 4, none⟩ = false ∧ w.frozen? ⟨g, 5, none⟩ = false ∧ w.frozen? ⟨g, 6, none⟩ = false) ∧ g < w.heap.size := by
  have hg := (Array.getElem?_eq_some_iff.1 h).1
  refine ⟨⟨?_, ?_, ?_, ?_, ?_, ?_, ?_⟩, ⟨?_, ?_, ?_, ?_, ?_, ?_, ?_⟩, hg⟩ <;> simp [World.cell?, World.frozen?, h]
theorem fi_it (base id : Int) (l : List Pt) : fi (isIt id) (l.map (itOf base)) = fi (isId id) l := by
  unfold fi
  rw [List.findIdx?_map]; rfl
section
variable {w0 w : World} {ow : Nat → Option Own} {L : Lay} {s : SysS} {T : Nat}
theorem pathG_pos {ups : List Int} {g : Int} : 0 < (pathG ups g).length ↔ hasG ups g = true := by
  unfold pathG
  rw [pathF]
  split
  · rename_i h; simp [h]
  · rename_i h; simp [h]
theorem item4_heap {W : World} {r i0 : Nat} {o : Option Obj} {a b c d : Value} (h : W.heap[r]? = o) (hne : r ≠ i0) : ((((W.setCell ⟨i0, 0, none⟩ a).setCell ⟨i0, 1, none⟩ b).setCell ⟨i0, 2, none⟩ c).setCell ⟨r + 1, 6, none⟩ d).heap[r]? = o :=
  heap_set_ne (heap_set_ne (heap_set_ne (heap_set_ne h hne _) hne _) hne _) (show r ≠ r + 1 by omega) _
theorem item4_below {W w : World} {B r i0 : Nat} {a b c d : Value} (h : Below B w W) (hi : B ≤ i0) (hr : B ≤ r) : Below B w ((((W.setCell ⟨i0, 0, none⟩ a).setCell ⟨i0, 1, none⟩ b).setCell ⟨i0, 2, none⟩ c).setCell ⟨r + 1, 6, none⟩ d) :=
  (((h.setCell hi _).setCell hi _).setCell hi _).setCell (show B ≤ r + 1 by omega) _
/-- A task as it is told. -/
def taskV (t : Tk) : Value := .agg t.enc.toArray
theorem TOLD {t : Tk} {k : Nat} {g : Int} (h2 : t.st = 2) (hk : t.core = k) : taskV { t with lag := g } = .agg #[.int .i64 t.id, .int .i64 t.w, .int .i64 t.grp, .int .i64 k, .int .i64 2, .int .u16 t.mask, .int .i64 g] := by
  show Value.agg _ = _
  simp only [Tk.enc, h2, hk]
def noTask : Value := .agg #[.int .i64 0, .int .i64 0, .int .i64 0, .int .i64 0, .int .i64 0, .int .u16 0, .int .i64 0]
end
end Go.Proofs.YtlgkkolgdjgclaaGreat
/- mask.Of; a system's methods: Served. -/
namespace Go.Proofs.YtlgkkolgdjgclaaGreat
open Go.RowKit Go.Shelf
set_option linter.unusedVariables false
set_option linter.unusedSimpArgs false

section
variable {w0 w : World} {ow : Nat → Option Own} {L : Lay} {s : SysS} {T : Nat}
/-- A mask of these cores. -/
def ofM (l : List Int) : Int := l.foldl (fun m x => if 0 ≤ x ∧ x < 16 then bits .or .u16 m (IntKind.u16.wrap (2 ^ x.toNat)) else m) 0
set_option maxHeartbeats 1600000 in
set_option maxRecDepth 100000 in
theorem MOf (l : List Int) (n : Nat) (hn : l.length = n) (hn16 : n ≤ 1000000) (a : Option Addr) (c : Nat) (w : World) (hs : Sl int1 1 w a l) : Calls Tryz.prog 39 #[.slice a n c] w fun e w' => e = .returned (.int .u16 (ofM l)) ∧ Below w.heap.size w w' := by
  have HS := Lib.hid hs
  have Hn := Lib.hid hn
  clear hs hn
  go_enter Tryz.func39, Tryz.ntmps39
  go_wp2_with fail
  go_loopw [8, 3] (fun ix mx wr => ∃ (k : Nat), k ≤ n ∧ ix = .int .i64 k ∧ mx = .int .u16 (ofM (l.take k)) ∧ wr = w) (fun ix _ _ => n - (intOf ix).toNat)
  case atStart => exact ⟨0, Nat.zero_le _, rfl, rfl, rfl⟩
  case round =>
    obtain ⟨k, hk, rfl, rfl, rfl⟩ := hrel
    have hk0 : (0 : Int) ≤ k := by omega
    by_cases hlt : k < n
    · have hkn : (k : Int) < n := by omega
      obtain ⟨x, hx⟩ : ∃ x, l[k]? = some x := ⟨_, List.getElem?_eq_getElem (by rw [Hn.out]; exact hlt)⟩
      obtain ⟨r, off, rfl, hr, hc⟩ := HS.out (by intro h0; rw [h0] at hx; simp at hx)
      have e0 := hc k x hx 0 _ rfl
      simp only [Nat.mul_one, Nat.add_zero] at e0
      have htk : ofM (l.take (k + 1)) = if 0 ≤ x ∧ x < 16 then bits .or .u16 (ofM (l.take k)) (IntKind.u16.wrap (2 ^ x.toNat)) else ofM (l.take k) := by
        unfold ofM
        rw [List.take_succ_eq_append_getElem (List.getElem?_eq_some_iff.1 hx).1, (List.getElem?_eq_some_iff.1 hx).2, List.foldl_append]
        rfl
      have HT := Lib.hid htk
      have Hk := Lib.hid hk
      generalize ofM (l.take k) = m at HT
      clear htk hc hx
      go_wp2
      all_goals (refine ⟨⟨k + 1, by omega, by go_num, ?_, trivial⟩, by simp [intOf]; omega⟩)
      all_goals (rw [HT.out]; first | rw [if_pos (by omega)] | rw [if_neg (by omega)])
    · obtain rfl : k = n := by omega
      rw [List.take_of_length_le (by rw [Hn.out]; exact Nat.le_refl _)]
      go_wp2_with fail
      go_ret
      exact ⟨rfl, Below.refl _ _⟩
end
end Go.Proofs.YtlgkkolgdjgclaaGreat
/- sys.New. -/
namespace Go.Proofs.YtlgkkolgdjgclaaGreat
open Go.RowKit Go.Shelf
set_option linter.unusedVariables false
set_option linter.unusedSimpArgs false

section
variable {w0 w : World} {ow : Nat → Option Own} {L : Lay} {s : SysS} {T : Nat}
theorem ownBlock_some {a : Option Addr} {n c q : Nat} (h : (Value.slice a n c).ownBlock = some q) : ∃ p, a = some p ∧ p.block = q := by
  cases a with
  | none => simp [Value.ownBlock] at h
  | some p => exact ⟨p, rfl, by simpa [Value.ownBlock] using h⟩
/-- One core more. -/
def SysS.push (s : SysS) (c : CoreS) : SysS := { s with cores := s.cores ++ [c] }
def Lay.push (L : Lay) (g cap bl : Nat) : Lay := { L with ar := some ⟨g, 0, none⟩, cap := cap, cb := L.cb ++ [bl] }
theorem top_push (L : Lay) (s : SysS) (c : CoreS) (g cap bl : Nat) : (topCells L s).toArray.setIfInBounds 0 (.slice (some ⟨g, 0, none⟩) (s.cores.length + 1) cap) = (topCells (L.push g cap bl) (s.push c)).toArray := by
  unfold topCells
  simp only [List.cons_append, List.nil_append, List.setIfInBounds_toArray, List.set_cons_zero, SysS.push, Lay.push, List.length_append, List.length_cons, List.length_nil]
  rfl
open Classical in
theorem SysIn.push (h : SysIn w0 w ow L s) {c p b r : Nat} {F : Nat → Prop} {c0 : CoreS} {w1 w2 : World} (hb1 : Below w.heap.size w w1) (hc : CSt w0 w1 F c p b r c0) (hnew : ∀ k, cfoot F c p r k → w.heap.size ≤ k) {n g cap : Nat}
    (hf : Fr (fun q => (Value.slice L.ar n L.cap).ownBlock = some q) w1 w2) (hat : (Value.slice L.ar n L.cap).ownBlock = some g ∨ w1.heap.size ≤ g) (hg : g < w2.heap.size) (hs : Sl ptr1 1 w2 (some ⟨g, 0, none⟩) (L.cb ++ [c])) :
    ∃ ow', SysIn w0 (w2.setCell ⟨L.b, 0, none⟩ (.slice (some ⟨g, 0, none⟩) (s.cores.length + 1) cap)) ow' (L.push g cap c) (s.push c0) := by
  have hown : ∀ q, (Value.slice L.ar n L.cap).ownBlock = some q → ow q = some .arr := fun q hq => by
    obtain ⟨a, ha, rfl⟩ := ownBlock_some hq
    exact h.oA a ha
  have hsz1 := hb1.size
  have hsz2 := hf.size
  have hf2 : Fr (fun k => ow k = some .arr ∨ k = L.b) w (w2.setCell ⟨L.b, 0, none⟩ (.slice (some ⟨g, 0, none⟩) (s.cores.length + 1) cap)) :=
    ((Fr.of_below hb1).trans (hf.mono fun k _ e => .inl (hown k e)) (fun _ _ h => h)).setCell (p := ⟨L.b, 0, none⟩) (fun _ => .inr rfl) _
  have hfc : Fr (fun k => ow k = some .arr ∨ k = L.b) w1 (w2.setCell ⟨L.b, 0, none⟩ (.slice (some ⟨g, 0, none⟩) (s.cores.length + 1) cap)) :=
    (hf.mono (G := fun k => ow k = some .arr ∨ k = L.b) fun k _ e => Or.inl (hown k e)).setCell (p := ⟨L.b, 0, none⟩) (fun _ => .inr rfl) _
  have n : ∀ {k x}, ow k = some x → x ≠ .arr → x ≠ .top → ¬ (ow k = some .arr ∨ k = L.b) := fun hk h1 h2 e => by
    rcases e with e | rfl
    · rw [hk] at e; simp only [Option.some.injEq] at e; exact h1 e
    · rw [h.oT] at hk; simp only [Option.some.injEq] at hk; exact h2 hk.symm
  have hgo : ow g = some .arr ∨ w.heap.size ≤ g := by rcases hat with e | e; exact .inl (hown _ e); exact .inr (by omega)
  have hbg : L.b ≠ g := fun e => by
    rcases hgo with h1 | h1
    · rw [← e, h.oT] at h1; cases h1
    · have := (h.lt _ _ h.oT).2; omega
  have hcl := hc.lt
  have hgF : ∀ k, cfoot F c p r k → k ≠ g := fun k hk e => by
    subst e
    rcases hat with h1 | h1
    · have := (h.lt _ _ (hown _ h1)).2; have := hnew _ hk; omega
    · have := hcl _ hk; omega
  have hG : ∀ k, (ow k = some .arr ∨ k = L.b) → w0.heap.size ≤ k := fun k e => by rcases e with e | rfl; exact (h.lt _ _ e).1; exact (h.lt _ _ h.oT).1
  have o : ∀ {k x}, ow k = some x → (if w.heap.size ≤ k then (if k = g then some Own.arr else if cfoot F c p r k then some (Own.cor s.cores.length) else none) else ow k) = some x := fun hk => by rw [if_neg (by have := (h.lt _ _ hk).2; omega)]; exact hk
  refine ⟨fun k => if w.heap.size ≤ k then (if k = g then some .arr else if cfoot F c p r k then some (.cor s.cores.length) else none) else ow k, ⟨?_, ?_, h.grp.fr hf2 (n h.oG (fun e => by cases e) (fun e => by cases e)), h.slt.fr hf2 (n h.oS (fun e => by cases e) (fun e => by cases e)) (n h.oP (fun e => by cases e) (fun e => by cases e)), h.map.fr hf2 (n h.oM (fun e => by cases e) (fun e => by cases e)), fun id u hu => ?_, fun i d hd => ?_, ?_, o h.oT, fun q hq => ?_, o h.oG, o h.oS, o h.oP, o h.oM, fun k x hk => ?_, h.old.trans (hf2.below h.old.size hG)⟩⟩
  · rw [← top_push]
    refine heap_set ?_ _
    refine heap_fr (heap_below h.top hb1) hf fun e => ?_
    have := hown _ e
    rw [h.oT] at this; cases this
  · refine hs.keep fun q hq => heap_set_ne rfl (fun e => hbg ?_) _
    simp only [Option.some.injEq] at hq
    subst hq
    exact e.symm
  · obtain ⟨h1, h2⟩ := h.tsk id u hu
    exact ⟨heap_fr h1 hf2 (n h2 (fun e => by cases e) (fun e => by cases e)), o h2⟩
  · simp only [SysS.push] at hd
    by_cases hi : i < s.cores.length
    · rw [List.getElem?_append_left hi] at hd
      obtain ⟨bl2, F2, p2, q2, r2, h1, h2, h3⟩ := h.cor i d hd
      exact ⟨bl2, F2, p2, q2, r2, by simp only [Lay.push]; rw [List.getElem?_append_left (by rw [h.cbl]; exact hi)]; exact h1, h2.fr hf2 (fun k hk => n (h3 k hk) (fun e => by cases e) (fun e => by cases e)) hG, fun k hk => o (h3 k hk)⟩
    · rw [List.getElem?_append_right (by omega)] at hd
      have hi2 : i = s.cores.length := by
        have := (List.getElem?_eq_some_iff.1 hd).1
        simp at this; omega
      subst hi2
      simp at hd
      subst hd
      refine ⟨c, F, p, b, r, by simp only [Lay.push]; rw [List.getElem?_append_right (by rw [h.cbl]; exact Nat.le_refl _), h.cbl]; simp, hc.fr hfc (fun k hk e => ?_) hG, fun k hk => ?_⟩
      · have hk2 := hnew k hk
        rcases e with e | rfl
        · have := (h.lt _ _ e).2; omega
        · have := (h.lt _ _ h.oT).2; omega
      · rw [if_pos (hnew k hk), if_neg (hgF k hk), if_pos hk]
  · simp only [Lay.push, SysS.push, List.length_append, h.cbl, List.length_cons, List.length_nil]
  · simp only [Lay.push, Option.some.injEq] at hq
    subst hq
    dsimp only
    split
    · rw [if_pos rfl]
    · rename_i h2
      rcases hgo with h1 | h1
      · exact h1
      · exact absurd h1 h2
  · have hsz3 := hf2.size
    split at hk
    · rename_i h2
      split at hk
      · rename_i h3
        subst h3
        exact ⟨Nat.le_trans h.old.size h2, by simpa using hg⟩
      · split at hk
        · rename_i h4
          exact ⟨Nat.le_trans h.old.size h2, by have := hcl k h4; have := hfc.size; omega⟩
        · cases hk
    · have := h.lt k x hk
      omega
theorem SysS.find_none (s : SysS) (h : ∀ x ∈ s.slots, x.task = none) (id : Int) : s.find id = none := by
  unfold SysS.find
  split
  · rfl
  · split
    · rename_i n t ht
      have := h _ (List.mem_of_getElem? ht)
      cases this
    · rfl
theorem SysS.new_find (tags : List Int) (id : Int) : (SysS.new tags).find id = none := SysS.find_none _ (fun x hx => by rw [(List.mem_replicate.1 (show x ∈ List.replicate 64 (⟨0, none⟩ : Slo) from hx)).2]) id
def lay0 (b g sl pl mp : Nat) : Lay := ⟨b, none, 0, g, sl, pl, mp, 0, fun _ => 0, []⟩
theorem SysIn.start {g sl pl mp b : Nat} (hold : Below w0.heap.size w0 w) (hg : GrpM w g [-1]) (hs : SltM w sl pl (List.replicate 64 ⟨0, false⟩)) (hm : MapP w mp 0 (fun _ => -1)) (ht : w.heap[b]? = some (.cells (topCells (lay0 b g sl pl mp) (SysS.new [])).toArray 92 (0, 0)))
    (h0 : w0.heap.size ≤ g) (h1 : g < pl) (h2 : pl < sl) (h3 : sl < mp) (h4 : mp < b) (h5 : b < w.heap.size) : ∃ ow, SysIn w0 w ow (lay0 b g sl pl mp) (SysS.new []) := by
  refine ⟨fun k => if k = b then some .top else if k = g then some .grp else if k = sl then some .slt else if k = pl then some .plc else if k = mp then some .map else none, ⟨ht, fun h => absurd rfl h, hg, ?_, ?_, fun id t h => ?_, fun i c h => ?_, rfl, ?_, fun p hp => ?_, ?_, ?_, ?_, ?_, fun k x hk => ?_, hold⟩⟩
  · have e : (SysS.new []).plcs = List.replicate 64 ⟨0, false⟩ := by unfold SysS.plcs SysS.new; simp
    rw [e]; exact hs
  · have e : fmap (lay0 b g sl pl mp) (SysS.new []) = fun _ => -1 := by funext id; unfold fmap; rw [SysS.new_find]
    rw [e]; exact hm
  · rw [SysS.new_find] at h; cases h
  · simp [SysS.new] at h
  · simp [lay0]
  · cases hp
  · simp only [lay0]; rw [if_neg (by omega)]; simp
  · simp only [lay0]; rw [if_neg (by omega), if_neg (by omega)]; simp
  · simp only [lay0]; rw [if_neg (by omega), if_neg (by omega), if_neg (by omega)]; simp
  · simp only [lay0]; rw [if_neg (by omega), if_neg (by omega), if_neg (by omega), if_neg (by omega)]; simp
  · split at hk
    · omega
    · split at hk
      · omega
      · split at hk
        · omega
        · split at hk
          · omega
          · split at hk
            · omega
            · cases hk
theorem new_push (tags : List Int) (k : Nat) (x : Int) (h : tags[k]? = some x) : SysS.new (tags.take (k + 1)) = (SysS.new (tags.take k)).push ⟨x, ⟨0, -1, []⟩, fun _ => 0, 0, 0, 0⟩ := by
  unfold SysS.new SysS.push
  rw [List.take_succ_eq_append_getElem (List.getElem?_eq_some_iff.1 h).1, (List.getElem?_eq_some_iff.1 h).2, List.map_append]
  rfl
theorem corp_info : ((Tryz.prog).info? 31).map (fun i => (i.zero, i.size, i.bytes)) = some (some (.pointer none), 1, 8) := by kernel_rfl
def newGood (tags : List Int) : Prop := 1 ≤ tags.length ∧ tags.length ≤ 16 ∧ ∀ t ∈ tags, TagOk t
def YNewPost (w : World) (tags : List Int) (e : Ending) (w' : World) : Prop :=
  (newGood tags ∧ ∃ ow L, e = .returned (.tuple #[.pointer (some ⟨L.b, 0, none⟩), .int .i64 0]) ∧ SysIn w w' ow L (SysS.new tags) ∧ L.mn = 0) ∨
  (¬ newGood tags ∧ e = .returned (.tuple #[.pointer none, .int .i64 1]) ∧ Below w.heap.size w w')
set_option maxHeartbeats 3200000 in
set_option maxRecDepth 100000 in
theorem YNew (tags : List Int) (n : Nat) (hn : tags.length = n) (a : Option Addr) (c : Nat) (w : World) (hs : Sl int1 1 w a tags) : Calls Tryz.prog 32 #[.slice a n c] w (YNewPost w tags) := by
  have Hn := Lib.hid hn
  have HS := Lib.hid hs
  by_cases hlen : 1 ≤ n ∧ n ≤ 16
  · obtain ⟨hn1, hn16⟩ := hlen
    obtain ⟨i0, hi0, hz0, hz1, hz2⟩ := info_parts corp_info
    have hmk : ∀ w, (Instr.makeMap 90 none).run Tryz.prog w = .ok (.map (some w.heap.size)) (w.alloc (.map #[] 0)) := fun w => run_makeMap _ w
    clear hn hs
    go_enter Tryz.func32, Tryz.ntmps32
    go_wp2_with (first
      | (go_at_call 50; refine (GNew _).mono ?_; rintro e w1 ⟨rfl, hg, hb1, hz1⟩; have HG := Lib.hid hg; have Hb1 := Lib.hid hb1; have Hz1 := Lib.hid hz1; clear hg hb1 hz1)
      | (go_at_call 51; refine (SNew _).mono ?_; rintro e w2 ⟨rfl, hs, hb2, hz2⟩; have HSl := Lib.hid hs; have Hb2 := Lib.hid hb2; have Hz2 := Lib.hid hz2; clear hs hb2 hz2))
    have hz1 := Hz1.out
    have hz2 := Hz2.out
    have hbm : Below w.heap.size w (w2.alloc (.map #[] 0)) := ((Hb1.out.trans (Hb2.out.mono (by omega))).alloc (by omega) _)
    have HST := Lib.hid (fun (W : World) (hW : W = (w2.alloc (.map #[] 0)).alloc (.cells (topCells (lay0 (w2.heap.size + 1) w.heap.size (w1.heap.size + 1) w1.heap.size w2.heap.size) (SysS.new [])).toArray 92)) => by
      subst hW
      exact SysIn.start (w0 := w) (g := w.heap.size) (sl := w1.heap.size + 1) (pl := w1.heap.size) (mp := w2.heap.size) (b := w2.heap.size + 1)
        (hbm.alloc (by simp; omega) _) ((HG.out.below Hb2.out).below (((Below.refl _ _).alloc (Nat.le_refl _) _).alloc (by simp) _)) (HSl.out.below (((Below.refl _ _).alloc (Nat.le_refl _) _).alloc (by simp) _)) ((MapP.made w2).below ((Below.refl _ _).alloc (Nat.le_refl _) _)) (heap_at (by simp) _)
        (Nat.le_refl _) (by omega) (by omega) (by omega) (by omega) (by simp))
    clear hz1 hz2 hbm
    go_loopw [24] (fun ix wr => ∃ (k : Nat) (ow : Nat → Option Own) (L : Lay), k ≤ n ∧ ix = .int .i64 k ∧ L.b = w2.heap.size + 1 ∧ L.mn = 0 ∧ SysIn w wr ow L (SysS.new (tags.take k)) ∧ wr.ownsRow w.heap.size 31 1 (.slice L.ar k L.cap) k (flat ptr1 L.cb) ∧ ∀ t ∈ tags.take k, TagOk t) (fun ix _ => n - (intOf ix).toNat)
    case atStart =>
      obtain ⟨ow, h⟩ := HST.out _ rfl
      exact ⟨0, ow, _, Nat.zero_le _, rfl, rfl, rfl, h, World.ownsRow_nil _ _ _ _, fun t ht => by simp at ht⟩
    case round =>
      clear HST
      obtain ⟨k, ow, L, hk, rfl, hLb, hmn, h, hown, htg⟩ := hrel
      have hk0 : (0 : Int) ≤ k := by omega
      obtain ⟨⟨q0, q1, q2, q3⟩, ⟨z0, -, -, -⟩, hlt⟩ := h.tops
      by_cases hlk : k < n
      · have hki : (k : Int) < n := by omega
        obtain ⟨x, hx⟩ : ∃ x, tags[k]? = some x := ⟨_, List.getElem?_eq_getElem (by rw [Hn.out]; exact hlk)⟩
        obtain ⟨r, off, rfl, hr, hc⟩ := HS.out (by intro h0; rw [h0] at hx; simp at hx)
        have e0 := (h.old.cell (p := ⟨r, off + k * 1 + 0, none⟩) hr).trans (hc k x hx 0 _ rfl)
        simp only [Nat.mul_one, Nat.add_zero] at e0
        have hrlt : r < wr.heap.size := Nat.lt_of_lt_of_le hr h.old.size
        have hcl : (SysS.new (tags.take k)).cores.length = k := by unfold SysS.new; simp [Hn.out]; omega
        rw [hcl, hLb] at q0
        rw [hLb] at z0
        by_cases htx : TagOk x
        · have HC := Lib.hid (fun (W : World) => CorNew_ok x 0 W htx (by unfold BaseOk; omega))
          have HTX := Lib.hid htx
          have HX := Lib.hid hx
          have HTG := Lib.hid htg
          have Hlb := Lib.hid hLb
          have Hmn := Lib.hid hmn
          have Hcl := Lib.hid hcl
          have H := Lib.hid h
          have Hown := Lib.hid hown
          clear htx hx htg hLb hmn hcl h hown hc
          go_wp2_with (first
            | (go_at_call 52; refine (HC.out _).mono ?_; intro e w3 hp; obtain ⟨c0, p0, b0, r0, F0, rfl, hcs, hnw, hb3⟩ := hp.st H.out.old
               have q0 := (hb3.cell (p := ⟨w2.heap.size + 1, 0, none⟩) (show w2.heap.size + 1 < wr.heap.size by have := Hlb.out; omega)).trans q0
               have z0 := (hb3.frozen (p := ⟨w2.heap.size + 1, 0, none⟩) (show w2.heap.size + 1 < wr.heap.size by have := Hlb.out; omega)).trans z0
               have hlt3 : w2.heap.size + 1 < w3.heap.size := (by have := Hlb.out; have := hb3.size; omega)
               have hne3 : w2.heap.size + 1 ≠ w3.heap.size := (by omega)
               have HCS := Lib.hid hcs; have HNW := Lib.hid hnw; have HB3 := Lib.hid hb3; have Hown3 := Lib.hid (own_bl Hown.out hb3); clear hp hcs hnw hb3)
            | (at_builtin; go_loud (refine wpList_append_lies _ (by rfl) _ _ _ (by rfl) w.heap.size 31 i0 _ 1 8 Tryz.underlying84 hi0 hz0 hz1 hz2 rfl (by omega) (.slice L.ar k L.cap) k _ (by rfl) (Hown3.out.alloc _) ⟨w3.heap.size, 0, none⟩ 1 1 [.pointer (some ⟨c0, 0, none⟩)] (by rfl) (by rfl) (World.news_of_block (cs := #[.pointer (some ⟨c0, 0, none⟩)]) (t := 31) (fr := (0, 0)) (heap_at (by simp) _)) (by simp [Value.oneCell']) (by omega) (by unfold maxLen; omega) (by omega) (by have := HB3.out.size; have := H.out.old.size; simp; omega) (w3.heap.size + 1) (by simp) ?_); intro gg cap w4 hown4 hgrow hat hltg
               have hfr1 : Fr (fun q => (Value.slice L.ar k L.cap).ownBlock = some q) w3 w4 := (((Fr.refl _ w3).alloc _)).trans (Fr.of_grown hgrow) (fun _ _ h => h)
               have hoA : ∀ q, (Value.slice L.ar k L.cap).ownBlock = some q → q ≠ w2.heap.size + 1 := fun q hq e => (by obtain ⟨p, hp, rfl⟩ := ownBlock_some hq; have h1 := H.out.oA p hp; rw [e, ← Hlb.out, H.out.oT] at h1; cases h1)
               have z4 := (hfr1.frozen (p := ⟨w2.heap.size + 1, 0, none⟩) hlt3 (fun e => hoA _ e rfl)).trans z0
               have y4 := (hfr1.cell (p := ⟨w2.heap.size + 1, 0, none⟩) hlt3 (fun e => hoA _ e rfl)).trans q0
               have hlt4 := Nat.lt_of_lt_of_le hlt3 hfr1.size
               have Hat := Lib.hid hat; have Hfr := Lib.hid hfr1; have Hown4 := Lib.hid hown4; have Hltg := Lib.hid hltg; clear hat hgrow hown4 hfr1 hoA hltg))
          have hbg : gg ≠ L.b := fun e => by
            rcases Hat.out with h1 | h1
            · obtain ⟨p, hp, h2⟩ := ownBlock_some h1
              have h3 := H.out.oA p hp
              rw [h2, e, H.out.oT] at h3; cases h3
            · have := Hlb.out; omega
          have hfl : flat ptr1 (L.cb ++ [c0]) = flat ptr1 L.cb ++ [.pointer (some ⟨c0, 0, none⟩)] := by unfold flat; rw [List.flatMap_append]; rfl
          have hcbl : L.cb.length = k := by rw [H.out.cbl, Hcl.out]
          have hown5 := Hown4.out
          rw [← hfl] at hown5
          obtain ⟨ow', h'⟩ := H.out.push HB3.out HCS.out HNW.out Hfr.out (Hat.out.imp id fun e => by omega) Hltg.out (cap := cap) (Sl.of_own (B := w.heap.size) ptr1_len (l := L.cb ++ [c0]) (by rw [List.length_append, hcbl]; exact hown5))
          rw [Hcl.out, Hlb.out, ← new_push tags k x HX.out] at h'
          refine ⟨⟨k + 1, ow', _, by omega, by go_num, ?_, ?_, h', ?_, fun t ht => ?_⟩, by simp [intOf]; omega⟩
          · exact Hlb.out
          · exact Hmn.out
          · refine own_fr (F := fun q => q = L.b) hown5 ((Fr.refl _ w4).setCell (p := ⟨w2.heap.size + 1, 0, none⟩) (fun _ => Hlb.out.symm) _) fun q hq e => ?_
            have : gg = q := by simpa [Value.ownBlock, Lay.push] using hq
            exact hbg (this.trans e)
          · rw [List.take_succ_eq_append_getElem (List.getElem?_eq_some_iff.1 HX.out).1, (List.getElem?_eq_some_iff.1 HX.out).2, List.mem_append] at ht
            rcases ht with ht | ht
            · exact HTG.out t ht
            · simp only [List.mem_singleton] at ht
              subst ht; exact HTX.out
        · have HC := Lib.hid (fun (W : World) => CorNew_err x 0 W (fun h => htx h.1))
          have HB := Lib.hid h.old
          have hng : ¬ newGood tags := fun hg => htx (hg.2.2 x (List.mem_of_getElem? hx))
          have HN := Lib.hid hng
          clear htx hx htg hLb hmn hcl h hown hc hng
          go_wp2_with (first
            | (go_at_call 52; refine (HC.out _).mono ?_; rintro e w3 ⟨rfl, hb3⟩))
          exact bodyPost_ret (results_tmp2 rfl _ _ _) rfl (.inr ⟨HN.out, rfl, HB.out.trans (hb3.mono HB.out.size)⟩)
      · obtain rfl : k = n := by omega
        rw [List.take_of_length_le (by rw [Hn.out]; exact Nat.le_refl _)] at h htg
        have hg : newGood tags := ⟨by rw [Hn.out]; exact hn1, by rw [Hn.out]; exact hn16, htg⟩
        have H := Lib.hid h
        have HG2 := Lib.hid hg
        have Hlb := Lib.hid hLb
        have Hmn := Lib.hid hmn
        clear h hg htg hown hLb hmn
        go_wp2_with fail
        exact bodyPost_ret (results_tmp2 rfl _ _ _) rfl (.inl ⟨HG2.out, ow, L, by rw [Hlb.out]; rfl, H.out, Hmn.out⟩)
  · have hng : ¬ newGood tags := fun hg => hlen (by have h1 := hg.1; have h2 := hg.2.1; rw [hn] at h1 h2; exact ⟨h1, h2⟩)
    have HN := Lib.hid hng
    clear hn hs hng
    go_enter Tryz.func32, Tryz.ntmps32
    go_wp2
    all_goals (refine bodyPost_ret (results_tmp2 rfl _ _ _) rfl ?_; exact .inr ⟨HN.out, rfl, Below.refl _ _⟩)
end
end Go.Proofs.YtlgkkolgdjgclaaGreat
/- A system's methods: Spawn. -/
namespace Go.Proofs.YtlgkkolgdjgclaaGreat
open Go.RowKit Go.Shelf
set_option linter.unusedVariables false
set_option linter.unusedSimpArgs false

namespace SysS
variable {s : SysS} {t : Tk} {i : Nat} {n : Int}
/-- One comes to a place. -/
def putS (s : SysS) (i : Nat) (t : Tk) : SysS := { s with slots := s.slots.modify i fun x => ⟨x.turn + 1, some t⟩ }
theorem find_putS (hs : s.slots[i]? = some ⟨n, none⟩) (h64 : i < 64) (hid : t.id = i + 64 * n) (hn : 0 ≤ n) (j : Int) : (s.putS i t).find j = if j = t.id then some t else s.find j := by
  have e0 : (t.id % 64).toNat = i := by omega
  by_cases e : j = t.id
  · rw [if_pos e]
    subst e
    refine find_of_slot (n := n + 1) (by omega) rfl ?_
    rw [e0]
    simp [putS, List.getElem?_modify, hs]
  · rw [if_neg e]
    unfold find
    split
    · rfl
    · by_cases e2 : i = (j % 64).toNat
      · rw [← e2]
        simp only [putS, List.getElem?_modify, if_pos, hs, Option.map_eq_map, Option.map_some]
        rw [if_neg (fun h => e h.symm)]
      · simp only [putS, List.getElem?_modify]
        simp [e2]
theorem plcs_putS (hs : s.slots[i]? = some ⟨n, none⟩) : (s.putS i t).plcs = s.plcs.set i ⟨n + 1, true⟩ := by
  unfold plcs putS
  refine List.ext_getElem? fun k => ?_
  simp only [List.getElem?_map, List.getElem?_modify, List.getElem?_set, List.length_map]
  by_cases e : i = k
  · subst e
    rw [if_pos rfl, if_pos (List.getElem?_eq_some_iff.1 hs).1]
    simp [hs]
  · simp [e]
end SysS
section
variable {w0 w : World} {ow : Nat → Option Own} {L : Lay} {s : SysS} {T : Nat}
def Lay.spawn (L : Lay) (id : Int) (b : Nat) : Lay := { L with mn := L.mn + 1, tb := fun j => if j = id then b else L.tb j }
/-- Behind a call that may make a task. -/
def SysNx (w0 w : World) (ow : Nat → Option Own) (L : Lay) (s' : SysS) (w' : World) : Prop := ∃ ow' L', L'.b = L.b ∧ (L'.mn ≤ L.mn + 1 ∧ L'.cb = L.cb) ∧ SysIn w0 w' ow' L' s' ∧ Fr (fun k => ow k ≠ none) w w' ∧ ∀ k, ow' k ≠ none → ow k ≠ none ∨ w.heap.size ≤ k
theorem SysIn.nx {w' : World} (h : SysIn w0 w ow L s) (hb : Below w.heap.size w w') : SysNx w0 w ow L s w' := ⟨ow, L, rfl, ⟨by omega, rfl⟩, h.below hb, Fr.of_below hb, fun k hk => .inl hk⟩
theorem SysTo.nx {s' : SysS} {w' : World} (h : SysTo w0 w ow L s' w') : SysNx w0 w ow L s' w' := by
  obtain ⟨ow', h1, h2, h3⟩ := h
  exact ⟨ow', L, rfl, ⟨by omega, rfl⟩, h1, h2, h3⟩
theorem SysNx.pre {s' : SysS} {w1 w' : World} (hb : Below w.heap.size w w1) (h : SysNx w0 w1 ow L s' w') : SysNx w0 w ow L s' w' := by
  obtain ⟨ow', L', h1, h2, h3, h4, h5⟩ := h
  exact ⟨ow', L', h1, h2, h3, (Fr.of_below hb).trans h4 (fun _ _ h => h), fun k hk => (h5 k hk).imp id fun h => Nat.le_trans hb.size h⟩
theorem fmap_putS {i : Nat} {n : Int} {t : Tk} (hs : s.slots[i]? = some ⟨n, none⟩) (h64 : i < 64) (hid : t.id = i + 64 * n) (hn : 0 ≤ n) (b : Nat) : fmap (L.spawn t.id b) (s.putS i t) = updP (fmap L s) t.id b := by
  funext j
  unfold fmap updP
  rw [SysS.find_putS hs h64 hid hn]
  by_cases e : j = t.id
  · rw [if_pos e, if_pos e]; simp [Lay.spawn, e]
  · rw [if_neg e, if_neg e]; simp [Lay.spawn, e]
theorem SysIn.spawn {w1 w2 w3 : World} (h : SysIn w0 w ow L s) {i : Nat} {n : Int} {t : Tk} (hs : s.slots[i]? = some ⟨n, none⟩) (h64 : i < 64) (hid : t.id = i + 64 * n) (hn : 0 ≤ n) (h1 : SltM w1 L.sl L.pl (s.plcs.set i ⟨n + 1, true⟩)) (hf1 : Fr (fun k => k = L.pl) w w1)
    (h2 : w2 = w1.alloc (.cells t.enc.toArray 110)) (h3 : MapP w3 L.mp (L.mn + 1) (updP (fmap L s) t.id w1.heap.size)) (hf3 : Fr (fun k => k = L.mp) w2 w3) : SysNx w0 w ow L (s.putS i t) w3 := by
  have hsz1 := hf1.size
  have hsz2 : w2.heap.size = w1.heap.size + 1 := by rw [h2]; simp
  have hsz3 := hf3.size
  have hf2 : Fr (fun k => k = L.mp) w1 w3 := by
    refine Fr.trans (b := w2) ?_ hf3 (fun _ _ h => h)
    rw [h2]; exact (Fr.refl _ w1).alloc _
  have hf : Fr (fun k => k = L.mp ∨ k = L.pl) w w3 := (hf1.mono fun k _ e => .inr e).trans (hf2.mono (G := fun k => k = L.mp ∨ k = L.pl) fun k _ e => .inl e) (fun _ _ h => h)
  have n' : ∀ {k x}, ow k = some x → x ≠ .map → x ≠ .plc → ¬ (k = L.mp ∨ k = L.pl) := fun hk h1 h2 e => by
    rcases e with rfl | rfl
    · rw [h.oM] at hk; simp only [Option.some.injEq] at hk; exact h1 hk.symm
    · rw [h.oP] at hk; simp only [Option.some.injEq] at hk; exact h2 hk.symm
  have hsm : ¬ (L.sl = L.mp) := fun e => by have := h.oS; rw [e, h.oM] at this; cases this
  have hpm : ¬ (L.pl = L.mp) := fun e => by have := h.oP; rw [e, h.oM] at this; cases this
  have hG : ∀ k, (k = L.mp ∨ k = L.pl) → w0.heap.size ≤ k := fun k e => by rcases e with rfl | rfl; exact (h.lt _ _ h.oM).1; exact (h.lt _ _ h.oP).1
  have hml := (h.lt _ _ h.oM).2
  have o : ∀ {k x}, ow k = some x → (if k = w1.heap.size then some (Own.tsk t.id) else ow k) = some x := fun hk => by rw [if_neg (by have := (h.lt _ _ hk).2; omega)]; exact hk
  refine ⟨fun k => if k = w1.heap.size then some (.tsk t.id) else ow k, L.spawn t.id w1.heap.size, rfl, ⟨Nat.le_refl _, rfl⟩, ⟨?_, h.arr.fr hf fun p hp => n' (h.oA p hp) (fun e => by cases e) (fun e => by cases e), h.grp.fr hf (n' h.oG (fun e => by cases e) (fun e => by cases e)), ?_, ?_, fun j u hu => ?_, fun j c hc => ?_, h.cbl, o h.oT, fun p hp => o (h.oA p hp), o h.oG, o h.oS, o h.oP, o h.oM, fun k x hk => ?_, h.old.trans (hf.below h.old.size hG)⟩, hf.mono fun k _ e => ?_, fun k hk => ?_⟩
  · exact heap_fr h.top hf (n' h.oT (fun e => by cases e) (fun e => by cases e))
  · rw [SysS.plcs_putS hs]; exact h1.fr hf2 hsm hpm
  · rw [fmap_putS hs h64 hid hn]; exact h3
  · rw [SysS.find_putS hs h64 hid hn] at hu
    split at hu
    · rename_i e
      subst e
      simp only [Option.some.injEq] at hu
      subst hu
      simp only [Lay.spawn, if_pos]
      refine ⟨heap_fr (by rw [h2]; exact heap_new w1 _) hf3 (fun e => by omega), by simp⟩
    · rename_i e
      obtain ⟨x1, x2⟩ := h.tsk j u hu
      simp only [Lay.spawn, if_neg e]
      exact ⟨heap_fr x1 hf (n' x2 (fun e => by cases e) (fun e => by cases e)), o x2⟩
  · obtain ⟨bl, F, p, q, r, x1, x2, x3⟩ := h.cor j c hc
    exact ⟨bl, F, p, q, r, x1, x2.fr hf (fun k hk => n' (x3 k hk) (fun e => by cases e) (fun e => by cases e)) hG, fun k hk => o (x3 k hk)⟩
  · have := h.old.size
    split at hk
    · omega
    · have := h.lt k x hk
      omega
  · rcases e with rfl | rfl
    · rw [h.oM]; simp
    · rw [h.oP]; simp
  · dsimp only at hk
    split at hk
    · rename_i e; exact .inr (by omega)
    · exact .inl hk
theorem free_plcs (s : SysS) (i : Nat) : s.slots.findIdx? (fun x => x.task.isNone) = some i → ∃ n, s.slots[i]? = some ⟨n, none⟩ ∧ ∀ j q, j < i → s.plcs[j]? = some q → q.taken = true := by
  intro h
  obtain ⟨h1, h2, h3⟩ := List.findIdx?_eq_some_iff_getElem.1 h
  refine ⟨(s.slots[i]).turn, ?_, fun j q hj hq => ?_⟩
  · rw [List.getElem?_eq_getElem h1]
    cases hx : s.slots[i] with
    | mk n t =>
      rw [hx] at h2
      cases t with
      | none => rfl
      | some u => simp at h2
  · unfold SysS.plcs at hq
    rw [List.getElem?_map, List.getElem?_eq_getElem (by omega)] at hq
    simp only [Option.map_some, Option.some.injEq] at hq
    subst hq
    have := h3 j hj
    cases hx : (s.slots[j]'(by omega)).task with
    | none => rw [hx] at this; simp at this
    | some u => rfl
theorem full_plcs (s : SysS) : s.slots.findIdx? (fun x => x.task.isNone) = none → ∀ q ∈ s.plcs, q.taken = true := by
  intro h q hq
  rw [List.findIdx?_eq_none_iff] at h
  unfold SysS.plcs at hq
  obtain ⟨x, hx, rfl⟩ := List.mem_map.1 hq
  have := h x hx
  cases hx : x.task with
  | none => rw [hx] at this; simp at this
  | some u => rfl
set_option maxHeartbeats 3200000 in
set_option maxRecDepth 100000 in
theorem YSpawn (h : SysIn w0 w ow L s) (hk : SysOk T s) (hT : T ≤ 10000000) (x m g : Int) (hm : 0 ≤ m ∧ m < 65536) (hmn : L.mn < 1000000000) :
    Calls Tryz.prog 33 #[.pointer (some ⟨L.b, 0, none⟩), .int .i64 x, .int .u16 m, .int .i64 g] w fun e w' => e = .returned (.tuple #[.int .i64 (s.spawn x m g).2.1, .int .i64 (s.spawn x m g).2.2]) ∧ SysNx w0 w ow L (s.spawn x m g).1 w' := by
  obtain ⟨⟨q0, q1, q2, q3⟩, -, hlt⟩ := h.tops
  have HW := Lib.hid (WGood_any x)
  have HM := Lib.hid (fun (n : Int) (W : World) => MGood_any m n W hm)
  have HD := Lib.hid (GDepth h.grp g)
  have H := Lib.hid h
  have hp := pathG_pos (ups := s.ups) (g := g)
  by_cases hx : 1 ≤ x ∧ x ≤ 20
  · by_cases hgm : goodM m s.cores.length = true
    · cases hh : hasG s.ups g with
      | true =>
        rw [hh] at hp
        have h0 : 0 < (pathG s.ups g).length := hp.2 rfl
        have hn0 : ¬ ((pathG s.ups g).length : Int) = 0 := by omega
        have hnb : (((pathG s.ups g).length : Int) == 0) = false := by simpa using hn0
        generalize (pathG s.ups g).length = d at HD hnb hn0
        cases hfi : s.slots.findIdx? (fun x => x.task.isNone) with
        | some i =>
          obtain ⟨n, hsl, hbf⟩ := free_plcs s i hfi
          have hi64 : i < 64 := by have := (List.getElem?_eq_some_iff.1 hsl).1; rw [hk.s64] at this; exact this
          have hn0 := (hk.turn _ (List.mem_of_getElem? hsl))
          simp only at hn0
          have hsp : s.spawn x m g = (s.putS i ⟨i + 64 * n, x, g, -1, 1, m, 0⟩, i + 64 * n, 0) := by
            unfold SysS.spawn
            rw [if_pos hx, if_pos hgm, if_pos hh, hfi]
            have e1 : (s.slots.getD i ⟨0, none⟩).turn = n := by rw [List.getD_eq_getElem?_getD, hsl]; rfl
            simp only [e1, Prod.mk.injEq, and_true]
            unfold SysS.putS
            simp only [SysS.mk.injEq, true_and]
            refine List.ext_getElem? fun k => ?_
            simp only [List.getElem?_modify]
            by_cases e : i = k
            · subst e; simp [hsl]
            · simp [e]
          rw [hsp]
          have HTk := Lib.hid (fun (W : World) (hW : Below w.heap.size w W) => STake (h.slt.below hW) (SysS.plcs_at hsl) rfl hbf (by simp only; omega))
          have Hsl := Lib.hid hsl
          rw [show decide (1 ≤ x ∧ x ≤ 20) = true from decide_eq_true hx] at HW
          have hgm2 := Lib.hid hgm
          have Hmn := Lib.hid hmn
          have HI := Lib.hid hi64
          have HN := Lib.hid hn0
          have hlt := Lib.hid hlt
          have hne : L.b ≠ L.pl := fun e => by have h1 := h.oT; rw [e, h.oP] at h1; cases h1
          simp only at HTk
          clear h hk hp hx hgm hh h0 hfi hsl hbf hsp hm hn0
          go_enter Tryz.func33, Tryz.ntmps33
          go_wp2_with (first
            | (go_at_call 53; refine (HW.out _).mono ?_; rintro e w1 ⟨rfl, rfl⟩)
            | (go_at_call 54; refine (HM.out _ _).mono ?_; rintro e w1 ⟨rfl, rfl⟩; rw [hgm2.out])
            | (go_at_call 55; refine HD.out.mono ?_; rintro e w1 ⟨rfl, hb1⟩
               obtain ⟨⟨q0, q1, q2, q3⟩, -, hlt1⟩ := (H.out.below hb1).tops
               have Hb1 := Lib.hid hb1; clear hb1)
            | (go_at_call 56; refine (HTk.out _ Hb1.out).mono ?_; rintro e w2 ⟨rfl, hs2, hf2⟩
               have q3 := (hf2.cell (p := ⟨L.b, 67, none⟩) hlt1 hne).trans q3
               have hlt2 := Nat.lt_of_lt_of_le hlt1 hf2.size
               have hne2 : L.b ≠ w2.heap.size := (by omega)
               have Hs2 := Lib.hid hs2
               have Hf2 := Lib.hid hf2
               have HMp := Lib.hid (((H.out.below Hb1.out).map.fr hf2 (fun e => by have h1 := H.out.oM; rw [e, H.out.oP] at h1; cases h1)).below ((Below.refl _ _).alloc (Nat.le_refl _) (.cells #[.int .i64 (i + 64 * n), .int .i64 x, .int .i64 g, .int .i64 (-1), .int .i64 1, .int .u16 m, .int .i64 0] 110)))
               clear hs2 hf2)
            | (refine wpList_putP _ rfl _ _ _ rfl L.mp L.mn _ rfl HMp.out (by have := Hmn.out; unfold maxLen; omega) (i + 64 * n) w2.heap.size rfl (ptrV_nat _).symm (by omega) (by have := HI.out; have := HN.out; omega) ?_; intro w3 hm3 hf3; have Hm3 := Lib.hid hm3; have Hf3 := Lib.hid hf3; clear hm3 hf3))
          go_ret2
          refine ⟨rfl, SysNx.pre Hb1.out ?_⟩
          exact (H.out.below Hb1.out).spawn (t := ⟨i + 64 * n, x, g, -1, 1, m, 0⟩) Hsl.out HI.out rfl HN.out.1 Hs2.out Hf2.out rfl Hm3.out Hf3.out
        | none =>
          have HTk := Lib.hid (fun (W : World) (hW : Below w.heap.size w W) => STake_full (h.slt.below hW) (full_plcs s hfi))
          have hsp : s.spawn x m g = (s, 0, 3) := by unfold SysS.spawn; rw [if_pos hx, if_pos hgm, if_pos hh, hfi]
          rw [hsp]
          rw [show decide (1 ≤ x ∧ x ≤ 20) = true from decide_eq_true hx] at HW
          have hgm2 := Lib.hid hgm
          clear h hk hp hx hgm hh h0 hfi hsp hm hn0
          go_enter Tryz.func33, Tryz.ntmps33
          go_wp2_with (first
            | (go_at_call 53; refine (HW.out _).mono ?_; rintro e w1 ⟨rfl, rfl⟩)
            | (go_at_call 54; refine (HM.out _ _).mono ?_; rintro e w1 ⟨rfl, rfl⟩; rw [hgm2.out])
            | (go_at_call 55; refine HD.out.mono ?_; rintro e w1 ⟨rfl, hb1⟩
               obtain ⟨⟨q0, q1, q2, q3⟩, -, hlt1⟩ := (H.out.below hb1).tops
               have Hb1 := Lib.hid hb1; clear hb1)
            | (go_at_call 56; refine (HTk.out _ Hb1.out).mono ?_; rintro e w2 ⟨rfl, rfl⟩))
          go_ret2
          exact ⟨rfl, H.out.nx Hb1.out⟩
      | false =>
        have h0 : (pathG s.ups g).length = 0 := by
          rw [hh] at hp
          rcases Nat.eq_zero_or_pos (pathG s.ups g).length with h | h
          · exact h
          · exact absurd (hp.1 h) (by decide)
        rw [h0] at HD
        have hsp : s.spawn x m g = (s, 0, 2) := by unfold SysS.spawn; rw [if_pos hx, if_pos hgm, if_neg (by rw [hh]; decide)]
        rw [hsp]
        rw [show decide (1 ≤ x ∧ x ≤ 20) = true from decide_eq_true hx] at HW
        have hgm2 := Lib.hid hgm
        clear h hk hp hx hgm hh h0 hsp hm
        go_enter Tryz.func33, Tryz.ntmps33
        go_wp2_with (first
          | (go_at_call 53; refine (HW.out _).mono ?_; rintro e w1 ⟨rfl, rfl⟩)
          | (go_at_call 54; refine (HM.out _ _).mono ?_; rintro e w1 ⟨rfl, rfl⟩; rw [hgm2.out])
          | (go_at_call 55; refine HD.out.mono ?_; rintro e w1 ⟨rfl, hb1⟩; have Hb1 := Lib.hid hb1; clear hb1))
        go_ret2
        exact ⟨rfl, H.out.nx Hb1.out⟩
    · have hgm1 : goodM m s.cores.length = false := by simpa using hgm
      have hsp : s.spawn x m g = (s, 0, 5) := by unfold SysS.spawn; rw [if_pos hx, if_neg hgm]
      rw [hsp]
      rw [show decide (1 ≤ x ∧ x ≤ 20) = true from decide_eq_true hx] at HW
      have hgm2 := Lib.hid hgm1
      clear h hk hp hx hgm hgm1 hsp hm
      go_enter Tryz.func33, Tryz.ntmps33
      go_wp2_with (first
        | (go_at_call 53; refine (HW.out _).mono ?_; rintro e w1 ⟨rfl, rfl⟩)
        | (go_at_call 54; refine (HM.out _ _).mono ?_; rintro e w1 ⟨rfl, rfl⟩; rw [hgm2.out]))
      go_ret2
      exact ⟨rfl, H.out.nx (Below.refl _ _)⟩
  · have hsp : s.spawn x m g = (s, 0, 1) := by unfold SysS.spawn; rw [if_neg hx]
    rw [hsp]
    rw [show decide (1 ≤ x ∧ x ≤ 20) = false from decide_eq_false hx] at HW
    clear h hk hp hx hsp hm
    go_enter Tryz.func33, Tryz.ntmps33
    go_wp2_with (first
      | (go_at_call 53; refine (HW.out _).mono ?_; rintro e w1 ⟨rfl, rfl⟩))
    go_ret2
    exact ⟨rfl, H.out.nx (Below.refl _ _)⟩
end
end Go.Proofs.YtlgkkolgdjgclaaGreat
/- A system's methods: Group. -/
namespace Go.Proofs.YtlgkkolgdjgclaaGreat
open Go.RowKit Go.Shelf
set_option linter.unusedVariables false
set_option linter.unusedSimpArgs false

theorem flat_setA (a : Acn) : ∀ (l : List Acn) (j : Nat), j < l.length → ((((flat Acn.enc l).set (j * 4) (.int .i64 a.q)).set (j * 4 + 1) (.int .i64 a.p)).set (j * 4 + 2) (.int .i64 a.l)).set (j * 4 + 3) (.int .i64 a.f) = flat Acn.enc (l.set j a)
  | [], j, h => by simp at h
  | x :: l, 0, _ => rfl
  | x :: l, j + 1, h => by
    have ih := flat_setA a l j (by simpa using h)
    rw [show (j + 1) * 4 = j * 4 + 4 by omega]
    simp only [List.set_cons_succ]
    show _ = Acn.enc x ++ flat Acn.enc (l.set j a)
    rw [← ih]
    show ((((Acn.enc x ++ flat Acn.enc l).set (j * 4 + 4) _).set (j * 4 + 4 + 1) _).set (j * 4 + 4 + 2) _).set (j * 4 + 4 + 3) _ = _
    rfl
section
variable {w0 w : World} {ow : Nat → Option Own} {L : Lay} {s : SysS} {T : Nat}
theorem SysS.acc_setA {g : Nat} (hg : g < s.grps.length) (a : Acn) (j : Nat) : (s.setA g a).acc j = if j = g then a else s.acc j := by
  unfold SysS.acc SysS.setA
  simp only [List.getElem?_modify]
  by_cases e : g = j
  · subst e
    rw [if_pos rfl, List.getElem?_eq_getElem hg]
    simp
  · rw [if_neg (fun h => e h.symm)]
    simp [e]
theorem accL_setA {g : Nat} (hg : g < s.grps.length) (a : Acn) : accL (s.setA g a) = (accL s).set g a := by
  refine List.ext_getElem? fun k => ?_
  unfold accL
  simp only [List.getElem?_map, List.getElem?_set, List.length_map, List.length_range, List.getElem?_range', List.getElem?_range]
  by_cases hk : k < 16
  · rw [List.getElem?_range hk]
    simp only [Option.map_some, SysS.acc_setA hg]
    by_cases e : g = k
    · subst e; simp [hk]
    · rw [if_neg e, if_neg (fun h => e h.symm)]
  · rw [List.getElem?_eq_none (by simp; omega)]
    simp
    omega
theorem ups_setA (g : Nat) (a : Acn) : (s.setA g a).ups = s.ups := by
  unfold SysS.ups SysS.setA
  refine List.ext_getElem? fun k => ?_
  simp only [List.getElem?_map, List.getElem?_modify]
  by_cases e : g = k
  · subst e; cases s.grps[g]? <;> simp
  · simp [e]
theorem top_setA (L : Lay) {g : Nat} (hg : g < s.grps.length) (h16 : g < 16) (a : Acn) : ((((topCells L s).toArray.setIfInBounds (2 + g * 4) (.int .i64 a.q)).setIfInBounds (2 + g * 4 + 1) (.int .i64 a.p)).setIfInBounds (2 + g * 4 + 2) (.int .i64 a.l)).setIfInBounds (2 + g * 4 + 3) (.int .i64 a.f) = (topCells L (s.setA g a)).toArray := by
  unfold topCells
  rw [accL_setA hg, ← flat_setA a _ g (by simp [accL, h16])]
  have hl := flat_accL s
  simp only [List.setIfInBounds_toArray]
  have e : ∀ (i : Nat) (v : Value) (l : List Value), (([.slice L.ar s.cores.length L.cap, .pointer (some ⟨L.g, 0, none⟩)] : List Value) ++ l).set (2 + i) v = [.slice L.ar s.cores.length L.cap, .pointer (some ⟨L.g, 0, none⟩)] ++ l.set i v := fun i v l => by
    rw [show 2 + i = i + 1 + 1 by omega]; rfl
  have e2 : ∀ (i : Nat) (v : Value) (l m : List Value), i < l.length → (l ++ m).set i v = l.set i v ++ m := fun i v l m hi => by rw [List.set_append_left _ _ hi]
  rw [show 2 + g * 4 + 1 = 2 + (g * 4 + 1) by omega, show 2 + g * 4 + 2 = 2 + (g * 4 + 2) by omega, show 2 + g * 4 + 3 = 2 + (g * 4 + 3) by omega]
  rw [e, e, e, e, e2 _ _ _ _ (by omega), e2 _ _ _ _ (by simp; omega), e2 _ _ _ _ (by simp; omega), e2 _ _ _ _ (by simp; omega)]
  rfl
/-- The top's cells are written. -/
theorem SysIn.top' {w' : World} {s' : SysS} (h : SysIn w0 w ow L s) (hf : Fr (fun k => k = L.b) w w') (ht : w'.heap[L.b]? = some (.cells (topCells L s').toArray 92 (0, 0))) (h1 : s'.cores = s.cores) (h2 : s'.slots = s.slots) (h3 : s'.ups = s.ups) : SysIn w0 w' ow L s' := by
  have n' : ∀ {k x}, ow k = some x → x ≠ .top → ¬ (k = L.b) := fun hk h1 e => by
    subst e
    rw [h.oT] at hk; simp only [Option.some.injEq] at hk; exact h1 hk.symm
  have hG : ∀ k, k = L.b → w0.heap.size ≤ k := fun k e => by subst e; exact (h.lt _ _ h.oT).1
  have hfd : ∀ id, s'.find id = s.find id := fun id => by unfold SysS.find; rw [h2]
  refine ⟨ht, h.arr.fr hf fun p hp => n' (h.oA p hp) (fun e => by cases e), ?_, ?_, ?_, fun j u hu => ?_, fun j c hc => ?_, by rw [h1]; exact h.cbl, h.oT, h.oA, h.oG, h.oS, h.oP, h.oM, fun k x hk => ?_, h.old.trans (hf.below h.old.size hG)⟩
  · rw [h3]; exact h.grp.fr hf (n' h.oG (fun e => by cases e))
  · have e : s'.plcs = s.plcs := by unfold SysS.plcs; rw [h2]
    rw [e]; exact h.slt.fr hf (n' h.oS (fun e => by cases e)) (n' h.oP (fun e => by cases e))
  · have e : fmap L s' = fmap L s := by funext id; unfold fmap; rw [hfd]
    rw [e]; exact h.map.fr hf (n' h.oM (fun e => by cases e))
  · rw [hfd] at hu
    obtain ⟨x1, x2⟩ := h.tsk j u hu
    exact ⟨heap_fr x1 hf (n' x2 (fun e => by cases e)), x2⟩
  · rw [h1] at hc
    obtain ⟨bl, F, p, q, r, x1, x2, x3⟩ := h.cor j c hc
    exact ⟨bl, F, p, q, r, x1, x2.fr hf (fun k hk => n' (x3 k hk) (fun e => by cases e)) hG, x3⟩
  · have := h.lt k x hk
    have := hf.size
    omega
def acnW (w : World) (b g : Nat) (a : Acn) : World := (((w.setCell ⟨b, 2 + g * 4, none⟩ (.int .i64 a.q)).setCell ⟨b, 2 + g * 4 + 1, none⟩ (.int .i64 a.p)).setCell ⟨b, 2 + g * 4 + 2, none⟩ (.int .i64 a.l)).setCell ⟨b, 2 + g * 4 + 3, none⟩ (.int .i64 a.f)
theorem fr_acn (w : World) (b g : Nat) (a : Acn) : Fr (fun k => k = b) w (acnW w b g a) :=
  ((((Fr.refl (fun k => k = b) w).setCell (p := ⟨b, _, none⟩) (fun _ => rfl) _).setCell (p := ⟨b, _, none⟩) (fun _ => rfl) _).setCell (p := ⟨b, _, none⟩) (fun _ => rfl) _).setCell (p := ⟨b, _, none⟩) (fun _ => rfl) _
/-- An account is written. -/
theorem SysIn.setA (h : SysIn w0 w ow L s) {g : Nat} (hg : g < s.grps.length) (h16 : g < 16) (a : Acn) : SysIn w0 (acnW w L.b g a) ow L (s.setA g a) := by
  refine h.top' (fr_acn w L.b g a) ?_ rfl rfl (ups_setA g a)
  rw [← top_setA L hg h16 a]
  exact heap_set (heap_set (heap_set (heap_set h.top _) _) _) _
/-- A group more, without account. -/
def SysS.addG (s : SysS) (up : Int) : SysS := { s with grps := s.grps ++ [(up, Acn.zero)] }
theorem SysS.acc_addG (up : Int) (j : Nat) : (s.addG up).acc j = s.acc j := by
  unfold SysS.acc SysS.addG
  by_cases h : j < s.grps.length
  · simp only [List.getElem?_append_left h]
  · simp only [List.getElem?_append_right (Nat.le_of_not_lt h)]
    rw [List.getElem?_eq_none (Nat.le_of_not_lt h)]
    rcases Nat.eq_zero_or_pos (j - s.grps.length) with e | e
    · rw [e]; rfl
    · rw [List.getElem?_eq_none (by simp; omega)]
theorem SysIn.addG {w' : World} (h : SysIn w0 w ow L s) {up : Int} (hg : GrpM w' L.g (s.ups ++ [up])) (hf : Fr (fun k => k = L.g) w w') : SysIn w0 w' ow L (s.addG up) := by
  have n' : ∀ {k x}, ow k = some x → x ≠ .grp → ¬ (k = L.g) := fun hk h1 e => by
    subst e
    rw [h.oG] at hk; simp only [Option.some.injEq] at hk; exact h1 hk.symm
  have hG : ∀ k, k = L.g → w0.heap.size ≤ k := fun k e => by subst e; exact (h.lt _ _ h.oG).1
  have htop : topCells L (s.addG up) = topCells L s := by
    have e : (s.addG up).acc = s.acc := funext (SysS.acc_addG up)
    unfold topCells accL
    rw [e]; rfl
  refine ⟨?_, h.arr.fr hf fun p hp => n' (h.oA p hp) (fun e => by cases e), ?_, h.slt.fr hf (n' h.oS (fun e => by cases e)) (n' h.oP (fun e => by cases e)), h.map.fr hf (n' h.oM (fun e => by cases e)), fun j u hu => ?_, fun j c hc => ?_, h.cbl, h.oT, h.oA, h.oG, h.oS, h.oP, h.oM, fun k x hk => ?_, h.old.trans (hf.below h.old.size hG)⟩
  · rw [htop]; exact heap_fr h.top hf (n' h.oT (fun e => by cases e))
  · have e : (s.addG up).ups = s.ups ++ [up] := by unfold SysS.ups SysS.addG; simp
    rw [e]; exact hg
  · obtain ⟨x1, x2⟩ := h.tsk j u hu
    exact ⟨heap_fr x1 hf (n' x2 (fun e => by cases e)), x2⟩
  · obtain ⟨bl, F, p, q, r, x1, x2, x3⟩ := h.cor j c hc
    exact ⟨bl, F, p, q, r, x1, x2.fr hf (fun k hk => n' (x3 k hk) (fun e => by cases e)) hG, x3⟩
  · have := h.lt k x hk
    have := hf.size
    omega
end
end Go.Proofs.YtlgkkolgdjgclaaGreat
/- A system's methods: Tasks. -/
namespace Go.Proofs.YtlgkkolgdjgclaaGreat
open Go.RowKit Go.Shelf
attribute [local go_sem] Oper.semAt_some wide_fn wide_depth
set_option linter.unusedVariables false
set_option linter.unusedSimpArgs false

/-- append, in a round. -/
theorem wpListIn_append_lies {F : Fence} {nF : Nat} {P : Program} (w : World) {ops : Array Oper} {rest : List Oper} {o : Oper} {a : Act} {Q : Exit → Act → World → Prop} (hgd : o.guard = none) (s x : Operand) (t : TypeId)
    (ho : o.op = .call { callee := .builtin .append, args := #[s, x], argTypes := #[t, t] })
    (base : Nat) (e : TypeId) (i : TypeInfo) (z : Value) (size bytes : Nat) (ht : P.underlying t = some (.slice e)) (hi : P.info? e = some i) (hz : i.zero = some z)
    (hsize : i.size = size) (hby : i.bytes = bytes) (hzs : z.cells.size = size) (hsz : 0 < size)
    (v : Value) (n : Nat) (xs : List Value) (hs : a.eval s = v) (hown : w.ownsRow base e size v n xs)
    (ad : Addr) (m c : Nat) (news : List Value) (hx : a.eval x = .slice (some ad) m c) (hl : news.length = m * size) (hnews : ∀ j u, news[j]? = some u → w.cell? (ad.add j) = some u) (h1 : ∀ u ∈ news, u.oneCell' = true)
    (hm : 0 < m) (h63 : n + m ≤ maxLen) (hbytes : (n + m) * bytes ≤ 140737488355328) (hbase : base ≤ w.heap.size) (H : Nat) (hH : w.heap.size = H)
    (h : ∀ g cap w', w'.ownsRow base e size (.slice (some ⟨g, 0, none⟩) (n + m) cap) (n + m) (xs ++ news) → w.grownBy w' v.ownBlock → (v.ownBlock = some g ∨ g = H) → g < w'.heap.size → wpListIn F nF P ops Q rest (a.put o.dst (.slice (some ⟨g, 0, none⟩) (n + m) cap)) w') :
    wpListIn F nF P ops Q (o :: rest) a w := by
  refine wpListIn_plain hgd fun K hK => ?_
  obtain ⟨g, cap, w', hr, h2, h3, h4, h5⟩ := run_append_lies (P := P) w t o.type base e i z size bytes ht hi hz hsize hby hzs hsz v n xs hown ad m c news hl hnews h1 hm h63 hbytes hbase H hH
  unfold Oper.wpIn
  refine ⟨by simp [Oper.about, ho, resolve, Target.leads, Sem.run_pure], ?_⟩
  rw [Oper.semAt_plain F _ _ (by rw [ho]; intro c hc'; cases hc')]
  simp [execOp, ho, resolve, invoke, builtin, hs, hx, hr, Result.andThen]
  exact hK _ _ (h g cap w' h2 h3 h4 h5)
/-! ### who is there, and the names -/
theorem names_slots : ∀ (l : List Slo) (b : Nat), (∀ (i : Nat) (n : Int) (t : Tk), l[i]? = some ⟨n, some t⟩ → t.id = (b + i : Nat) + 64 * (n - 1)) → namesF b (l.map fun x => ⟨x.turn, x.task.isSome⟩) = (l.filterMap Slo.task).map Tk.id
  | [], b, h => rfl
  | ⟨n, x⟩ :: l, b, h => by
    have ih := names_slots l (b + 1) (fun i n t hi => by have := h (i + 1) n t hi; rw [this]; congr 2; omega)
    cases x with
    | none =>
      show namesF (b + 1) _ = _
      rw [ih]; rfl
    | some t =>
      have h0 := h 0 n t rfl
      show ((b : Int) + 64 * (n - 1)) :: namesF (b + 1) _ = _
      rw [ih]
      show _ = t.id :: _
      rw [h0]; rfl
theorem SysOk.names {T : Nat} {s : SysS} (hk : SysOk T s) : namesL s.plcs = s.all.map Tk.id := names_slots s.slots 0 (fun i n t h => by have := (hk.slot i n t h).1; rw [this, Nat.zero_add])
theorem SysOk.all_find {T : Nat} {s : SysS} (hk : SysOk T s) {t : Tk} (ht : t ∈ s.all) : s.find t.id = some t := by
  obtain ⟨x, hx, he⟩ := List.mem_filterMap.1 ht
  obtain ⟨i, hi⟩ := List.getElem?_of_mem hx
  obtain ⟨n, y⟩ := x
  simp only at he
  subst he
  obtain ⟨h1, h2, -⟩ := hk.slot i n t hi
  have h64 : i < 64 := by have := (List.getElem?_eq_some_iff.1 hi).1; rw [hk.s64] at this; exact this
  refine SysS.find_of_slot (n := n) (by omega) rfl ?_
  rw [show (t.id % 64).toNat = i by omega]
  exact hi
section
variable {w0 w : World} {ow : Nat → Option Own} {L : Lay} {s : SysS} {T : Nat}
end
end Go.Proofs.YtlgkkolgdjgclaaGreat
