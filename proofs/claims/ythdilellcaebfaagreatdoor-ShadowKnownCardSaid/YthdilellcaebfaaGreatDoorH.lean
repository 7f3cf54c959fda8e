/- slices.SortFunc at points, and Put. -/
import Derived.Test.YthdilellcaebfaaGreatDoorG
import Derived.Test.YthdilellcaebfaaGreatDoorS
import Derived.Deep.AppendLies
namespace Go.Proofs.YthdilellcaebfaaGreatDoor
open Go.Shelf Go.RowKit Go.Lib Go.Sort
set_option linter.unusedVariables false
set_option linter.unusedSimpArgs false
instance : Inhabited Pt := ⟨⟨0, 0, 0, 0⟩⟩

/-- A point put into those that stand by their ids. -/
def insP (x : Pt) : List Pt → List Pt
  | [] => [x]
  | y :: t => if x.id < y.id then x :: y :: t else y :: insP x t
theorem insP_perm (x : Pt) : ∀ l : List Pt, (insP x l).Perm (l ++ [x])
  | [] => .refl _
  | y :: t => by
    unfold insP
    split
    · exact (List.perm_append_comm (l₁ := [x]) (l₂ := y :: t))
    · exact (insP_perm x t).cons y
theorem insP_len (x : Pt) (l : List Pt) : (insP x l).length = l.length + 1 := by rw [(insP_perm x l).length_eq]; simp
theorem insP_mem {x y : Pt} {l : List Pt} : y ∈ insP x l ↔ y = x ∨ y ∈ l := by
  rw [(insP_perm x l).mem_iff]; simp [or_comm]
/-- Points by their ids. -/
def ById (l : List Pt) : Prop := l.Pairwise fun a b => a.id < b.id
theorem insP_sorted {x : Pt} : ∀ {l : List Pt}, ById l → (∀ y ∈ l, y.id ≠ x.id) → ById (insP x l)
  | [], _, _ => by simp [insP, ById]
  | y :: t, h, hn => by
    unfold insP
    have hy := hn y (by simp)
    obtain ⟨h1, h2⟩ := List.pairwise_cons.1 h
    split
    · rename_i hlt
      refine List.pairwise_cons.2 ⟨fun z hz => ?_, h⟩
      rcases List.mem_cons.1 hz with rfl | hz
      · exact hlt
      · have := h1 z hz; omega
    · rename_i hlt
      refine List.pairwise_cons.2 ⟨fun z hz => ?_, insP_sorted h2 fun z hz => hn z (by simp [hz])⟩
      rcases insP_mem.1 hz with rfl | hz
      · omega
      · exact h1 z hz
theorem sorted_is {x : Pt} {l l' : List Pt} (h : ById l) (hn : ∀ y ∈ l, y.id ≠ x.id) (hp : l'.Perm (l ++ [x])) (hs : l'.Pairwise fun a b => a.id ≤ b.id) : l' = insP x l := by
  have hI := insP_sorted h hn
  refine List.Perm.eq_of_pairwise (le := fun a b => a.id ≤ b.id) (fun a b ha hb h1 h2 => ?_) hs (hI.imp fun h => by omega) (hp.trans (insP_perm x l).symm)
  have ha' : a ∈ insP x l := (hp.trans (insP_perm x l).symm).mem_iff.1 ha
  have hid : a.id = b.id := by omega
  obtain ⟨i, hi, rfl⟩ := List.getElem_of_mem ha'
  obtain ⟨j, hj, rfl⟩ := List.getElem_of_mem hb
  have hg := List.pairwise_iff_getElem.1 hI
  rcases Nat.lt_trichotomy i j with h | rfl | h
  · have := hg i j hi hj h; omega
  · rfl
  · have := hg j i hj hi h; omega

def cfP (x y : Pt) : Int := cmpI x.id y.id
theorem ltP (x y : Pt) : ltOf cfP x y = decide (x.id < y.id) := by
  unfold ltOf cfP cmpI
  by_cases h1 : x.id < y.id
  · simp [h1]
  · by_cases h2 : y.id < x.id <;> simp [h1, h2]
theorem swoP : SWO (ltOf cfP) where
  irrefl x := by rw [ltP]; simp
  trans x y z h1 h2 := by rw [ltP] at *; simp at *; omega
  ntrans x y z h1 h2 := by rw [ltP] at *; simp at *; omega

theorem flatK_eq (l : List Pt) : flatK Pt.enc 4 l.toArray = (flat Pt.enc l).toArray := by
  have hs : (flat Pt.enc l).length = l.length * 4 := flat_length Pt.len l
  refine ext_get! (by simp [hs]) fun t ht => ?_
  have ht' : t < l.length * 4 := by simpa using ht
  rw [get_flatK _ _ _ t (by simpa using ht')]
  have hj : t / 4 < l.length := by omega
  have h1 : l[t / 4]? = some l[t / 4] := List.getElem?_eq_getElem hj
  have h2 : (l.toArray)[t / 4]! = l[t / 4] := by simp [getElem!_pos, hj]
  rw [h2]
  have hi : t % 4 < (Pt.enc l[t / 4]).length := by rw [Pt.len]; omega
  have h3 := flat_get Pt.len l (t / 4) _ h1 (t % 4) _ (List.getElem?_eq_getElem hi)
  rw [show t / 4 * 4 + t % 4 = t by omega] at h3
  have h4 : t < (flat Pt.enc l).length := by omega
  rw [List.getElem?_eq_getElem h4] at h3
  have h5 : t < (flat Pt.enc l).toArray.size := by simpa using h4
  rw [getElem!_pos (l[t / 4].enc) (t % 4) hi, getElem!_pos (flat Pt.enc l).toArray t h5, List.getElem_toArray]
  exact (Option.some.inj h3).symm

theorem own_holds {w : World} {B e g cap : Nat} {l : List Pt} (h : w.ownsRow B e 4 (.slice (some ⟨g, 0, none⟩) l.length cap) l.length (flat Pt.enc l)) : HoldsK Pt.enc 4 w g 0 l.toArray := by
  unfold HoldsK
  rw [flatK_eq]
  have hs : (flat Pt.enc l).length = l.length * 4 := flat_length Pt.len l
  intro j hj
  have hj' : j < (flat Pt.enc l).length := by simpa using hj
  refine ⟨?_, by rw [Nat.zero_add]; exact h.frozenAt j⟩
  rw [Nat.zero_add, h.cellAt j (by omega), List.getElem?_eq_getElem hj']
  simp [getElem!_pos, hj']

theorem own_put {w : World} {B e g cap : Nat} {l l' : List Pt} (h : w.ownsRow B e 4 (.slice (some ⟨g, 0, none⟩) l.length cap) l.length (flat Pt.enc l)) (hl : l'.length = l.length) (m : Nat) (os : Array Obj) :
    (sortWorldK Pt.enc 4 w g 0 m l'.toArray os).ownsRow B e 4 (.slice (some ⟨g, 0, none⟩) l.length cap) l.length (flat Pt.enc l') ∧ Fr (fun k => k = g) w (sortWorldK Pt.enc 4 w g 0 m l'.toArray os) := by
  have hs : (flat Pt.enc l').length = l'.length * 4 := flat_length Pt.len l'
  have hglt := h.lt g rfl
  have hheap : ∀ k, k < w.heap.size → (sortWorldK Pt.enc 4 w g 0 m l'.toArray os).heap[k]? = (w.heap.modify g (onCells (putCells id 0 (flat Pt.enc l').toArray)))[k]? := by
    intro k hk
    unfold sortWorldK putRowK
    rw [heap_grow_old _ _ (by simpa [putRow, mapBlock, Sort.ahead] using hk), flatK_eq]
    rfl
  constructor
  · refine ⟨by rw [hs, hl], ?_⟩
    rcases h.2 with ⟨hv, _⟩ | ⟨g', cap', cur, hv, hb, hg, h1, h2, h3, h4⟩
    · simp at hv
    · simp at hv
      obtain ⟨rfl, rfl⟩ := hv
      refine .inr ⟨g, cap, putCells id 0 (flat Pt.enc l').toArray cur, rfl, hb, ?_, h1, h2, by simp [putCells, h3], ?_⟩
      · rw [hheap g hglt.2, Array.getElem?_modify, if_pos rfl, hg]; rfl
      · apply List.ext_getElem?
        intro t
        rw [List.getElem?_take]
        by_cases ht : t < l.length * 4
        · rw [if_pos ht, Array.getElem?_toList, putCells, Array.getElem?_mapIdx]
          have hc : t < cur.size := by rw [h3]; have := Nat.mul_le_mul_right 4 h1; omega
          have hf : t < (flat Pt.enc l').length := by omega
          rw [Array.getElem?_eq_getElem hc, Option.map_some, if_pos ⟨Nat.zero_le _, by simp; omega⟩, List.getElem?_eq_getElem hf]
          simp [getElem!_pos, hf]
        · rw [if_neg ht, List.getElem?_eq_none (by omega)]
  · refine ⟨rfl, rfl, rfl, by simp [sortWorldK, putRowK, putRow, mapBlock, Sort.ahead], fun k hk hn => ?_⟩
    rw [hheap k hk, Array.getElem?_modify, if_neg (fun h => hn h.symm)]

theorem agPt (w : World) : (isAgg 197).run Tryz.prog w = .ok true w := Tryz.isAgg197 w
theorem szPt (w : World) : (Go.sizeOf 197).run Tryz.prog w = .ok 4 w := Tryz.sizeOf197 w

def newP (base id tw lag : Int) : Pt := ⟨id, tw, base - lag, base - lag + 4 * step tw⟩
theorem mayE_zero {l : List Pt} {id tw lag : Int} (hl : l.length ≤ 64) (h : mayE l id tw lag = 0) : mayB id tw lag = true ∧ (∀ y ∈ l, y.id ≠ id) ∧ l.length < 64 := by
  unfold mayE at h
  split at h
  · rename_i h1
    split at h
    · simp at h
    · rename_i h2
      split at h
      · simp at h
      · rename_i h3
        refine ⟨h1, fun y hy e => h2 (List.any_eq_true.2 ⟨y, hy, by unfold isId; rw [e]; simp⟩), by omega⟩
  · simp at h

theorem infoPt2 : (Tryz.prog.info? 197).map (fun i => (i.zero, i.size, i.bytes)) = some (some (.agg #[.int .i64 0, .int .i64 0, .int .i64 0, .int .i64 0]), 4, 32) := by kernel_rfl

end Go.Proofs.YthdilellcaebfaaGreatDoor
