/- A line in memory; contracts of the methods that leave its row as it is. -/
import Derived.Test.YthdilellcaebfaaGreatDoorC
namespace Go.Proofs.YthdilellcaebfaaGreatDoor
open Go.RowKit
set_option linter.unusedVariables false
set_option linter.unusedSimpArgs false

/-- Block b (from B on) is a line: base, who has the core, the row of points. -/
structure LineAt (w : World) (B b : Nat) (a : Option Addr) (c : Nat) (base cur : Int) (l : List Pt) : Prop where
  hb : B ≤ b
  blk : ∃ T, w.heap[b]? = some (.cells #[.int .i64 base, .int .i64 cur, .slice a l.length c] T (0, 0))
  row : w.ownsRow B 197 4 (.slice a l.length c) l.length (flat Pt.enc l)
  apart : ∀ p, a = some p → p.block ≠ b

/-- A line's blocks. -/
def foot (b : Nat) (a : Option Addr) (k : Nat) : Prop := k = b ∨ ∃ p, a = some p ∧ p.block = k

theorem own_fr {w w' : World} {B e k n : Nat} {v : Value} {xs : List Value} {F : Nat → Prop} (h : w.ownsRow B e k v n xs) (hf : Fr F w w') (hn : ∀ g, v.ownBlock = some g → ¬ F g) : w'.ownsRow B e k v n xs := by
  refine ⟨h.1, ?_⟩
  rcases h.2 with h0 | ⟨g, cap, cur, rfl, hB, hg, rest⟩
  · exact .inl h0
  · exact .inr ⟨g, cap, cur, rfl, hB, heap_fr hg hf (hn g rfl), rest⟩
theorem LineAt.fr {w w' : World} {B b : Nat} {a : Option Addr} {c : Nat} {base cur : Int} {l : List Pt} {F : Nat → Prop} (h : LineAt w B b a c base cur l) (hf : Fr F w w') (hn : ∀ k, foot b a k → ¬ F k) : LineAt w' B b a c base cur l := by
  obtain ⟨T, hT⟩ := h.blk
  exact ⟨h.hb, ⟨T, heap_fr hT hf (hn b (.inl rfl))⟩, own_fr h.row hf (fun g hg => by
    cases a with
    | none => simp [Value.ownBlock] at hg
    | some p => simp [Value.ownBlock] at hg; exact hn g (.inr ⟨p, rfl, hg⟩)), h.apart⟩
theorem LineAt.below {w w' : World} {B b : Nat} {a : Option Addr} {c : Nat} {base cur : Int} {l : List Pt} (h : LineAt w B b a c base cur l) (hf : Below w.heap.size w w') : LineAt w' B b a c base cur l :=
  h.fr (F := fun _ => False) (Fr.of_below hf) (fun _ _ h => h)
theorem LineAt.sl {w : World} {B b : Nat} {a : Option Addr} {c : Nat} {base cur : Int} {l : List Pt} (h : LineAt w B b a c base cur l) : Sl Pt.enc 4 w a l := Sl.of_own Pt.len h.row
theorem LineAt.lt {w : World} {B b : Nat} {a : Option Addr} {c : Nat} {base cur : Int} {l : List Pt} (h : LineAt w B b a c base cur l) : b < w.heap.size := by
  obtain ⟨T, hT⟩ := h.blk; exact (Array.getElem?_eq_some_iff.1 hT).1
theorem LineAt.row_lt {w : World} {B b : Nat} {a : Option Addr} {c : Nat} {base cur : Int} {l : List Pt} (h : LineAt w B b a c base cur l) : ∀ p, a = some p → B ≤ p.block ∧ p.block < w.heap.size := by
  intro p hp; subst hp; exact h.row.lt p.block rfl
theorem LineAt.foot_lt {w : World} {B b : Nat} {a : Option Addr} {c : Nat} {base cur : Int} {l : List Pt} (h : LineAt w B b a c base cur l) : ∀ k, foot b a k → B ≤ k ∧ k < w.heap.size := by
  rintro k (rfl | ⟨p, hp, rfl⟩)
  · exact ⟨h.hb, h.lt⟩
  · exact h.row_lt p hp

theorem own_set {w : World} {B e k n b i : Nat} {v u : Value} {xs : List Value} (h : w.ownsRow B e k v n xs) (hn : v.ownBlock ≠ some b) : (w.setCell ⟨b, i, none⟩ u).ownsRow B e k v n xs :=
  own_fr (F := fun k => k = b) h ((Fr.refl (fun k => k = b) _).setCell (p := ⟨b, i, none⟩) (fun _ => rfl) u) (fun g hg e => hn (by rw [hg, e]))
theorem LineAt.own_ne {w : World} {B b : Nat} {a : Option Addr} {c : Nat} {base cur : Int} {l : List Pt} (h : LineAt w B b a c base cur l) : (Value.slice a l.length c).ownBlock ≠ some b := by
  cases a with
  | none => simp [Value.ownBlock]
  | some p => simpa [Value.ownBlock] using h.apart p rfl
theorem LineAt.set0 {w : World} {B b : Nat} {a : Option Addr} {c : Nat} {base cur : Int} {l : List Pt} (h : LineAt w B b a c base cur l) (base' : Int) : LineAt (w.setCell ⟨b, 0, none⟩ (.int .i64 base')) B b a c base' cur l := by
  obtain ⟨T, hT⟩ := h.blk
  exact ⟨h.hb, ⟨T, heap_set hT _⟩, own_set h.row h.own_ne, h.apart⟩
theorem LineAt.set1 {w : World} {B b : Nat} {a : Option Addr} {c : Nat} {base cur : Int} {l : List Pt} (h : LineAt w B b a c base cur l) (cur' : Int) : LineAt (w.setCell ⟨b, 1, none⟩ (.int .i64 cur')) B b a c base cur' l := by
  obtain ⟨T, hT⟩ := h.blk
  exact ⟨h.hb, ⟨T, heap_set hT _⟩, own_set h.row h.own_ne, h.apart⟩
theorem LineAt.alloc {w : World} {B b : Nat} {a : Option Addr} {c : Nat} {base cur : Int} {l : List Pt} (h : LineAt w B b a c base cur l) (o : Obj) : LineAt (w.alloc o) B b a c base cur l := h.below ((Below.refl _ _).alloc (Nat.le_refl _) _)
theorem LineAt.drew {w : World} {B b : Nat} {a : Option Addr} {c : Nat} {base cur : Int} {l : List Pt} (h : LineAt w B b a c base cur l) : LineAt w.drew B b a c base cur l := h.below (Below.refl _ _).drew

theorem flat_set4 (x' : Pt) : ∀ (l : List Pt) (j : Nat), j < l.length → ((((flat Pt.enc l).set (j * 4) (.int .i64 x'.id)).set (j * 4 + 1) (.int .i64 x'.w)).set (j * 4 + 2) (.int .i64 x'.v)).set (j * 4 + 3) (.int .i64 x'.day) = flat Pt.enc (l.set j x')
  | [], j, h => absurd h (Nat.not_lt_zero _)
  | y :: l, 0, _ => by simp [flat, Pt.enc]
  | y :: l, j + 1, h => by
    have := flat_set4 x' l j (by simpa using h)
    have e : (j + 1) * 4 = j * 4 + 4 := by omega
    have e1 : j * 4 + 4 + 1 = (j * 4 + 1) + 4 := by omega
    have e2 : j * 4 + 4 + 2 = (j * 4 + 2) + 4 := by omega
    have e3 : j * 4 + 4 + 3 = (j * 4 + 3) + 4 := by omega
    rw [e, e1, e2, e3]
    simp only [flat, List.flatMap_cons, Pt.enc, List.cons_append, List.nil_append, List.set_cons_succ, List.set_cons_zero] at this ⊢
    rw [this]
/-- Element j is another one. -/
theorem LineAt.setRow {w : World} {B b r o c : Nat} {s : Option Nat} {base cur : Int} {l : List Pt} (h : LineAt w B b (some ⟨r, o, s⟩) c base cur l) (j : Nat) (hj : j < l.length) (x : Pt) :
    o = 0 ∧ s = none ∧ LineAt ((((w.setCell ⟨r, j * 4, none⟩ (.int .i64 x.id)).setCell ⟨r, j * 4 + 1, none⟩ (.int .i64 x.w)).setCell ⟨r, j * 4 + 2, none⟩ (.int .i64 x.v)).setCell ⟨r, j * 4 + 3, none⟩ (.int .i64 x.day)) B b (some ⟨r, o, s⟩) c base cur (l.set j x) := by
  obtain ⟨T, hT⟩ := h.blk
  have hne := h.apart _ rfl
  simp only at hne
  have ho : o = 0 ∧ s = none := by
    rcases h.row.2 with ⟨hv, _⟩ | ⟨g, cap, cu, hv, _⟩
    · simp at hv
    · simp at hv; exact ⟨hv.1.2.1, hv.1.2.2⟩
  obtain ⟨rfl, rfl⟩ := ho
  refine ⟨rfl, rfl, h.hb, ⟨T, ?_⟩, ?_, h.apart⟩
  · rw [List.length_set]
    exact heap_set_ne (heap_set_ne (heap_set_ne (heap_set_ne hT hne.symm _) hne.symm _) hne.symm _) hne.symm _
  · have h4 := ((((h.row.stored (j * 4) (.int .i64 x.id)).1.stored (j * 4 + 1) (.int .i64 x.w)).1.stored (j * 4 + 2) (.int .i64 x.v)).1.stored (j * 4 + 3) (.int .i64 x.day)).1
    rw [flat_set4 x l j hj] at h4
    rw [List.length_set]
    exact h4
/-- What the walk reads of element j. -/
theorem LineAt.elem {w : World} {B b c : Nat} {a : Option Addr} {base cur : Int} {l : List Pt} (h : LineAt w B b a c base cur l) (j : Nat) (x : Pt) (hx : l[j]? = some x) :
    ∃ r, a = some ⟨r, 0, none⟩ ∧ w.cell? ⟨r, j * 4, none⟩ = some (.int .i64 x.id) ∧ w.cell? ⟨r, j * 4 + 1, none⟩ = some (.int .i64 x.w) ∧ w.cell? ⟨r, j * 4 + 2, none⟩ = some (.int .i64 x.v) ∧ w.cell? ⟨r, j * 4 + 3, none⟩ = some (.int .i64 x.day) ∧
      w.frozen? ⟨r, j * 4, none⟩ = false ∧ w.frozen? ⟨r, j * 4 + 1, none⟩ = false ∧ w.frozen? ⟨r, j * 4 + 2, none⟩ = false ∧ w.frozen? ⟨r, j * 4 + 3, none⟩ = false ∧ r ≠ b ∧ r < w.heap.size := by
  obtain ⟨r, off, rfl, hr, hc⟩ := h.sl (by intro h0; rw [h0] at hx; simp at hx)
  have hne := h.apart _ rfl
  have ho : off = 0 := by
    rcases h.row.2 with ⟨hv, _⟩ | ⟨g, cap, cu, hv, _⟩
    · simp at hv
    · simp at hv; exact hv.1.2
  subst ho
  have hfr := fun i => h.row.frozenAt i
  refine ⟨r, rfl, ?_, ?_, ?_, ?_, hfr _, hfr _, hfr _, hfr _, hne, hr⟩
  · simpa using hc j x hx 0 _ rfl
  · simpa using hc j x hx 1 _ rfl
  · simpa using hc j x hx 2 _ rfl
  · simpa using hc j x hx 3 _ rfl

def mayB (id w lag : Int) : Bool := decide (0 ≤ id ∧ id ≤ 1073741824 ∧ 1 ≤ w ∧ w ≤ 20 ∧ -1125899906842624 ≤ lag ∧ lag ≤ 1125899906842624)
theorem mayB_true {id w lag : Int} (h : mayB id w lag = true) : 0 ≤ id ∧ id ≤ 1073741824 ∧ 1 ≤ w ∧ w ≤ 20 ∧ -1125899906842624 ≤ lag ∧ lag ≤ 1125899906842624 := of_decide_eq_true h

theorem may_any (id tw lag : Int) (w : World) {r : Bool} (hr : mayB id tw lag = r) :
    Calls Tryz.prog 87 #[.agg #[.int .i64 id, .int .i64 tw, .int .i64 lag]] w fun e w' => e = .returned (.bool r) ∧ Below w.heap.size w w' := by
  subst hr
  by_cases g0 : 0 ≤ id
  · by_cases g1 : id ≤ 1073741824
    · by_cases g2 : 1 ≤ tw
      · by_cases g3 : tw ≤ 20
        · by_cases g4 : -1125899906842624 ≤ lag
          · by_cases g5 : lag ≤ 1125899906842624
            · have hv : mayB id tw lag = true := by unfold mayB; simp; omega
              rw [hv]; clear hv
              go_enter Tryz.func87, Tryz.ntmps87
              go_wp2
              go_ret
              exact ⟨rfl, (Below.refl _ _).alloc (Nat.le_refl _) _⟩
            · have hv : mayB id tw lag = false := by unfold mayB; simp; omega
              rw [hv]; clear hv
              go_enter Tryz.func87, Tryz.ntmps87
              go_wp2
              go_ret
              exact ⟨rfl, (Below.refl _ _).alloc (Nat.le_refl _) _⟩
          · have hv : mayB id tw lag = false := by unfold mayB; simp; omega
            rw [hv]; clear hv
            go_enter Tryz.func87, Tryz.ntmps87
            go_wp2
            go_ret
            exact ⟨rfl, (Below.refl _ _).alloc (Nat.le_refl _) _⟩
        · have hv : mayB id tw lag = false := by unfold mayB; simp; omega
          rw [hv]; clear hv
          go_enter Tryz.func87, Tryz.ntmps87
          go_wp2
          go_ret
          exact ⟨rfl, (Below.refl _ _).alloc (Nat.le_refl _) _⟩
      · have hv : mayB id tw lag = false := by unfold mayB; simp; omega
        rw [hv]; clear hv
        go_enter Tryz.func87, Tryz.ntmps87
        go_wp2
        go_ret
        exact ⟨rfl, (Below.refl _ _).alloc (Nat.le_refl _) _⟩
    · have hv : mayB id tw lag = false := by unfold mayB; simp; omega
      rw [hv]; clear hv
      go_enter Tryz.func87, Tryz.ntmps87
      go_wp2
      go_ret
      exact ⟨rfl, (Below.refl _ _).alloc (Nat.le_refl _) _⟩
  · have hv : mayB id tw lag = false := by unfold mayB; simp; omega
    rw [hv]; clear hv
    go_enter Tryz.func87, Tryz.ntmps87
    go_wp2
    go_ret
    exact ⟨rfl, (Below.refl _ _).alloc (Nat.le_refl _) _⟩

/-- Why a task may not come in. -/
def mayE (l : List Pt) (id w lag : Int) : Int := if mayB id w lag = true then (if l.any (isId id) then 4 else if l.length = 64 then 3 else 0) else 1

end Go.Proofs.YthdilellcaebfaaGreatDoor
