/- The laws' arguments, opened. -/
import Derived.Test.YtlgkkolgdjgclaaGreatK
import Derived.ProofKit
import Derived.Below
import Derived.Deep.SlicePairs
import Derived.Deep.Strs
import Derived.Lib.SmallJoins
namespace Go.Proofs.YtlgkkolgdjgclaaGreat
open Go.ChangeShapes Go.WideShapes Go.ChangeAt Go.RowKit Go.Deep Go.Joins
set_option linter.unusedVariables false
set_option linter.unusedSimpArgs false

theorem wf_is {n : Int} (h : (Lit.int .i64 n).wf = true) : -9223372036854775808 ≤ n ∧ n ≤ 9223372036854775807 := by
  have h1 : IntKind.i64.min = -9223372036854775808 := by decide +kernel
  have h2 : IntKind.i64.max = 9223372036854775807 := by decide +kernel
  simp [Lit.wf, h1, h2] at h
  omega

/-- Numbers in a row. -/
def encI (n : Int) : List Value := [.int .i64 n]
theorem encI_len (n : Int) : (encI n).length = 1 := rfl
/-- A call of a law's script. -/
structure Ac where
  op : Int
  id : Int
  w : Int
  lag : Int
deriving Inhabited
def Ac.enc (x : Ac) : List Value := [.int .i64 x.op, .int .i64 x.id, .int .i64 x.w, .int .i64 x.lag]
def I64 (n : Int) : Prop := -9223372036854775808 ≤ n ∧ n ≤ 9223372036854775807

section
variable {H : Type} {enc : TypeId × Value → H} {P : Program} {w : World} {spare : Nat → Bool} {held : Bool}

/-- A slice whose elements read as a list by 'mk'. -/
theorem open_sl {α : Type} [Inhabited α] {en : α → List Value} {k : Nat} {t e : TypeId} {fuel : Nat} {cs : List Value} {x : DataW H × List MemPlace} (ht : P.underlying t = some (.slice e)) (hk : P.cellsOf e = k) (h0 : 0 < k)
    (hel : ∀ n cs' y, DataW.trod enc P w 0 spare held n e cs' = some y → ∃ z : α, cs' = en z)
    (h : DataW.trod enc P w 0 spare held fuel t cs = some x) :
    ∃ (a : Option Addr) (n c : Nat) (l : List α), cs = [.slice a n c] ∧ l.length = n ∧ n ≤ maxLen ∧ Sl en k w a l := by
  rcases open_slice ht h with ⟨rfl, _⟩ | ⟨a, len, cap, m, n, D, Pl, rfl, hb, hl, hm, hmm, rfl, hx⟩
  · exact ⟨none, 0, 0, [], rfl, rfl, by unfold maxLen; omega, Sl.nil⟩
  · have hlm : len ≤ m := by rw [hmm]; split <;> omega
    have each : ∀ i, i < len → ∃ z : α, w.cells? 0 (a.add (i * k)) k = some (en z) := by
      intro i hi
      obtain ⟨cs', h1, h2⟩ := hx i (by omega)
      rw [hk] at h1
      obtain ⟨z, rfl⟩ := hel _ _ _ h2
      exact ⟨z, h1⟩
    obtain ⟨q, hq⟩ := choose_lt each
    refine ⟨some a, len, cap, (List.range len).map q, rfl, by simp, by omega, fun hne => ?_⟩
    have hlen : 0 < len := by
      rcases Nat.eq_zero_or_pos len with h | h
      · subst h; simp at hne
      · exact h
    obtain ⟨_, hl0, hc0⟩ := World.cells?_some (hq 0 hlen)
    have hc00 := hc0 0 h0
    rw [List.getElem?_eq_getElem (by omega)] at hc00
    have hsp : a.spot = none := by
      have h1 := World.cell?_spot hc00
      simpa [Addr.add] using h1
    obtain ⟨r, off, sp⟩ := a
    simp only at hsp
    subst hsp
    refine ⟨r, off, rfl, ?_, fun j z hz i u hu => ?_⟩
    · have := World.block_lt_of_cell? w _ hc00
      simpa [Addr.add] using this
    · rw [List.getElem?_map] at hz
      have hj : j < len := by
        rcases Nat.lt_or_ge j len with h | h
        · exact h
        · rw [List.getElem?_eq_none (by simp; exact h)] at hz; simp at hz
      rw [List.getElem?_eq_getElem (by simp; exact hj)] at hz
      simp at hz
      subst hz
      obtain ⟨_, hlj, hcj⟩ := World.cells?_some (hq j hj)
      have hi : i < k := by rw [← hlj]; exact (List.getElem?_eq_some_iff.1 hu).1
      have h1 := hcj i hi
      rw [hu] at h1
      rw [Addr.add_lit, Addr.add_lit] at h1
      exact h1

variable {enc' : TypeId × Value → H}
theorem fld {t : TypeId} {fuel : Nat} {cs : List Value} {o : Nat} {y : DataW H × List MemPlace} (ht : P.underlying t = some (.int .i64)) (hc : P.cellsOf t = 1) (h : DataW.trod enc P w 0 spare held fuel t ((cs.drop o).take (P.cellsOf t)) = some y) : ∃ n : Int, (cs.drop o).take 1 = [.int .i64 n] ∧ I64 n := by
  obtain ⟨n, h1, _, h2⟩ := DataW.trod_int ht h
  rw [hc] at h1
  exact ⟨n, h1, wf_is h2⟩
end

section
variable {H : Type} {enc : TypeId × Value → H} {w : World} {spare : Nat → Bool} {held : Bool}
theorem cInt : Tryz.prog.cellsOf 3 = 1 := by kernel_rfl
theorem cI64 : Tryz.prog.cellsOf 2 = 1 := by kernel_rfl
theorem cItem : Tryz.prog.cellsOf 119 = 3 := by kernel_rfl
set_option maxRecDepth 100000 in
theorem el_item (n : Nat) (cs : List Value) (y : DataW H × List MemPlace) (h : DataW.trod enc Tryz.prog w 0 spare held n 119 cs = some y) : ∃ z : It, cs = z.enc := by
  obtain ⟨y0, y1, y2, m, _, hl, h0, h1, h2⟩ := trod_struct3 Tryz.underlying119 h
  rw [cItem] at hl
  obtain ⟨a, ha, _⟩ := fld (t := 3) Tryz.underlying3 cInt h0
  obtain ⟨b, hb, _⟩ := fld (t := 3) Tryz.underlying3 cInt h1
  obtain ⟨c, hc, _⟩ := fld (t := 2) Tryz.underlying2 cI64 h2
  match cs, hl with
  | [u0, u1, u2], _ =>
    simp at ha hb hc
    exact ⟨⟨a, b, c⟩, by simp [It.enc, ha, hb, hc]⟩
set_option maxRecDepth 100000 in
/-- A form that came in. -/
theorem open_form {b0 : Nat} {v : Value} {d : DataW H} {p : List MemPlace} (hv : Value.okWide Tryz.prog w .any b0 41 v) (h : DataW.Trod enc Tryz.prog w 0 spare held 41 v d p) :
    ∃ (cur : Int) (a : Option Addr) (n c : Nat) (l : List It), v = .agg #[.int .i64 cur, .slice a n c] ∧ l.length = n ∧ n ≤ maxLen ∧ Sl It.enc 3 w a l ∧ I64 cur := by
  obtain ⟨v0, v1, y0, y1, m, rfl, _, _, h0, h1⟩ := open_agg2 Tryz.underlying41 (by kernel_rfl) (by kernel_rfl) hv h
  obtain ⟨cur, e0, _, hw⟩ := DataW.trod_int (t := 3) Tryz.underlying3 h0
  simp at e0
  obtain ⟨a, n, c, l, e1, hl, hm, hs⟩ := open_sl (en := It.enc) (k := 3) Tryz.underlying39 cItem (by omega) (fun n cs y h => el_item n cs y h) h1
  simp at e1
  exact ⟨cur, a, n, c, l, by rw [e0, e1], hl, hm, hs, wf_is hw⟩
theorem el_int {t : TypeId} (ht : Tryz.prog.underlying t = some (.int .i64)) (n : Nat) (cs : List Value) (y : DataW H × List MemPlace) (h : DataW.trod enc Tryz.prog w 0 spare held n t cs = some y) : ∃ z : Int, cs = encI z := by
  obtain ⟨z, h1, _⟩ := DataW.trod_int ht h
  exact ⟨z, h1⟩
set_option maxRecDepth 100000 in
/-- A slice of numbers that came in. -/
theorem open_nums {b0 : Nat} {t e : TypeId} {v : Value} {d : DataW H} {p : List MemPlace} (ht : Tryz.prog.underlying t = some (.slice e)) (he : Tryz.prog.underlying e = some (.int .i64)) (hc : Tryz.prog.cellsOf e = 1) (hv : Value.okWide Tryz.prog w .any b0 t v) (h : DataW.Trod enc Tryz.prog w 0 spare held t v d p) :
    ∃ (a : Option Addr) (n c : Nat) (l : List Int), v = .slice a n c ∧ l.length = n ∧ n ≤ maxLen ∧ Sl encI 1 w a l := by
  obtain ⟨a0, n0, c0, rfl⟩ := okWide_slice ht hv
  obtain ⟨fuel, hf⟩ := h
  obtain ⟨a, n, c, l, e1, hl, hm, hs⟩ := open_sl (en := encI) (k := 1) ht hc (by omega) (fun n cs y h => el_int he n cs y h) hf
  simp [Value.cells] at e1
  obtain ⟨rfl, rfl, rfl⟩ := e1
  exact ⟨_, _, _, l, rfl, hl, hm, hs⟩
end
end Go.Proofs.YtlgkkolgdjgclaaGreat
