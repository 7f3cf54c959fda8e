/- The laws' arguments, opened: numbers in a row, each with its bounds. -/
import Derived.Test.YthdilellcaebfaaGreatArg
namespace Go.Proofs.YthdilellcaebfaaGreat
open Go.ChangeShapes Go.WideShapes Go.ChangeAt Go.RowKit Go.Deep Go.Joins
set_option linter.unusedVariables false
set_option linter.unusedSimpArgs false

abbrev Num64 := {z : Int // I64 z}
instance : Inhabited Num64 := ⟨⟨0, by unfold I64; decide⟩⟩
def encN64 (x : Num64) : List Value := [.int .i64 x.1]
section
variable {H : Type} {enc : TypeId × Value → H} {w : World} {spare : Nat → Bool} {held : Bool}
theorem el_int64b {t : TypeId} (ht : Tryz.prog.underlying t = some (.int .i64)) (n : Nat) (cs : List Value) (y : DataW H × List MemPlace) (h : DataW.trod enc Tryz.prog w 0 spare held n t cs = some y) : ∃ z : Num64, cs = encN64 z := by
  obtain ⟨z, h1, _, h2⟩ := DataW.trod_int ht h
  exact ⟨⟨z, wf_is h2⟩, h1⟩
theorem Sl.n64 {a : Option Addr} {l : List Num64} (h : Sl encN64 1 w a l) : Sl encI 1 w a (l.map Subtype.val) := by
  intro hne
  obtain ⟨r, off, e, hr, hc⟩ := h (fun e => hne (by rw [e]; rfl))
  refine ⟨r, off, e, hr, fun j z hz i u hu => ?_⟩
  rw [List.getElem?_map] at hz
  cases hj : l[j]? with
  | none => rw [hj] at hz; simp at hz
  | some y =>
    rw [hj] at hz
    simp only [Option.map_some, Option.some.injEq] at hz
    subst hz
    exact hc j y hj i u hu
set_option maxRecDepth 100000 in
/-- A slice of numbers that came in, each in its bounds. -/
theorem open_numsB {b0 : Nat} {t e : TypeId} {v : Value} {d : DataW H} {p : List MemPlace} (ht : Tryz.prog.underlying t = some (.slice e)) (he : Tryz.prog.underlying e = some (.int .i64)) (hc : Tryz.prog.cellsOf e = 1) (hv : Value.okWide Tryz.prog w .any b0 t v) (h : DataW.Trod enc Tryz.prog w 0 spare held t v d p) :
    ∃ (a : Option Addr) (n c : Nat) (l : List Int), v = .slice a n c ∧ l.length = n ∧ n ≤ maxLen ∧ Sl encI 1 w a l ∧ ∀ x ∈ l, I64 x := by
  obtain ⟨a0, n0, c0, rfl⟩ := okWide_slice ht hv
  obtain ⟨fuel, hf⟩ := h
  obtain ⟨a, n, c, l, e1, hl, hm, hs⟩ := open_sl (en := encN64) (k := 1) ht hc (by omega) (fun n cs y h => el_int64b he n cs y h) hf
  simp [Value.cells] at e1
  obtain ⟨rfl, rfl, rfl⟩ := e1
  refine ⟨_, _, _, l.map Subtype.val, rfl, by simpa using hl, hm, hs.n64, fun x hx => ?_⟩
  obtain ⟨y, _, rfl⟩ := List.mem_map.1 hx
  exact y.2
end
end Go.Proofs.YthdilellcaebfaaGreat
