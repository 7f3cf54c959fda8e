/- The acts of layer 13's laws, opened. -/
import Derived.Test.YtciiookcdkjegaaArg
namespace Go.Proofs.Ytciiookcdkjegaa
open Go.ChangeShapes Go.WideShapes Go.ChangeAt Go.RowKit Go.Deep Go.Joins
set_option linter.unusedVariables false
set_option linter.unusedSimpArgs false
section
variable {H : Type} {enc : TypeId × Value → H} {w : World} {spare : Nat → Bool} {held : Bool}
theorem cAct_due : Try.prog.cellsOf 75 = 4 := by kernel_rfl
set_option maxRecDepth 100000 in
theorem elAct_due (n : Nat) (cs : List Value) (y : DataW H × List MemPlace) (h : DataW.trod enc Try.prog w 0 spare held n 75 cs = some y) : ∃ z : Ac, cs = z.enc := by
  obtain ⟨y0, y1, y2, y3, m, _, hl, h0, h1, h2, h3⟩ := trod_struct4 Try.underlying75 h
  rw [cAct_due] at hl
  obtain ⟨a, ha, _⟩ := fld (t := 3) Try.underlying3 cInt h0
  obtain ⟨b, hb, _⟩ := fld (t := 3) Try.underlying3 cInt h1
  obtain ⟨c, hc, _⟩ := fld (t := 3) Try.underlying3 cInt h2
  obtain ⟨d, hd, _⟩ := fld (t := 2) Try.underlying2 cI64 h3
  match cs, hl with
  | [u0, u1, u2, u3], _ =>
    simp at ha hb hc hd
    exact ⟨⟨a, b, c, d⟩, by simp [Ac.enc, ha, hb, hc, hd]⟩
set_option maxRecDepth 100000 in
/-- A slice of acts that came in. -/
theorem openActs_due {b0 : Nat} {v : Value} {d : DataW H} {p : List MemPlace} (hv : Value.okWide Try.prog w .any b0 73 v) (h : DataW.Trod enc Try.prog w 0 spare held 73 v d p) :
    ∃ (a : Option Addr) (n c : Nat) (l : List Ac), v = .slice a n c ∧ l.length = n ∧ n ≤ maxLen ∧ Sl Ac.enc 4 w a l := by
  obtain ⟨a0, n0, c0, rfl⟩ := okWide_slice Try.underlying73 hv
  obtain ⟨fuel, hf⟩ := h
  obtain ⟨a, n, c, l, e1, hl, hm, hs⟩ := open_sl (en := Ac.enc) (k := 4) Try.underlying73 cAct_due (by omega) (fun n cs y h => elAct_due n cs y h) hf
  simp [Value.cells] at e1
  obtain ⟨rfl, rfl, rfl⟩ := e1
  exact ⟨_, _, _, l, rfl, hl, hm, hs⟩
end
end Go.Proofs.Ytciiookcdkjegaa
