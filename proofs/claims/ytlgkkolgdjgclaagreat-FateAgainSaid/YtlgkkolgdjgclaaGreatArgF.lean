/- The laws' arguments, opened: blows, bytes. -/
import Derived.Test.YtlgkkolgdjgclaaGreatArg
import Derived.Test.YtlgkkolgdjgclaaGreatFt
namespace Go.Proofs.YtlgkkolgdjgclaaGreat
open Go.ChangeShapes Go.WideShapes Go.ChangeAt Go.RowKit Go.Deep Go.Joins
set_option linter.unusedVariables false
set_option linter.unusedSimpArgs false

theorem wf_u8 {n : Int} (h : (Lit.int .u8 n).wf = true) : Byte n := by
  have h1 : IntKind.u8.min = 0 := by decide +kernel
  have h2 : IntKind.u8.max = 255 := by decide +kernel
  simp [Lit.wf, h1, h2] at h
  unfold Byte; omega
abbrev BlB := {b : Bl // Byte b.y}
instance : Inhabited BlB := ⟨⟨⟨0, 0, 0, 0⟩, by unfold Byte; decide⟩⟩
def BlB.enc (x : BlB) : List Value := x.1.enc
section
variable {H : Type} {enc : TypeId × Value → H} {w : World} {spare : Nat → Bool} {held : Bool}
theorem cBlow : Tryz.prog.cellsOf 44 = 4 := by kernel_rfl
theorem cU8 : Tryz.prog.cellsOf 5 = 1 := by kernel_rfl
set_option maxRecDepth 100000 in
theorem el_blow (n : Nat) (cs : List Value) (y : DataW H × List MemPlace) (h : DataW.trod enc Tryz.prog w 0 spare held n 44 cs = some y) : ∃ z : BlB, cs = z.enc := by
  obtain ⟨y0, y1, y2, y3, m, _, hl, h0, h1, h2, h3⟩ := trod_struct4 Tryz.underlying44 h
  rw [cBlow] at hl
  obtain ⟨a, ha, _⟩ := fld (t := 3) Tryz.underlying3 cInt h0
  obtain ⟨b, hb, _⟩ := fld (t := 3) Tryz.underlying3 cInt h1
  obtain ⟨c, hc, _⟩ := fld (t := 3) Tryz.underlying3 cInt h2
  obtain ⟨d, hd, _, hw⟩ := DataW.trod_int Tryz.underlying5 h3
  rw [cU8] at hd
  match cs, hl with
  | [u0, u1, u2, u3], _ =>
    simp at ha hb hc hd
    exact ⟨⟨⟨a, b, c, d⟩, wf_u8 hw⟩, by simp [BlB.enc, Bl.enc, ha, hb, hc, hd]⟩
theorem Sl.blb {a : Option Addr} {l : List BlB} (h : Sl BlB.enc 4 w a l) : Sl Bl.enc 4 w a (l.map Subtype.val) := by
  intro hne
  obtain ⟨r, off, e, hr, hc⟩ := h (fun e => hne (by rw [e]; rfl))
  refine ⟨r, off, e, hr, fun j z hz i u hu => ?_⟩
  rw [List.getElem?_map] at hz
  cases hj : l[j]? with
  | none => rw [hj] at hz; simp at hz
  | some y =>
    rw [hj] at hz
    simp only [Option.map_some, Option.some.injEq] at hz
    subst hz
    exact hc j y hj i u hu
set_option maxRecDepth 100000 in
/-- A slice of blows that came in. -/
theorem open_blows {b0 : Nat} {v : Value} {d : DataW H} {p : List MemPlace} (hv : Value.okWide Tryz.prog w .any b0 45 v) (h : DataW.Trod enc Tryz.prog w 0 spare held 45 v d p) :
    ∃ (a : Option Addr) (n c : Nat) (l : List Bl), v = .slice a n c ∧ l.length = n ∧ n ≤ maxLen ∧ Sl Bl.enc 4 w a l ∧ ∀ b ∈ l, Byte b.y := by
  obtain ⟨a0, n0, c0, rfl⟩ := okWide_slice Tryz.underlying45 hv
  obtain ⟨fuel, hf⟩ := h
  obtain ⟨a, n, c, l, e1, hl, hm, hs⟩ := open_sl (en := BlB.enc) (k := 4) Tryz.underlying45 cBlow (by omega) (fun n cs y h => el_blow n cs y h) hf
  simp [Value.cells] at e1
  obtain ⟨rfl, rfl, rfl⟩ := e1
  refine ⟨_, _, _, l.map Subtype.val, rfl, by simpa using hl, hm, hs.blb, fun x hx => ?_⟩
  obtain ⟨y, _, rfl⟩ := List.mem_map.1 hx
  exact y.2
end
end Go.Proofs.YtlgkkolgdjgclaaGreat
