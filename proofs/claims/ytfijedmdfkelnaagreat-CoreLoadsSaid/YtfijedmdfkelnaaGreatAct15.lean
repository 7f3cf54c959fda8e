/- The acts of layer 15's laws, opened. -/
import Derived.Test.YtfijedmdfkelnaaGreatArg
namespace Go.Proofs.YtfijedmdfkelnaaGreat
open Go.ChangeShapes Go.WideShapes Go.ChangeAt Go.RowKit Go.Deep Go.Joins
set_option linter.unusedVariables false
set_option linter.unusedSimpArgs false
/-- A call of a core's script. -/
structure Ad where
  op : Int
  id : Int
  w : Int
  tag : Int
  lag : Int
  exact : Bool
deriving Inhabited
def Ad.enc (x : Ad) : List Value := [.int .i64 x.op, .int .i64 x.id, .int .i64 x.w, .int .i64 x.tag, .int .i64 x.lag, .bool x.exact]
def Ad.ok (x : Ad) : Prop := I64 x.id ∧ I64 x.lag ∧ I64 x.tag
abbrev AdB := {z : Ad // z.ok}
instance : Inhabited AdB := ⟨⟨⟨0, 0, 0, 0, 0, false⟩, by unfold Ad.ok I64; decide⟩⟩
def encD (x : AdB) : List Value := x.1.enc
section
variable {H : Type} {enc : TypeId × Value → H} {w : World} {spare : Nat → Bool} {held : Bool}
theorem cAct_15 : Tryz.prog.cellsOf 73 = 6 := by kernel_rfl
theorem cBool : Tryz.prog.cellsOf 4 = 1 := by kernel_rfl
set_option maxRecDepth 100000 in
theorem elAct_15 (n : Nat) (cs : List Value) (y : DataW H × List MemPlace) (h : DataW.trod enc Tryz.prog w 0 spare held n 73 cs = some y) : ∃ z : AdB, cs = encD z := by
  obtain ⟨xs, m, _, rfl, hl, hlen, hf⟩ := DataW.trod_struct Tryz.underlying73 h
  rw [cAct_15] at hl
  match xs, hlen with
  | [y0, y1, y2, y3, y4, y5], _ =>
    obtain ⟨a, ha, haa⟩ := fld (t := 3) Tryz.underlying3 cInt (hf 0 _ rfl)
    obtain ⟨b, hb, hbb⟩ := fld (t := 3) Tryz.underlying3 cInt (hf 1 _ rfl)
    obtain ⟨c, hc, _⟩ := fld (t := 3) Tryz.underlying3 cInt (hf 2 _ rfl)
    obtain ⟨d, hd, hdd⟩ := fld (t := 3) Tryz.underlying3 cInt (hf 3 _ rfl)
    obtain ⟨e, he, hee⟩ := fld (t := 2) Tryz.underlying2 cI64 (hf 4 _ rfl)
    obtain ⟨f, hf5, _⟩ := DataW.trod_bool (t := 4) Tryz.underlying4 (hf 5 _ rfl)
    have hf6 : (cs.drop 5).take 1 = [.bool f] := hf5
    match cs, hl with
    | [u0, u1, u2, u3, u4, u5], _ =>
      simp at ha hb hc hd he hf6
      exact ⟨⟨⟨a, b, c, d, e, f⟩, ⟨hbb, hee, hdd⟩⟩, by simp [encD, Ad.enc, ha, hb, hc, hd, he, hf6]⟩
theorem Sl.ads {a : Option Addr} {l : List AdB} (h : Sl encD 6 w a l) : Sl Ad.enc 6 w a (l.map Subtype.val) := by
  intro hne
  obtain ⟨r, off, e, hr, hc⟩ := h (fun e => hne (by rw [e]; rfl))
  refine ⟨r, off, e, hr, fun j z hz i u hu => ?_⟩
  rw [List.getElem?_map] at hz
  cases hj : l[j]? with
  | none => rw [hj] at hz; simp at hz
  | some y =>
    rw [hj] at hz
    simp only [Option.map_some, Option.some.injEq] at hz
    subst hz
    exact hc j y hj i u hu
set_option maxRecDepth 100000 in
/-- A slice of acts that came in. -/
theorem openActs_15 {b0 : Nat} {v : Value} {d : DataW H} {p : List MemPlace} (hv : Value.okWide Tryz.prog w .any b0 63 v) (h : DataW.Trod enc Tryz.prog w 0 spare held 63 v d p) :
    ∃ (a : Option Addr) (n c : Nat) (l : List Ad), v = .slice a n c ∧ l.length = n ∧ n ≤ maxLen ∧ Sl Ad.enc 6 w a l ∧ ∀ x ∈ l, x.ok := by
  obtain ⟨a0, n0, c0, rfl⟩ := okWide_slice Tryz.underlying63 hv
  obtain ⟨fuel, hf⟩ := h
  obtain ⟨a, n, c, l, e1, hl, hm, hs⟩ := open_sl (en := encD) (k := 6) Tryz.underlying63 cAct_15 (by omega) (fun n cs y h => elAct_15 n cs y h) hf
  simp [Value.cells] at e1
  obtain ⟨rfl, rfl, rfl⟩ := e1
  refine ⟨_, _, _, l.map Subtype.val, rfl, by rw [List.length_map]; exact hl, hm, hs.ads, fun x hx => ?_⟩
  obtain ⟨y, _, rfl⟩ := List.mem_map.1 hx
  exact y.2
end
end Go.Proofs.YtfijedmdfkelnaaGreat
