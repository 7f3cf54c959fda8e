/- The law's functions of layer 21: ShadowMakes, ShadowChain. -/
import Derived.Test.YthdilellcaebfaaGreatDoorSh
import Derived.Test.YthdilellcaebfaaGreatDoorArg
namespace Go.Proofs.YthdilellcaebfaaGreatDoor
open Go.ChangeShapes Go.WideShapes Go.ChangeAt Go.RowKit Go.Deep Go.Joins
set_option linter.unusedVariables false
set_option linter.unusedSimpArgs false

/-! ### bytes that came in -/
abbrev BtB := {z : Int // Byte z}
instance : Inhabited BtB := ⟨⟨0, by unfold Byte; decide⟩⟩
def encBt (x : BtB) : List Value := [.int .u8 x.1]
section
variable {H : Type} {enc : TypeId × Value → H} {w : World} {spare : Nat → Bool} {held : Bool}
theorem cU8 : Tryz.prog.cellsOf 5 = 1 := by kernel_rfl
theorem wf_u8 {n : Int} (h : (Lit.int .u8 n).wf = true) : Byte n := by
  have h1 : IntKind.u8.min = 0 := by decide +kernel
  have h2 : IntKind.u8.max = 255 := by decide +kernel
  simp [Lit.wf, h1, h2] at h
  exact h
theorem elByte (n : Nat) (cs : List Value) (y : DataW H × List MemPlace) (h : DataW.trod enc Tryz.prog w 0 spare held n 5 cs = some y) : ∃ z : BtB, cs = encBt z := by
  obtain ⟨z, h1, _, h2⟩ := DataW.trod_int Tryz.underlying5 h
  exact ⟨⟨z, wf_u8 h2⟩, h1⟩
theorem Sl.bts {a : Option Addr} {l : List BtB} (h : Sl encBt 1 w a l) : Sl encU 1 w a (l.map Subtype.val) := by
  intro hne
  obtain ⟨r, off, e, hr, hc⟩ := h (fun e => hne (by rw [e]; rfl))
  refine ⟨r, off, e, hr, fun j z hz i u hu => ?_⟩
  rw [List.getElem?_map] at hz
  cases hj : l[j]? with
  | none => rw [hj] at hz; simp at hz
  | some y =>
    rw [hj] at hz
    simp only [Option.map_some, Option.some.injEq] at hz
    subst hz
    exact hc j y hj i u hu
set_option maxRecDepth 100000 in
theorem open_bytes {b0 : Nat} {v : Value} {d : DataW H} {p : List MemPlace} (hv : Value.okWide Tryz.prog w .any b0 40 v) (h : DataW.Trod enc Tryz.prog w 0 spare held 40 v d p) :
    ∃ (a : Option Addr) (n c : Nat) (l : List Int), v = .slice a n c ∧ l.length = n ∧ n ≤ c ∧ Sl encU 1 w a l ∧ ∀ x ∈ l, Byte x := by
  obtain ⟨a0, n0, c0, rfl⟩ := okWide_slice Tryz.underlying40 hv
  obtain ⟨fuel, hf⟩ := h
  have hlc : n0 ≤ c0 := by
    rcases open_slice Tryz.underlying40 hf with ⟨e, _⟩ | ⟨a, len, cap, m, n, D, Pl, e, hb, hl, hm, hmm, _, hx⟩
    · simp [Value.cells] at e; omega
    · simp [Value.cells] at e; omega
  obtain ⟨a, n, c, l, e1, hl, hm, hs⟩ := open_sl (en := encBt) (k := 1) Tryz.underlying40 cU8 (by omega) (fun n cs y h => elByte n cs y h) hf
  simp [Value.cells] at e1
  obtain ⟨rfl, rfl, rfl⟩ := e1
  refine ⟨_, _, _, l.map Subtype.val, rfl, by rw [List.length_map]; exact hl, hlc, hs.bts, fun x hx => ?_⟩
  obtain ⟨y, _, rfl⟩ := List.mem_map.1 hx
  exact y.2
end

/-! ### what both laws look at first -/
theorem fieldForm21 (W : World) (cu : Int) (a : Option Addr) (n k : Nat) : (Instr.field 37 (.agg #[.int .i64 cu, .slice a n k]) 1).run Tryz.prog W = .ok (.slice a n k) W := by kernel_rfl
set_option maxHeartbeats 1600000 in
set_option maxRecDepth 100000 in
theorem awake21 (w : World) : Calls Tryz.prog 9 #[] w fun e w' => e = .returned (.bool true) ∧ Below w.heap.size w w' := by
  have HN := Lib.hid (CorNew_ok 0 0 w (by decide) (by decide))
  have HT := Lib.hid (fun W (F : Nat → Prop) c p b r (h : CSt w W F c p b r ⟨0, ⟨0, -1, []⟩, fun _ => 0, 0, 0, 0⟩) => Turn_ok h (by decide) (OkS.new (by decide) (by decide)) (f := ⟨-1, []⟩) rfl (by decide) 1 5 (by decide) (by decide))
  have hk : OkS 0 (seedR ⟨-1, []⟩ 5) := OkS.seed (by decide) (by decide) (by decide)
  have Hk := Lib.hid hk
  clear hk
  go_enter Tryz.func9, Tryz.ntmps9
  go_wp2_with (first
    | (go_at_call 26; refine HN.out.mono ?_; rintro e w1 ⟨c, p, b, r, F, rfl, hc, hb1⟩; have Hc := Lib.hid hc; clear hc)
    | (go_at_call 15; refine (HT.out _ _ _ _ _ _ Hc.out).mono ?_; rintro e w2 ⟨p2, b2, H, rfl, hq, _, hb2⟩; obtain ⟨FN, hmf, hef, HQb⟩ := ifForm 1 (by decide) b2; obtain ⟨q0, q1, z0, z1, qlt⟩ := blk2 hq.cell; have HQ0 := HQb.out hq.q Hk.out; rw [show (seedR ⟨-1, []⟩ 5).cur = -1 from rfl, show (seedR ⟨-1, []⟩ 5).l.map (itOf (seedR ⟨-1, []⟩ 5).base) = ([] : List It) from rfl] at HQ0; have HQ := Lib.hid HQ0; clear HQ0; have HTag := Lib.hid (PolTag hq.pm); have hb3 := hb1.trans (hb2.mono hb1.size); clear hq HQb)
    | (go_at_call 16; refine HTag.out.mono ?_; rintro e w3 ⟨rfl, rfl⟩)
    | (go_at_fn FN; refine HQ.out.mono ?_; rintro e w4 ⟨a4, c4, rfl, _, hb4⟩; have hff := fieldForm21 w4 (-1) a4 0 c4))
  go_ret
  exact ⟨rfl, hb3.trans (hb4.mono hb3.size)⟩

end Go.Proofs.YthdilellcaebfaaGreatDoor
