/- Proved here: the card of the statement StrideKnown (closed), in every world that holds the library's three listed tables. -/
import Derived.Test.YtadlcjacaachkaaDoorStrideKnown
import Derived.Test.YtadlcjacaachkaaDoorCards
import Derived.Test.YtadlcjacaachkaaDoorTie
import Derived.ProofKit
import Derived.Below
import Derived.OpenShut
import Derived.Deep.DeepHandedRow
import Derived.Lib.LaidTab
import Derived.LaidSub
namespace Go.Proofs.YtadlcjacaachkaaDoor
open Go.ChangeShapes Go.WideShapes Go.ChangeAt Go.RowKit
set_option linter.unusedVariables false

def knownValsStride (d : DataW Unit) : Array Value := match d with
  | .agg l => (l.filterMap fun x => match x with
    | .lit y => some y.value
    | _ => none).toArray
  | _ => #[]
def knownCellsStride (vs : Array Value) : Obj → Obj
  | .cells _ t frozen => .cells vs t frozen
  | o => o
theorem ownStrideKnown : ownKnob Tryd.prog.godebug = none := by kernel_rfl
theorem gTabStride : Tryd.prog.globalNamed "internal/strconv.uint64pow10" = some 0 := by kernel_rfl
theorem gTabTypeStride : (Tryd.prog.globals[ 0 ]?).map (·.type) = some 115 := by kernel_rfl
theorem gCellsStride : Tryd.prog.cellsOf 115 = 20 := by kernel_rfl
theorem gCellStride : Tryd.prog.cellsOf 69 = 1 := by kernel_rfl
theorem tableStride {W : World} (h : laidMetH Tryd.prog Rows.strideKnownRow.laid W) : Tab W :=
  Tab.of (Lib.tabIs_of_head (rest := []) gTabStride gTabTypeStride Tryd.underlying115 Tryd.underlying69 gCellStride gCellsStride (laidMetH.filter (fun x => x.1 == "internal/strconv.uint64pow10") h))

theorem contractStrideKnown (H : Type) (enc : TypeId × Value → H) (W : World) (base : Nat) (args : Array Value) (ds gs : List (DataW H)) (before : List MemPlace)
    (hval : ∀ (j : Nat) t v, Tryd.f5.params[j]? = some t → args[j]? = some v → Value.okWide Tryd.prog W .any base t v)
    (hW : DataW.Whole enc Tryd.prog Tryd.f5.params.toList Rows.strideKnownSpec.vars false W args.toList ds gs before) (hL : laidMetH Tryd.prog Rows.strideKnownRow.laid W) :
    Calls Tryd.prog 5 args W fun e W' => ∃ v, e = .returned v ∧ Rows.strideKnownSpec.post enc Tryd.prog Tryd.f5 false true false false W args v W' := by
  have hW' := hW
  obtain ⟨p, q, hA0, hV, rfl, hfz, hnd⟩ := hW
  have hA : DataW.TrodAll enc Tryd.prog W 0 (fun _ => true) true Tryd.f5.params.toList args.toList ds p := hA0
  rw [ Tryd.params5 ] at hA hval
  obtain ⟨hargs, rfl, rfl⟩ := trodAll_nil hA
  obtain rfl : args = #[] := by cases args; simp_all
  obtain ⟨rfl, rfl⟩ := trodVars_none hV
  clear hA0
  refine (StrideKnown_walk W (tableStride hL)).mono fun e W' ⟨he, bel⟩ => ?_
  subst he
  exact ⟨_, rfl, _, _, _, [], _, [], hW', trodAll_mk1 (shut_bool Tryd.underlying4 _), trodAll_mk0, rfl, bel.frame _, fun h => by cases h⟩

/-- A world for the witness: the settled one, the tables as their initialisers lay them. -/
noncomputable def laidWorldStride (os : Os) : World :=
  { World.holding Tryd.prog os ⟨#[], #[], []⟩ with heap := (((World.holding Tryd.prog os ⟨#[], #[], []⟩).heap.modify 0 (knownCellsStride (knownValsStride Rows.laid_internal_strconv_uint64pow10))).modify 1 (knownCellsStride (knownValsStride Rows.laid_math_bits_deBruijn32tab))).modify 2 (knownCellsStride (knownValsStride Rows.laid_math_bits_deBruijn64tab)) }
theorem laid_metStride (os : Os) : laidMet Tryd.prog Rows.strideKnownRow.laid ((laidWorldStride os).forCall (fun _ _ => 0) ⟨#[], #[], []⟩).memory :=
  laidMet_of_run' 8 (by kernel_rfl) (by kernel_rfl)
theorem readsStride (os : Os) {H : Type} (enc : TypeId × Value → H) : ∃ places, DataW.whole enc Tryd.prog ((laidWorldStride os).forCall (fun _ _ => 0) ⟨#[], #[], []⟩).memory Tryd.f5.params.toList Rows.strideKnownSpec.vars false (#[] : Array Value).toList 8 = some ([], [], places) :=
  ⟨[], by kernel_rfl⟩
set_option maxRecDepth 100000 in
theorem strideKnown_lifted (os : Os) (started : os.Started) (H : Type) (enc : TypeId × Value → H) (F : Stop.Interp) :
    ReturnsInHanded {} Tryd.checked os 5 .any ((OpenSpec.ofChange Rows.strideKnownSpec).preRow enc Tryd.prog Tryd.f5 Rows.strideKnownRow.domain false Rows.strideKnownRow.laid) (((OpenSpec.ofChange Rows.strideKnownSpec).at F).post enc Tryd.prog Tryd.f5 false true false false) := by
  obtain ⟨places, hx⟩ := readsStride os enc
  refine returnsInHanded_of_row (C := Tryd.checked) (s := OpenSpec.ofChange Rows.strideKnownSpec) ownStrideKnown started (by kernel_rfl) Tryd.func5
    (witness_row_at (enc := enc) (C := Tryd.checked) false (laidWorldStride os) #[] rfl (by kernel_rfl) (by kernel_rfl) (by kernel_rfl)
      (OpenSpec.preRow_of_cond 8 hx (by kernel_rfl) (fun k hk => by cases hk) (by kernel_rfl) (laid_metStride os))) ?_
  intro W base args ds gs before hval hW _ _ _ hL _ _
  exact contractStrideKnown H enc W base args ds gs before hval hW hL

theorem strideKnown_holds : Rows.StrideKnownSaid :=
  OpenClaim.holds_of_cond 5 Tryd.f5 rfl rfl rfl rfl rfl rfl rfl ⟨rfl, rfl, rfl, rfl, rfl⟩ rfl rfl rfl rfl rfl (by kernel_rfl) Tryd.func5 (by kernel_rfl)
    (of_decide_eq_true (by kernel_rfl)) (by unfold Func.isWrapper; first | (rw [if_pos (by decide +kernel)]; kernel_rfl) | (rw [if_neg (by decide +kernel)]; exact ⟨rfl, rfl⟩))
    (fun os started H enc _ F => by rw [OpenClaim.pre_eq_preRow]; exact strideKnown_lifted os started H enc F)

/-- No parameter wants a stand-in; the program's own looks are off: what the card asks. -/
theorem plainStrideKnown (f : FuncId) (fn : Func) (hf : Tryd.pinned.checked.prog.funcNamed "stadholder/stadholderlaw11.StrideKnown" = some f) (hfn : Tryd.pinned.checked.prog.funcs[f]? = some fn) :
    false = Tryd.pinned.checked.prog.looks [] ∧ ∀ (j : Nat) t, fn.params[j]? = some t → Tryd.pinned.checked.prog.wantsStandIn t = false := by
  obtain rfl : f = 5 := Option.some.inj ((show Tryd.prog.funcNamed "stadholder/stadholderlaw11.StrideKnown" = some 5 by kernel_rfl).symm.trans hf) |>.symm
  obtain rfl : fn = Tryd.f5 := (Option.some.inj (Tryd.func5.symm.trans hfn)).symm
  refine ⟨by kernel_rfl, fun j t ht => ?_⟩
  rw [ Tryd.params5 ] at ht
  simp at ht
theorem strideKnown_card : Rows.StrideKnownCardSaid :=
  Claim7.holds_tied_plain_at .later [] _ _ _ _ strideKnown_holds (fun _ h => by cases h) (by kernel_rfl) (fun _ h => by cases h) strideKnown_row_tie rfl ⟨rfl, rfl⟩ (by kernel_rfl) rfl plainStrideKnown (by kernel_rfl)
#print axioms strideKnown_card
end Go.Proofs.YtadlcjacaachkaaDoor
