/- Proved here: the card of the statement ShadowKnown (closed), in every world that holds the library's three listed tables. -/
import Derived.Test.YthdilellcaebfaaGreatDoorShKnown
import Derived.Test.YthdilellcaebfaaGreatDoorCards
import Derived.Test.YthdilellcaebfaaGreatDoorTie
import Derived.ProofKit
import Derived.Below
import Derived.OpenShut
import Derived.Deep.DeepHandedRow
import Derived.Lib.LaidTab
import Derived.LaidSub
namespace Go.Proofs.YthdilellcaebfaaGreatDoor
open Go.ChangeShapes Go.WideShapes Go.ChangeAt Go.RowKit
set_option linter.unusedVariables false

def knownValsShadow (d : DataW Unit) : Array Value := match d with
  | .agg l => (l.filterMap fun x => match x with
    | .lit y => some y.value
    | _ => none).toArray
  | _ => #[]
def knownCellsShadow (vs : Array Value) : Obj → Obj
  | .cells _ t frozen => .cells vs t frozen
  | o => o
theorem ownShadowKnown : ownKnob Tryz.prog.godebug = none := by kernel_rfl
theorem gTabShadow : Tryz.prog.globalNamed "internal/strconv.uint64pow10" = some 0 := by kernel_rfl
theorem gTabTypeShadow : (Tryz.prog.globals[ 0 ]?).map (·.type) = some 204 := by kernel_rfl
theorem gCellsShadow : Tryz.prog.cellsOf 204 = 20 := by kernel_rfl
theorem gCellShadow : Tryz.prog.cellsOf 181 = 1 := by kernel_rfl
theorem tableShadow {W : World} (h : laidMetH Tryz.prog Rows.shadowKnownRow.laid W) : Tab W :=
  Tab.of (Lib.tabIs_of_head (rest := []) gTabShadow gTabTypeShadow Tryz.underlying204 Tryz.underlying181 gCellShadow gCellsShadow (laidMetH.filter (fun x => x.1 == "internal/strconv.uint64pow10") h))

theorem contractShadowKnown (H : Type) (enc : TypeId × Value → H) (W : World) (base : Nat) (args : Array Value) (ds gs : List (DataW H)) (before : List MemPlace)
    (hval : ∀ (j : Nat) t v, Tryz.f4.params[j]? = some t → args[j]? = some v → Value.okWide Tryz.prog W .any base t v)
    (hW : DataW.Whole enc Tryz.prog Tryz.f4.params.toList Rows.shadowKnownSpec.vars false W args.toList ds gs before) (hL : laidMetH Tryz.prog Rows.shadowKnownRow.laid W) :
    Calls Tryz.prog 4 args W fun e W' => ∃ v, e = .returned v ∧ Rows.shadowKnownSpec.post enc Tryz.prog Tryz.f4 false true false false W args v W' := by
  have hW' := hW
  obtain ⟨p, q, hA0, hV, rfl, hfz, hnd⟩ := hW
  have hA : DataW.TrodAll enc Tryz.prog W 0 (fun _ => true) true Tryz.f4.params.toList args.toList ds p := hA0
  rw [ Tryz.params4 ] at hA hval
  obtain ⟨hargs, rfl, rfl⟩ := trodAll_nil hA
  obtain rfl : args = #[] := by cases args; simp_all
  obtain ⟨rfl, rfl⟩ := trodVars_none hV
  clear hA0
  refine (ShadowKnown_walk W (tableShadow hL)).mono fun e W' ⟨he, bel⟩ => ?_
  subst he
  exact ⟨_, rfl, _, _, _, [], _, [], hW', trodAll_mk1 (shut_bool Tryz.underlying4 _), trodAll_mk0, rfl, bel.frame _, fun h => by cases h⟩

/-- A world for the witness: the settled one, the tables as their initialisers lay them. -/
noncomputable def laidWorldShadow (os : Os) : World :=
  { World.holding Tryz.prog os ⟨#[], #[], []⟩ with heap := (((World.holding Tryz.prog os ⟨#[], #[], []⟩).heap.modify 0 (knownCellsShadow (knownValsShadow Rows.laid_internal_strconv_uint64pow10))).modify 2 (knownCellsShadow (knownValsShadow Rows.laid_math_bits_deBruijn32tab))).modify 3 (knownCellsShadow (knownValsShadow Rows.laid_math_bits_deBruijn64tab)) }
theorem laid_metShadow (os : Os) : laidMet Tryz.prog Rows.shadowKnownRow.laid ((laidWorldShadow os).forCall (fun _ _ => 0) ⟨#[], #[], []⟩).memory :=
  laidMet_of_run' 8 (by kernel_rfl) (by kernel_rfl)
theorem readsShadow (os : Os) {H : Type} (enc : TypeId × Value → H) : ∃ places, DataW.whole enc Tryz.prog ((laidWorldShadow os).forCall (fun _ _ => 0) ⟨#[], #[], []⟩).memory Tryz.f4.params.toList Rows.shadowKnownSpec.vars false (#[] : Array Value).toList 8 = some ([], [], places) :=
  ⟨[], by kernel_rfl⟩
set_option maxRecDepth 100000 in
theorem shadowKnown_lifted (os : Os) (started : os.Started) (H : Type) (enc : TypeId × Value → H) (F : Stop.Interp) :
    ReturnsInHanded {} Tryz.checked os 4 .any ((OpenSpec.ofChange Rows.shadowKnownSpec).preRow enc Tryz.prog Tryz.f4 Rows.shadowKnownRow.domain false Rows.shadowKnownRow.laid) (((OpenSpec.ofChange Rows.shadowKnownSpec).at F).post enc Tryz.prog Tryz.f4 false true false false) := by
  obtain ⟨places, hx⟩ := readsShadow os enc
  refine returnsInHanded_of_row (C := Tryz.checked) (s := OpenSpec.ofChange Rows.shadowKnownSpec) ownShadowKnown started (by kernel_rfl) Tryz.func4
    (witness_row_at (enc := enc) (C := Tryz.checked) false (laidWorldShadow os) #[] rfl (by kernel_rfl) (by kernel_rfl) (by kernel_rfl)
      (OpenSpec.preRow_of_cond 8 hx (by kernel_rfl) (fun k hk => by cases hk) (by kernel_rfl) (laid_metShadow os))) ?_
  intro W base args ds gs before hval hW _ _ _ hL _ _
  exact contractShadowKnown H enc W base args ds gs before hval hW hL

theorem shadowKnown_holds : Rows.ShadowKnownSaid :=
  OpenClaim.holds_of_cond 4 Tryz.f4 rfl rfl rfl rfl rfl rfl rfl ⟨rfl, rfl, rfl, rfl, rfl⟩ rfl rfl rfl rfl rfl (by kernel_rfl) Tryz.func4 (by kernel_rfl)
    (of_decide_eq_true (by kernel_rfl)) (by unfold Func.isWrapper; first | (rw [if_pos (by decide +kernel)]; kernel_rfl) | (rw [if_neg (by decide +kernel)]; exact ⟨rfl, rfl⟩))
    (fun os started H enc _ F => by rw [OpenClaim.pre_eq_preRow]; exact shadowKnown_lifted os started H enc F)

/-- No parameter wants a stand-in; the program's own looks are off: what the card asks. -/
theorem plainShadowKnown (f : FuncId) (fn : Func) (hf : Tryz.pinned.checked.prog.funcNamed "stadholder/stadholderlaw21.ShadowKnown" = some f) (hfn : Tryz.pinned.checked.prog.funcs[f]? = some fn) :
    false = Tryz.pinned.checked.prog.looks [] ∧ ∀ (j : Nat) t, fn.params[j]? = some t → Tryz.pinned.checked.prog.wantsStandIn t = false := by
  obtain rfl : f = 4 := Option.some.inj ((show Tryz.prog.funcNamed "stadholder/stadholderlaw21.ShadowKnown" = some 4 by kernel_rfl).symm.trans hf) |>.symm
  obtain rfl : fn = Tryz.f4 := (Option.some.inj (Tryz.func4.symm.trans hfn)).symm
  refine ⟨by kernel_rfl, fun j t ht => ?_⟩
  rw [ Tryz.params4 ] at ht
  simp at ht
theorem shadowKnown_card : Rows.ShadowKnownCardSaid :=
  Claim7.holds_tied_plain_at .later [] _ _ _ _ shadowKnown_holds (fun _ h => by cases h) (by kernel_rfl) (fun _ h => by cases h) shadowKnown_row_tie rfl ⟨rfl, rfl⟩ (by kernel_rfl) rfl plainShadowKnown (by kernel_rfl)
#print axioms shadowKnown_card
end Go.Proofs.YthdilellcaebfaaGreatDoor
