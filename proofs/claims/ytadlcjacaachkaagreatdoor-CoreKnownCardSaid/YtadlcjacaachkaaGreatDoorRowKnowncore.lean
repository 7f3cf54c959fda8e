/- Proved here: the card of the statement CoreKnown (closed), in every world that holds the library's three listed tables. -/
import Derived.Test.YtadlcjacaachkaaGreatDoorCoreKnown
import Derived.Test.YtadlcjacaachkaaGreatDoorCards
import Derived.Test.YtadlcjacaachkaaGreatDoorTie
import Derived.ProofKit
import Derived.Below
import Derived.OpenShut
import Derived.Deep.DeepHandedRow
import Derived.Lib.LaidTab
import Derived.LaidSub
namespace Go.Proofs.YtadlcjacaachkaaGreatDoor
open Go.ChangeShapes Go.WideShapes Go.ChangeAt Go.RowKit
set_option linter.unusedVariables false

def knownValsCore (d : DataW Unit) : Array Value := match d with
  | .agg l => (l.filterMap fun x => match x with
    | .lit y => some y.value
    | _ => none).toArray
  | _ => #[]
def knownCellsCore (vs : Array Value) : Obj → Obj
  | .cells _ t frozen => .cells vs t frozen
  | o => o
theorem ownCoreKnown : ownKnob Tryz.prog.godebug = none := by kernel_rfl
theorem gTabCore : Tryz.prog.globalNamed "internal/strconv.uint64pow10" = some 0 := by kernel_rfl
theorem gTabTypeCore : (Tryz.prog.globals[ 0 ]?).map (·.type) = some 216 := by kernel_rfl
theorem gCellsCore : Tryz.prog.cellsOf 216 = 20 := by kernel_rfl
theorem gCellCore : Tryz.prog.cellsOf 195 = 1 := by kernel_rfl
theorem tableCore {W : World} (h : laidMetH Tryz.prog Rows.coreKnownRow.laid W) : Tab W :=
  Tab.of (Lib.tabIs_of_head (rest := []) gTabCore gTabTypeCore Tryz.underlying216 Tryz.underlying195 gCellCore gCellsCore (laidMetH.filter (fun x => x.1 == "internal/strconv.uint64pow10") h))

theorem contractCoreKnown (H : Type) (enc : TypeId × Value → H) (W : World) (base : Nat) (args : Array Value) (ds gs : List (DataW H)) (before : List MemPlace)
    (hval : ∀ (j : Nat) t v, Tryz.f5.params[j]? = some t → args[j]? = some v → Value.okWide Tryz.prog W .any base t v)
    (hW : DataW.Whole enc Tryz.prog Tryz.f5.params.toList Rows.coreKnownSpec.vars false W args.toList ds gs before) (hL : laidMetH Tryz.prog Rows.coreKnownRow.laid W) :
    Calls Tryz.prog 5 args W fun e W' => ∃ v, e = .returned v ∧ Rows.coreKnownSpec.post enc Tryz.prog Tryz.f5 false true false false W args v W' := by
  have hW' := hW
  obtain ⟨p, q, hA0, hV, rfl, hfz, hnd⟩ := hW
  have hA : DataW.TrodAll enc Tryz.prog W 0 (fun _ => true) true Tryz.f5.params.toList args.toList ds p := hA0
  rw [ Tryz.params5 ] at hA hval
  obtain ⟨hargs, rfl, rfl⟩ := trodAll_nil hA
  obtain rfl : args = #[] := by cases args; simp_all
  obtain ⟨rfl, rfl⟩ := trodVars_none hV
  clear hA0
  refine (CoreKnown_walk W (tableCore hL)).mono fun e W' ⟨he, bel⟩ => ?_
  subst he
  exact ⟨_, rfl, _, _, _, [], _, [], hW', trodAll_mk1 (shut_bool Tryz.underlying4 _), trodAll_mk0, rfl, bel.frame _, fun h => by cases h⟩

/-- A world for the witness: the settled one, the tables as their initialisers lay them. -/
noncomputable def laidWorldCore (os : Os) : World :=
  { World.holding Tryz.prog os ⟨#[], #[], []⟩ with heap := (((World.holding Tryz.prog os ⟨#[], #[], []⟩).heap.modify 0 (knownCellsCore (knownValsCore Rows.laid_internal_strconv_uint64pow10))).modify 2 (knownCellsCore (knownValsCore Rows.laid_math_bits_deBruijn32tab))).modify 3 (knownCellsCore (knownValsCore Rows.laid_math_bits_deBruijn64tab)) }
theorem laid_metCore (os : Os) : laidMet Tryz.prog Rows.coreKnownRow.laid ((laidWorldCore os).forCall (fun _ _ => 0) ⟨#[], #[], []⟩).memory :=
  laidMet_of_run' 8 (by kernel_rfl) (by kernel_rfl)
theorem readsCore (os : Os) {H : Type} (enc : TypeId × Value → H) : ∃ places, DataW.whole enc Tryz.prog ((laidWorldCore os).forCall (fun _ _ => 0) ⟨#[], #[], []⟩).memory Tryz.f5.params.toList Rows.coreKnownSpec.vars false (#[] : Array Value).toList 8 = some ([], [], places) :=
  ⟨[], by kernel_rfl⟩
set_option maxRecDepth 100000 in
theorem coreKnown_lifted (os : Os) (started : os.Started) (H : Type) (enc : TypeId × Value → H) (F : Stop.Interp) :
    ReturnsInHanded {} Tryz.checked os 5 .any ((OpenSpec.ofChange Rows.coreKnownSpec).preRow enc Tryz.prog Tryz.f5 Rows.coreKnownRow.domain false Rows.coreKnownRow.laid) (((OpenSpec.ofChange Rows.coreKnownSpec).at F).post enc Tryz.prog Tryz.f5 false true false false) := by
  obtain ⟨places, hx⟩ := readsCore os enc
  refine returnsInHanded_of_row (C := Tryz.checked) (s := OpenSpec.ofChange Rows.coreKnownSpec) ownCoreKnown started (by kernel_rfl) Tryz.func5
    (witness_row_at (enc := enc) (C := Tryz.checked) false (laidWorldCore os) #[] rfl (by kernel_rfl) (by kernel_rfl) (by kernel_rfl)
      (OpenSpec.preRow_of_cond 8 hx (by kernel_rfl) (fun k hk => by cases hk) (by kernel_rfl) (laid_metCore os))) ?_
  intro W base args ds gs before hval hW _ _ _ hL _ _
  exact contractCoreKnown H enc W base args ds gs before hval hW hL

theorem coreKnown_holds : Rows.CoreKnownSaid :=
  OpenClaim.holds_of_cond 5 Tryz.f5 rfl rfl rfl rfl rfl rfl rfl ⟨rfl, rfl, rfl, rfl, rfl⟩ rfl rfl rfl rfl rfl (by kernel_rfl) Tryz.func5 (by kernel_rfl)
    (of_decide_eq_true (by kernel_rfl)) (by unfold Func.isWrapper; first | (rw [if_pos (by decide +kernel)]; kernel_rfl) | (rw [if_neg (by decide +kernel)]; exact ⟨rfl, rfl⟩))
    (fun os started H enc _ F => by rw [OpenClaim.pre_eq_preRow]; exact coreKnown_lifted os started H enc F)

/-- No parameter wants a stand-in; the program's own looks are off: what the card asks. -/
theorem plainCoreKnown (f : FuncId) (fn : Func) (hf : Tryz.pinned.checked.prog.funcNamed "stadholder/stadholderlaw15.CoreKnown" = some f) (hfn : Tryz.pinned.checked.prog.funcs[f]? = some fn) :
    false = Tryz.pinned.checked.prog.looks [] ∧ ∀ (j : Nat) t, fn.params[j]? = some t → Tryz.pinned.checked.prog.wantsStandIn t = false := by
  obtain rfl : f = 5 := Option.some.inj ((show Tryz.prog.funcNamed "stadholder/stadholderlaw15.CoreKnown" = some 5 by kernel_rfl).symm.trans hf) |>.symm
  obtain rfl : fn = Tryz.f5 := (Option.some.inj (Tryz.func5.symm.trans hfn)).symm
  refine ⟨by kernel_rfl, fun j t ht => ?_⟩
  rw [ Tryz.params5 ] at ht
  simp at ht
theorem coreKnown_card : Rows.CoreKnownCardSaid :=
  Claim7.holds_tied_plain_at .later [] _ _ _ _ coreKnown_holds (fun _ h => by cases h) (by kernel_rfl) (fun _ h => by cases h) coreKnown_row_tie rfl ⟨rfl, rfl⟩ (by kernel_rfl) rfl plainCoreKnown (by kernel_rfl)
#print axioms coreKnown_card
end Go.Proofs.YtadlcjacaachkaaGreatDoor
