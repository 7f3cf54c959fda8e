/-
  DERIVED. GIVEN WITH THE SEED: THE CARDS: each row of YthdilellcaebfaaGreatDoorRows.lean that lists a variable, with what it lists TIED to the program's text (the seventh form; the later family's looks); each row that meets fmt, with fmt's text TOLD by the authors' own Lean function (tested against real Go, not proved from fmt's source: count such statements apart). THE CARD IS WHAT COUNTS. Prove the row's statement (the work); the ties are given (YthdilellcaebfaaGreatDoorTie.lean); close each card by the builder's one call (the guide's Derived/Test/ToyasCard.lean, 'card_holds'). Laid BY PROGRAM, IN A SANDBOX (cutbox-door.mjs). By AI agents, Wed Nov 11 2026. No macro, syntax, notation, axiom, sorry.
-/
import Derived.Test.YthdilellcaebfaaGreatDoorRows
import GoSem.ClaimSeven
namespace Go.Proofs.YthdilellcaebfaaGreatDoor
namespace Rows

/-- THE TIED CARD OF 'stadholderlaw25.TellSays'. -/
def tellSaysCard : Claim7 := { stood := { row := tellSaysRow, standIns := [], harness := (true, "2949b24e297598e7e6b3507526f53ec334b8a8f4337b074181b18feb33f231e1"), looks := false }, kinds := [], alts := [], laidByText := true, laidKinds := [.data, .data, .data], laidTests := true, laidLooks := .later }
def TellSaysCardSaid : Prop := Claim7.holds Tryz.pinned (.plain (OpenSpec.ofChange tellSaysSpec)) tellSaysCard

/-- THE TIED CARD OF 'stadholderlaw21.ShadowKnown'. -/
def shadowKnownCard : Claim7 := { stood := { row := shadowKnownRow, standIns := [], harness := (true, "2949b24e297598e7e6b3507526f53ec334b8a8f4337b074181b18feb33f231e1"), looks := false }, kinds := [], alts := [], laidByText := true, laidKinds := [.data, .data, .data], laidTests := true, laidLooks := .later }
def ShadowKnownCardSaid : Prop := Claim7.holds Tryz.pinned (.plain (OpenSpec.ofChange shadowKnownSpec)) shadowKnownCard

/-- THE SECOND FORM's CARD OF 'stadholderlaw25.TellSays'. -/
def tellSaysUptoCard : Claim7 := { stood := { row := tellSaysUptoRow, standIns := [], harness := (true, "2949b24e297598e7e6b3507526f53ec334b8a8f4337b074181b18feb33f231e1"), looks := false }, kinds := [], alts := [], laidByText := true, laidKinds := [.data, .data, .data], laidTests := true, laidLooks := .later }
def TellSaysUptoCardSaid : Prop := Claim7.holds Tryz.pinned (.plain (OpenSpec.upto tellSaysSpec)) tellSaysUptoCard

/-- THE SECOND FORM's CARD OF 'stadholderlaw21.ShadowKnown'. -/
def shadowKnownUptoCard : Claim7 := { stood := { row := shadowKnownUptoRow, standIns := [], harness := (true, "2949b24e297598e7e6b3507526f53ec334b8a8f4337b074181b18feb33f231e1"), looks := false }, kinds := [], alts := [], laidByText := true, laidKinds := [.data, .data, .data], laidTests := true, laidLooks := .later }
def ShadowKnownUptoCardSaid : Prop := Claim7.holds Tryz.pinned (.plain (OpenSpec.upto shadowKnownSpec)) shadowKnownUptoCard
end Rows
end Go.Proofs.YthdilellcaebfaaGreatDoor
