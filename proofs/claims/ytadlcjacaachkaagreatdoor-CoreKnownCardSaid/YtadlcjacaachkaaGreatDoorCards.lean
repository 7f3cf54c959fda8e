/-
  DERIVED. GIVEN WITH THE SEED: THE CARDS: each row of YtadlcjacaachkaaGreatDoorRows.lean that lists a variable, with what it lists TIED to the program's text (the seventh form; the later family's looks); each row that meets fmt, with fmt's text TOLD by the authors' own Lean function (tested against real Go, not proved from fmt's source: count such statements apart). THE CARD IS WHAT COUNTS. Prove the row's statement (the work); the ties are given (YtadlcjacaachkaaGreatDoorTie.lean); close each card by the builder's one call (the guide's Derived/Test/ToyasCard.lean, 'card_holds'). Laid BY PROGRAM, IN A SANDBOX (cutbox-door.mjs). By AI agents, Wed Nov 11 2026. No macro, syntax, notation, axiom, sorry.
-/
import Derived.Test.YtadlcjacaachkaaGreatDoorRows
import GoSem.ClaimSeven
namespace Go.Proofs.YtadlcjacaachkaaGreatDoor
namespace Rows

/-- THE TIED CARD OF 'stadholderlaw25.TellSays'. -/
def tellSaysCard : Claim7 := { stood := { row := tellSaysRow, standIns := [], harness := (true, "42c52d790ca3c22d01d2b4de32a0705e6cbcb5094eff447d80aec720dc2d5403"), looks := false }, kinds := [], alts := [], laidByText := true, laidKinds := [.data, .data, .data], laidTests := true, laidLooks := .later }
def TellSaysCardSaid : Prop := Claim7.holds Tryz.pinned (.plain (OpenSpec.ofChange tellSaysSpec)) tellSaysCard

/-- THE TIED CARD OF 'stadholderlaw21.ShadowKnown'. -/
def shadowKnownCard : Claim7 := { stood := { row := shadowKnownRow, standIns := [], harness := (true, "42c52d790ca3c22d01d2b4de32a0705e6cbcb5094eff447d80aec720dc2d5403"), looks := false }, kinds := [], alts := [], laidByText := true, laidKinds := [.data, .data, .data], laidTests := true, laidLooks := .later }
def ShadowKnownCardSaid : Prop := Claim7.holds Tryz.pinned (.plain (OpenSpec.ofChange shadowKnownSpec)) shadowKnownCard

/-- THE TIED CARD OF 'stadholderlaw15.CoreKnown'. -/
def coreKnownCard : Claim7 := { stood := { row := coreKnownRow, standIns := [], harness := (true, "42c52d790ca3c22d01d2b4de32a0705e6cbcb5094eff447d80aec720dc2d5403"), looks := false }, kinds := [], alts := [], laidByText := true, laidKinds := [.data, .data, .data], laidTests := true, laidLooks := .later }
def CoreKnownCardSaid : Prop := Claim7.holds Tryz.pinned (.plain (OpenSpec.ofChange coreKnownSpec)) coreKnownCard

/-- THE SECOND FORM's CARD OF 'stadholderlaw25.TellSays'. -/
def tellSaysUptoCard : Claim7 := { stood := { row := tellSaysUptoRow, standIns := [], harness := (true, "42c52d790ca3c22d01d2b4de32a0705e6cbcb5094eff447d80aec720dc2d5403"), looks := false }, kinds := [], alts := [], laidByText := true, laidKinds := [.data, .data, .data], laidTests := true, laidLooks := .later }
def TellSaysUptoCardSaid : Prop := Claim7.holds Tryz.pinned (.plain (OpenSpec.upto tellSaysSpec)) tellSaysUptoCard

/-- THE SECOND FORM's CARD OF 'stadholderlaw21.ShadowKnown'. -/
def shadowKnownUptoCard : Claim7 := { stood := { row := shadowKnownUptoRow, standIns := [], harness := (true, "42c52d790ca3c22d01d2b4de32a0705e6cbcb5094eff447d80aec720dc2d5403"), looks := false }, kinds := [], alts := [], laidByText := true, laidKinds := [.data, .data, .data], laidTests := true, laidLooks := .later }
def ShadowKnownUptoCardSaid : Prop := Claim7.holds Tryz.pinned (.plain (OpenSpec.upto shadowKnownSpec)) shadowKnownUptoCard

/-- THE SECOND FORM's CARD OF 'stadholderlaw15.CoreKnown'. -/
def coreKnownUptoCard : Claim7 := { stood := { row := coreKnownUptoRow, standIns := [], harness := (true, "42c52d790ca3c22d01d2b4de32a0705e6cbcb5094eff447d80aec720dc2d5403"), looks := false }, kinds := [], alts := [], laidByText := true, laidKinds := [.data, .data, .data], laidTests := true, laidLooks := .later }
def CoreKnownUptoCardSaid : Prop := Claim7.holds Tryz.pinned (.plain (OpenSpec.upto coreKnownSpec)) coreKnownUptoCard
end Rows
end Go.Proofs.YtadlcjacaachkaaGreatDoor
