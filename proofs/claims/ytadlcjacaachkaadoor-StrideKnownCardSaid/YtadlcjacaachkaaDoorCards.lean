/-
  DERIVED. GIVEN WITH THE SEED: THE CARDS: each row of YtadlcjacaachkaaDoorRows.lean that lists a variable, with what it lists TIED to the program's text (the seventh form; the later family's looks); each row that meets fmt, with fmt's text TOLD by the authors' own Lean function (tested against real Go, not proved from fmt's source: count such statements apart). THE CARD IS WHAT COUNTS. Prove the row's statement (the work); the ties are given (YtadlcjacaachkaaDoorTie.lean); close each card by the builder's one call (the guide's Derived/Test/ToyasCard.lean, 'card_holds'). Laid BY PROGRAM, IN A SANDBOX (cutbox-door.mjs). By AI agents, Wed Nov 11 2026. No macro, syntax, notation, axiom, sorry.
-/
import Derived.Test.YtadlcjacaachkaaDoorRows
import GoSem.ClaimSeven
namespace Go.Proofs.YtadlcjacaachkaaDoor
namespace Rows

/-- THE TIED CARD OF 'stadholderlaw12.FairKnown'. -/
def fairKnownCard : Claim7 := { stood := { row := fairKnownRow, standIns := [], harness := (true, "88e0b4cf03f47da3171571c525d2b9f78d5905ad96ec2c112b7280d4187e7612"), looks := false }, kinds := [], alts := [], laidByText := true, laidKinds := [.data, .data, .data], laidTests := true, laidLooks := .later }
def FairKnownCardSaid : Prop := Claim7.holds Tryd.pinned (.plain (OpenSpec.ofChange fairKnownSpec)) fairKnownCard

/-- THE TIED CARD OF 'stadholderlaw13.DueKnown'. -/
def dueKnownCard : Claim7 := { stood := { row := dueKnownRow, standIns := [], harness := (true, "88e0b4cf03f47da3171571c525d2b9f78d5905ad96ec2c112b7280d4187e7612"), looks := false }, kinds := [], alts := [], laidByText := true, laidKinds := [.data, .data, .data], laidTests := true, laidLooks := .later }
def DueKnownCardSaid : Prop := Claim7.holds Tryd.pinned (.plain (OpenSpec.ofChange dueKnownSpec)) dueKnownCard

/-- THE TIED CARD OF 'stadholderlaw11.StrideKnown'. -/
def strideKnownCard : Claim7 := { stood := { row := strideKnownRow, standIns := [], harness := (true, "88e0b4cf03f47da3171571c525d2b9f78d5905ad96ec2c112b7280d4187e7612"), looks := false }, kinds := [], alts := [], laidByText := true, laidKinds := [.data, .data, .data], laidTests := true, laidLooks := .later }
def StrideKnownCardSaid : Prop := Claim7.holds Tryd.pinned (.plain (OpenSpec.ofChange strideKnownSpec)) strideKnownCard

/-- THE SECOND FORM's CARD OF 'stadholderlaw12.FairKnown'. -/
def fairKnownUptoCard : Claim7 := { stood := { row := fairKnownUptoRow, standIns := [], harness := (true, "88e0b4cf03f47da3171571c525d2b9f78d5905ad96ec2c112b7280d4187e7612"), looks := false }, kinds := [], alts := [], laidByText := true, laidKinds := [.data, .data, .data], laidTests := true, laidLooks := .later }
def FairKnownUptoCardSaid : Prop := Claim7.holds Tryd.pinned (.plain (OpenSpec.upto fairKnownSpec)) fairKnownUptoCard

/-- THE SECOND FORM's CARD OF 'stadholderlaw13.DueKnown'. -/
def dueKnownUptoCard : Claim7 := { stood := { row := dueKnownUptoRow, standIns := [], harness := (true, "88e0b4cf03f47da3171571c525d2b9f78d5905ad96ec2c112b7280d4187e7612"), looks := false }, kinds := [], alts := [], laidByText := true, laidKinds := [.data, .data, .data], laidTests := true, laidLooks := .later }
def DueKnownUptoCardSaid : Prop := Claim7.holds Tryd.pinned (.plain (OpenSpec.upto dueKnownSpec)) dueKnownUptoCard

/-- THE SECOND FORM's CARD OF 'stadholderlaw11.StrideKnown'. -/
def strideKnownUptoCard : Claim7 := { stood := { row := strideKnownUptoRow, standIns := [], harness := (true, "88e0b4cf03f47da3171571c525d2b9f78d5905ad96ec2c112b7280d4187e7612"), looks := false }, kinds := [], alts := [], laidByText := true, laidKinds := [.data, .data, .data], laidTests := true, laidLooks := .later }
def StrideKnownUptoCardSaid : Prop := Claim7.holds Tryd.pinned (.plain (OpenSpec.upto strideKnownSpec)) strideKnownUptoCard
end Rows
end Go.Proofs.YtadlcjacaachkaaDoor
