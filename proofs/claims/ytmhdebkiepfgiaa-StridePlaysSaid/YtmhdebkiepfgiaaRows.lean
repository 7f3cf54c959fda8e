/-
  No cell of these rows narrows 'for every input' (looked for: loops, veiled, ifaces, maps, wideKeys, modest, calm, conditions, laid).
  DERIVED. THE GIVEN ROWS OF THIS SEAT. 10 by the template 'for every input the law returns true; each argument reads behind the call as it read before'; 0 by the template 'total and deterministic' (their statements: YtmhdebkiepfgiaaTotals.lean).
  GIVEN WITH THE SEED: the statements are not yours to turn. If you find one false, say at which input.
  Laid BY PROGRAM, IN A SANDBOX (cutbox-rows.mjs): the forced cells as the released guide's own fill.sh prints them over the translation 15aa85f46a2f51a8… (all of the seat's roots in one cut). By AI agents, Wed Nov 11 2026. No macro, syntax, notation, axiom, sorry.
-/
import Derived.Test.YtmhdebkiepfgiaaChecked
import GoSem.Claim
import GoSem.ClaimJoined
import GoSem.ClaimMapViews
import Derived.JoinedTies
import Derived.KernelRfl
namespace Go.Proofs.Ytmhdebkiepfgiaa
/- THE CELL 'sum', in the pinned program and in every row, IS THE sha256 OF THE DUMP (.gsa) THAT YtmhdebkiepfgiaaProg.lean LOADS. Nothing in Lean hashes anything: it is a label: what it is worth is what the hold of that sum in a sandbox is worth. -/
noncomputable def Try.pinned : Pinned := { name := "ytmhdebkiepfgiaa", sum := "15aa85f46a2f51a8d38616387bd4be8d2a3f558c312136aae6d61767f65345a4", checked := Try.checked }
namespace Rows
def none {H : Type} : Left H := { results := [], args := [] }

/-- 'stadholderlaw14.PolicyKnown': WHATEVER THE INPUT: true; the input reads as it did. -/
def policyKnownSpec : ChangeSpec := { name := "policyKnown", fn := fun _ => fun
  | [] => { results := [.lit (.bool true)], args := [] }
  | _ => none }
def policyKnownRow : OpenClaim := { program := "ytmhdebkiepfgiaa", sum := "15aa85f46a2f51a8d38616387bd4be8d2a3f558c312136aae6d61767f65345a4", func := "stadholder/stadholderlaw14.PolicyKnown", spec := "policyKnown", unfollowed := true, recurses := true, apart := false }
def PolicyKnownSaid : Prop := policyKnownRow.holds Try.pinned (OpenSpec.ofChange policyKnownSpec)

/-- ITS FALSE NEIGHBOUR: 'it returns false'. Refute it at one input. -/
def policyKnownWrong : ChangeSpec := { name := "policyKnown", fn := fun _ => fun
  | [] => { results := [.lit (.bool false)], args := [] }
  | _ => none }
def PolicyKnownWrongFalsely : Prop := policyKnownRow.holds Try.pinned (OpenSpec.ofChange policyKnownWrong)

/-- 'stadholderlaw14.PolicyTurns': WHATEVER THE INPUT: true; the input reads as it did. -/
def policyTurnsSpec : ChangeSpec := { name := "policyTurns", fn := fun _ => fun
  | [d1, d2, d3] => { results := [.lit (.bool true)], args := [d1, d2, d3] }
  | _ => none }
def policyTurnsRow : OpenClaim := { program := "ytmhdebkiepfgiaa", sum := "15aa85f46a2f51a8d38616387bd4be8d2a3f558c312136aae6d61767f65345a4", func := "stadholder/stadholderlaw14.PolicyTurns", spec := "policyTurns", unfollowed := true, recurses := true, apart := false }
def PolicyTurnsSaid : Prop := policyTurnsRow.holds Try.pinned (OpenSpec.ofChange policyTurnsSpec)

/-- ITS FALSE NEIGHBOUR: 'it returns false'. Refute it at one input. -/
def policyTurnsWrong : ChangeSpec := { name := "policyTurns", fn := fun _ => fun
  | [d1, d2, d3] => { results := [.lit (.bool false)], args := [d1, d2, d3] }
  | _ => none }
def PolicyTurnsWrongFalsely : Prop := policyTurnsRow.holds Try.pinned (OpenSpec.ofChange policyTurnsWrong)

/-- 'stadholderlaw15.CoreChanges': WHATEVER THE INPUT: true; the input reads as it did. -/
def coreChangesSpec : ChangeSpec := { name := "coreChanges", fn := fun _ => fun
  | [d1, d2, d3, d4] => { results := [.lit (.bool true)], args := [d1, d2, d3, d4] }
  | _ => none }
def coreChangesRow : OpenClaim := { program := "ytmhdebkiepfgiaa", sum := "15aa85f46a2f51a8d38616387bd4be8d2a3f558c312136aae6d61767f65345a4", func := "stadholder/stadholderlaw15.CoreChanges", spec := "coreChanges", unfollowed := true, recurses := true, apart := false }
def CoreChangesSaid : Prop := coreChangesRow.holds Try.pinned (OpenSpec.ofChange coreChangesSpec)

/-- ITS FALSE NEIGHBOUR: 'it returns false'. Refute it at one input. -/
def coreChangesWrong : ChangeSpec := { name := "coreChanges", fn := fun _ => fun
  | [d1, d2, d3, d4] => { results := [.lit (.bool false)], args := [d1, d2, d3, d4] }
  | _ => none }
def CoreChangesWrongFalsely : Prop := coreChangesRow.holds Try.pinned (OpenSpec.ofChange coreChangesWrong)

/-- 'stadholderlaw21.ShadowMakes': WHATEVER THE INPUT: true; the input reads as it did. -/
def shadowMakesSpec : ChangeSpec := { name := "shadowMakes", fn := fun _ => fun
  | [d1, d2] => { results := [.lit (.bool true)], args := [d1, d2] }
  | _ => none }
def shadowMakesRow : OpenClaim := { program := "ytmhdebkiepfgiaa", sum := "15aa85f46a2f51a8d38616387bd4be8d2a3f558c312136aae6d61767f65345a4", func := "stadholder/stadholderlaw21.ShadowMakes", spec := "shadowMakes", unfollowed := true, recurses := true, apart := false }
def ShadowMakesSaid : Prop := shadowMakesRow.holds Try.pinned (OpenSpec.ofChange shadowMakesSpec)

/-- ITS FALSE NEIGHBOUR: 'it returns false'. Refute it at one input. -/
def shadowMakesWrong : ChangeSpec := { name := "shadowMakes", fn := fun _ => fun
  | [d1, d2] => { results := [.lit (.bool false)], args := [d1, d2] }
  | _ => none }
def ShadowMakesWrongFalsely : Prop := shadowMakesRow.holds Try.pinned (OpenSpec.ofChange shadowMakesWrong)

/-- 'stadholderlaw21.ShadowChain': WHATEVER THE INPUT: true; the input reads as it did. -/
def shadowChainSpec : ChangeSpec := { name := "shadowChain", fn := fun _ => fun
  | [d1, d2, d3] => { results := [.lit (.bool true)], args := [d1, d2, d3] }
  | _ => none }
def shadowChainRow : OpenClaim := { program := "ytmhdebkiepfgiaa", sum := "15aa85f46a2f51a8d38616387bd4be8d2a3f558c312136aae6d61767f65345a4", func := "stadholder/stadholderlaw21.ShadowChain", spec := "shadowChain", unfollowed := true, recurses := true, apart := false }
def ShadowChainSaid : Prop := shadowChainRow.holds Try.pinned (OpenSpec.ofChange shadowChainSpec)

/-- ITS FALSE NEIGHBOUR: 'it returns false'. Refute it at one input. -/
def shadowChainWrong : ChangeSpec := { name := "shadowChain", fn := fun _ => fun
  | [d1, d2, d3] => { results := [.lit (.bool false)], args := [d1, d2, d3] }
  | _ => none }
def ShadowChainWrongFalsely : Prop := shadowChainRow.holds Try.pinned (OpenSpec.ofChange shadowChainWrong)

/-- 'stadholderlaw11.StrideNear': WHATEVER THE INPUT: true; the input reads as it did. -/
def strideNearSpec : ChangeSpec := { name := "strideNear", fn := fun _ => fun
  | [d1, d2] => { results := [.lit (.bool true)], args := [d1, d2] }
  | _ => none }
def strideNearRow : OpenClaim := { program := "ytmhdebkiepfgiaa", sum := "15aa85f46a2f51a8d38616387bd4be8d2a3f558c312136aae6d61767f65345a4", func := "stadholder/stadholderlaw11.StrideNear", spec := "strideNear", unfollowed := true, recurses := true, apart := false }
def StrideNearSaid : Prop := strideNearRow.holds Try.pinned (OpenSpec.ofChange strideNearSpec)

/-- ITS FALSE NEIGHBOUR: 'it returns false'. Refute it at one input. -/
def strideNearWrong : ChangeSpec := { name := "strideNear", fn := fun _ => fun
  | [d1, d2] => { results := [.lit (.bool false)], args := [d1, d2] }
  | _ => none }
def StrideNearWrongFalsely : Prop := strideNearRow.holds Try.pinned (OpenSpec.ofChange strideNearWrong)

/-- 'stadholderlaw11.StridePlays': WHATEVER THE INPUT: true; the input reads as it did. -/
def stridePlaysSpec : ChangeSpec := { name := "stridePlays", fn := fun _ => fun
  | [d1, d2] => { results := [.lit (.bool true)], args := [d1, d2] }
  | _ => none }
def stridePlaysRow : OpenClaim := { program := "ytmhdebkiepfgiaa", sum := "15aa85f46a2f51a8d38616387bd4be8d2a3f558c312136aae6d61767f65345a4", func := "stadholder/stadholderlaw11.StridePlays", spec := "stridePlays", unfollowed := true, recurses := true, apart := false }
def StridePlaysSaid : Prop := stridePlaysRow.holds Try.pinned (OpenSpec.ofChange stridePlaysSpec)

/-- ITS FALSE NEIGHBOUR: 'it returns false'. Refute it at one input. -/
def stridePlaysWrong : ChangeSpec := { name := "stridePlays", fn := fun _ => fun
  | [d1, d2] => { results := [.lit (.bool false)], args := [d1, d2] }
  | _ => none }
def StridePlaysWrongFalsely : Prop := stridePlaysRow.holds Try.pinned (OpenSpec.ofChange stridePlaysWrong)

/-- 'stadholderlaw11.StrideGood': WHATEVER THE INPUT: true; the input reads as it did. -/
def strideGoodSpec : ChangeSpec := { name := "strideGood", fn := fun _ => fun
  | [d1, d2] => { results := [.lit (.bool true)], args := [d1, d2] }
  | _ => none }
def strideGoodRow : OpenClaim := { program := "ytmhdebkiepfgiaa", sum := "15aa85f46a2f51a8d38616387bd4be8d2a3f558c312136aae6d61767f65345a4", func := "stadholder/stadholderlaw11.StrideGood", spec := "strideGood", unfollowed := true, recurses := true, apart := false }
def StrideGoodSaid : Prop := strideGoodRow.holds Try.pinned (OpenSpec.ofChange strideGoodSpec)

/-- ITS FALSE NEIGHBOUR: 'it returns false'. Refute it at one input. -/
def strideGoodWrong : ChangeSpec := { name := "strideGood", fn := fun _ => fun
  | [d1, d2] => { results := [.lit (.bool false)], args := [d1, d2] }
  | _ => none }
def StrideGoodWrongFalsely : Prop := strideGoodRow.holds Try.pinned (OpenSpec.ofChange strideGoodWrong)

/-- 'stadholderlaw11.StrideApart': WHATEVER THE INPUT: true; the input reads as it did. -/
def strideApartSpec : ChangeSpec := { name := "strideApart", fn := fun _ => fun
  | [d1, d2, d3, d4] => { results := [.lit (.bool true)], args := [d1, d2, d3, d4] }
  | _ => none }
def strideApartRow : OpenClaim := { program := "ytmhdebkiepfgiaa", sum := "15aa85f46a2f51a8d38616387bd4be8d2a3f558c312136aae6d61767f65345a4", func := "stadholder/stadholderlaw11.StrideApart", spec := "strideApart", unfollowed := true, recurses := true, apart := false }
def StrideApartSaid : Prop := strideApartRow.holds Try.pinned (OpenSpec.ofChange strideApartSpec)

/-- ITS FALSE NEIGHBOUR: 'it returns false'. Refute it at one input. -/
def strideApartWrong : ChangeSpec := { name := "strideApart", fn := fun _ => fun
  | [d1, d2, d3, d4] => { results := [.lit (.bool false)], args := [d1, d2, d3, d4] }
  | _ => none }
def StrideApartWrongFalsely : Prop := strideApartRow.holds Try.pinned (OpenSpec.ofChange strideApartWrong)

/-- 'stadholderlaw11.StrideSeeds': WHATEVER THE INPUT: true; the input reads as it did. -/
def strideSeedsSpec : ChangeSpec := { name := "strideSeeds", fn := fun _ => fun
  | [d1, d2, d3] => { results := [.lit (.bool true)], args := [d1, d2, d3] }
  | _ => none }
def strideSeedsRow : OpenClaim := { program := "ytmhdebkiepfgiaa", sum := "15aa85f46a2f51a8d38616387bd4be8d2a3f558c312136aae6d61767f65345a4", func := "stadholder/stadholderlaw11.StrideSeeds", spec := "strideSeeds", unfollowed := true, recurses := true, apart := false }
def StrideSeedsSaid : Prop := strideSeedsRow.holds Try.pinned (OpenSpec.ofChange strideSeedsSpec)

/-- ITS FALSE NEIGHBOUR: 'it returns false'. Refute it at one input. -/
def strideSeedsWrong : ChangeSpec := { name := "strideSeeds", fn := fun _ => fun
  | [d1, d2, d3] => { results := [.lit (.bool false)], args := [d1, d2, d3] }
  | _ => none }
def StrideSeedsWrongFalsely : Prop := strideSeedsRow.holds Try.pinned (OpenSpec.ofChange strideSeedsWrong)

/- THE SECOND FORM. 'bulk': how many values and letters a reading holds, each counted each time it is reached (what is shared counts as often as it is met; a slice's spare places count too). A statement '..UptoSaid' is the law's where the arguments, and the package variables that the reading takes, are together of bulk at most 1048576: NARROWER than '..Said'. Prove '..Said' where nothing that the law and all that it calls make is longer than what came in: it says more and counts as full. Else prove '..UptoSaid'. A law counts once. -/
mutual
def uptoBulk {H : Type} : DataW H → Nat
  | .lit (.string bytes) => bytes.length + 1
  | .lit _ => 1
  | .nil => 1
  | .ptr d => uptoBulk d + 1
  | .slice elems spare => uptoBulkAll elems + uptoBulkAll spare + 1
  | .agg parts => uptoBulkAll parts + 1
  | .iface _ d => uptoBulk d + 1
  | .map entries => uptoBulkEntries entries + 1
  | .held _ => 1
def uptoBulkAll {H : Type} : List (DataW H) → Nat
  | [] => 0
  | d :: r => uptoBulk d + uptoBulkAll r
def uptoBulkEntries {H : Type} : List (Lit × DataW H) → Nat
  | [] => 0
  | x :: r => uptoBulkEntry x + uptoBulkEntries r
def uptoBulkEntry {H : Type} : Lit × DataW H → Nat
  | (.string bytes, d) => bytes.length + uptoBulk d + 1
  | (_, d) => uptoBulk d + 1
 end
def uptoSmall : (H : Type) → List (DataW H) → Bool := fun _ ds => decide (uptoBulkAll ds ≤ 1048576)
def OpenSpec.upto (s : _root_.Go.ChangeSpec) : _root_.Go.OpenSpec := { _root_.Go.OpenSpec.ofChange s with cond := some uptoSmall }

/-- 'stadholderlaw14.PolicyKnown', WHERE WHAT IT READS IS OF BULK AT MOST 1048576: true; the input reads as it did. -/
def policyKnownUptoRow : OpenClaim := { program := "ytmhdebkiepfgiaa", sum := "15aa85f46a2f51a8d38616387bd4be8d2a3f558c312136aae6d61767f65345a4", func := "stadholder/stadholderlaw14.PolicyKnown", spec := "policyKnown", unfollowed := true, recurses := true, apart := false, narrowed := true }
def PolicyKnownUptoSaid : Prop := policyKnownUptoRow.holds Try.pinned (OpenSpec.upto policyKnownSpec)

/-- 'stadholderlaw14.PolicyTurns', WHERE WHAT IT READS IS OF BULK AT MOST 1048576: true; the input reads as it did. -/
def policyTurnsUptoRow : OpenClaim := { program := "ytmhdebkiepfgiaa", sum := "15aa85f46a2f51a8d38616387bd4be8d2a3f558c312136aae6d61767f65345a4", func := "stadholder/stadholderlaw14.PolicyTurns", spec := "policyTurns", unfollowed := true, recurses := true, apart := false, narrowed := true }
def PolicyTurnsUptoSaid : Prop := policyTurnsUptoRow.holds Try.pinned (OpenSpec.upto policyTurnsSpec)

/-- 'stadholderlaw15.CoreChanges', WHERE WHAT IT READS IS OF BULK AT MOST 1048576: true; the input reads as it did. -/
def coreChangesUptoRow : OpenClaim := { program := "ytmhdebkiepfgiaa", sum := "15aa85f46a2f51a8d38616387bd4be8d2a3f558c312136aae6d61767f65345a4", func := "stadholder/stadholderlaw15.CoreChanges", spec := "coreChanges", unfollowed := true, recurses := true, apart := false, narrowed := true }
def CoreChangesUptoSaid : Prop := coreChangesUptoRow.holds Try.pinned (OpenSpec.upto coreChangesSpec)

/-- 'stadholderlaw21.ShadowMakes', WHERE WHAT IT READS IS OF BULK AT MOST 1048576: true; the input reads as it did. -/
def shadowMakesUptoRow : OpenClaim := { program := "ytmhdebkiepfgiaa", sum := "15aa85f46a2f51a8d38616387bd4be8d2a3f558c312136aae6d61767f65345a4", func := "stadholder/stadholderlaw21.ShadowMakes", spec := "shadowMakes", unfollowed := true, recurses := true, apart := false, narrowed := true }
def ShadowMakesUptoSaid : Prop := shadowMakesUptoRow.holds Try.pinned (OpenSpec.upto shadowMakesSpec)

/-- 'stadholderlaw21.ShadowChain', WHERE WHAT IT READS IS OF BULK AT MOST 1048576: true; the input reads as it did. -/
def shadowChainUptoRow : OpenClaim := { program := "ytmhdebkiepfgiaa", sum := "15aa85f46a2f51a8d38616387bd4be8d2a3f558c312136aae6d61767f65345a4", func := "stadholder/stadholderlaw21.ShadowChain", spec := "shadowChain", unfollowed := true, recurses := true, apart := false, narrowed := true }
def ShadowChainUptoSaid : Prop := shadowChainUptoRow.holds Try.pinned (OpenSpec.upto shadowChainSpec)

/-- 'stadholderlaw11.StrideNear', WHERE WHAT IT READS IS OF BULK AT MOST 1048576: true; the input reads as it did. -/
def strideNearUptoRow : OpenClaim := { program := "ytmhdebkiepfgiaa", sum := "15aa85f46a2f51a8d38616387bd4be8d2a3f558c312136aae6d61767f65345a4", func := "stadholder/stadholderlaw11.StrideNear", spec := "strideNear", unfollowed := true, recurses := true, apart := false, narrowed := true }
def StrideNearUptoSaid : Prop := strideNearUptoRow.holds Try.pinned (OpenSpec.upto strideNearSpec)

/-- 'stadholderlaw11.StridePlays', WHERE WHAT IT READS IS OF BULK AT MOST 1048576: true; the input reads as it did. -/
def stridePlaysUptoRow : OpenClaim := { program := "ytmhdebkiepfgiaa", sum := "15aa85f46a2f51a8d38616387bd4be8d2a3f558c312136aae6d61767f65345a4", func := "stadholder/stadholderlaw11.StridePlays", spec := "stridePlays", unfollowed := true, recurses := true, apart := false, narrowed := true }
def StridePlaysUptoSaid : Prop := stridePlaysUptoRow.holds Try.pinned (OpenSpec.upto stridePlaysSpec)

/-- 'stadholderlaw11.StrideGood', WHERE WHAT IT READS IS OF BULK AT MOST 1048576: true; the input reads as it did. -/
def strideGoodUptoRow : OpenClaim := { program := "ytmhdebkiepfgiaa", sum := "15aa85f46a2f51a8d38616387bd4be8d2a3f558c312136aae6d61767f65345a4", func := "stadholder/stadholderlaw11.StrideGood", spec := "strideGood", unfollowed := true, recurses := true, apart := false, narrowed := true }
def StrideGoodUptoSaid : Prop := strideGoodUptoRow.holds Try.pinned (OpenSpec.upto strideGoodSpec)

/-- 'stadholderlaw11.StrideApart', WHERE WHAT IT READS IS OF BULK AT MOST 1048576: true; the input reads as it did. -/
def strideApartUptoRow : OpenClaim := { program := "ytmhdebkiepfgiaa", sum := "15aa85f46a2f51a8d38616387bd4be8d2a3f558c312136aae6d61767f65345a4", func := "stadholder/stadholderlaw11.StrideApart", spec := "strideApart", unfollowed := true, recurses := true, apart := false, narrowed := true }
def StrideApartUptoSaid : Prop := strideApartUptoRow.holds Try.pinned (OpenSpec.upto strideApartSpec)

/-- 'stadholderlaw11.StrideSeeds', WHERE WHAT IT READS IS OF BULK AT MOST 1048576: true; the input reads as it did. -/
def strideSeedsUptoRow : OpenClaim := { program := "ytmhdebkiepfgiaa", sum := "15aa85f46a2f51a8d38616387bd4be8d2a3f558c312136aae6d61767f65345a4", func := "stadholder/stadholderlaw11.StrideSeeds", spec := "strideSeeds", unfollowed := true, recurses := true, apart := false, narrowed := true }
def StrideSeedsUptoSaid : Prop := strideSeedsUptoRow.holds Try.pinned (OpenSpec.upto strideSeedsSpec)

end Rows
end Go.Proofs.Ytmhdebkiepfgiaa
