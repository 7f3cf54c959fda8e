/-
  No cell of these rows narrows 'for every input' (looked for: loops, veiled, ifaces, maps, wideKeys, modest, calm, conditions, laid).
  DERIVED. THE GIVEN ROWS OF THIS SEAT. 12 by the template 'for every input the law returns true; each argument reads behind the call as it read before'; 0 by the template 'total and deterministic' (their statements: YtciiookcdkjegaaTotals.lean).
  GIVEN WITH THE SEED: the statements are not yours to turn. If you find one false, say at which input.
  Laid BY PROGRAM, IN A SANDBOX (cutbox-rows.mjs): the forced cells as the released guide's own fill.sh prints them over the translation 8e2eb19df69a5093… (all of the seat's roots in one cut). By AI agents, Wed Nov 11 2026. No macro, syntax, notation, axiom, sorry.
-/
import Derived.Test.YtciiookcdkjegaaChecked
import GoSem.Claim
import GoSem.ClaimJoined
import GoSem.ClaimMapViews
import Derived.JoinedTies
import Derived.KernelRfl
namespace Go.Proofs.Ytciiookcdkjegaa
/- THE CELL 'sum', in the pinned program and in every row, IS THE sha256 OF THE DUMP (.gsa) THAT YtciiookcdkjegaaProg.lean LOADS. Nothing in Lean hashes anything: it is a label: what it is worth is what the hold of that sum in a sandbox is worth. -/
noncomputable def Try.pinned : Pinned := { name := "ytciiookcdkjegaa", sum := "8e2eb19df69a509388919c162cdf760f7705b73eed2ce309977fbca1f7eabab1", checked := Try.checked }
namespace Rows
def none {H : Type} : Left H := { results := [], args := [] }

/-- 'stadholderlaw11.StrideSeeds': WHATEVER THE INPUT: true; the input reads as it did. -/
def strideSeedsSpec : ChangeSpec := { name := "strideSeeds", fn := fun _ => fun
  | [d1, d2, d3] => { results := [.lit (.bool true)], args := [d1, d2, d3] }
  | _ => none }
def strideSeedsRow : OpenClaim := { program := "ytciiookcdkjegaa", sum := "8e2eb19df69a509388919c162cdf760f7705b73eed2ce309977fbca1f7eabab1", func := "stadholder/stadholderlaw11.StrideSeeds", spec := "strideSeeds", unfollowed := true, recurses := true, apart := false }
def StrideSeedsSaid : Prop := strideSeedsRow.holds Try.pinned (OpenSpec.ofChange strideSeedsSpec)

/-- ITS FALSE NEIGHBOUR: 'it returns false'. Refute it at one input. -/
def strideSeedsWrong : ChangeSpec := { name := "strideSeeds", fn := fun _ => fun
  | [d1, d2, d3] => { results := [.lit (.bool false)], args := [d1, d2, d3] }
  | _ => none }
def StrideSeedsWrongFalsely : Prop := strideSeedsRow.holds Try.pinned (OpenSpec.ofChange strideSeedsWrong)

/-- 'stadholderlaw12.FairNear': WHATEVER THE INPUT: true; the input reads as it did. -/
def fairNearSpec : ChangeSpec := { name := "fairNear", fn := fun _ => fun
  | [d1, d2] => { results := [.lit (.bool true)], args := [d1, d2] }
  | _ => none }
def fairNearRow : OpenClaim := { program := "ytciiookcdkjegaa", sum := "8e2eb19df69a509388919c162cdf760f7705b73eed2ce309977fbca1f7eabab1", func := "stadholder/stadholderlaw12.FairNear", spec := "fairNear", unfollowed := true, recurses := true, apart := false }
def FairNearSaid : Prop := fairNearRow.holds Try.pinned (OpenSpec.ofChange fairNearSpec)

/-- ITS FALSE NEIGHBOUR: 'it returns false'. Refute it at one input. -/
def fairNearWrong : ChangeSpec := { name := "fairNear", fn := fun _ => fun
  | [d1, d2] => { results := [.lit (.bool false)], args := [d1, d2] }
  | _ => none }
def FairNearWrongFalsely : Prop := fairNearRow.holds Try.pinned (OpenSpec.ofChange fairNearWrong)

/-- 'stadholderlaw12.FairPlays': WHATEVER THE INPUT: true; the input reads as it did. -/
def fairPlaysSpec : ChangeSpec := { name := "fairPlays", fn := fun _ => fun
  | [d1, d2] => { results := [.lit (.bool true)], args := [d1, d2] }
  | _ => none }
def fairPlaysRow : OpenClaim := { program := "ytciiookcdkjegaa", sum := "8e2eb19df69a509388919c162cdf760f7705b73eed2ce309977fbca1f7eabab1", func := "stadholder/stadholderlaw12.FairPlays", spec := "fairPlays", unfollowed := true, recurses := true, apart := false }
def FairPlaysSaid : Prop := fairPlaysRow.holds Try.pinned (OpenSpec.ofChange fairPlaysSpec)

/-- ITS FALSE NEIGHBOUR: 'it returns false'. Refute it at one input. -/
def fairPlaysWrong : ChangeSpec := { name := "fairPlays", fn := fun _ => fun
  | [d1, d2] => { results := [.lit (.bool false)], args := [d1, d2] }
  | _ => none }
def FairPlaysWrongFalsely : Prop := fairPlaysRow.holds Try.pinned (OpenSpec.ofChange fairPlaysWrong)

/-- 'stadholderlaw12.FairGood': WHATEVER THE INPUT: true; the input reads as it did. -/
def fairGoodSpec : ChangeSpec := { name := "fairGood", fn := fun _ => fun
  | [d1, d2] => { results := [.lit (.bool true)], args := [d1, d2] }
  | _ => none }
def fairGoodRow : OpenClaim := { program := "ytciiookcdkjegaa", sum := "8e2eb19df69a509388919c162cdf760f7705b73eed2ce309977fbca1f7eabab1", func := "stadholder/stadholderlaw12.FairGood", spec := "fairGood", unfollowed := true, recurses := true, apart := false }
def FairGoodSaid : Prop := fairGoodRow.holds Try.pinned (OpenSpec.ofChange fairGoodSpec)

/-- ITS FALSE NEIGHBOUR: 'it returns false'. Refute it at one input. -/
def fairGoodWrong : ChangeSpec := { name := "fairGood", fn := fun _ => fun
  | [d1, d2] => { results := [.lit (.bool false)], args := [d1, d2] }
  | _ => none }
def FairGoodWrongFalsely : Prop := fairGoodRow.holds Try.pinned (OpenSpec.ofChange fairGoodWrong)

/-- 'stadholderlaw12.FairApart': WHATEVER THE INPUT: true; the input reads as it did. -/
def fairApartSpec : ChangeSpec := { name := "fairApart", fn := fun _ => fun
  | [d1, d2, d3, d4] => { results := [.lit (.bool true)], args := [d1, d2, d3, d4] }
  | _ => none }
def fairApartRow : OpenClaim := { program := "ytciiookcdkjegaa", sum := "8e2eb19df69a509388919c162cdf760f7705b73eed2ce309977fbca1f7eabab1", func := "stadholder/stadholderlaw12.FairApart", spec := "fairApart", unfollowed := true, recurses := true, apart := false }
def FairApartSaid : Prop := fairApartRow.holds Try.pinned (OpenSpec.ofChange fairApartSpec)

/-- ITS FALSE NEIGHBOUR: 'it returns false'. Refute it at one input. -/
def fairApartWrong : ChangeSpec := { name := "fairApart", fn := fun _ => fun
  | [d1, d2, d3, d4] => { results := [.lit (.bool false)], args := [d1, d2, d3, d4] }
  | _ => none }
def FairApartWrongFalsely : Prop := fairApartRow.holds Try.pinned (OpenSpec.ofChange fairApartWrong)

/-- 'stadholderlaw12.FairSeeds': WHATEVER THE INPUT: true; the input reads as it did. -/
def fairSeedsSpec : ChangeSpec := { name := "fairSeeds", fn := fun _ => fun
  | [d1, d2, d3] => { results := [.lit (.bool true)], args := [d1, d2, d3] }
  | _ => none }
def fairSeedsRow : OpenClaim := { program := "ytciiookcdkjegaa", sum := "8e2eb19df69a509388919c162cdf760f7705b73eed2ce309977fbca1f7eabab1", func := "stadholder/stadholderlaw12.FairSeeds", spec := "fairSeeds", unfollowed := true, recurses := true, apart := false }
def FairSeedsSaid : Prop := fairSeedsRow.holds Try.pinned (OpenSpec.ofChange fairSeedsSpec)

/-- ITS FALSE NEIGHBOUR: 'it returns false'. Refute it at one input. -/
def fairSeedsWrong : ChangeSpec := { name := "fairSeeds", fn := fun _ => fun
  | [d1, d2, d3] => { results := [.lit (.bool false)], args := [d1, d2, d3] }
  | _ => none }
def FairSeedsWrongFalsely : Prop := fairSeedsRow.holds Try.pinned (OpenSpec.ofChange fairSeedsWrong)

/-- 'stadholderlaw13.DueNear': WHATEVER THE INPUT: true; the input reads as it did. -/
def dueNearSpec : ChangeSpec := { name := "dueNear", fn := fun _ => fun
  | [d1, d2] => { results := [.lit (.bool true)], args := [d1, d2] }
  | _ => none }
def dueNearRow : OpenClaim := { program := "ytciiookcdkjegaa", sum := "8e2eb19df69a509388919c162cdf760f7705b73eed2ce309977fbca1f7eabab1", func := "stadholder/stadholderlaw13.DueNear", spec := "dueNear", inPlace := ["math/bits.Add64"], unfollowed := true, recurses := true, apart := false }
def DueNearSaid : Prop := dueNearRow.holds Try.pinned (OpenSpec.ofChange dueNearSpec)

/-- ITS FALSE NEIGHBOUR: 'it returns false'. Refute it at one input. -/
def dueNearWrong : ChangeSpec := { name := "dueNear", fn := fun _ => fun
  | [d1, d2] => { results := [.lit (.bool false)], args := [d1, d2] }
  | _ => none }
def DueNearWrongFalsely : Prop := dueNearRow.holds Try.pinned (OpenSpec.ofChange dueNearWrong)

/-- 'stadholderlaw13.DuePlays': WHATEVER THE INPUT: true; the input reads as it did. -/
def duePlaysSpec : ChangeSpec := { name := "duePlays", fn := fun _ => fun
  | [d1, d2] => { results := [.lit (.bool true)], args := [d1, d2] }
  | _ => none }
def duePlaysRow : OpenClaim := { program := "ytciiookcdkjegaa", sum := "8e2eb19df69a509388919c162cdf760f7705b73eed2ce309977fbca1f7eabab1", func := "stadholder/stadholderlaw13.DuePlays", spec := "duePlays", inPlace := ["math/bits.Add64"], unfollowed := true, recurses := true, apart := false }
def DuePlaysSaid : Prop := duePlaysRow.holds Try.pinned (OpenSpec.ofChange duePlaysSpec)

/-- ITS FALSE NEIGHBOUR: 'it returns false'. Refute it at one input. -/
def duePlaysWrong : ChangeSpec := { name := "duePlays", fn := fun _ => fun
  | [d1, d2] => { results := [.lit (.bool false)], args := [d1, d2] }
  | _ => none }
def DuePlaysWrongFalsely : Prop := duePlaysRow.holds Try.pinned (OpenSpec.ofChange duePlaysWrong)

/-- 'stadholderlaw13.DueGood': WHATEVER THE INPUT: true; the input reads as it did. -/
def dueGoodSpec : ChangeSpec := { name := "dueGood", fn := fun _ => fun
  | [d1, d2] => { results := [.lit (.bool true)], args := [d1, d2] }
  | _ => none }
def dueGoodRow : OpenClaim := { program := "ytciiookcdkjegaa", sum := "8e2eb19df69a509388919c162cdf760f7705b73eed2ce309977fbca1f7eabab1", func := "stadholder/stadholderlaw13.DueGood", spec := "dueGood", inPlace := ["math/bits.Add64"], unfollowed := true, recurses := true, apart := false }
def DueGoodSaid : Prop := dueGoodRow.holds Try.pinned (OpenSpec.ofChange dueGoodSpec)

/-- ITS FALSE NEIGHBOUR: 'it returns false'. Refute it at one input. -/
def dueGoodWrong : ChangeSpec := { name := "dueGood", fn := fun _ => fun
  | [d1, d2] => { results := [.lit (.bool false)], args := [d1, d2] }
  | _ => none }
def DueGoodWrongFalsely : Prop := dueGoodRow.holds Try.pinned (OpenSpec.ofChange dueGoodWrong)

/-- 'stadholderlaw13.DueApart': WHATEVER THE INPUT: true; the input reads as it did. -/
def dueApartSpec : ChangeSpec := { name := "dueApart", fn := fun _ => fun
  | [d1, d2, d3, d4] => { results := [.lit (.bool true)], args := [d1, d2, d3, d4] }
  | _ => none }
def dueApartRow : OpenClaim := { program := "ytciiookcdkjegaa", sum := "8e2eb19df69a509388919c162cdf760f7705b73eed2ce309977fbca1f7eabab1", func := "stadholder/stadholderlaw13.DueApart", spec := "dueApart", inPlace := ["math/bits.Add64"], unfollowed := true, recurses := true, apart := false }
def DueApartSaid : Prop := dueApartRow.holds Try.pinned (OpenSpec.ofChange dueApartSpec)

/-- ITS FALSE NEIGHBOUR: 'it returns false'. Refute it at one input. -/
def dueApartWrong : ChangeSpec := { name := "dueApart", fn := fun _ => fun
  | [d1, d2, d3, d4] => { results := [.lit (.bool false)], args := [d1, d2, d3, d4] }
  | _ => none }
def DueApartWrongFalsely : Prop := dueApartRow.holds Try.pinned (OpenSpec.ofChange dueApartWrong)

/-- 'stadholderlaw13.DueSeeds': WHATEVER THE INPUT: true; the input reads as it did. -/
def dueSeedsSpec : ChangeSpec := { name := "dueSeeds", fn := fun _ => fun
  | [d1, d2, d3] => { results := [.lit (.bool true)], args := [d1, d2, d3] }
  | _ => none }
def dueSeedsRow : OpenClaim := { program := "ytciiookcdkjegaa", sum := "8e2eb19df69a509388919c162cdf760f7705b73eed2ce309977fbca1f7eabab1", func := "stadholder/stadholderlaw13.DueSeeds", spec := "dueSeeds", inPlace := ["math/bits.Add64"], unfollowed := true, recurses := true, apart := false }
def DueSeedsSaid : Prop := dueSeedsRow.holds Try.pinned (OpenSpec.ofChange dueSeedsSpec)

/-- ITS FALSE NEIGHBOUR: 'it returns false'. Refute it at one input. -/
def dueSeedsWrong : ChangeSpec := { name := "dueSeeds", fn := fun _ => fun
  | [d1, d2, d3] => { results := [.lit (.bool false)], args := [d1, d2, d3] }
  | _ => none }
def DueSeedsWrongFalsely : Prop := dueSeedsRow.holds Try.pinned (OpenSpec.ofChange dueSeedsWrong)

/-- 'stadholderlaw14.PolicyHeld': WHATEVER THE INPUT: true; the input reads as it did. -/
def policyHeldSpec : ChangeSpec := { name := "policyHeld", fn := fun _ => fun
  | [d1, d2, d3] => { results := [.lit (.bool true)], args := [d1, d2, d3] }
  | _ => none }
def policyHeldRow : OpenClaim := { program := "ytciiookcdkjegaa", sum := "8e2eb19df69a509388919c162cdf760f7705b73eed2ce309977fbca1f7eabab1", func := "stadholder/stadholderlaw14.PolicyHeld", spec := "policyHeld", unfollowed := true, recurses := true, apart := false }
def PolicyHeldSaid : Prop := policyHeldRow.holds Try.pinned (OpenSpec.ofChange policyHeldSpec)

/-- ITS FALSE NEIGHBOUR: 'it returns false'. Refute it at one input. -/
def policyHeldWrong : ChangeSpec := { name := "policyHeld", fn := fun _ => fun
  | [d1, d2, d3] => { results := [.lit (.bool false)], args := [d1, d2, d3] }
  | _ => none }
def PolicyHeldWrongFalsely : Prop := policyHeldRow.holds Try.pinned (OpenSpec.ofChange policyHeldWrong)

/- THE SECOND FORM. 'bulk': how many values and letters a reading holds, each counted each time it is reached (what is shared counts as often as it is met; a slice's spare places count too). A statement '..UptoSaid' is the law's where the arguments, and the package variables that the reading takes, are together of bulk at most 1048576: NARROWER than '..Said'. Prove '..Said' where nothing that the law and all that it calls make is longer than what came in: it says more and counts as full. Else prove '..UptoSaid'. A law counts once. -/
mutual
def uptoBulk {H : Type} : DataW H → Nat
  | .lit (.string bytes) => bytes.length + 1
  | .lit _ => 1
  | .nil => 1
  | .ptr d => uptoBulk d + 1
  | .slice elems spare => uptoBulkAll elems + uptoBulkAll spare + 1
  | .agg parts => uptoBulkAll parts + 1
  | .iface _ d => uptoBulk d + 1
  | .map entries => uptoBulkEntries entries + 1
  | .held _ => 1
def uptoBulkAll {H : Type} : List (DataW H) → Nat
  | [] => 0
  | d :: r => uptoBulk d + uptoBulkAll r
def uptoBulkEntries {H : Type} : List (Lit × DataW H) → Nat
  | [] => 0
  | x :: r => uptoBulkEntry x + uptoBulkEntries r
def uptoBulkEntry {H : Type} : Lit × DataW H → Nat
  | (.string bytes, d) => bytes.length + uptoBulk d + 1
  | (_, d) => uptoBulk d + 1
 end
def uptoSmall : (H : Type) → List (DataW H) → Bool := fun _ ds => decide (uptoBulkAll ds ≤ 1048576)
def OpenSpec.upto (s : _root_.Go.ChangeSpec) : _root_.Go.OpenSpec := { _root_.Go.OpenSpec.ofChange s with cond := some uptoSmall }

/-- 'stadholderlaw11.StrideSeeds', WHERE WHAT IT READS IS OF BULK AT MOST 1048576: true; the input reads as it did. -/
def strideSeedsUptoRow : OpenClaim := { program := "ytciiookcdkjegaa", sum := "8e2eb19df69a509388919c162cdf760f7705b73eed2ce309977fbca1f7eabab1", func := "stadholder/stadholderlaw11.StrideSeeds", spec := "strideSeeds", unfollowed := true, recurses := true, apart := false, narrowed := true }
def StrideSeedsUptoSaid : Prop := strideSeedsUptoRow.holds Try.pinned (OpenSpec.upto strideSeedsSpec)

/-- 'stadholderlaw12.FairNear', WHERE WHAT IT READS IS OF BULK AT MOST 1048576: true; the input reads as it did. -/
def fairNearUptoRow : OpenClaim := { program := "ytciiookcdkjegaa", sum := "8e2eb19df69a509388919c162cdf760f7705b73eed2ce309977fbca1f7eabab1", func := "stadholder/stadholderlaw12.FairNear", spec := "fairNear", unfollowed := true, recurses := true, apart := false, narrowed := true }
def FairNearUptoSaid : Prop := fairNearUptoRow.holds Try.pinned (OpenSpec.upto fairNearSpec)

/-- 'stadholderlaw12.FairPlays', WHERE WHAT IT READS IS OF BULK AT MOST 1048576: true; the input reads as it did. -/
def fairPlaysUptoRow : OpenClaim := { program := "ytciiookcdkjegaa", sum := "8e2eb19df69a509388919c162cdf760f7705b73eed2ce309977fbca1f7eabab1", func := "stadholder/stadholderlaw12.FairPlays", spec := "fairPlays", unfollowed := true, recurses := true, apart := false, narrowed := true }
def FairPlaysUptoSaid : Prop := fairPlaysUptoRow.holds Try.pinned (OpenSpec.upto fairPlaysSpec)

/-- 'stadholderlaw12.FairGood', WHERE WHAT IT READS IS OF BULK AT MOST 1048576: true; the input reads as it did. -/
def fairGoodUptoRow : OpenClaim := { program := "ytciiookcdkjegaa", sum := "8e2eb19df69a509388919c162cdf760f7705b73eed2ce309977fbca1f7eabab1", func := "stadholder/stadholderlaw12.FairGood", spec := "fairGood", unfollowed := true, recurses := true, apart := false, narrowed := true }
def FairGoodUptoSaid : Prop := fairGoodUptoRow.holds Try.pinned (OpenSpec.upto fairGoodSpec)

/-- 'stadholderlaw12.FairApart', WHERE WHAT IT READS IS OF BULK AT MOST 1048576: true; the input reads as it did. -/
def fairApartUptoRow : OpenClaim := { program := "ytciiookcdkjegaa", sum := "8e2eb19df69a509388919c162cdf760f7705b73eed2ce309977fbca1f7eabab1", func := "stadholder/stadholderlaw12.FairApart", spec := "fairApart", unfollowed := true, recurses := true, apart := false, narrowed := true }
def FairApartUptoSaid : Prop := fairApartUptoRow.holds Try.pinned (OpenSpec.upto fairApartSpec)

/-- 'stadholderlaw12.FairSeeds', WHERE WHAT IT READS IS OF BULK AT MOST 1048576: true; the input reads as it did. -/
def fairSeedsUptoRow : OpenClaim := { program := "ytciiookcdkjegaa", sum := "8e2eb19df69a509388919c162cdf760f7705b73eed2ce309977fbca1f7eabab1", func := "stadholder/stadholderlaw12.FairSeeds", spec := "fairSeeds", unfollowed := true, recurses := true, apart := false, narrowed := true }
def FairSeedsUptoSaid : Prop := fairSeedsUptoRow.holds Try.pinned (OpenSpec.upto fairSeedsSpec)

/-- 'stadholderlaw13.DueNear', WHERE WHAT IT READS IS OF BULK AT MOST 1048576: true; the input reads as it did. -/
def dueNearUptoRow : OpenClaim := { program := "ytciiookcdkjegaa", sum := "8e2eb19df69a509388919c162cdf760f7705b73eed2ce309977fbca1f7eabab1", func := "stadholder/stadholderlaw13.DueNear", spec := "dueNear", inPlace := ["math/bits.Add64"], unfollowed := true, recurses := true, apart := false, narrowed := true }
def DueNearUptoSaid : Prop := dueNearUptoRow.holds Try.pinned (OpenSpec.upto dueNearSpec)

/-- 'stadholderlaw13.DuePlays', WHERE WHAT IT READS IS OF BULK AT MOST 1048576: true; the input reads as it did. -/
def duePlaysUptoRow : OpenClaim := { program := "ytciiookcdkjegaa", sum := "8e2eb19df69a509388919c162cdf760f7705b73eed2ce309977fbca1f7eabab1", func := "stadholder/stadholderlaw13.DuePlays", spec := "duePlays", inPlace := ["math/bits.Add64"], unfollowed := true, recurses := true, apart := false, narrowed := true }
def DuePlaysUptoSaid : Prop := duePlaysUptoRow.holds Try.pinned (OpenSpec.upto duePlaysSpec)

/-- 'stadholderlaw13.DueGood', WHERE WHAT IT READS IS OF BULK AT MOST 1048576: true; the input reads as it did. -/
def dueGoodUptoRow : OpenClaim := { program := "ytciiookcdkjegaa", sum := "8e2eb19df69a509388919c162cdf760f7705b73eed2ce309977fbca1f7eabab1", func := "stadholder/stadholderlaw13.DueGood", spec := "dueGood", inPlace := ["math/bits.Add64"], unfollowed := true, recurses := true, apart := false, narrowed := true }
def DueGoodUptoSaid : Prop := dueGoodUptoRow.holds Try.pinned (OpenSpec.upto dueGoodSpec)

/-- 'stadholderlaw13.DueApart', WHERE WHAT IT READS IS OF BULK AT MOST 1048576: true; the input reads as it did. -/
def dueApartUptoRow : OpenClaim := { program := "ytciiookcdkjegaa", sum := "8e2eb19df69a509388919c162cdf760f7705b73eed2ce309977fbca1f7eabab1", func := "stadholder/stadholderlaw13.DueApart", spec := "dueApart", inPlace := ["math/bits.Add64"], unfollowed := true, recurses := true, apart := false, narrowed := true }
def DueApartUptoSaid : Prop := dueApartUptoRow.holds Try.pinned (OpenSpec.upto dueApartSpec)

/-- 'stadholderlaw13.DueSeeds', WHERE WHAT IT READS IS OF BULK AT MOST 1048576: true; the input reads as it did. -/
def dueSeedsUptoRow : OpenClaim := { program := "ytciiookcdkjegaa", sum := "8e2eb19df69a509388919c162cdf760f7705b73eed2ce309977fbca1f7eabab1", func := "stadholder/stadholderlaw13.DueSeeds", spec := "dueSeeds", inPlace := ["math/bits.Add64"], unfollowed := true, recurses := true, apart := false, narrowed := true }
def DueSeedsUptoSaid : Prop := dueSeedsUptoRow.holds Try.pinned (OpenSpec.upto dueSeedsSpec)

/-- 'stadholderlaw14.PolicyHeld', WHERE WHAT IT READS IS OF BULK AT MOST 1048576: true; the input reads as it did. -/
def policyHeldUptoRow : OpenClaim := { program := "ytciiookcdkjegaa", sum := "8e2eb19df69a509388919c162cdf760f7705b73eed2ce309977fbca1f7eabab1", func := "stadholder/stadholderlaw14.PolicyHeld", spec := "policyHeld", unfollowed := true, recurses := true, apart := false, narrowed := true }
def PolicyHeldUptoSaid : Prop := policyHeldUptoRow.holds Try.pinned (OpenSpec.upto policyHeldSpec)

end Rows
end Go.Proofs.Ytciiookcdkjegaa
