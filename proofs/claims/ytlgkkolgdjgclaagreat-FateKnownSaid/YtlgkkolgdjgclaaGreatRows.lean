/-
  No cell of these rows narrows 'for every input' (looked for: loops, veiled, ifaces, maps, wideKeys, modest, calm, conditions, laid).
  DERIVED. THE GIVEN ROWS OF THIS SEAT. 8 by the template 'for every input the law returns true; each argument reads behind the call as it read before'; 0 by the template 'total and deterministic' (their statements: YtlgkkolgdjgclaaGreatTotals.lean).
  GIVEN WITH THE SEED: the statements are not yours to turn. If you find one false, say at which input.
  Laid BY PROGRAM, IN A SANDBOX (cutbox-rows.mjs): the forced cells as the released guide's own fill.sh prints them over the translation 494466faeba0c843… (all of the seat's roots in one cut). By AI agents, Wed Nov 11 2026. No macro, syntax, notation, axiom, sorry.
-/
import Derived.Test.YtlgkkolgdjgclaaGreatChecked
import GoSem.Claim
import GoSem.ClaimJoined
import GoSem.ClaimMapViews
import Derived.JoinedTies
import Derived.KernelRfl
namespace Go.Proofs.YtlgkkolgdjgclaaGreat
/- THE CELL 'sum', in the pinned program and in every row, IS THE sha256 OF THE DUMP (.gsa) THAT YtlgkkolgdjgclaaGreatProg.lean LOADS. Nothing in Lean hashes anything: it is a label: what it is worth is what the hold of that sum in a sandbox is worth. -/
noncomputable def Tryz.pinned : Pinned := { name := "ytlgkkolgdjgclaagreat", sum := "494466faeba0c84332dc94a9eb79090fb08d830971f8db89caf57ce3d1aaf813", checked := Tryz.checked }
namespace Rows
def none {H : Type} : Left H := { results := [], args := [] }

/-- 'stadholderlaw24.SwapOthers': WHATEVER THE INPUT: true; the input reads as it did. -/
def swapOthersSpec : ChangeSpec := { name := "swapOthers", fn := fun _ => fun
  | [d1, d2, d3, d4] => { results := [.lit (.bool true)], args := [d1, d2, d3, d4] }
  | _ => none }
def swapOthersRow : OpenClaim := { program := "ytlgkkolgdjgclaagreat", sum := "494466faeba0c84332dc94a9eb79090fb08d830971f8db89caf57ce3d1aaf813", func := "stadholder/stadholderlaw24.SwapOthers", spec := "swapOthers", unfollowed := true, recurses := true, apart := false }
def SwapOthersSaid : Prop := swapOthersRow.holds Tryz.pinned (OpenSpec.ofChange swapOthersSpec)

/-- ITS FALSE NEIGHBOUR: 'it returns false'. Refute it at one input. -/
def swapOthersWrong : ChangeSpec := { name := "swapOthers", fn := fun _ => fun
  | [d1, d2, d3, d4] => { results := [.lit (.bool false)], args := [d1, d2, d3, d4] }
  | _ => none }
def SwapOthersWrongFalsely : Prop := swapOthersRow.holds Tryz.pinned (OpenSpec.ofChange swapOthersWrong)

/-- 'stadholderlaw26.FateSum': WHATEVER THE INPUT: true; the input reads as it did. -/
def fateSumSpec : ChangeSpec := { name := "fateSum", fn := fun _ => fun
  | [d1, d2, d3, d4, d5, d6] => { results := [.lit (.bool true)], args := [d1, d2, d3, d4, d5, d6] }
  | _ => none }
def fateSumRow : OpenClaim := { program := "ytlgkkolgdjgclaagreat", sum := "494466faeba0c84332dc94a9eb79090fb08d830971f8db89caf57ce3d1aaf813", func := "stadholder/stadholderlaw26.FateSum", spec := "fateSum", unfollowed := true, recurses := true, apart := false }
def FateSumSaid : Prop := fateSumRow.holds Tryz.pinned (OpenSpec.ofChange fateSumSpec)

/-- ITS FALSE NEIGHBOUR: 'it returns false'. Refute it at one input. -/
def fateSumWrong : ChangeSpec := { name := "fateSum", fn := fun _ => fun
  | [d1, d2, d3, d4, d5, d6] => { results := [.lit (.bool false)], args := [d1, d2, d3, d4, d5, d6] }
  | _ => none }
def FateSumWrongFalsely : Prop := fateSumRow.holds Tryz.pinned (OpenSpec.ofChange fateSumWrong)

/-- 'stadholderlaw26.FateKnown': WHATEVER THE INPUT: true; the input reads as it did. -/
def fateKnownSpec : ChangeSpec := { name := "fateKnown", fn := fun _ => fun
  | [] => { results := [.lit (.bool true)], args := [] }
  | _ => none }
def fateKnownRow : OpenClaim := { program := "ytlgkkolgdjgclaagreat", sum := "494466faeba0c84332dc94a9eb79090fb08d830971f8db89caf57ce3d1aaf813", func := "stadholder/stadholderlaw26.FateKnown", spec := "fateKnown", unfollowed := true, recurses := true, apart := false }
def FateKnownSaid : Prop := fateKnownRow.holds Tryz.pinned (OpenSpec.ofChange fateKnownSpec)

/-- ITS FALSE NEIGHBOUR: 'it returns false'. Refute it at one input. -/
def fateKnownWrong : ChangeSpec := { name := "fateKnown", fn := fun _ => fun
  | [] => { results := [.lit (.bool false)], args := [] }
  | _ => none }
def FateKnownWrongFalsely : Prop := fateKnownRow.holds Tryz.pinned (OpenSpec.ofChange fateKnownWrong)

/-- 'stadholderlaw26.FateAgain': WHATEVER THE INPUT: true; the input reads as it did. -/
def fateAgainSpec : ChangeSpec := { name := "fateAgain", fn := fun _ => fun
  | [d1, d2, d3, d4] => { results := [.lit (.bool true)], args := [d1, d2, d3, d4] }
  | _ => none }
def fateAgainRow : OpenClaim := { program := "ytlgkkolgdjgclaagreat", sum := "494466faeba0c84332dc94a9eb79090fb08d830971f8db89caf57ce3d1aaf813", func := "stadholder/stadholderlaw26.FateAgain", spec := "fateAgain", unfollowed := true, recurses := true, apart := false }
def FateAgainSaid : Prop := fateAgainRow.holds Tryz.pinned (OpenSpec.ofChange fateAgainSpec)

/-- ITS FALSE NEIGHBOUR: 'it returns false'. Refute it at one input. -/
def fateAgainWrong : ChangeSpec := { name := "fateAgain", fn := fun _ => fun
  | [d1, d2, d3, d4] => { results := [.lit (.bool false)], args := [d1, d2, d3, d4] }
  | _ => none }
def FateAgainWrongFalsely : Prop := fateAgainRow.holds Tryz.pinned (OpenSpec.ofChange fateAgainWrong)

/-- 'stadholderlaw24.SwapWait': WHATEVER THE INPUT: true; the input reads as it did. -/
def swapWaitSpec : ChangeSpec := { name := "swapWait", fn := fun _ => fun
  | [d1, d2, d3, d4, d5] => { results := [.lit (.bool true)], args := [d1, d2, d3, d4, d5] }
  | _ => none }
def swapWaitRow : OpenClaim := { program := "ytlgkkolgdjgclaagreat", sum := "494466faeba0c84332dc94a9eb79090fb08d830971f8db89caf57ce3d1aaf813", func := "stadholder/stadholderlaw24.SwapWait", spec := "swapWait", unfollowed := true, recurses := true, apart := false }
def SwapWaitSaid : Prop := swapWaitRow.holds Tryz.pinned (OpenSpec.ofChange swapWaitSpec)

/-- ITS FALSE NEIGHBOUR: 'it returns false'. Refute it at one input. -/
def swapWaitWrong : ChangeSpec := { name := "swapWait", fn := fun _ => fun
  | [d1, d2, d3, d4, d5] => { results := [.lit (.bool false)], args := [d1, d2, d3, d4, d5] }
  | _ => none }
def SwapWaitWrongFalsely : Prop := swapWaitRow.holds Tryz.pinned (OpenSpec.ofChange swapWaitWrong)

/-- 'stadholderlaw24.SwapKnown': WHATEVER THE INPUT: true; the input reads as it did. -/
def swapKnownSpec : ChangeSpec := { name := "swapKnown", fn := fun _ => fun
  | [] => { results := [.lit (.bool true)], args := [] }
  | _ => none }
def swapKnownRow : OpenClaim := { program := "ytlgkkolgdjgclaagreat", sum := "494466faeba0c84332dc94a9eb79090fb08d830971f8db89caf57ce3d1aaf813", func := "stadholder/stadholderlaw24.SwapKnown", spec := "swapKnown", unfollowed := true, recurses := true, apart := false }
def SwapKnownSaid : Prop := swapKnownRow.holds Tryz.pinned (OpenSpec.ofChange swapKnownSpec)

/-- ITS FALSE NEIGHBOUR: 'it returns false'. Refute it at one input. -/
def swapKnownWrong : ChangeSpec := { name := "swapKnown", fn := fun _ => fun
  | [] => { results := [.lit (.bool false)], args := [] }
  | _ => none }
def SwapKnownWrongFalsely : Prop := swapKnownRow.holds Tryz.pinned (OpenSpec.ofChange swapKnownWrong)

/-- 'stadholderlaw24.SwapPlays': WHATEVER THE INPUT: true; the input reads as it did. -/
def swapPlaysSpec : ChangeSpec := { name := "swapPlays", fn := fun _ => fun
  | [d1, d2, d3] => { results := [.lit (.bool true)], args := [d1, d2, d3] }
  | _ => none }
def swapPlaysRow : OpenClaim := { program := "ytlgkkolgdjgclaagreat", sum := "494466faeba0c84332dc94a9eb79090fb08d830971f8db89caf57ce3d1aaf813", func := "stadholder/stadholderlaw24.SwapPlays", spec := "swapPlays", unfollowed := true, recurses := true, apart := false }
def SwapPlaysSaid : Prop := swapPlaysRow.holds Tryz.pinned (OpenSpec.ofChange swapPlaysSpec)

/-- ITS FALSE NEIGHBOUR: 'it returns false'. Refute it at one input. -/
def swapPlaysWrong : ChangeSpec := { name := "swapPlays", fn := fun _ => fun
  | [d1, d2, d3] => { results := [.lit (.bool false)], args := [d1, d2, d3] }
  | _ => none }
def SwapPlaysWrongFalsely : Prop := swapPlaysRow.holds Tryz.pinned (OpenSpec.ofChange swapPlaysWrong)

/-- 'stadholderlaw26.FateSafe': WHATEVER THE INPUT: true; the input reads as it did. -/
def fateSafeSpec : ChangeSpec := { name := "fateSafe", fn := fun _ => fun
  | [d1, d2, d3, d4, d5] => { results := [.lit (.bool true)], args := [d1, d2, d3, d4, d5] }
  | _ => none }
def fateSafeRow : OpenClaim := { program := "ytlgkkolgdjgclaagreat", sum := "494466faeba0c84332dc94a9eb79090fb08d830971f8db89caf57ce3d1aaf813", func := "stadholder/stadholderlaw26.FateSafe", spec := "fateSafe", unfollowed := true, recurses := true, apart := false }
def FateSafeSaid : Prop := fateSafeRow.holds Tryz.pinned (OpenSpec.ofChange fateSafeSpec)

/-- ITS FALSE NEIGHBOUR: 'it returns false'. Refute it at one input. -/
def fateSafeWrong : ChangeSpec := { name := "fateSafe", fn := fun _ => fun
  | [d1, d2, d3, d4, d5] => { results := [.lit (.bool false)], args := [d1, d2, d3, d4, d5] }
  | _ => none }
def FateSafeWrongFalsely : Prop := fateSafeRow.holds Tryz.pinned (OpenSpec.ofChange fateSafeWrong)

/- THE SECOND FORM. 'bulk': how many values and letters a reading holds, each counted each time it is reached (what is shared counts as often as it is met; a slice's spare places count too). A statement '..UptoSaid' is the law's where the arguments, and the package variables that the reading takes, are together of bulk at most 1048576: NARROWER than '..Said'. Prove '..Said' where nothing that the law and all that it calls make is longer than what came in: it says more and counts as full. Else prove '..UptoSaid'. A law counts once. -/
mutual
def uptoBulk {H : Type} : DataW H → Nat
  | .lit (.string bytes) => bytes.length + 1
  | .lit _ => 1
  | .nil => 1
  | .ptr d => uptoBulk d + 1
  | .slice elems spare => uptoBulkAll elems + uptoBulkAll spare + 1
  | .agg parts => uptoBulkAll parts + 1
  | .iface _ d => uptoBulk d + 1
  | .map entries => uptoBulkEntries entries + 1
  | .held _ => 1
def uptoBulkAll {H : Type} : List (DataW H) → Nat
  | [] => 0
  | d :: r => uptoBulk d + uptoBulkAll r
def uptoBulkEntries {H : Type} : List (Lit × DataW H) → Nat
  | [] => 0
  | x :: r => uptoBulkEntry x + uptoBulkEntries r
def uptoBulkEntry {H : Type} : Lit × DataW H → Nat
  | (.string bytes, d) => bytes.length + uptoBulk d + 1
  | (_, d) => uptoBulk d + 1
 end
def uptoSmall : (H : Type) → List (DataW H) → Bool := fun _ ds => decide (uptoBulkAll ds ≤ 1048576)
def OpenSpec.upto (s : _root_.Go.ChangeSpec) : _root_.Go.OpenSpec := { _root_.Go.OpenSpec.ofChange s with cond := some uptoSmall }

/-- 'stadholderlaw24.SwapOthers', WHERE WHAT IT READS IS OF BULK AT MOST 1048576: true; the input reads as it did. -/
def swapOthersUptoRow : OpenClaim := { program := "ytlgkkolgdjgclaagreat", sum := "494466faeba0c84332dc94a9eb79090fb08d830971f8db89caf57ce3d1aaf813", func := "stadholder/stadholderlaw24.SwapOthers", spec := "swapOthers", unfollowed := true, recurses := true, apart := false, narrowed := true }
def SwapOthersUptoSaid : Prop := swapOthersUptoRow.holds Tryz.pinned (OpenSpec.upto swapOthersSpec)

/-- 'stadholderlaw26.FateSum', WHERE WHAT IT READS IS OF BULK AT MOST 1048576: true; the input reads as it did. -/
def fateSumUptoRow : OpenClaim := { program := "ytlgkkolgdjgclaagreat", sum := "494466faeba0c84332dc94a9eb79090fb08d830971f8db89caf57ce3d1aaf813", func := "stadholder/stadholderlaw26.FateSum", spec := "fateSum", unfollowed := true, recurses := true, apart := false, narrowed := true }
def FateSumUptoSaid : Prop := fateSumUptoRow.holds Tryz.pinned (OpenSpec.upto fateSumSpec)

/-- 'stadholderlaw26.FateKnown', WHERE WHAT IT READS IS OF BULK AT MOST 1048576: true; the input reads as it did. -/
def fateKnownUptoRow : OpenClaim := { program := "ytlgkkolgdjgclaagreat", sum := "494466faeba0c84332dc94a9eb79090fb08d830971f8db89caf57ce3d1aaf813", func := "stadholder/stadholderlaw26.FateKnown", spec := "fateKnown", unfollowed := true, recurses := true, apart := false, narrowed := true }
def FateKnownUptoSaid : Prop := fateKnownUptoRow.holds Tryz.pinned (OpenSpec.upto fateKnownSpec)

/-- 'stadholderlaw26.FateAgain', WHERE WHAT IT READS IS OF BULK AT MOST 1048576: true; the input reads as it did. -/
def fateAgainUptoRow : OpenClaim := { program := "ytlgkkolgdjgclaagreat", sum := "494466faeba0c84332dc94a9eb79090fb08d830971f8db89caf57ce3d1aaf813", func := "stadholder/stadholderlaw26.FateAgain", spec := "fateAgain", unfollowed := true, recurses := true, apart := false, narrowed := true }
def FateAgainUptoSaid : Prop := fateAgainUptoRow.holds Tryz.pinned (OpenSpec.upto fateAgainSpec)

/-- 'stadholderlaw24.SwapWait', WHERE WHAT IT READS IS OF BULK AT MOST 1048576: true; the input reads as it did. -/
def swapWaitUptoRow : OpenClaim := { program := "ytlgkkolgdjgclaagreat", sum := "494466faeba0c84332dc94a9eb79090fb08d830971f8db89caf57ce3d1aaf813", func := "stadholder/stadholderlaw24.SwapWait", spec := "swapWait", unfollowed := true, recurses := true, apart := false, narrowed := true }
def SwapWaitUptoSaid : Prop := swapWaitUptoRow.holds Tryz.pinned (OpenSpec.upto swapWaitSpec)

/-- 'stadholderlaw24.SwapKnown', WHERE WHAT IT READS IS OF BULK AT MOST 1048576: true; the input reads as it did. -/
def swapKnownUptoRow : OpenClaim := { program := "ytlgkkolgdjgclaagreat", sum := "494466faeba0c84332dc94a9eb79090fb08d830971f8db89caf57ce3d1aaf813", func := "stadholder/stadholderlaw24.SwapKnown", spec := "swapKnown", unfollowed := true, recurses := true, apart := false, narrowed := true }
def SwapKnownUptoSaid : Prop := swapKnownUptoRow.holds Tryz.pinned (OpenSpec.upto swapKnownSpec)

/-- 'stadholderlaw24.SwapPlays', WHERE WHAT IT READS IS OF BULK AT MOST 1048576: true; the input reads as it did. -/
def swapPlaysUptoRow : OpenClaim := { program := "ytlgkkolgdjgclaagreat", sum := "494466faeba0c84332dc94a9eb79090fb08d830971f8db89caf57ce3d1aaf813", func := "stadholder/stadholderlaw24.SwapPlays", spec := "swapPlays", unfollowed := true, recurses := true, apart := false, narrowed := true }
def SwapPlaysUptoSaid : Prop := swapPlaysUptoRow.holds Tryz.pinned (OpenSpec.upto swapPlaysSpec)

/-- 'stadholderlaw26.FateSafe', WHERE WHAT IT READS IS OF BULK AT MOST 1048576: true; the input reads as it did. -/
def fateSafeUptoRow : OpenClaim := { program := "ytlgkkolgdjgclaagreat", sum := "494466faeba0c84332dc94a9eb79090fb08d830971f8db89caf57ce3d1aaf813", func := "stadholder/stadholderlaw26.FateSafe", spec := "fateSafe", unfollowed := true, recurses := true, apart := false, narrowed := true }
def FateSafeUptoSaid : Prop := fateSafeUptoRow.holds Tryz.pinned (OpenSpec.upto fateSafeSpec)

end Rows
end Go.Proofs.YtlgkkolgdjgclaaGreat
