/-
  No cell of these rows narrows 'for every input' (looked for: loops, veiled, ifaces, maps, wideKeys, modest, calm, conditions, laid).
  DERIVED. THE GIVEN ROWS OF THIS SEAT. 5 by the template 'for every input the law returns true; each argument reads behind the call as it read before'; 0 by the template 'total and deterministic' (their statements: YthdilellcaebfaaGreatTotals.lean).
  GIVEN WITH THE SEED: the statements are not yours to turn. If you find one false, say at which input.
  Laid BY PROGRAM, IN A SANDBOX (cutbox-rows.mjs): the forced cells as the released guide's own fill.sh prints them over the translation 1de16d0a7d460dac… (all of the seat's roots in one cut). By AI agents, Wed Nov 11 2026. No macro, syntax, notation, axiom, sorry.
-/
import Derived.Test.YthdilellcaebfaaGreatChecked
import GoSem.Claim
import GoSem.ClaimJoined
import GoSem.ClaimMapViews
import Derived.JoinedTies
import Derived.KernelRfl
namespace Go.Proofs.YthdilellcaebfaaGreat
/- THE CELL 'sum', in the pinned program and in every row, IS THE sha256 OF THE DUMP (.gsa) THAT YthdilellcaebfaaGreatProg.lean LOADS. Nothing in Lean hashes anything: it is a label: what it is worth is what the hold of that sum in a sandbox is worth. -/
noncomputable def Tryz.pinned : Pinned := { name := "ythdilellcaebfaagreat", sum := "1de16d0a7d460dac4892a6e8f0005bacf5cc8736a7b0bd28526b579fb58529fc", checked := Tryz.checked }
namespace Rows
def none {H : Type} : Left H := { results := [], args := [] }

/-- 'stadholderlaw23.SysMoves': WHATEVER THE INPUT: true; the input reads as it did. -/
def sysMovesSpec : ChangeSpec := { name := "sysMoves", fn := fun _ => fun
  | [d1, d2, d3, d4, d5] => { results := [.lit (.bool true)], args := [d1, d2, d3, d4, d5] }
  | _ => none }
def sysMovesRow : OpenClaim := { program := "ythdilellcaebfaagreat", sum := "1de16d0a7d460dac4892a6e8f0005bacf5cc8736a7b0bd28526b579fb58529fc", func := "stadholder/stadholderlaw23.SysMoves", spec := "sysMoves", unfollowed := true, recurses := true, apart := false }
def SysMovesSaid : Prop := sysMovesRow.holds Tryz.pinned (OpenSpec.ofChange sysMovesSpec)

/-- ITS FALSE NEIGHBOUR: 'it returns false'. Refute it at one input. -/
def sysMovesWrong : ChangeSpec := { name := "sysMoves", fn := fun _ => fun
  | [d1, d2, d3, d4, d5] => { results := [.lit (.bool false)], args := [d1, d2, d3, d4, d5] }
  | _ => none }
def SysMovesWrongFalsely : Prop := sysMovesRow.holds Tryz.pinned (OpenSpec.ofChange sysMovesWrong)

/-- 'stadholderlaw23.SysNames': WHATEVER THE INPUT: true; the input reads as it did. -/
def sysNamesSpec : ChangeSpec := { name := "sysNames", fn := fun _ => fun
  | [d] => { results := [.lit (.bool true)], args := [d] }
  | _ => none }
def sysNamesRow : OpenClaim := { program := "ythdilellcaebfaagreat", sum := "1de16d0a7d460dac4892a6e8f0005bacf5cc8736a7b0bd28526b579fb58529fc", func := "stadholder/stadholderlaw23.SysNames", spec := "sysNames", unfollowed := true, recurses := true, apart := false }
def SysNamesSaid : Prop := sysNamesRow.holds Tryz.pinned (OpenSpec.ofChange sysNamesSpec)

/-- ITS FALSE NEIGHBOUR: 'it returns false'. Refute it at one input. -/
def sysNamesWrong : ChangeSpec := { name := "sysNames", fn := fun _ => fun
  | [d] => { results := [.lit (.bool false)], args := [d] }
  | _ => none }
def SysNamesWrongFalsely : Prop := sysNamesRow.holds Tryz.pinned (OpenSpec.ofChange sysNamesWrong)

/-- 'stadholderlaw23.SysHolds': WHATEVER THE INPUT: true; the input reads as it did. -/
def sysHoldsSpec : ChangeSpec := { name := "sysHolds", fn := fun _ => fun
  | [d1, d2, d3, d4, d5] => { results := [.lit (.bool true)], args := [d1, d2, d3, d4, d5] }
  | _ => none }
def sysHoldsRow : OpenClaim := { program := "ythdilellcaebfaagreat", sum := "1de16d0a7d460dac4892a6e8f0005bacf5cc8736a7b0bd28526b579fb58529fc", func := "stadholder/stadholderlaw23.SysHolds", spec := "sysHolds", unfollowed := true, recurses := true, apart := false }
def SysHoldsSaid : Prop := sysHoldsRow.holds Tryz.pinned (OpenSpec.ofChange sysHoldsSpec)

/-- ITS FALSE NEIGHBOUR: 'it returns false'. Refute it at one input. -/
def sysHoldsWrong : ChangeSpec := { name := "sysHolds", fn := fun _ => fun
  | [d1, d2, d3, d4, d5] => { results := [.lit (.bool false)], args := [d1, d2, d3, d4, d5] }
  | _ => none }
def SysHoldsWrongFalsely : Prop := sysHoldsRow.holds Tryz.pinned (OpenSpec.ofChange sysHoldsWrong)

/-- 'stadholderlaw23.SysKnown': WHATEVER THE INPUT: true; the input reads as it did. -/
def sysKnownSpec : ChangeSpec := { name := "sysKnown", fn := fun _ => fun
  | [] => { results := [.lit (.bool true)], args := [] }
  | _ => none }
def sysKnownRow : OpenClaim := { program := "ythdilellcaebfaagreat", sum := "1de16d0a7d460dac4892a6e8f0005bacf5cc8736a7b0bd28526b579fb58529fc", func := "stadholder/stadholderlaw23.SysKnown", spec := "sysKnown", unfollowed := true, recurses := true, apart := false }
def SysKnownSaid : Prop := sysKnownRow.holds Tryz.pinned (OpenSpec.ofChange sysKnownSpec)

/-- ITS FALSE NEIGHBOUR: 'it returns false'. Refute it at one input. -/
def sysKnownWrong : ChangeSpec := { name := "sysKnown", fn := fun _ => fun
  | [] => { results := [.lit (.bool false)], args := [] }
  | _ => none }
def SysKnownWrongFalsely : Prop := sysKnownRow.holds Tryz.pinned (OpenSpec.ofChange sysKnownWrong)

/-- 'stadholderlaw23.SysPlays': WHATEVER THE INPUT: true; the input reads as it did. -/
def sysPlaysSpec : ChangeSpec := { name := "sysPlays", fn := fun _ => fun
  | [d1, d2] => { results := [.lit (.bool true)], args := [d1, d2] }
  | _ => none }
def sysPlaysRow : OpenClaim := { program := "ythdilellcaebfaagreat", sum := "1de16d0a7d460dac4892a6e8f0005bacf5cc8736a7b0bd28526b579fb58529fc", func := "stadholder/stadholderlaw23.SysPlays", spec := "sysPlays", unfollowed := true, recurses := true, apart := false }
def SysPlaysSaid : Prop := sysPlaysRow.holds Tryz.pinned (OpenSpec.ofChange sysPlaysSpec)

/-- ITS FALSE NEIGHBOUR: 'it returns false'. Refute it at one input. -/
def sysPlaysWrong : ChangeSpec := { name := "sysPlays", fn := fun _ => fun
  | [d1, d2] => { results := [.lit (.bool false)], args := [d1, d2] }
  | _ => none }
def SysPlaysWrongFalsely : Prop := sysPlaysRow.holds Tryz.pinned (OpenSpec.ofChange sysPlaysWrong)

/- THE SECOND FORM. 'bulk': how many values and letters a reading holds, each counted each time it is reached (what is shared counts as often as it is met; a slice's spare places count too). A statement '..UptoSaid' is the law's where the arguments, and the package variables that the reading takes, are together of bulk at most 1048576: NARROWER than '..Said'. Prove '..Said' where nothing that the law and all that it calls make is longer than what came in: it says more and counts as full. Else prove '..UptoSaid'. A law counts once. -/
mutual
def uptoBulk {H : Type} : DataW H → Nat
  | .lit (.string bytes) => bytes.length + 1
  | .lit _ => 1
  | .nil => 1
  | .ptr d => uptoBulk d + 1
  | .slice elems spare => uptoBulkAll elems + uptoBulkAll spare + 1
  | .agg parts => uptoBulkAll parts + 1
  | .iface _ d => uptoBulk d + 1
  | .map entries => uptoBulkEntries entries + 1
  | .held _ => 1
def uptoBulkAll {H : Type} : List (DataW H) → Nat
  | [] => 0
  | d :: r => uptoBulk d + uptoBulkAll r
def uptoBulkEntries {H : Type} : List (Lit × DataW H) → Nat
  | [] => 0
  | x :: r => uptoBulkEntry x + uptoBulkEntries r
def uptoBulkEntry {H : Type} : Lit × DataW H → Nat
  | (.string bytes, d) => bytes.length + uptoBulk d + 1
  | (_, d) => uptoBulk d + 1
 end
def uptoSmall : (H : Type) → List (DataW H) → Bool := fun _ ds => decide (uptoBulkAll ds ≤ 1048576)
def OpenSpec.upto (s : _root_.Go.ChangeSpec) : _root_.Go.OpenSpec := { _root_.Go.OpenSpec.ofChange s with cond := some uptoSmall }

/-- 'stadholderlaw23.SysMoves', WHERE WHAT IT READS IS OF BULK AT MOST 1048576: true; the input reads as it did. -/
def sysMovesUptoRow : OpenClaim := { program := "ythdilellcaebfaagreat", sum := "1de16d0a7d460dac4892a6e8f0005bacf5cc8736a7b0bd28526b579fb58529fc", func := "stadholder/stadholderlaw23.SysMoves", spec := "sysMoves", unfollowed := true, recurses := true, apart := false, narrowed := true }
def SysMovesUptoSaid : Prop := sysMovesUptoRow.holds Tryz.pinned (OpenSpec.upto sysMovesSpec)

/-- 'stadholderlaw23.SysNames', WHERE WHAT IT READS IS OF BULK AT MOST 1048576: true; the input reads as it did. -/
def sysNamesUptoRow : OpenClaim := { program := "ythdilellcaebfaagreat", sum := "1de16d0a7d460dac4892a6e8f0005bacf5cc8736a7b0bd28526b579fb58529fc", func := "stadholder/stadholderlaw23.SysNames", spec := "sysNames", unfollowed := true, recurses := true, apart := false, narrowed := true }
def SysNamesUptoSaid : Prop := sysNamesUptoRow.holds Tryz.pinned (OpenSpec.upto sysNamesSpec)

/-- 'stadholderlaw23.SysHolds', WHERE WHAT IT READS IS OF BULK AT MOST 1048576: true; the input reads as it did. -/
def sysHoldsUptoRow : OpenClaim := { program := "ythdilellcaebfaagreat", sum := "1de16d0a7d460dac4892a6e8f0005bacf5cc8736a7b0bd28526b579fb58529fc", func := "stadholder/stadholderlaw23.SysHolds", spec := "sysHolds", unfollowed := true, recurses := true, apart := false, narrowed := true }
def SysHoldsUptoSaid : Prop := sysHoldsUptoRow.holds Tryz.pinned (OpenSpec.upto sysHoldsSpec)

/-- 'stadholderlaw23.SysKnown', WHERE WHAT IT READS IS OF BULK AT MOST 1048576: true; the input reads as it did. -/
def sysKnownUptoRow : OpenClaim := { program := "ythdilellcaebfaagreat", sum := "1de16d0a7d460dac4892a6e8f0005bacf5cc8736a7b0bd28526b579fb58529fc", func := "stadholder/stadholderlaw23.SysKnown", spec := "sysKnown", unfollowed := true, recurses := true, apart := false, narrowed := true }
def SysKnownUptoSaid : Prop := sysKnownUptoRow.holds Tryz.pinned (OpenSpec.upto sysKnownSpec)

/-- 'stadholderlaw23.SysPlays', WHERE WHAT IT READS IS OF BULK AT MOST 1048576: true; the input reads as it did. -/
def sysPlaysUptoRow : OpenClaim := { program := "ythdilellcaebfaagreat", sum := "1de16d0a7d460dac4892a6e8f0005bacf5cc8736a7b0bd28526b579fb58529fc", func := "stadholder/stadholderlaw23.SysPlays", spec := "sysPlays", unfollowed := true, recurses := true, apart := false, narrowed := true }
def SysPlaysUptoSaid : Prop := sysPlaysUptoRow.holds Tryz.pinned (OpenSpec.upto sysPlaysSpec)

end Rows
end Go.Proofs.YthdilellcaebfaaGreat
