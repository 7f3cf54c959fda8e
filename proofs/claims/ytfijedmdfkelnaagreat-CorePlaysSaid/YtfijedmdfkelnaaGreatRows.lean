/-
  No cell of these rows narrows 'for every input' (looked for: loops, veiled, ifaces, maps, wideKeys, modest, calm, conditions, laid).
  DERIVED. THE GIVEN ROWS OF THIS SEAT. 4 by the template 'for every input the law returns true; each argument reads behind the call as it read before'; 0 by the template 'total and deterministic' (their statements: YtfijedmdfkelnaaGreatTotals.lean).
  GIVEN WITH THE SEED: the statements are not yours to turn. If you find one false, say at which input.
  Laid BY PROGRAM, IN A SANDBOX (cutbox-rows.mjs): the forced cells as the released guide's own fill.sh prints them over the translation 532236c0db8d5f10… (all of the seat's roots in one cut). By AI agents, Wed Nov 11 2026. No macro, syntax, notation, axiom, sorry.
-/
import Derived.Test.YtfijedmdfkelnaaGreatChecked
import GoSem.Claim
import GoSem.ClaimJoined
import GoSem.ClaimMapViews
import Derived.JoinedTies
import Derived.KernelRfl
namespace Go.Proofs.YtfijedmdfkelnaaGreat
/- THE CELL 'sum', in the pinned program and in every row, IS THE sha256 OF THE DUMP (.gsa) THAT YtfijedmdfkelnaaGreatProg.lean LOADS. Nothing in Lean hashes anything: it is a label: what it is worth is what the hold of that sum in a sandbox is worth. -/
noncomputable def Tryz.pinned : Pinned := { name := "ytfijedmdfkelnaagreat", sum := "532236c0db8d5f105bbc31674987e8a91b9dc675ca0828cf924f677fb7af0991", checked := Tryz.checked }
namespace Rows
def none {H : Type} : Left H := { results := [], args := [] }

/-- 'stadholderlaw14.PolicyPlays': WHATEVER THE INPUT: true; the input reads as it did. -/
def policyPlaysSpec : ChangeSpec := { name := "policyPlays", fn := fun _ => fun
  | [d1, d2, d3, d4] => { results := [.lit (.bool true)], args := [d1, d2, d3, d4] }
  | _ => none }
def policyPlaysRow : OpenClaim := { program := "ytfijedmdfkelnaagreat", sum := "532236c0db8d5f105bbc31674987e8a91b9dc675ca0828cf924f677fb7af0991", func := "stadholder/stadholderlaw14.PolicyPlays", spec := "policyPlays", unfollowed := true, recurses := true, apart := false }
def PolicyPlaysSaid : Prop := policyPlaysRow.holds Tryz.pinned (OpenSpec.ofChange policyPlaysSpec)

/-- ITS FALSE NEIGHBOUR: 'it returns false'. Refute it at one input. -/
def policyPlaysWrong : ChangeSpec := { name := "policyPlays", fn := fun _ => fun
  | [d1, d2, d3, d4] => { results := [.lit (.bool false)], args := [d1, d2, d3, d4] }
  | _ => none }
def PolicyPlaysWrongFalsely : Prop := policyPlaysRow.holds Tryz.pinned (OpenSpec.ofChange policyPlaysWrong)

/-- 'stadholderlaw15.CoreLoads': WHATEVER THE INPUT: true; the input reads as it did. -/
def coreLoadsSpec : ChangeSpec := { name := "coreLoads", fn := fun _ => fun
  | [d1, d2] => { results := [.lit (.bool true)], args := [d1, d2] }
  | _ => none }
def coreLoadsRow : OpenClaim := { program := "ytfijedmdfkelnaagreat", sum := "532236c0db8d5f105bbc31674987e8a91b9dc675ca0828cf924f677fb7af0991", func := "stadholder/stadholderlaw15.CoreLoads", spec := "coreLoads", unfollowed := true, recurses := true, apart := false }
def CoreLoadsSaid : Prop := coreLoadsRow.holds Tryz.pinned (OpenSpec.ofChange coreLoadsSpec)

/-- ITS FALSE NEIGHBOUR: 'it returns false'. Refute it at one input. -/
def coreLoadsWrong : ChangeSpec := { name := "coreLoads", fn := fun _ => fun
  | [d1, d2] => { results := [.lit (.bool false)], args := [d1, d2] }
  | _ => none }
def CoreLoadsWrongFalsely : Prop := coreLoadsRow.holds Tryz.pinned (OpenSpec.ofChange coreLoadsWrong)

/-- 'stadholderlaw15.CoreShares': WHATEVER THE INPUT: true; the input reads as it did. -/
def coreSharesSpec : ChangeSpec := { name := "coreShares", fn := fun _ => fun
  | [d1, d2, d3, d4] => { results := [.lit (.bool true)], args := [d1, d2, d3, d4] }
  | _ => none }
def coreSharesRow : OpenClaim := { program := "ytfijedmdfkelnaagreat", sum := "532236c0db8d5f105bbc31674987e8a91b9dc675ca0828cf924f677fb7af0991", func := "stadholder/stadholderlaw15.CoreShares", spec := "coreShares", unfollowed := true, recurses := true, apart := false }
def CoreSharesSaid : Prop := coreSharesRow.holds Tryz.pinned (OpenSpec.ofChange coreSharesSpec)

/-- ITS FALSE NEIGHBOUR: 'it returns false'. Refute it at one input. -/
def coreSharesWrong : ChangeSpec := { name := "coreShares", fn := fun _ => fun
  | [d1, d2, d3, d4] => { results := [.lit (.bool false)], args := [d1, d2, d3, d4] }
  | _ => none }
def CoreSharesWrongFalsely : Prop := coreSharesRow.holds Tryz.pinned (OpenSpec.ofChange coreSharesWrong)

/-- 'stadholderlaw15.CorePlays': WHATEVER THE INPUT: true; the input reads as it did. -/
def corePlaysSpec : ChangeSpec := { name := "corePlays", fn := fun _ => fun
  | [d1, d2] => { results := [.lit (.bool true)], args := [d1, d2] }
  | _ => none }
def corePlaysRow : OpenClaim := { program := "ytfijedmdfkelnaagreat", sum := "532236c0db8d5f105bbc31674987e8a91b9dc675ca0828cf924f677fb7af0991", func := "stadholder/stadholderlaw15.CorePlays", spec := "corePlays", unfollowed := true, recurses := true, apart := false }
def CorePlaysSaid : Prop := corePlaysRow.holds Tryz.pinned (OpenSpec.ofChange corePlaysSpec)

/-- ITS FALSE NEIGHBOUR: 'it returns false'. Refute it at one input. -/
def corePlaysWrong : ChangeSpec := { name := "corePlays", fn := fun _ => fun
  | [d1, d2] => { results := [.lit (.bool false)], args := [d1, d2] }
  | _ => none }
def CorePlaysWrongFalsely : Prop := corePlaysRow.holds Tryz.pinned (OpenSpec.ofChange corePlaysWrong)

/- THE SECOND FORM. 'bulk': how many values and letters a reading holds, each counted each time it is reached (what is shared counts as often as it is met; a slice's spare places count too). A statement '..UptoSaid' is the law's where the arguments, and the package variables that the reading takes, are together of bulk at most 1048576: NARROWER than '..Said'. Prove '..Said' where nothing that the law and all that it calls make is longer than what came in: it says more and counts as full. Else prove '..UptoSaid'. A law counts once. -/
mutual
def uptoBulk {H : Type} : DataW H → Nat
  | .lit (.string bytes) => bytes.length + 1
  | .lit _ => 1
  | .nil => 1
  | .ptr d => uptoBulk d + 1
  | .slice elems spare => uptoBulkAll elems + uptoBulkAll spare + 1
  | .agg parts => uptoBulkAll parts + 1
  | .iface _ d => uptoBulk d + 1
  | .map entries => uptoBulkEntries entries + 1
  | .held _ => 1
def uptoBulkAll {H : Type} : List (DataW H) → Nat
  | [] => 0
  | d :: r => uptoBulk d + uptoBulkAll r
def uptoBulkEntries {H : Type} : List (Lit × DataW H) → Nat
  | [] => 0
  | x :: r => uptoBulkEntry x + uptoBulkEntries r
def uptoBulkEntry {H : Type} : Lit × DataW H → Nat
  | (.string bytes, d) => bytes.length + uptoBulk d + 1
  | (_, d) => uptoBulk d + 1
 end
def uptoSmall : (H : Type) → List (DataW H) → Bool := fun _ ds => decide (uptoBulkAll ds ≤ 1048576)
def OpenSpec.upto (s : _root_.Go.ChangeSpec) : _root_.Go.OpenSpec := { _root_.Go.OpenSpec.ofChange s with cond := some uptoSmall }

/-- 'stadholderlaw14.PolicyPlays', WHERE WHAT IT READS IS OF BULK AT MOST 1048576: true; the input reads as it did. -/
def policyPlaysUptoRow : OpenClaim := { program := "ytfijedmdfkelnaagreat", sum := "532236c0db8d5f105bbc31674987e8a91b9dc675ca0828cf924f677fb7af0991", func := "stadholder/stadholderlaw14.PolicyPlays", spec := "policyPlays", unfollowed := true, recurses := true, apart := false, narrowed := true }
def PolicyPlaysUptoSaid : Prop := policyPlaysUptoRow.holds Tryz.pinned (OpenSpec.upto policyPlaysSpec)

/-- 'stadholderlaw15.CoreLoads', WHERE WHAT IT READS IS OF BULK AT MOST 1048576: true; the input reads as it did. -/
def coreLoadsUptoRow : OpenClaim := { program := "ytfijedmdfkelnaagreat", sum := "532236c0db8d5f105bbc31674987e8a91b9dc675ca0828cf924f677fb7af0991", func := "stadholder/stadholderlaw15.CoreLoads", spec := "coreLoads", unfollowed := true, recurses := true, apart := false, narrowed := true }
def CoreLoadsUptoSaid : Prop := coreLoadsUptoRow.holds Tryz.pinned (OpenSpec.upto coreLoadsSpec)

/-- 'stadholderlaw15.CoreShares', WHERE WHAT IT READS IS OF BULK AT MOST 1048576: true; the input reads as it did. -/
def coreSharesUptoRow : OpenClaim := { program := "ytfijedmdfkelnaagreat", sum := "532236c0db8d5f105bbc31674987e8a91b9dc675ca0828cf924f677fb7af0991", func := "stadholder/stadholderlaw15.CoreShares", spec := "coreShares", unfollowed := true, recurses := true, apart := false, narrowed := true }
def CoreSharesUptoSaid : Prop := coreSharesUptoRow.holds Tryz.pinned (OpenSpec.upto coreSharesSpec)

/-- 'stadholderlaw15.CorePlays', WHERE WHAT IT READS IS OF BULK AT MOST 1048576: true; the input reads as it did. -/
def corePlaysUptoRow : OpenClaim := { program := "ytfijedmdfkelnaagreat", sum := "532236c0db8d5f105bbc31674987e8a91b9dc675ca0828cf924f677fb7af0991", func := "stadholder/stadholderlaw15.CorePlays", spec := "corePlays", unfollowed := true, recurses := true, apart := false, narrowed := true }
def CorePlaysUptoSaid : Prop := corePlaysUptoRow.holds Tryz.pinned (OpenSpec.upto corePlaysSpec)

end Rows
end Go.Proofs.YtfijedmdfkelnaaGreat
