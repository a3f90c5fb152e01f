/-
  No cell of these rows narrows 'for every input' (looked for: loops, veiled, ifaces, maps, wideKeys, modest, calm, conditions, laid).
  DERIVED. THE GIVEN ROWS OF THIS SEAT. 12 by the template 'for every input the law returns true; each argument reads behind the call as it read before'; 0 by the template 'total and deterministic' (their statements: YtflgalojbebfmaaTotals.lean).
  GIVEN WITH THE SEED: the statements are not yours to turn. If you find one false, say at which input.
  Laid BY PROGRAM, IN A SANDBOX (cutbox-rows.mjs): the forced cells as the released guide's own fill.sh prints them over the translation 5218a263c60945be… (all of the seat's roots in one cut). By AI agents, Wed Nov 11 2026. No macro, syntax, notation, axiom, sorry.
-/
import Derived.Test.YtflgalojbebfmaaChecked
import GoSem.Claim
import GoSem.ClaimJoined
import GoSem.ClaimMapViews
import Derived.JoinedTies
import Derived.KernelRfl
namespace Go.Proofs.Ytflgalojbebfmaa
/- THE CELL 'sum', in the pinned program and in every row, IS THE sha256 OF THE DUMP (.gsa) THAT YtflgalojbebfmaaProg.lean LOADS. Nothing in Lean hashes anything: it is a label: what it is worth is what the hold of that sum in a sandbox is worth. -/
noncomputable def Try.pinned : Pinned := { name := "ytflgalojbebfmaa", sum := "5218a263c60945beabd90221b29ef3557372472882341936311372688ff00fb3", checked := Try.checked }
namespace Rows
def none {H : Type} : Left H := { results := [], args := [] }

/-- 'laws.FnExactScanOrder': WHATEVER THE INPUT: true; the input reads as it did. -/
def fnExactScanOrderSpec : ChangeSpec := { name := "fnExactScanOrder", fn := fun _ => fun
  | [] => { results := [.lit (.bool true)], args := [] }
  | _ => none }
def fnExactScanOrderRow : OpenClaim := { program := "ytflgalojbebfmaa", sum := "5218a263c60945beabd90221b29ef3557372472882341936311372688ff00fb3", func := "loop.example/g00016/laws.FnExactScanOrder", spec := "fnExactScanOrder", apart := false }
def FnExactScanOrderSaid : Prop := fnExactScanOrderRow.holds Try.pinned (OpenSpec.ofChange fnExactScanOrderSpec)

/-- ITS FALSE NEIGHBOUR: 'it returns false'. Refute it at one input. -/
def fnExactScanOrderWrong : ChangeSpec := { name := "fnExactScanOrder", fn := fun _ => fun
  | [] => { results := [.lit (.bool false)], args := [] }
  | _ => none }
def FnExactScanOrderWrongFalsely : Prop := fnExactScanOrderRow.holds Try.pinned (OpenSpec.ofChange fnExactScanOrderWrong)

/-- 'laws.FnExactScales': WHATEVER THE INPUT: true; the input reads as it did. -/
def fnExactScalesSpec : ChangeSpec := { name := "fnExactScales", fn := fun _ => fun
  | [d1, d2] => { results := [.lit (.bool true)], args := [d1, d2] }
  | _ => none }
def fnExactScalesRow : OpenClaim := { program := "ytflgalojbebfmaa", sum := "5218a263c60945beabd90221b29ef3557372472882341936311372688ff00fb3", func := "loop.example/g00016/laws.FnExactScales", spec := "fnExactScales", apart := false }
def FnExactScalesSaid : Prop := fnExactScalesRow.holds Try.pinned (OpenSpec.ofChange fnExactScalesSpec)

/-- ITS FALSE NEIGHBOUR: 'it returns false'. Refute it at one input. -/
def fnExactScalesWrong : ChangeSpec := { name := "fnExactScales", fn := fun _ => fun
  | [d1, d2] => { results := [.lit (.bool false)], args := [d1, d2] }
  | _ => none }
def FnExactScalesWrongFalsely : Prop := fnExactScalesRow.holds Try.pinned (OpenSpec.ofChange fnExactScalesWrong)

/-- 'laws.FnExactCoarse': WHATEVER THE INPUT: true; the input reads as it did. -/
def fnExactCoarseSpec : ChangeSpec := { name := "fnExactCoarse", fn := fun _ => fun
  | [d1, d2] => { results := [.lit (.bool true)], args := [d1, d2] }
  | _ => none }
def fnExactCoarseRow : OpenClaim := { program := "ytflgalojbebfmaa", sum := "5218a263c60945beabd90221b29ef3557372472882341936311372688ff00fb3", func := "loop.example/g00016/laws.FnExactCoarse", spec := "fnExactCoarse", apart := false }
def FnExactCoarseSaid : Prop := fnExactCoarseRow.holds Try.pinned (OpenSpec.ofChange fnExactCoarseSpec)

/-- ITS FALSE NEIGHBOUR: 'it returns false'. Refute it at one input. -/
def fnExactCoarseWrong : ChangeSpec := { name := "fnExactCoarse", fn := fun _ => fun
  | [d1, d2] => { results := [.lit (.bool false)], args := [d1, d2] }
  | _ => none }
def FnExactCoarseWrongFalsely : Prop := fnExactCoarseRow.holds Try.pinned (OpenSpec.ofChange fnExactCoarseWrong)

/-- 'laws.FnExactFine': WHATEVER THE INPUT: true; the input reads as it did. -/
def fnExactFineSpec : ChangeSpec := { name := "fnExactFine", fn := fun _ => fun
  | [d1, d2] => { results := [.lit (.bool true)], args := [d1, d2] }
  | _ => none }
def fnExactFineRow : OpenClaim := { program := "ytflgalojbebfmaa", sum := "5218a263c60945beabd90221b29ef3557372472882341936311372688ff00fb3", func := "loop.example/g00016/laws.FnExactFine", spec := "fnExactFine", apart := false }
def FnExactFineSaid : Prop := fnExactFineRow.holds Try.pinned (OpenSpec.ofChange fnExactFineSpec)

/-- ITS FALSE NEIGHBOUR: 'it returns false'. Refute it at one input. -/
def fnExactFineWrong : ChangeSpec := { name := "fnExactFine", fn := fun _ => fun
  | [d1, d2] => { results := [.lit (.bool false)], args := [d1, d2] }
  | _ => none }
def FnExactFineWrongFalsely : Prop := fnExactFineRow.holds Try.pinned (OpenSpec.ofChange fnExactFineWrong)

/-- 'laws.FnExactTurn': WHATEVER THE INPUT: true; the input reads as it did. -/
def fnExactTurnSpec : ChangeSpec := { name := "fnExactTurn", fn := fun _ => fun
  | [d1, d2, d3] => { results := [.lit (.bool true)], args := [d1, d2, d3] }
  | _ => none }
def fnExactTurnRow : OpenClaim := { program := "ytflgalojbebfmaa", sum := "5218a263c60945beabd90221b29ef3557372472882341936311372688ff00fb3", func := "loop.example/g00016/laws.FnExactTurn", spec := "fnExactTurn", apart := false }
def FnExactTurnSaid : Prop := fnExactTurnRow.holds Try.pinned (OpenSpec.ofChange fnExactTurnSpec)

/-- ITS FALSE NEIGHBOUR: 'it returns false'. Refute it at one input. -/
def fnExactTurnWrong : ChangeSpec := { name := "fnExactTurn", fn := fun _ => fun
  | [d1, d2, d3] => { results := [.lit (.bool false)], args := [d1, d2, d3] }
  | _ => none }
def FnExactTurnWrongFalsely : Prop := fnExactTurnRow.holds Try.pinned (OpenSpec.ofChange fnExactTurnWrong)

/-- 'laws.FnExactUnturn': WHATEVER THE INPUT: true; the input reads as it did. -/
def fnExactUnturnSpec : ChangeSpec := { name := "fnExactUnturn", fn := fun _ => fun
  | [d1, d2, d3] => { results := [.lit (.bool true)], args := [d1, d2, d3] }
  | _ => none }
def fnExactUnturnRow : OpenClaim := { program := "ytflgalojbebfmaa", sum := "5218a263c60945beabd90221b29ef3557372472882341936311372688ff00fb3", func := "loop.example/g00016/laws.FnExactUnturn", spec := "fnExactUnturn", apart := false }
def FnExactUnturnSaid : Prop := fnExactUnturnRow.holds Try.pinned (OpenSpec.ofChange fnExactUnturnSpec)

/-- ITS FALSE NEIGHBOUR: 'it returns false'. Refute it at one input. -/
def fnExactUnturnWrong : ChangeSpec := { name := "fnExactUnturn", fn := fun _ => fun
  | [d1, d2, d3] => { results := [.lit (.bool false)], args := [d1, d2, d3] }
  | _ => none }
def FnExactUnturnWrongFalsely : Prop := fnExactUnturnRow.holds Try.pinned (OpenSpec.ofChange fnExactUnturnWrong)

/-- 'laws.FnExactResidue': WHATEVER THE INPUT: true; the input reads as it did. -/
def fnExactResidueSpec : ChangeSpec := { name := "fnExactResidue", fn := fun _ => fun
  | [d1, d2] => { results := [.lit (.bool true)], args := [d1, d2] }
  | _ => none }
def fnExactResidueRow : OpenClaim := { program := "ytflgalojbebfmaa", sum := "5218a263c60945beabd90221b29ef3557372472882341936311372688ff00fb3", func := "loop.example/g00016/laws.FnExactResidue", spec := "fnExactResidue", apart := false }
def FnExactResidueSaid : Prop := fnExactResidueRow.holds Try.pinned (OpenSpec.ofChange fnExactResidueSpec)

/-- ITS FALSE NEIGHBOUR: 'it returns false'. Refute it at one input. -/
def fnExactResidueWrong : ChangeSpec := { name := "fnExactResidue", fn := fun _ => fun
  | [d1, d2] => { results := [.lit (.bool false)], args := [d1, d2] }
  | _ => none }
def FnExactResidueWrongFalsely : Prop := fnExactResidueRow.holds Try.pinned (OpenSpec.ofChange fnExactResidueWrong)

/-- 'laws.FnExactRestore': WHATEVER THE INPUT: true; the input reads as it did. -/
def fnExactRestoreSpec : ChangeSpec := { name := "fnExactRestore", fn := fun _ => fun
  | [d1, d2] => { results := [.lit (.bool true)], args := [d1, d2] }
  | _ => none }
def fnExactRestoreRow : OpenClaim := { program := "ytflgalojbebfmaa", sum := "5218a263c60945beabd90221b29ef3557372472882341936311372688ff00fb3", func := "loop.example/g00016/laws.FnExactRestore", spec := "fnExactRestore", apart := false }
def FnExactRestoreSaid : Prop := fnExactRestoreRow.holds Try.pinned (OpenSpec.ofChange fnExactRestoreSpec)

/-- ITS FALSE NEIGHBOUR: 'it returns false'. Refute it at one input. -/
def fnExactRestoreWrong : ChangeSpec := { name := "fnExactRestore", fn := fun _ => fun
  | [d1, d2] => { results := [.lit (.bool false)], args := [d1, d2] }
  | _ => none }
def FnExactRestoreWrongFalsely : Prop := fnExactRestoreRow.holds Try.pinned (OpenSpec.ofChange fnExactRestoreWrong)

/-- 'laws.FnExactApart': WHATEVER THE INPUT: true; the input reads as it did. -/
def fnExactApartSpec : ChangeSpec := { name := "fnExactApart", fn := fun _ => fun
  | [d1, d2] => { results := [.lit (.bool true)], args := [d1, d2] }
  | _ => none }
def fnExactApartRow : OpenClaim := { program := "ytflgalojbebfmaa", sum := "5218a263c60945beabd90221b29ef3557372472882341936311372688ff00fb3", func := "loop.example/g00016/laws.FnExactApart", spec := "fnExactApart", apart := false }
def FnExactApartSaid : Prop := fnExactApartRow.holds Try.pinned (OpenSpec.ofChange fnExactApartSpec)

/-- ITS FALSE NEIGHBOUR: 'it returns false'. Refute it at one input. -/
def fnExactApartWrong : ChangeSpec := { name := "fnExactApart", fn := fun _ => fun
  | [d1, d2] => { results := [.lit (.bool false)], args := [d1, d2] }
  | _ => none }
def FnExactApartWrongFalsely : Prop := fnExactApartRow.holds Try.pinned (OpenSpec.ofChange fnExactApartWrong)

/-- 'laws.FnExactSmallInverse': WHATEVER THE INPUT: true; the input reads as it did. -/
def fnExactSmallInverseSpec : ChangeSpec := { name := "fnExactSmallInverse", fn := fun _ => fun
  | [d] => { results := [.lit (.bool true)], args := [d] }
  | _ => none }
def fnExactSmallInverseRow : OpenClaim := { program := "ytflgalojbebfmaa", sum := "5218a263c60945beabd90221b29ef3557372472882341936311372688ff00fb3", func := "loop.example/g00016/laws.FnExactSmallInverse", spec := "fnExactSmallInverse", unfollowed := true, recurses := true, apart := false }
def FnExactSmallInverseSaid : Prop := fnExactSmallInverseRow.holds Try.pinned (OpenSpec.ofChange fnExactSmallInverseSpec)

/-- ITS FALSE NEIGHBOUR: 'it returns false'. Refute it at one input. -/
def fnExactSmallInverseWrong : ChangeSpec := { name := "fnExactSmallInverse", fn := fun _ => fun
  | [d] => { results := [.lit (.bool false)], args := [d] }
  | _ => none }
def FnExactSmallInverseWrongFalsely : Prop := fnExactSmallInverseRow.holds Try.pinned (OpenSpec.ofChange fnExactSmallInverseWrong)

/-- 'laws.FnExactGoodSound': WHATEVER THE INPUT: true; the input reads as it did. -/
def fnExactGoodSoundSpec : ChangeSpec := { name := "fnExactGoodSound", fn := fun _ => fun
  | [d] => { results := [.lit (.bool true)], args := [d] }
  | _ => none }
def fnExactGoodSoundRow : OpenClaim := { program := "ytflgalojbebfmaa", sum := "5218a263c60945beabd90221b29ef3557372472882341936311372688ff00fb3", func := "loop.example/g00016/laws.FnExactGoodSound", spec := "fnExactGoodSound", apart := false }
def FnExactGoodSoundSaid : Prop := fnExactGoodSoundRow.holds Try.pinned (OpenSpec.ofChange fnExactGoodSoundSpec)

/-- ITS FALSE NEIGHBOUR: 'it returns false'. Refute it at one input. -/
def fnExactGoodSoundWrong : ChangeSpec := { name := "fnExactGoodSound", fn := fun _ => fun
  | [d] => { results := [.lit (.bool false)], args := [d] }
  | _ => none }
def FnExactGoodSoundWrongFalsely : Prop := fnExactGoodSoundRow.holds Try.pinned (OpenSpec.ofChange fnExactGoodSoundWrong)

/-- 'laws.FnExactGoodTones': WHATEVER THE INPUT: true; the input reads as it did. -/
def fnExactGoodTonesSpec : ChangeSpec := { name := "fnExactGoodTones", fn := fun _ => fun
  | [d] => { results := [.lit (.bool true)], args := [d] }
  | _ => none }
def fnExactGoodTonesRow : OpenClaim := { program := "ytflgalojbebfmaa", sum := "5218a263c60945beabd90221b29ef3557372472882341936311372688ff00fb3", func := "loop.example/g00016/laws.FnExactGoodTones", spec := "fnExactGoodTones", apart := false }
def FnExactGoodTonesSaid : Prop := fnExactGoodTonesRow.holds Try.pinned (OpenSpec.ofChange fnExactGoodTonesSpec)

/-- ITS FALSE NEIGHBOUR: 'it returns false'. Refute it at one input. -/
def fnExactGoodTonesWrong : ChangeSpec := { name := "fnExactGoodTones", fn := fun _ => fun
  | [d] => { results := [.lit (.bool false)], args := [d] }
  | _ => none }
def FnExactGoodTonesWrongFalsely : Prop := fnExactGoodTonesRow.holds Try.pinned (OpenSpec.ofChange fnExactGoodTonesWrong)

/- THE SECOND FORM. 'bulk': how many values and letters a reading holds, each counted each time it is reached (what is shared counts as often as it is met; a slice's spare places count too). A statement '..UptoSaid' is the law's where the arguments, and the package variables that the reading takes, are together of bulk at most 1048576: NARROWER than '..Said'. Prove '..Said' where nothing that the law and all that it calls make is longer than what came in: it says more and counts as full. Else prove '..UptoSaid'. A law counts once. -/
mutual
def uptoBulk {H : Type} : DataW H → Nat
  | .lit (.string bytes) => bytes.length + 1
  | .lit _ => 1
  | .nil => 1
  | .ptr d => uptoBulk d + 1
  | .slice elems spare => uptoBulkAll elems + uptoBulkAll spare + 1
  | .agg parts => uptoBulkAll parts + 1
  | .iface _ d => uptoBulk d + 1
  | .map entries => uptoBulkEntries entries + 1
  | .held _ => 1
def uptoBulkAll {H : Type} : List (DataW H) → Nat
  | [] => 0
  | d :: r => uptoBulk d + uptoBulkAll r
def uptoBulkEntries {H : Type} : List (Lit × DataW H) → Nat
  | [] => 0
  | x :: r => uptoBulkEntry x + uptoBulkEntries r
def uptoBulkEntry {H : Type} : Lit × DataW H → Nat
  | (.string bytes, d) => bytes.length + uptoBulk d + 1
  | (_, d) => uptoBulk d + 1
 end
def uptoSmall : (H : Type) → List (DataW H) → Bool := fun _ ds => decide (uptoBulkAll ds ≤ 1048576)
def OpenSpec.upto (s : _root_.Go.ChangeSpec) : _root_.Go.OpenSpec := { _root_.Go.OpenSpec.ofChange s with cond := some uptoSmall }

/-- 'laws.FnExactScanOrder', WHERE WHAT IT READS IS OF BULK AT MOST 1048576: true; the input reads as it did. -/
def fnExactScanOrderUptoRow : OpenClaim := { program := "ytflgalojbebfmaa", sum := "5218a263c60945beabd90221b29ef3557372472882341936311372688ff00fb3", func := "loop.example/g00016/laws.FnExactScanOrder", spec := "fnExactScanOrder", apart := false, narrowed := true }
def FnExactScanOrderUptoSaid : Prop := fnExactScanOrderUptoRow.holds Try.pinned (OpenSpec.upto fnExactScanOrderSpec)

/-- 'laws.FnExactScales', WHERE WHAT IT READS IS OF BULK AT MOST 1048576: true; the input reads as it did. -/
def fnExactScalesUptoRow : OpenClaim := { program := "ytflgalojbebfmaa", sum := "5218a263c60945beabd90221b29ef3557372472882341936311372688ff00fb3", func := "loop.example/g00016/laws.FnExactScales", spec := "fnExactScales", apart := false, narrowed := true }
def FnExactScalesUptoSaid : Prop := fnExactScalesUptoRow.holds Try.pinned (OpenSpec.upto fnExactScalesSpec)

/-- 'laws.FnExactCoarse', WHERE WHAT IT READS IS OF BULK AT MOST 1048576: true; the input reads as it did. -/
def fnExactCoarseUptoRow : OpenClaim := { program := "ytflgalojbebfmaa", sum := "5218a263c60945beabd90221b29ef3557372472882341936311372688ff00fb3", func := "loop.example/g00016/laws.FnExactCoarse", spec := "fnExactCoarse", apart := false, narrowed := true }
def FnExactCoarseUptoSaid : Prop := fnExactCoarseUptoRow.holds Try.pinned (OpenSpec.upto fnExactCoarseSpec)

/-- 'laws.FnExactFine', WHERE WHAT IT READS IS OF BULK AT MOST 1048576: true; the input reads as it did. -/
def fnExactFineUptoRow : OpenClaim := { program := "ytflgalojbebfmaa", sum := "5218a263c60945beabd90221b29ef3557372472882341936311372688ff00fb3", func := "loop.example/g00016/laws.FnExactFine", spec := "fnExactFine", apart := false, narrowed := true }
def FnExactFineUptoSaid : Prop := fnExactFineUptoRow.holds Try.pinned (OpenSpec.upto fnExactFineSpec)

/-- 'laws.FnExactTurn', WHERE WHAT IT READS IS OF BULK AT MOST 1048576: true; the input reads as it did. -/
def fnExactTurnUptoRow : OpenClaim := { program := "ytflgalojbebfmaa", sum := "5218a263c60945beabd90221b29ef3557372472882341936311372688ff00fb3", func := "loop.example/g00016/laws.FnExactTurn", spec := "fnExactTurn", apart := false, narrowed := true }
def FnExactTurnUptoSaid : Prop := fnExactTurnUptoRow.holds Try.pinned (OpenSpec.upto fnExactTurnSpec)

/-- 'laws.FnExactUnturn', WHERE WHAT IT READS IS OF BULK AT MOST 1048576: true; the input reads as it did. -/
def fnExactUnturnUptoRow : OpenClaim := { program := "ytflgalojbebfmaa", sum := "5218a263c60945beabd90221b29ef3557372472882341936311372688ff00fb3", func := "loop.example/g00016/laws.FnExactUnturn", spec := "fnExactUnturn", apart := false, narrowed := true }
def FnExactUnturnUptoSaid : Prop := fnExactUnturnUptoRow.holds Try.pinned (OpenSpec.upto fnExactUnturnSpec)

/-- 'laws.FnExactResidue', WHERE WHAT IT READS IS OF BULK AT MOST 1048576: true; the input reads as it did. -/
def fnExactResidueUptoRow : OpenClaim := { program := "ytflgalojbebfmaa", sum := "5218a263c60945beabd90221b29ef3557372472882341936311372688ff00fb3", func := "loop.example/g00016/laws.FnExactResidue", spec := "fnExactResidue", apart := false, narrowed := true }
def FnExactResidueUptoSaid : Prop := fnExactResidueUptoRow.holds Try.pinned (OpenSpec.upto fnExactResidueSpec)

/-- 'laws.FnExactRestore', WHERE WHAT IT READS IS OF BULK AT MOST 1048576: true; the input reads as it did. -/
def fnExactRestoreUptoRow : OpenClaim := { program := "ytflgalojbebfmaa", sum := "5218a263c60945beabd90221b29ef3557372472882341936311372688ff00fb3", func := "loop.example/g00016/laws.FnExactRestore", spec := "fnExactRestore", apart := false, narrowed := true }
def FnExactRestoreUptoSaid : Prop := fnExactRestoreUptoRow.holds Try.pinned (OpenSpec.upto fnExactRestoreSpec)

/-- 'laws.FnExactApart', WHERE WHAT IT READS IS OF BULK AT MOST 1048576: true; the input reads as it did. -/
def fnExactApartUptoRow : OpenClaim := { program := "ytflgalojbebfmaa", sum := "5218a263c60945beabd90221b29ef3557372472882341936311372688ff00fb3", func := "loop.example/g00016/laws.FnExactApart", spec := "fnExactApart", apart := false, narrowed := true }
def FnExactApartUptoSaid : Prop := fnExactApartUptoRow.holds Try.pinned (OpenSpec.upto fnExactApartSpec)

/-- 'laws.FnExactSmallInverse', WHERE WHAT IT READS IS OF BULK AT MOST 1048576: true; the input reads as it did. -/
def fnExactSmallInverseUptoRow : OpenClaim := { program := "ytflgalojbebfmaa", sum := "5218a263c60945beabd90221b29ef3557372472882341936311372688ff00fb3", func := "loop.example/g00016/laws.FnExactSmallInverse", spec := "fnExactSmallInverse", unfollowed := true, recurses := true, apart := false, narrowed := true }
def FnExactSmallInverseUptoSaid : Prop := fnExactSmallInverseUptoRow.holds Try.pinned (OpenSpec.upto fnExactSmallInverseSpec)

/-- 'laws.FnExactGoodSound', WHERE WHAT IT READS IS OF BULK AT MOST 1048576: true; the input reads as it did. -/
def fnExactGoodSoundUptoRow : OpenClaim := { program := "ytflgalojbebfmaa", sum := "5218a263c60945beabd90221b29ef3557372472882341936311372688ff00fb3", func := "loop.example/g00016/laws.FnExactGoodSound", spec := "fnExactGoodSound", apart := false, narrowed := true }
def FnExactGoodSoundUptoSaid : Prop := fnExactGoodSoundUptoRow.holds Try.pinned (OpenSpec.upto fnExactGoodSoundSpec)

/-- 'laws.FnExactGoodTones', WHERE WHAT IT READS IS OF BULK AT MOST 1048576: true; the input reads as it did. -/
def fnExactGoodTonesUptoRow : OpenClaim := { program := "ytflgalojbebfmaa", sum := "5218a263c60945beabd90221b29ef3557372472882341936311372688ff00fb3", func := "loop.example/g00016/laws.FnExactGoodTones", spec := "fnExactGoodTones", apart := false, narrowed := true }
def FnExactGoodTonesUptoSaid : Prop := fnExactGoodTonesUptoRow.holds Try.pinned (OpenSpec.upto fnExactGoodTonesSpec)

end Rows
end Go.Proofs.Ytflgalojbebfmaa
