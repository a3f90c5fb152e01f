/-
  No cell of these rows narrows 'for every input' (looked for: loops, veiled, ifaces, maps, wideKeys, modest, calm, conditions, laid).
  DERIVED. THE GIVEN ROWS OF THIS SEAT. 6 by the template 'for every input the law returns true; each argument reads behind the call as it read before'; 0 by the template 'total and deterministic' (their statements: YtkhpcclddkddmaaTotals.lean).
  GIVEN WITH THE SEED: the statements are not yours to turn. If you find one false, say at which input.
  Laid BY PROGRAM, IN A SANDBOX (cutbox-rows.mjs): the forced cells as the released guide's own fill.sh prints them over the translation 63c8aae6bf53d0f0… (all of the seat's roots in one cut). By AI agents, Wed Nov 11 2026. No macro, syntax, notation, axiom, sorry.
-/
import Derived.Test.YtkhpcclddkddmaaChecked
import GoSem.Claim
import GoSem.ClaimJoined
import GoSem.ClaimMapViews
import Derived.JoinedTies
import Derived.KernelRfl
namespace Go.Proofs.Ytkhpcclddkddmaa
/- THE CELL 'sum', in the pinned program and in every row, IS THE sha256 OF THE DUMP (.gsa) THAT YtkhpcclddkddmaaProg.lean LOADS. Nothing in Lean hashes anything: it is a label: what it is worth is what the hold of that sum in a sandbox is worth. -/
noncomputable def Try.pinned : Pinned := { name := "ytkhpcclddkddmaa", sum := "63c8aae6bf53d0f0ebf88fbcaa2a55881adcbaa53bf1afb9f638d61b27d72e19", checked := Try.checked }
namespace Rows
def none {H : Type} : Left H := { results := [], args := [] }

/-- 'laws.FnExactFilterRow': WHATEVER THE INPUT: true; the input reads as it did. -/
def fnExactFilterRowSpec : ChangeSpec := { name := "fnExactFilterRow", fn := fun _ => fun
  | [d1, d2, d3, d4] => { results := [.lit (.bool true)], args := [d1, d2, d3, d4] }
  | _ => none }
def fnExactFilterRowRow : OpenClaim := { program := "ytkhpcclddkddmaa", sum := "63c8aae6bf53d0f0ebf88fbcaa2a55881adcbaa53bf1afb9f638d61b27d72e19", func := "loop.example/g00016/laws.FnExactFilterRow", spec := "fnExactFilterRow", apart := false }
def FnExactFilterRowSaid : Prop := fnExactFilterRowRow.holds Try.pinned (OpenSpec.ofChange fnExactFilterRowSpec)

/-- ITS FALSE NEIGHBOUR: 'it returns false'. Refute it at one input. -/
def fnExactFilterRowWrong : ChangeSpec := { name := "fnExactFilterRow", fn := fun _ => fun
  | [d1, d2, d3, d4] => { results := [.lit (.bool false)], args := [d1, d2, d3, d4] }
  | _ => none }
def FnExactFilterRowWrongFalsely : Prop := fnExactFilterRowRow.holds Try.pinned (OpenSpec.ofChange fnExactFilterRowWrong)

/-- 'laws.FnExactUnfilterRow': WHATEVER THE INPUT: true; the input reads as it did. -/
def fnExactUnfilterRowSpec : ChangeSpec := { name := "fnExactUnfilterRow", fn := fun _ => fun
  | [d1, d2, d3, d4] => { results := [.lit (.bool true)], args := [d1, d2, d3, d4] }
  | _ => none }
def fnExactUnfilterRowRow : OpenClaim := { program := "ytkhpcclddkddmaa", sum := "63c8aae6bf53d0f0ebf88fbcaa2a55881adcbaa53bf1afb9f638d61b27d72e19", func := "loop.example/g00016/laws.FnExactUnfilterRow", spec := "fnExactUnfilterRow", apart := false }
def FnExactUnfilterRowSaid : Prop := fnExactUnfilterRowRow.holds Try.pinned (OpenSpec.ofChange fnExactUnfilterRowSpec)

/-- ITS FALSE NEIGHBOUR: 'it returns false'. Refute it at one input. -/
def fnExactUnfilterRowWrong : ChangeSpec := { name := "fnExactUnfilterRow", fn := fun _ => fun
  | [d1, d2, d3, d4] => { results := [.lit (.bool false)], args := [d1, d2, d3, d4] }
  | _ => none }
def FnExactUnfilterRowWrongFalsely : Prop := fnExactUnfilterRowRow.holds Try.pinned (OpenSpec.ofChange fnExactUnfilterRowWrong)

/-- 'laws.FnExactPackRow': WHATEVER THE INPUT: true; the input reads as it did. -/
def fnExactPackRowSpec : ChangeSpec := { name := "fnExactPackRow", fn := fun _ => fun
  | [d1, d2] => { results := [.lit (.bool true)], args := [d1, d2] }
  | _ => none }
def fnExactPackRowRow : OpenClaim := { program := "ytkhpcclddkddmaa", sum := "63c8aae6bf53d0f0ebf88fbcaa2a55881adcbaa53bf1afb9f638d61b27d72e19", func := "loop.example/g00016/laws.FnExactPackRow", spec := "fnExactPackRow", apart := false }
def FnExactPackRowSaid : Prop := fnExactPackRowRow.holds Try.pinned (OpenSpec.ofChange fnExactPackRowSpec)

/-- ITS FALSE NEIGHBOUR: 'it returns false'. Refute it at one input. -/
def fnExactPackRowWrong : ChangeSpec := { name := "fnExactPackRow", fn := fun _ => fun
  | [d1, d2] => { results := [.lit (.bool false)], args := [d1, d2] }
  | _ => none }
def FnExactPackRowWrongFalsely : Prop := fnExactPackRowRow.holds Try.pinned (OpenSpec.ofChange fnExactPackRowWrong)

/-- 'laws.FnExactPasses': WHATEVER THE INPUT: true; the input reads as it did. -/
def fnExactPassesSpec : ChangeSpec := { name := "fnExactPasses", fn := fun _ => fun
  | [d1, d2] => { results := [.lit (.bool true)], args := [d1, d2] }
  | _ => none }
def fnExactPassesRow : OpenClaim := { program := "ytkhpcclddkddmaa", sum := "63c8aae6bf53d0f0ebf88fbcaa2a55881adcbaa53bf1afb9f638d61b27d72e19", func := "loop.example/g00016/laws.FnExactPasses", spec := "fnExactPasses", apart := false }
def FnExactPassesSaid : Prop := fnExactPassesRow.holds Try.pinned (OpenSpec.ofChange fnExactPassesSpec)

/-- ITS FALSE NEIGHBOUR: 'it returns false'. Refute it at one input. -/
def fnExactPassesWrong : ChangeSpec := { name := "fnExactPasses", fn := fun _ => fun
  | [d1, d2] => { results := [.lit (.bool false)], args := [d1, d2] }
  | _ => none }
def FnExactPassesWrongFalsely : Prop := fnExactPassesRow.holds Try.pinned (OpenSpec.ofChange fnExactPassesWrong)

/-- 'laws.FnExactMarks': WHATEVER THE INPUT: true; the input reads as it did. -/
def fnExactMarksSpec : ChangeSpec := { name := "fnExactMarks", fn := fun _ => fun
  | [d1, d2] => { results := [.lit (.bool true)], args := [d1, d2] }
  | _ => none }
def fnExactMarksRow : OpenClaim := { program := "ytkhpcclddkddmaa", sum := "63c8aae6bf53d0f0ebf88fbcaa2a55881adcbaa53bf1afb9f638d61b27d72e19", func := "loop.example/g00016/laws.FnExactMarks", spec := "fnExactMarks", apart := false }
def FnExactMarksSaid : Prop := fnExactMarksRow.holds Try.pinned (OpenSpec.ofChange fnExactMarksSpec)

/-- ITS FALSE NEIGHBOUR: 'it returns false'. Refute it at one input. -/
def fnExactMarksWrong : ChangeSpec := { name := "fnExactMarks", fn := fun _ => fun
  | [d1, d2] => { results := [.lit (.bool false)], args := [d1, d2] }
  | _ => none }
def FnExactMarksWrongFalsely : Prop := fnExactMarksRow.holds Try.pinned (OpenSpec.ofChange fnExactMarksWrong)

/-- 'laws.FnMarks': WHATEVER THE INPUT: true; the input reads as it did. -/
def fnMarksSpec : ChangeSpec := { name := "fnMarks", fn := fun _ => fun
  | [d] => { results := [.lit (.bool true)], args := [d] }
  | _ => none }
def fnMarksRow : OpenClaim := { program := "ytkhpcclddkddmaa", sum := "63c8aae6bf53d0f0ebf88fbcaa2a55881adcbaa53bf1afb9f638d61b27d72e19", func := "loop.example/g00016/laws.FnMarks", spec := "fnMarks", apart := false }
def FnMarksSaid : Prop := fnMarksRow.holds Try.pinned (OpenSpec.ofChange fnMarksSpec)

/-- ITS FALSE NEIGHBOUR: 'it returns false'. Refute it at one input. -/
def fnMarksWrong : ChangeSpec := { name := "fnMarks", fn := fun _ => fun
  | [d] => { results := [.lit (.bool false)], args := [d] }
  | _ => none }
def FnMarksWrongFalsely : Prop := fnMarksRow.holds Try.pinned (OpenSpec.ofChange fnMarksWrong)

/- THE SECOND FORM. 'bulk': how many values and letters a reading holds, each counted each time it is reached (what is shared counts as often as it is met; a slice's spare places count too). A statement '..UptoSaid' is the law's where the arguments, and the package variables that the reading takes, are together of bulk at most 1048576: NARROWER than '..Said'. Prove '..Said' where nothing that the law and all that it calls make is longer than what came in: it says more and counts as full. Else prove '..UptoSaid'. A law counts once. -/
mutual
def uptoBulk {H : Type} : DataW H → Nat
  | .lit (.string bytes) => bytes.length + 1
  | .lit _ => 1
  | .nil => 1
  | .ptr d => uptoBulk d + 1
  | .slice elems spare => uptoBulkAll elems + uptoBulkAll spare + 1
  | .agg parts => uptoBulkAll parts + 1
  | .iface _ d => uptoBulk d + 1
  | .map entries => uptoBulkEntries entries + 1
  | .held _ => 1
def uptoBulkAll {H : Type} : List (DataW H) → Nat
  | [] => 0
  | d :: r => uptoBulk d + uptoBulkAll r
def uptoBulkEntries {H : Type} : List (Lit × DataW H) → Nat
  | [] => 0
  | x :: r => uptoBulkEntry x + uptoBulkEntries r
def uptoBulkEntry {H : Type} : Lit × DataW H → Nat
  | (.string bytes, d) => bytes.length + uptoBulk d + 1
  | (_, d) => uptoBulk d + 1
 end
def uptoSmall : (H : Type) → List (DataW H) → Bool := fun _ ds => decide (uptoBulkAll ds ≤ 1048576)
def OpenSpec.upto (s : _root_.Go.ChangeSpec) : _root_.Go.OpenSpec := { _root_.Go.OpenSpec.ofChange s with cond := some uptoSmall }

/-- 'laws.FnExactFilterRow', WHERE WHAT IT READS IS OF BULK AT MOST 1048576: true; the input reads as it did. -/
def fnExactFilterRowUptoRow : OpenClaim := { program := "ytkhpcclddkddmaa", sum := "63c8aae6bf53d0f0ebf88fbcaa2a55881adcbaa53bf1afb9f638d61b27d72e19", func := "loop.example/g00016/laws.FnExactFilterRow", spec := "fnExactFilterRow", apart := false, narrowed := true }
def FnExactFilterRowUptoSaid : Prop := fnExactFilterRowUptoRow.holds Try.pinned (OpenSpec.upto fnExactFilterRowSpec)

/-- 'laws.FnExactUnfilterRow', WHERE WHAT IT READS IS OF BULK AT MOST 1048576: true; the input reads as it did. -/
def fnExactUnfilterRowUptoRow : OpenClaim := { program := "ytkhpcclddkddmaa", sum := "63c8aae6bf53d0f0ebf88fbcaa2a55881adcbaa53bf1afb9f638d61b27d72e19", func := "loop.example/g00016/laws.FnExactUnfilterRow", spec := "fnExactUnfilterRow", apart := false, narrowed := true }
def FnExactUnfilterRowUptoSaid : Prop := fnExactUnfilterRowUptoRow.holds Try.pinned (OpenSpec.upto fnExactUnfilterRowSpec)

/-- 'laws.FnExactPackRow', WHERE WHAT IT READS IS OF BULK AT MOST 1048576: true; the input reads as it did. -/
def fnExactPackRowUptoRow : OpenClaim := { program := "ytkhpcclddkddmaa", sum := "63c8aae6bf53d0f0ebf88fbcaa2a55881adcbaa53bf1afb9f638d61b27d72e19", func := "loop.example/g00016/laws.FnExactPackRow", spec := "fnExactPackRow", apart := false, narrowed := true }
def FnExactPackRowUptoSaid : Prop := fnExactPackRowUptoRow.holds Try.pinned (OpenSpec.upto fnExactPackRowSpec)

/-- 'laws.FnExactPasses', WHERE WHAT IT READS IS OF BULK AT MOST 1048576: true; the input reads as it did. -/
def fnExactPassesUptoRow : OpenClaim := { program := "ytkhpcclddkddmaa", sum := "63c8aae6bf53d0f0ebf88fbcaa2a55881adcbaa53bf1afb9f638d61b27d72e19", func := "loop.example/g00016/laws.FnExactPasses", spec := "fnExactPasses", apart := false, narrowed := true }
def FnExactPassesUptoSaid : Prop := fnExactPassesUptoRow.holds Try.pinned (OpenSpec.upto fnExactPassesSpec)

/-- 'laws.FnExactMarks', WHERE WHAT IT READS IS OF BULK AT MOST 1048576: true; the input reads as it did. -/
def fnExactMarksUptoRow : OpenClaim := { program := "ytkhpcclddkddmaa", sum := "63c8aae6bf53d0f0ebf88fbcaa2a55881adcbaa53bf1afb9f638d61b27d72e19", func := "loop.example/g00016/laws.FnExactMarks", spec := "fnExactMarks", apart := false, narrowed := true }
def FnExactMarksUptoSaid : Prop := fnExactMarksUptoRow.holds Try.pinned (OpenSpec.upto fnExactMarksSpec)

/-- 'laws.FnMarks', WHERE WHAT IT READS IS OF BULK AT MOST 1048576: true; the input reads as it did. -/
def fnMarksUptoRow : OpenClaim := { program := "ytkhpcclddkddmaa", sum := "63c8aae6bf53d0f0ebf88fbcaa2a55881adcbaa53bf1afb9f638d61b27d72e19", func := "loop.example/g00016/laws.FnMarks", spec := "fnMarks", apart := false, narrowed := true }
def FnMarksUptoSaid : Prop := fnMarksUptoRow.holds Try.pinned (OpenSpec.upto fnMarksSpec)

end Rows
end Go.Proofs.Ytkhpcclddkddmaa
