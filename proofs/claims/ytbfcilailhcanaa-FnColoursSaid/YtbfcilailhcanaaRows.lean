/-
  No cell of these rows narrows 'for every input' (looked for: loops, veiled, ifaces, maps, wideKeys, modest, calm, conditions, laid).
  DERIVED. THE GIVEN ROWS OF THIS SEAT. 12 by the template 'for every input the law returns true; each argument reads behind the call as it read before'; 0 by the template 'total and deterministic' (their statements: YtbfcilailhcanaaTotals.lean).
  GIVEN WITH THE SEED: the statements are not yours to turn. If you find one false, say at which input.
  Laid BY PROGRAM, IN A SANDBOX (cutbox-rows.mjs): the forced cells as the released guide's own fill.sh prints them over the translation b9e476ec495c8f1c… (all of the seat's roots in one cut). By AI agents, Wed Nov 11 2026. No macro, syntax, notation, axiom, sorry.
-/
import Derived.Test.YtbfcilailhcanaaChecked
import GoSem.Claim
import GoSem.ClaimJoined
import GoSem.ClaimMapViews
import Derived.JoinedTies
import Derived.KernelRfl
namespace Go.Proofs.Ytbfcilailhcanaa
/- THE CELL 'sum', in the pinned program and in every row, IS THE sha256 OF THE DUMP (.gsa) THAT YtbfcilailhcanaaProg.lean LOADS. Nothing in Lean hashes anything: it is a label: what it is worth is what the hold of that sum in a sandbox is worth. -/
noncomputable def Try.pinned : Pinned := { name := "ytbfcilailhcanaa", sum := "b9e476ec495c8f1cc5ddcba91c99a6f9cb089bf34aace3e135387b37ce8c3c01", checked := Try.checked }
namespace Rows
def none {H : Type} : Left H := { results := [], args := [] }

/-- 'laws.FnExactLift': WHATEVER THE INPUT: true; the input reads as it did. -/
def fnExactLiftSpec : ChangeSpec := { name := "fnExactLift", fn := fun _ => fun
  | [d] => { results := [.lit (.bool true)], args := [d] }
  | _ => none }
def fnExactLiftRow : OpenClaim := { program := "ytbfcilailhcanaa", sum := "b9e476ec495c8f1cc5ddcba91c99a6f9cb089bf34aace3e135387b37ce8c3c01", func := "loop.example/g00016/laws.FnExactLift", spec := "fnExactLift", apart := false }
def FnExactLiftSaid : Prop := fnExactLiftRow.holds Try.pinned (OpenSpec.ofChange fnExactLiftSpec)

/-- ITS FALSE NEIGHBOUR: 'it returns false'. Refute it at one input. -/
def fnExactLiftWrong : ChangeSpec := { name := "fnExactLift", fn := fun _ => fun
  | [d] => { results := [.lit (.bool false)], args := [d] }
  | _ => none }
def FnExactLiftWrongFalsely : Prop := fnExactLiftRow.holds Try.pinned (OpenSpec.ofChange fnExactLiftWrong)

/-- 'laws.FnExactUnlift': WHATEVER THE INPUT: true; the input reads as it did. -/
def fnExactUnliftSpec : ChangeSpec := { name := "fnExactUnlift", fn := fun _ => fun
  | [d] => { results := [.lit (.bool true)], args := [d] }
  | _ => none }
def fnExactUnliftRow : OpenClaim := { program := "ytbfcilailhcanaa", sum := "b9e476ec495c8f1cc5ddcba91c99a6f9cb089bf34aace3e135387b37ce8c3c01", func := "loop.example/g00016/laws.FnExactUnlift", spec := "fnExactUnlift", apart := false }
def FnExactUnliftSaid : Prop := fnExactUnliftRow.holds Try.pinned (OpenSpec.ofChange fnExactUnliftSpec)

/-- ITS FALSE NEIGHBOUR: 'it returns false'. Refute it at one input. -/
def fnExactUnliftWrong : ChangeSpec := { name := "fnExactUnlift", fn := fun _ => fun
  | [d] => { results := [.lit (.bool false)], args := [d] }
  | _ => none }
def FnExactUnliftWrongFalsely : Prop := fnExactUnliftRow.holds Try.pinned (OpenSpec.ofChange fnExactUnliftWrong)

/-- 'laws.FnExactBright': WHATEVER THE INPUT: true; the input reads as it did. -/
def fnExactBrightSpec : ChangeSpec := { name := "fnExactBright", fn := fun _ => fun
  | [d] => { results := [.lit (.bool true)], args := [d] }
  | _ => none }
def fnExactBrightRow : OpenClaim := { program := "ytbfcilailhcanaa", sum := "b9e476ec495c8f1cc5ddcba91c99a6f9cb089bf34aace3e135387b37ce8c3c01", func := "loop.example/g00016/laws.FnExactBright", spec := "fnExactBright", apart := false }
def FnExactBrightSaid : Prop := fnExactBrightRow.holds Try.pinned (OpenSpec.ofChange fnExactBrightSpec)

/-- ITS FALSE NEIGHBOUR: 'it returns false'. Refute it at one input. -/
def fnExactBrightWrong : ChangeSpec := { name := "fnExactBright", fn := fun _ => fun
  | [d] => { results := [.lit (.bool false)], args := [d] }
  | _ => none }
def FnExactBrightWrongFalsely : Prop := fnExactBrightRow.holds Try.pinned (OpenSpec.ofChange fnExactBrightWrong)

/-- 'laws.FnExactUnbright': WHATEVER THE INPUT: true; the input reads as it did. -/
def fnExactUnbrightSpec : ChangeSpec := { name := "fnExactUnbright", fn := fun _ => fun
  | [d] => { results := [.lit (.bool true)], args := [d] }
  | _ => none }
def fnExactUnbrightRow : OpenClaim := { program := "ytbfcilailhcanaa", sum := "b9e476ec495c8f1cc5ddcba91c99a6f9cb089bf34aace3e135387b37ce8c3c01", func := "loop.example/g00016/laws.FnExactUnbright", spec := "fnExactUnbright", apart := false }
def FnExactUnbrightSaid : Prop := fnExactUnbrightRow.holds Try.pinned (OpenSpec.ofChange fnExactUnbrightSpec)

/-- ITS FALSE NEIGHBOUR: 'it returns false'. Refute it at one input. -/
def fnExactUnbrightWrong : ChangeSpec := { name := "fnExactUnbright", fn := fun _ => fun
  | [d] => { results := [.lit (.bool false)], args := [d] }
  | _ => none }
def FnExactUnbrightWrongFalsely : Prop := fnExactUnbrightRow.holds Try.pinned (OpenSpec.ofChange fnExactUnbrightWrong)

/-- 'laws.FnColours': WHATEVER THE INPUT: true; the input reads as it did. -/
def fnColoursSpec : ChangeSpec := { name := "fnColours", fn := fun _ => fun
  | [d] => { results := [.lit (.bool true)], args := [d] }
  | _ => none }
def fnColoursRow : OpenClaim := { program := "ytbfcilailhcanaa", sum := "b9e476ec495c8f1cc5ddcba91c99a6f9cb089bf34aace3e135387b37ce8c3c01", func := "loop.example/g00016/laws.FnColours", spec := "fnColours", apart := false }
def FnColoursSaid : Prop := fnColoursRow.holds Try.pinned (OpenSpec.ofChange fnColoursSpec)

/-- ITS FALSE NEIGHBOUR: 'it returns false'. Refute it at one input. -/
def fnColoursWrong : ChangeSpec := { name := "fnColours", fn := fun _ => fun
  | [d] => { results := [.lit (.bool false)], args := [d] }
  | _ => none }
def FnColoursWrongFalsely : Prop := fnColoursRow.holds Try.pinned (OpenSpec.ofChange fnColoursWrong)

/-- 'laws.FnExactGoodPlane': WHATEVER THE INPUT: true; the input reads as it did. -/
def fnExactGoodPlaneSpec : ChangeSpec := { name := "fnExactGoodPlane", fn := fun _ => fun
  | [d] => { results := [.lit (.bool true)], args := [d] }
  | _ => none }
def fnExactGoodPlaneRow : OpenClaim := { program := "ytbfcilailhcanaa", sum := "b9e476ec495c8f1cc5ddcba91c99a6f9cb089bf34aace3e135387b37ce8c3c01", func := "loop.example/g00016/laws.FnExactGoodPlane", spec := "fnExactGoodPlane", apart := false }
def FnExactGoodPlaneSaid : Prop := fnExactGoodPlaneRow.holds Try.pinned (OpenSpec.ofChange fnExactGoodPlaneSpec)

/-- ITS FALSE NEIGHBOUR: 'it returns false'. Refute it at one input. -/
def fnExactGoodPlaneWrong : ChangeSpec := { name := "fnExactGoodPlane", fn := fun _ => fun
  | [d] => { results := [.lit (.bool false)], args := [d] }
  | _ => none }
def FnExactGoodPlaneWrongFalsely : Prop := fnExactGoodPlaneRow.holds Try.pinned (OpenSpec.ofChange fnExactGoodPlaneWrong)

/-- 'laws.FnExactGoodImage': WHATEVER THE INPUT: true; the input reads as it did. -/
def fnExactGoodImageSpec : ChangeSpec := { name := "fnExactGoodImage", fn := fun _ => fun
  | [d] => { results := [.lit (.bool true)], args := [d] }
  | _ => none }
def fnExactGoodImageRow : OpenClaim := { program := "ytbfcilailhcanaa", sum := "b9e476ec495c8f1cc5ddcba91c99a6f9cb089bf34aace3e135387b37ce8c3c01", func := "loop.example/g00016/laws.FnExactGoodImage", spec := "fnExactGoodImage", apart := false }
def FnExactGoodImageSaid : Prop := fnExactGoodImageRow.holds Try.pinned (OpenSpec.ofChange fnExactGoodImageSpec)

/-- ITS FALSE NEIGHBOUR: 'it returns false'. Refute it at one input. -/
def fnExactGoodImageWrong : ChangeSpec := { name := "fnExactGoodImage", fn := fun _ => fun
  | [d] => { results := [.lit (.bool false)], args := [d] }
  | _ => none }
def FnExactGoodImageWrongFalsely : Prop := fnExactGoodImageRow.holds Try.pinned (OpenSpec.ofChange fnExactGoodImageWrong)

/-- 'laws.FnExactGrade': WHATEVER THE INPUT: true; the input reads as it did. -/
def fnExactGradeSpec : ChangeSpec := { name := "fnExactGrade", fn := fun _ => fun
  | [d1, d2] => { results := [.lit (.bool true)], args := [d1, d2] }
  | _ => none }
def fnExactGradeRow : OpenClaim := { program := "ytbfcilailhcanaa", sum := "b9e476ec495c8f1cc5ddcba91c99a6f9cb089bf34aace3e135387b37ce8c3c01", func := "loop.example/g00016/laws.FnExactGrade", spec := "fnExactGrade", apart := false }
def FnExactGradeSaid : Prop := fnExactGradeRow.holds Try.pinned (OpenSpec.ofChange fnExactGradeSpec)

/-- ITS FALSE NEIGHBOUR: 'it returns false'. Refute it at one input. -/
def fnExactGradeWrong : ChangeSpec := { name := "fnExactGrade", fn := fun _ => fun
  | [d1, d2] => { results := [.lit (.bool false)], args := [d1, d2] }
  | _ => none }
def FnExactGradeWrongFalsely : Prop := fnExactGradeRow.holds Try.pinned (OpenSpec.ofChange fnExactGradeWrong)

/-- 'laws.FnExactCodeCost': WHATEVER THE INPUT: true; the input reads as it did. -/
def fnExactCodeCostSpec : ChangeSpec := { name := "fnExactCodeCost", fn := fun _ => fun
  | [d1, d2] => { results := [.lit (.bool true)], args := [d1, d2] }
  | _ => none }
def fnExactCodeCostRow : OpenClaim := { program := "ytbfcilailhcanaa", sum := "b9e476ec495c8f1cc5ddcba91c99a6f9cb089bf34aace3e135387b37ce8c3c01", func := "loop.example/g00016/laws.FnExactCodeCost", spec := "fnExactCodeCost", apart := false }
def FnExactCodeCostSaid : Prop := fnExactCodeCostRow.holds Try.pinned (OpenSpec.ofChange fnExactCodeCostSpec)

/-- ITS FALSE NEIGHBOUR: 'it returns false'. Refute it at one input. -/
def fnExactCodeCostWrong : ChangeSpec := { name := "fnExactCodeCost", fn := fun _ => fun
  | [d1, d2] => { results := [.lit (.bool false)], args := [d1, d2] }
  | _ => none }
def FnExactCodeCostWrongFalsely : Prop := fnExactCodeCostRow.holds Try.pinned (OpenSpec.ofChange fnExactCodeCostWrong)

/-- 'laws.FnExactCodeKind': WHATEVER THE INPUT: true; the input reads as it did. -/
def fnExactCodeKindSpec : ChangeSpec := { name := "fnExactCodeKind", fn := fun _ => fun
  | [d] => { results := [.lit (.bool true)], args := [d] }
  | _ => none }
def fnExactCodeKindRow : OpenClaim := { program := "ytbfcilailhcanaa", sum := "b9e476ec495c8f1cc5ddcba91c99a6f9cb089bf34aace3e135387b37ce8c3c01", func := "loop.example/g00016/laws.FnExactCodeKind", spec := "fnExactCodeKind", apart := false }
def FnExactCodeKindSaid : Prop := fnExactCodeKindRow.holds Try.pinned (OpenSpec.ofChange fnExactCodeKindSpec)

/-- ITS FALSE NEIGHBOUR: 'it returns false'. Refute it at one input. -/
def fnExactCodeKindWrong : ChangeSpec := { name := "fnExactCodeKind", fn := fun _ => fun
  | [d] => { results := [.lit (.bool false)], args := [d] }
  | _ => none }
def FnExactCodeKindWrongFalsely : Prop := fnExactCodeKindRow.holds Try.pinned (OpenSpec.ofChange fnExactCodeKindWrong)

/-- 'laws.FnExactCodeWords': WHATEVER THE INPUT: true; the input reads as it did. -/
def fnExactCodeWordsSpec : ChangeSpec := { name := "fnExactCodeWords", fn := fun _ => fun
  | [d] => { results := [.lit (.bool true)], args := [d] }
  | _ => none }
def fnExactCodeWordsRow : OpenClaim := { program := "ytbfcilailhcanaa", sum := "b9e476ec495c8f1cc5ddcba91c99a6f9cb089bf34aace3e135387b37ce8c3c01", func := "loop.example/g00016/laws.FnExactCodeWords", spec := "fnExactCodeWords", apart := false }
def FnExactCodeWordsSaid : Prop := fnExactCodeWordsRow.holds Try.pinned (OpenSpec.ofChange fnExactCodeWordsSpec)

/-- ITS FALSE NEIGHBOUR: 'it returns false'. Refute it at one input. -/
def fnExactCodeWordsWrong : ChangeSpec := { name := "fnExactCodeWords", fn := fun _ => fun
  | [d] => { results := [.lit (.bool false)], args := [d] }
  | _ => none }
def FnExactCodeWordsWrongFalsely : Prop := fnExactCodeWordsRow.holds Try.pinned (OpenSpec.ofChange fnExactCodeWordsWrong)

/-- 'laws.FnExactSeekTo': WHATEVER THE INPUT: true; the input reads as it did. -/
def fnExactSeekToSpec : ChangeSpec := { name := "fnExactSeekTo", fn := fun _ => fun
  | [d1, d2, d3] => { results := [.lit (.bool true)], args := [d1, d2, d3] }
  | _ => none }
def fnExactSeekToRow : OpenClaim := { program := "ytbfcilailhcanaa", sum := "b9e476ec495c8f1cc5ddcba91c99a6f9cb089bf34aace3e135387b37ce8c3c01", func := "loop.example/g00016/laws.FnExactSeekTo", spec := "fnExactSeekTo", apart := false }
def FnExactSeekToSaid : Prop := fnExactSeekToRow.holds Try.pinned (OpenSpec.ofChange fnExactSeekToSpec)

/-- ITS FALSE NEIGHBOUR: 'it returns false'. Refute it at one input. -/
def fnExactSeekToWrong : ChangeSpec := { name := "fnExactSeekTo", fn := fun _ => fun
  | [d1, d2, d3] => { results := [.lit (.bool false)], args := [d1, d2, d3] }
  | _ => none }
def FnExactSeekToWrongFalsely : Prop := fnExactSeekToRow.holds Try.pinned (OpenSpec.ofChange fnExactSeekToWrong)

/- THE SECOND FORM. 'bulk': how many values and letters a reading holds, each counted each time it is reached (what is shared counts as often as it is met; a slice's spare places count too). A statement '..UptoSaid' is the law's where the arguments, and the package variables that the reading takes, are together of bulk at most 1048576: NARROWER than '..Said'. Prove '..Said' where nothing that the law and all that it calls make is longer than what came in: it says more and counts as full. Else prove '..UptoSaid'. A law counts once. -/
mutual
def uptoBulk {H : Type} : DataW H → Nat
  | .lit (.string bytes) => bytes.length + 1
  | .lit _ => 1
  | .nil => 1
  | .ptr d => uptoBulk d + 1
  | .slice elems spare => uptoBulkAll elems + uptoBulkAll spare + 1
  | .agg parts => uptoBulkAll parts + 1
  | .iface _ d => uptoBulk d + 1
  | .map entries => uptoBulkEntries entries + 1
  | .held _ => 1
def uptoBulkAll {H : Type} : List (DataW H) → Nat
  | [] => 0
  | d :: r => uptoBulk d + uptoBulkAll r
def uptoBulkEntries {H : Type} : List (Lit × DataW H) → Nat
  | [] => 0
  | x :: r => uptoBulkEntry x + uptoBulkEntries r
def uptoBulkEntry {H : Type} : Lit × DataW H → Nat
  | (.string bytes, d) => bytes.length + uptoBulk d + 1
  | (_, d) => uptoBulk d + 1
 end
def uptoSmall : (H : Type) → List (DataW H) → Bool := fun _ ds => decide (uptoBulkAll ds ≤ 1048576)
def OpenSpec.upto (s : _root_.Go.ChangeSpec) : _root_.Go.OpenSpec := { _root_.Go.OpenSpec.ofChange s with cond := some uptoSmall }

/-- 'laws.FnExactLift', WHERE WHAT IT READS IS OF BULK AT MOST 1048576: true; the input reads as it did. -/
def fnExactLiftUptoRow : OpenClaim := { program := "ytbfcilailhcanaa", sum := "b9e476ec495c8f1cc5ddcba91c99a6f9cb089bf34aace3e135387b37ce8c3c01", func := "loop.example/g00016/laws.FnExactLift", spec := "fnExactLift", apart := false, narrowed := true }
def FnExactLiftUptoSaid : Prop := fnExactLiftUptoRow.holds Try.pinned (OpenSpec.upto fnExactLiftSpec)

/-- 'laws.FnExactUnlift', WHERE WHAT IT READS IS OF BULK AT MOST 1048576: true; the input reads as it did. -/
def fnExactUnliftUptoRow : OpenClaim := { program := "ytbfcilailhcanaa", sum := "b9e476ec495c8f1cc5ddcba91c99a6f9cb089bf34aace3e135387b37ce8c3c01", func := "loop.example/g00016/laws.FnExactUnlift", spec := "fnExactUnlift", apart := false, narrowed := true }
def FnExactUnliftUptoSaid : Prop := fnExactUnliftUptoRow.holds Try.pinned (OpenSpec.upto fnExactUnliftSpec)

/-- 'laws.FnExactBright', WHERE WHAT IT READS IS OF BULK AT MOST 1048576: true; the input reads as it did. -/
def fnExactBrightUptoRow : OpenClaim := { program := "ytbfcilailhcanaa", sum := "b9e476ec495c8f1cc5ddcba91c99a6f9cb089bf34aace3e135387b37ce8c3c01", func := "loop.example/g00016/laws.FnExactBright", spec := "fnExactBright", apart := false, narrowed := true }
def FnExactBrightUptoSaid : Prop := fnExactBrightUptoRow.holds Try.pinned (OpenSpec.upto fnExactBrightSpec)

/-- 'laws.FnExactUnbright', WHERE WHAT IT READS IS OF BULK AT MOST 1048576: true; the input reads as it did. -/
def fnExactUnbrightUptoRow : OpenClaim := { program := "ytbfcilailhcanaa", sum := "b9e476ec495c8f1cc5ddcba91c99a6f9cb089bf34aace3e135387b37ce8c3c01", func := "loop.example/g00016/laws.FnExactUnbright", spec := "fnExactUnbright", apart := false, narrowed := true }
def FnExactUnbrightUptoSaid : Prop := fnExactUnbrightUptoRow.holds Try.pinned (OpenSpec.upto fnExactUnbrightSpec)

/-- 'laws.FnColours', WHERE WHAT IT READS IS OF BULK AT MOST 1048576: true; the input reads as it did. -/
def fnColoursUptoRow : OpenClaim := { program := "ytbfcilailhcanaa", sum := "b9e476ec495c8f1cc5ddcba91c99a6f9cb089bf34aace3e135387b37ce8c3c01", func := "loop.example/g00016/laws.FnColours", spec := "fnColours", apart := false, narrowed := true }
def FnColoursUptoSaid : Prop := fnColoursUptoRow.holds Try.pinned (OpenSpec.upto fnColoursSpec)

/-- 'laws.FnExactGoodPlane', WHERE WHAT IT READS IS OF BULK AT MOST 1048576: true; the input reads as it did. -/
def fnExactGoodPlaneUptoRow : OpenClaim := { program := "ytbfcilailhcanaa", sum := "b9e476ec495c8f1cc5ddcba91c99a6f9cb089bf34aace3e135387b37ce8c3c01", func := "loop.example/g00016/laws.FnExactGoodPlane", spec := "fnExactGoodPlane", apart := false, narrowed := true }
def FnExactGoodPlaneUptoSaid : Prop := fnExactGoodPlaneUptoRow.holds Try.pinned (OpenSpec.upto fnExactGoodPlaneSpec)

/-- 'laws.FnExactGoodImage', WHERE WHAT IT READS IS OF BULK AT MOST 1048576: true; the input reads as it did. -/
def fnExactGoodImageUptoRow : OpenClaim := { program := "ytbfcilailhcanaa", sum := "b9e476ec495c8f1cc5ddcba91c99a6f9cb089bf34aace3e135387b37ce8c3c01", func := "loop.example/g00016/laws.FnExactGoodImage", spec := "fnExactGoodImage", apart := false, narrowed := true }
def FnExactGoodImageUptoSaid : Prop := fnExactGoodImageUptoRow.holds Try.pinned (OpenSpec.upto fnExactGoodImageSpec)

/-- 'laws.FnExactGrade', WHERE WHAT IT READS IS OF BULK AT MOST 1048576: true; the input reads as it did. -/
def fnExactGradeUptoRow : OpenClaim := { program := "ytbfcilailhcanaa", sum := "b9e476ec495c8f1cc5ddcba91c99a6f9cb089bf34aace3e135387b37ce8c3c01", func := "loop.example/g00016/laws.FnExactGrade", spec := "fnExactGrade", apart := false, narrowed := true }
def FnExactGradeUptoSaid : Prop := fnExactGradeUptoRow.holds Try.pinned (OpenSpec.upto fnExactGradeSpec)

/-- 'laws.FnExactCodeCost', WHERE WHAT IT READS IS OF BULK AT MOST 1048576: true; the input reads as it did. -/
def fnExactCodeCostUptoRow : OpenClaim := { program := "ytbfcilailhcanaa", sum := "b9e476ec495c8f1cc5ddcba91c99a6f9cb089bf34aace3e135387b37ce8c3c01", func := "loop.example/g00016/laws.FnExactCodeCost", spec := "fnExactCodeCost", apart := false, narrowed := true }
def FnExactCodeCostUptoSaid : Prop := fnExactCodeCostUptoRow.holds Try.pinned (OpenSpec.upto fnExactCodeCostSpec)

/-- 'laws.FnExactCodeKind', WHERE WHAT IT READS IS OF BULK AT MOST 1048576: true; the input reads as it did. -/
def fnExactCodeKindUptoRow : OpenClaim := { program := "ytbfcilailhcanaa", sum := "b9e476ec495c8f1cc5ddcba91c99a6f9cb089bf34aace3e135387b37ce8c3c01", func := "loop.example/g00016/laws.FnExactCodeKind", spec := "fnExactCodeKind", apart := false, narrowed := true }
def FnExactCodeKindUptoSaid : Prop := fnExactCodeKindUptoRow.holds Try.pinned (OpenSpec.upto fnExactCodeKindSpec)

/-- 'laws.FnExactCodeWords', WHERE WHAT IT READS IS OF BULK AT MOST 1048576: true; the input reads as it did. -/
def fnExactCodeWordsUptoRow : OpenClaim := { program := "ytbfcilailhcanaa", sum := "b9e476ec495c8f1cc5ddcba91c99a6f9cb089bf34aace3e135387b37ce8c3c01", func := "loop.example/g00016/laws.FnExactCodeWords", spec := "fnExactCodeWords", apart := false, narrowed := true }
def FnExactCodeWordsUptoSaid : Prop := fnExactCodeWordsUptoRow.holds Try.pinned (OpenSpec.upto fnExactCodeWordsSpec)

/-- 'laws.FnExactSeekTo', WHERE WHAT IT READS IS OF BULK AT MOST 1048576: true; the input reads as it did. -/
def fnExactSeekToUptoRow : OpenClaim := { program := "ytbfcilailhcanaa", sum := "b9e476ec495c8f1cc5ddcba91c99a6f9cb089bf34aace3e135387b37ce8c3c01", func := "loop.example/g00016/laws.FnExactSeekTo", spec := "fnExactSeekTo", apart := false, narrowed := true }
def FnExactSeekToUptoSaid : Prop := fnExactSeekToUptoRow.holds Try.pinned (OpenSpec.upto fnExactSeekToSpec)

end Rows
end Go.Proofs.Ytbfcilailhcanaa
