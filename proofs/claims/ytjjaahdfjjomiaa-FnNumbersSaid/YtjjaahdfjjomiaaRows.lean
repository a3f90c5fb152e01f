/-
  No cell of these rows narrows 'for every input' (looked for: loops, veiled, ifaces, maps, wideKeys, modest, calm, conditions, laid).
  DERIVED. THE GIVEN ROWS OF THIS SEAT. 12 by the template 'for every input the law returns true; each argument reads behind the call as it read before'; 0 by the template 'total and deterministic' (their statements: YtjjaahdfjjomiaaTotals.lean).
  GIVEN WITH THE SEED: the statements are not yours to turn. If you find one false, say at which input.
  Laid BY PROGRAM, IN A SANDBOX (cutbox-rows.mjs): the forced cells as the released guide's own fill.sh prints them over the translation eab81bf107cb3563… (all of the seat's roots in one cut). By AI agents, Wed Nov 11 2026. No macro, syntax, notation, axiom, sorry.
-/
import Derived.Test.YtjjaahdfjjomiaaChecked
import GoSem.Claim
import GoSem.ClaimJoined
import GoSem.ClaimMapViews
import Derived.JoinedTies
import Derived.KernelRfl
namespace Go.Proofs.Ytjjaahdfjjomiaa
/- THE CELL 'sum', in the pinned program and in every row, IS THE sha256 OF THE DUMP (.gsa) THAT YtjjaahdfjjomiaaProg.lean LOADS. Nothing in Lean hashes anything: it is a label: what it is worth is what the hold of that sum in a sandbox is worth. -/
noncomputable def Try.pinned : Pinned := { name := "ytjjaahdfjjomiaa", sum := "eab81bf107cb3563f277b71802333ede2353d44da5f578023971f2bf2ed61654", checked := Try.checked }
namespace Rows
def none {H : Type} : Left H := { results := [], args := [] }

/-- 'laws.FnExactConstants': WHATEVER THE INPUT: true; the input reads as it did. -/
def fnExactConstantsSpec : ChangeSpec := { name := "fnExactConstants", fn := fun _ => fun
  | [] => { results := [.lit (.bool true)], args := [] }
  | _ => none }
def fnExactConstantsRow : OpenClaim := { program := "ytjjaahdfjjomiaa", sum := "eab81bf107cb3563f277b71802333ede2353d44da5f578023971f2bf2ed61654", func := "loop.example/g00016/laws.FnExactConstants", spec := "fnExactConstants", apart := false }
def FnExactConstantsSaid : Prop := fnExactConstantsRow.holds Try.pinned (OpenSpec.ofChange fnExactConstantsSpec)

/-- ITS FALSE NEIGHBOUR: 'it returns false'. Refute it at one input. -/
def fnExactConstantsWrong : ChangeSpec := { name := "fnExactConstants", fn := fun _ => fun
  | [] => { results := [.lit (.bool false)], args := [] }
  | _ => none }
def FnExactConstantsWrongFalsely : Prop := fnExactConstantsRow.holds Try.pinned (OpenSpec.ofChange fnExactConstantsWrong)

/-- 'laws.FnExactFold': WHATEVER THE INPUT: true; the input reads as it did. -/
def fnExactFoldSpec : ChangeSpec := { name := "fnExactFold", fn := fun _ => fun
  | [d] => { results := [.lit (.bool true)], args := [d] }
  | _ => none }
def fnExactFoldRow : OpenClaim := { program := "ytjjaahdfjjomiaa", sum := "eab81bf107cb3563f277b71802333ede2353d44da5f578023971f2bf2ed61654", func := "loop.example/g00016/laws.FnExactFold", spec := "fnExactFold", apart := false }
def FnExactFoldSaid : Prop := fnExactFoldRow.holds Try.pinned (OpenSpec.ofChange fnExactFoldSpec)

/-- ITS FALSE NEIGHBOUR: 'it returns false'. Refute it at one input. -/
def fnExactFoldWrong : ChangeSpec := { name := "fnExactFold", fn := fun _ => fun
  | [d] => { results := [.lit (.bool false)], args := [d] }
  | _ => none }
def FnExactFoldWrongFalsely : Prop := fnExactFoldRow.holds Try.pinned (OpenSpec.ofChange fnExactFoldWrong)

/-- 'laws.FnExactUnfold': WHATEVER THE INPUT: true; the input reads as it did. -/
def fnExactUnfoldSpec : ChangeSpec := { name := "fnExactUnfold", fn := fun _ => fun
  | [d] => { results := [.lit (.bool true)], args := [d] }
  | _ => none }
def fnExactUnfoldRow : OpenClaim := { program := "ytjjaahdfjjomiaa", sum := "eab81bf107cb3563f277b71802333ede2353d44da5f578023971f2bf2ed61654", func := "loop.example/g00016/laws.FnExactUnfold", spec := "fnExactUnfold", apart := false }
def FnExactUnfoldSaid : Prop := fnExactUnfoldRow.holds Try.pinned (OpenSpec.ofChange fnExactUnfoldSpec)

/-- ITS FALSE NEIGHBOUR: 'it returns false'. Refute it at one input. -/
def fnExactUnfoldWrong : ChangeSpec := { name := "fnExactUnfold", fn := fun _ => fun
  | [d] => { results := [.lit (.bool false)], args := [d] }
  | _ => none }
def FnExactUnfoldWrongFalsely : Prop := fnExactUnfoldRow.holds Try.pinned (OpenSpec.ofChange fnExactUnfoldWrong)

/-- 'laws.FnExactAdler': WHATEVER THE INPUT: true; the input reads as it did. -/
def fnExactAdlerSpec : ChangeSpec := { name := "fnExactAdler", fn := fun _ => fun
  | [d] => { results := [.lit (.bool true)], args := [d] }
  | _ => none }
def fnExactAdlerRow : OpenClaim := { program := "ytjjaahdfjjomiaa", sum := "eab81bf107cb3563f277b71802333ede2353d44da5f578023971f2bf2ed61654", func := "loop.example/g00016/laws.FnExactAdler", spec := "fnExactAdler", apart := false }
def FnExactAdlerSaid : Prop := fnExactAdlerRow.holds Try.pinned (OpenSpec.ofChange fnExactAdlerSpec)

/-- ITS FALSE NEIGHBOUR: 'it returns false'. Refute it at one input. -/
def fnExactAdlerWrong : ChangeSpec := { name := "fnExactAdler", fn := fun _ => fun
  | [d] => { results := [.lit (.bool false)], args := [d] }
  | _ => none }
def FnExactAdlerWrongFalsely : Prop := fnExactAdlerRow.holds Try.pinned (OpenSpec.ofChange fnExactAdlerWrong)

/-- 'laws.FnExactCrc': WHATEVER THE INPUT: true; the input reads as it did. -/
def fnExactCrcSpec : ChangeSpec := { name := "fnExactCrc", fn := fun _ => fun
  | [d] => { results := [.lit (.bool true)], args := [d] }
  | _ => none }
def fnExactCrcRow : OpenClaim := { program := "ytjjaahdfjjomiaa", sum := "eab81bf107cb3563f277b71802333ede2353d44da5f578023971f2bf2ed61654", func := "loop.example/g00016/laws.FnExactCrc", spec := "fnExactCrc", apart := false }
def FnExactCrcSaid : Prop := fnExactCrcRow.holds Try.pinned (OpenSpec.ofChange fnExactCrcSpec)

/-- ITS FALSE NEIGHBOUR: 'it returns false'. Refute it at one input. -/
def fnExactCrcWrong : ChangeSpec := { name := "fnExactCrc", fn := fun _ => fun
  | [d] => { results := [.lit (.bool false)], args := [d] }
  | _ => none }
def FnExactCrcWrongFalsely : Prop := fnExactCrcRow.holds Try.pinned (OpenSpec.ofChange fnExactCrcWrong)

/-- 'laws.FnSums': WHATEVER THE INPUT: true; the input reads as it did. -/
def fnSumsSpec : ChangeSpec := { name := "fnSums", fn := fun _ => fun
  | [d1, d2] => { results := [.lit (.bool true)], args := [d1, d2] }
  | _ => none }
def fnSumsRow : OpenClaim := { program := "ytjjaahdfjjomiaa", sum := "eab81bf107cb3563f277b71802333ede2353d44da5f578023971f2bf2ed61654", func := "loop.example/g00016/laws.FnSums", spec := "fnSums", apart := false }
def FnSumsSaid : Prop := fnSumsRow.holds Try.pinned (OpenSpec.ofChange fnSumsSpec)

/-- ITS FALSE NEIGHBOUR: 'it returns false'. Refute it at one input. -/
def fnSumsWrong : ChangeSpec := { name := "fnSums", fn := fun _ => fun
  | [d1, d2] => { results := [.lit (.bool false)], args := [d1, d2] }
  | _ => none }
def FnSumsWrongFalsely : Prop := fnSumsRow.holds Try.pinned (OpenSpec.ofChange fnSumsWrong)

/-- 'laws.FnExactPutNumber': WHATEVER THE INPUT: true; the input reads as it did. -/
def fnExactPutNumberSpec : ChangeSpec := { name := "fnExactPutNumber", fn := fun _ => fun
  | [d] => { results := [.lit (.bool true)], args := [d] }
  | _ => none }
def fnExactPutNumberRow : OpenClaim := { program := "ytjjaahdfjjomiaa", sum := "eab81bf107cb3563f277b71802333ede2353d44da5f578023971f2bf2ed61654", func := "loop.example/g00016/laws.FnExactPutNumber", spec := "fnExactPutNumber", apart := false }
def FnExactPutNumberSaid : Prop := fnExactPutNumberRow.holds Try.pinned (OpenSpec.ofChange fnExactPutNumberSpec)

/-- ITS FALSE NEIGHBOUR: 'it returns false'. Refute it at one input. -/
def fnExactPutNumberWrong : ChangeSpec := { name := "fnExactPutNumber", fn := fun _ => fun
  | [d] => { results := [.lit (.bool false)], args := [d] }
  | _ => none }
def FnExactPutNumberWrongFalsely : Prop := fnExactPutNumberRow.holds Try.pinned (OpenSpec.ofChange fnExactPutNumberWrong)

/-- 'laws.FnExactGetNumber': WHATEVER THE INPUT: true; the input reads as it did. -/
def fnExactGetNumberSpec : ChangeSpec := { name := "fnExactGetNumber", fn := fun _ => fun
  | [d1, d2] => { results := [.lit (.bool true)], args := [d1, d2] }
  | _ => none }
def fnExactGetNumberRow : OpenClaim := { program := "ytjjaahdfjjomiaa", sum := "eab81bf107cb3563f277b71802333ede2353d44da5f578023971f2bf2ed61654", func := "loop.example/g00016/laws.FnExactGetNumber", spec := "fnExactGetNumber", apart := false }
def FnExactGetNumberSaid : Prop := fnExactGetNumberRow.holds Try.pinned (OpenSpec.ofChange fnExactGetNumberSpec)

/-- ITS FALSE NEIGHBOUR: 'it returns false'. Refute it at one input. -/
def fnExactGetNumberWrong : ChangeSpec := { name := "fnExactGetNumber", fn := fun _ => fun
  | [d1, d2] => { results := [.lit (.bool false)], args := [d1, d2] }
  | _ => none }
def FnExactGetNumberWrongFalsely : Prop := fnExactGetNumberRow.holds Try.pinned (OpenSpec.ofChange fnExactGetNumberWrong)

/-- 'laws.FnNumbers': WHATEVER THE INPUT: true; the input reads as it did. -/
def fnNumbersSpec : ChangeSpec := { name := "fnNumbers", fn := fun _ => fun
  | [d] => { results := [.lit (.bool true)], args := [d] }
  | _ => none }
def fnNumbersRow : OpenClaim := { program := "ytjjaahdfjjomiaa", sum := "eab81bf107cb3563f277b71802333ede2353d44da5f578023971f2bf2ed61654", func := "loop.example/g00016/laws.FnNumbers", spec := "fnNumbers", apart := false }
def FnNumbersSaid : Prop := fnNumbersRow.holds Try.pinned (OpenSpec.ofChange fnNumbersSpec)

/-- ITS FALSE NEIGHBOUR: 'it returns false'. Refute it at one input. -/
def fnNumbersWrong : ChangeSpec := { name := "fnNumbers", fn := fun _ => fun
  | [d] => { results := [.lit (.bool false)], args := [d] }
  | _ => none }
def FnNumbersWrongFalsely : Prop := fnNumbersRow.holds Try.pinned (OpenSpec.ofChange fnNumbersWrong)

/-- 'laws.FnExactTakeHigh': WHATEVER THE INPUT: true; the input reads as it did. -/
def fnExactTakeHighSpec : ChangeSpec := { name := "fnExactTakeHigh", fn := fun _ => fun
  | [d1, d2, d3] => { results := [.lit (.bool true)], args := [d1, d2, d3] }
  | _ => none }
def fnExactTakeHighRow : OpenClaim := { program := "ytjjaahdfjjomiaa", sum := "eab81bf107cb3563f277b71802333ede2353d44da5f578023971f2bf2ed61654", func := "loop.example/g00016/laws.FnExactTakeHigh", spec := "fnExactTakeHigh", apart := false }
def FnExactTakeHighSaid : Prop := fnExactTakeHighRow.holds Try.pinned (OpenSpec.ofChange fnExactTakeHighSpec)

/-- ITS FALSE NEIGHBOUR: 'it returns false'. Refute it at one input. -/
def fnExactTakeHighWrong : ChangeSpec := { name := "fnExactTakeHigh", fn := fun _ => fun
  | [d1, d2, d3] => { results := [.lit (.bool false)], args := [d1, d2, d3] }
  | _ => none }
def FnExactTakeHighWrongFalsely : Prop := fnExactTakeHighRow.holds Try.pinned (OpenSpec.ofChange fnExactTakeHighWrong)

/-- 'laws.FnExactTakeLow': WHATEVER THE INPUT: true; the input reads as it did. -/
def fnExactTakeLowSpec : ChangeSpec := { name := "fnExactTakeLow", fn := fun _ => fun
  | [d1, d2, d3] => { results := [.lit (.bool true)], args := [d1, d2, d3] }
  | _ => none }
def fnExactTakeLowRow : OpenClaim := { program := "ytjjaahdfjjomiaa", sum := "eab81bf107cb3563f277b71802333ede2353d44da5f578023971f2bf2ed61654", func := "loop.example/g00016/laws.FnExactTakeLow", spec := "fnExactTakeLow", apart := false }
def FnExactTakeLowSaid : Prop := fnExactTakeLowRow.holds Try.pinned (OpenSpec.ofChange fnExactTakeLowSpec)

/-- ITS FALSE NEIGHBOUR: 'it returns false'. Refute it at one input. -/
def fnExactTakeLowWrong : ChangeSpec := { name := "fnExactTakeLow", fn := fun _ => fun
  | [d1, d2, d3] => { results := [.lit (.bool false)], args := [d1, d2, d3] }
  | _ => none }
def FnExactTakeLowWrongFalsely : Prop := fnExactTakeLowRow.holds Try.pinned (OpenSpec.ofChange fnExactTakeLowWrong)

/-- 'laws.FnExactUnpackRow': WHATEVER THE INPUT: true; the input reads as it did. -/
def fnExactUnpackRowSpec : ChangeSpec := { name := "fnExactUnpackRow", fn := fun _ => fun
  | [d1, d2, d3] => { results := [.lit (.bool true)], args := [d1, d2, d3] }
  | _ => none }
def fnExactUnpackRowRow : OpenClaim := { program := "ytjjaahdfjjomiaa", sum := "eab81bf107cb3563f277b71802333ede2353d44da5f578023971f2bf2ed61654", func := "loop.example/g00016/laws.FnExactUnpackRow", spec := "fnExactUnpackRow", apart := false }
def FnExactUnpackRowSaid : Prop := fnExactUnpackRowRow.holds Try.pinned (OpenSpec.ofChange fnExactUnpackRowSpec)

/-- ITS FALSE NEIGHBOUR: 'it returns false'. Refute it at one input. -/
def fnExactUnpackRowWrong : ChangeSpec := { name := "fnExactUnpackRow", fn := fun _ => fun
  | [d1, d2, d3] => { results := [.lit (.bool false)], args := [d1, d2, d3] }
  | _ => none }
def FnExactUnpackRowWrongFalsely : Prop := fnExactUnpackRowRow.holds Try.pinned (OpenSpec.ofChange fnExactUnpackRowWrong)

/- THE SECOND FORM. 'bulk': how many values and letters a reading holds, each counted each time it is reached (what is shared counts as often as it is met; a slice's spare places count too). A statement '..UptoSaid' is the law's where the arguments, and the package variables that the reading takes, are together of bulk at most 1048576: NARROWER than '..Said'. Prove '..Said' where nothing that the law and all that it calls make is longer than what came in: it says more and counts as full. Else prove '..UptoSaid'. A law counts once. -/
mutual
def uptoBulk {H : Type} : DataW H → Nat
  | .lit (.string bytes) => bytes.length + 1
  | .lit _ => 1
  | .nil => 1
  | .ptr d => uptoBulk d + 1
  | .slice elems spare => uptoBulkAll elems + uptoBulkAll spare + 1
  | .agg parts => uptoBulkAll parts + 1
  | .iface _ d => uptoBulk d + 1
  | .map entries => uptoBulkEntries entries + 1
  | .held _ => 1
def uptoBulkAll {H : Type} : List (DataW H) → Nat
  | [] => 0
  | d :: r => uptoBulk d + uptoBulkAll r
def uptoBulkEntries {H : Type} : List (Lit × DataW H) → Nat
  | [] => 0
  | x :: r => uptoBulkEntry x + uptoBulkEntries r
def uptoBulkEntry {H : Type} : Lit × DataW H → Nat
  | (.string bytes, d) => bytes.length + uptoBulk d + 1
  | (_, d) => uptoBulk d + 1
 end
def uptoSmall : (H : Type) → List (DataW H) → Bool := fun _ ds => decide (uptoBulkAll ds ≤ 1048576)
def OpenSpec.upto (s : _root_.Go.ChangeSpec) : _root_.Go.OpenSpec := { _root_.Go.OpenSpec.ofChange s with cond := some uptoSmall }

/-- 'laws.FnExactConstants', WHERE WHAT IT READS IS OF BULK AT MOST 1048576: true; the input reads as it did. -/
def fnExactConstantsUptoRow : OpenClaim := { program := "ytjjaahdfjjomiaa", sum := "eab81bf107cb3563f277b71802333ede2353d44da5f578023971f2bf2ed61654", func := "loop.example/g00016/laws.FnExactConstants", spec := "fnExactConstants", apart := false, narrowed := true }
def FnExactConstantsUptoSaid : Prop := fnExactConstantsUptoRow.holds Try.pinned (OpenSpec.upto fnExactConstantsSpec)

/-- 'laws.FnExactFold', WHERE WHAT IT READS IS OF BULK AT MOST 1048576: true; the input reads as it did. -/
def fnExactFoldUptoRow : OpenClaim := { program := "ytjjaahdfjjomiaa", sum := "eab81bf107cb3563f277b71802333ede2353d44da5f578023971f2bf2ed61654", func := "loop.example/g00016/laws.FnExactFold", spec := "fnExactFold", apart := false, narrowed := true }
def FnExactFoldUptoSaid : Prop := fnExactFoldUptoRow.holds Try.pinned (OpenSpec.upto fnExactFoldSpec)

/-- 'laws.FnExactUnfold', WHERE WHAT IT READS IS OF BULK AT MOST 1048576: true; the input reads as it did. -/
def fnExactUnfoldUptoRow : OpenClaim := { program := "ytjjaahdfjjomiaa", sum := "eab81bf107cb3563f277b71802333ede2353d44da5f578023971f2bf2ed61654", func := "loop.example/g00016/laws.FnExactUnfold", spec := "fnExactUnfold", apart := false, narrowed := true }
def FnExactUnfoldUptoSaid : Prop := fnExactUnfoldUptoRow.holds Try.pinned (OpenSpec.upto fnExactUnfoldSpec)

/-- 'laws.FnExactAdler', WHERE WHAT IT READS IS OF BULK AT MOST 1048576: true; the input reads as it did. -/
def fnExactAdlerUptoRow : OpenClaim := { program := "ytjjaahdfjjomiaa", sum := "eab81bf107cb3563f277b71802333ede2353d44da5f578023971f2bf2ed61654", func := "loop.example/g00016/laws.FnExactAdler", spec := "fnExactAdler", apart := false, narrowed := true }
def FnExactAdlerUptoSaid : Prop := fnExactAdlerUptoRow.holds Try.pinned (OpenSpec.upto fnExactAdlerSpec)

/-- 'laws.FnExactCrc', WHERE WHAT IT READS IS OF BULK AT MOST 1048576: true; the input reads as it did. -/
def fnExactCrcUptoRow : OpenClaim := { program := "ytjjaahdfjjomiaa", sum := "eab81bf107cb3563f277b71802333ede2353d44da5f578023971f2bf2ed61654", func := "loop.example/g00016/laws.FnExactCrc", spec := "fnExactCrc", apart := false, narrowed := true }
def FnExactCrcUptoSaid : Prop := fnExactCrcUptoRow.holds Try.pinned (OpenSpec.upto fnExactCrcSpec)

/-- 'laws.FnSums', WHERE WHAT IT READS IS OF BULK AT MOST 1048576: true; the input reads as it did. -/
def fnSumsUptoRow : OpenClaim := { program := "ytjjaahdfjjomiaa", sum := "eab81bf107cb3563f277b71802333ede2353d44da5f578023971f2bf2ed61654", func := "loop.example/g00016/laws.FnSums", spec := "fnSums", apart := false, narrowed := true }
def FnSumsUptoSaid : Prop := fnSumsUptoRow.holds Try.pinned (OpenSpec.upto fnSumsSpec)

/-- 'laws.FnExactPutNumber', WHERE WHAT IT READS IS OF BULK AT MOST 1048576: true; the input reads as it did. -/
def fnExactPutNumberUptoRow : OpenClaim := { program := "ytjjaahdfjjomiaa", sum := "eab81bf107cb3563f277b71802333ede2353d44da5f578023971f2bf2ed61654", func := "loop.example/g00016/laws.FnExactPutNumber", spec := "fnExactPutNumber", apart := false, narrowed := true }
def FnExactPutNumberUptoSaid : Prop := fnExactPutNumberUptoRow.holds Try.pinned (OpenSpec.upto fnExactPutNumberSpec)

/-- 'laws.FnExactGetNumber', WHERE WHAT IT READS IS OF BULK AT MOST 1048576: true; the input reads as it did. -/
def fnExactGetNumberUptoRow : OpenClaim := { program := "ytjjaahdfjjomiaa", sum := "eab81bf107cb3563f277b71802333ede2353d44da5f578023971f2bf2ed61654", func := "loop.example/g00016/laws.FnExactGetNumber", spec := "fnExactGetNumber", apart := false, narrowed := true }
def FnExactGetNumberUptoSaid : Prop := fnExactGetNumberUptoRow.holds Try.pinned (OpenSpec.upto fnExactGetNumberSpec)

/-- 'laws.FnNumbers', WHERE WHAT IT READS IS OF BULK AT MOST 1048576: true; the input reads as it did. -/
def fnNumbersUptoRow : OpenClaim := { program := "ytjjaahdfjjomiaa", sum := "eab81bf107cb3563f277b71802333ede2353d44da5f578023971f2bf2ed61654", func := "loop.example/g00016/laws.FnNumbers", spec := "fnNumbers", apart := false, narrowed := true }
def FnNumbersUptoSaid : Prop := fnNumbersUptoRow.holds Try.pinned (OpenSpec.upto fnNumbersSpec)

/-- 'laws.FnExactTakeHigh', WHERE WHAT IT READS IS OF BULK AT MOST 1048576: true; the input reads as it did. -/
def fnExactTakeHighUptoRow : OpenClaim := { program := "ytjjaahdfjjomiaa", sum := "eab81bf107cb3563f277b71802333ede2353d44da5f578023971f2bf2ed61654", func := "loop.example/g00016/laws.FnExactTakeHigh", spec := "fnExactTakeHigh", apart := false, narrowed := true }
def FnExactTakeHighUptoSaid : Prop := fnExactTakeHighUptoRow.holds Try.pinned (OpenSpec.upto fnExactTakeHighSpec)

/-- 'laws.FnExactTakeLow', WHERE WHAT IT READS IS OF BULK AT MOST 1048576: true; the input reads as it did. -/
def fnExactTakeLowUptoRow : OpenClaim := { program := "ytjjaahdfjjomiaa", sum := "eab81bf107cb3563f277b71802333ede2353d44da5f578023971f2bf2ed61654", func := "loop.example/g00016/laws.FnExactTakeLow", spec := "fnExactTakeLow", apart := false, narrowed := true }
def FnExactTakeLowUptoSaid : Prop := fnExactTakeLowUptoRow.holds Try.pinned (OpenSpec.upto fnExactTakeLowSpec)

/-- 'laws.FnExactUnpackRow', WHERE WHAT IT READS IS OF BULK AT MOST 1048576: true; the input reads as it did. -/
def fnExactUnpackRowUptoRow : OpenClaim := { program := "ytjjaahdfjjomiaa", sum := "eab81bf107cb3563f277b71802333ede2353d44da5f578023971f2bf2ed61654", func := "loop.example/g00016/laws.FnExactUnpackRow", spec := "fnExactUnpackRow", apart := false, narrowed := true }
def FnExactUnpackRowUptoSaid : Prop := fnExactUnpackRowUptoRow.holds Try.pinned (OpenSpec.upto fnExactUnpackRowSpec)

end Rows
end Go.Proofs.Ytjjaahdfjjomiaa
