/-
  NARROWER THAN 'FOR EVERY INPUT', by the rows' own cells (each row's printed sentence says how): FnExactSmallForward: laid · FnExactSmallFine: laid · FnExactSmallCoarse: laid · FnExactWindow: laid · FnExactUnlap: laid.
  DERIVED. THE GIVEN ROWS OF THIS SEAT. 5 by the template 'for every input the law returns true; each argument reads behind the call as it read before'; 0 by the template 'total and deterministic' (their statements: YtkhpcclddkddmaaDoorTotals.lean).
  GIVEN WITH THE SEED: the statements are not yours to turn. If you find one false, say at which input.
  Laid BY PROGRAM, IN A SANDBOX (cutbox-rows.mjs): the forced cells as the released guide's own fill.sh prints them over the translation dbaa35e33b449ff7… (all of the seat's roots in one cut). By AI agents, Wed Nov 11 2026. No macro, syntax, notation, axiom, sorry.
-/
import Derived.Test.YtkhpcclddkddmaaDoorChecked
import GoSem.Claim
import GoSem.ClaimJoined
import GoSem.ClaimMapViews
import Derived.JoinedTies
import Derived.KernelRfl
namespace Go.Proofs.YtkhpcclddkddmaaDoor
/- THE CELL 'sum', in the pinned program and in every row, IS THE sha256 OF THE DUMP (.gsa) THAT YtkhpcclddkddmaaDoorProg.lean LOADS. Nothing in Lean hashes anything: it is a label: what it is worth is what the hold of that sum in a sandbox is worth. -/
noncomputable def Tryd.pinned : Pinned := { name := "ytkhpcclddkddmaadoor", sum := "dbaa35e33b449ff76fb483838399e98abe40b260fd89cc6798a87040b1c7e63d", checked := Tryd.checked }
namespace Rows
def none {H : Type} : Left H := { results := [], args := [] }

/- WHAT THE LISTED PACKAGE-LEVEL VARIABLES READ AS WHEN THE CALL BEGINS. Each datum BY PROGRAM (the guide's laid-datum.mjs) off the statement by which the dump's own 'gosem.cut.vars' lays the variable. In a bare row this is a premise. The card (YtkhpcclddkddmaaDoorCards.lean) ties it to the program's text. -/
def laid_loop_example_g00016_impl_zrows {H : Type} : DataW H := .agg [.agg [.lit (.int .i64 1), .lit (.int .i64 1), .lit (.int .i64 1), .lit (.int .i64 1)], .agg [.lit (.int .i64 2), .lit (.int .i64 1), .lit (.int .i64 (-1)), .lit (.int .i64 (-2))], .agg [.lit (.int .i64 1), .lit (.int .i64 (-1)), .lit (.int .i64 (-1)), .lit (.int .i64 1)], .agg [.lit (.int .i64 1), .lit (.int .i64 (-2)), .lit (.int .i64 2), .lit (.int .i64 (-1))]]
def laid_loop_example_g00016_impl_zv {H : Type} : DataW H := .agg [.agg [.lit (.int .i64 10), .lit (.int .i64 16), .lit (.int .i64 13)], .agg [.lit (.int .i64 11), .lit (.int .i64 18), .lit (.int .i64 14)], .agg [.lit (.int .i64 13), .lit (.int .i64 20), .lit (.int .i64 16)], .agg [.lit (.int .i64 14), .lit (.int .i64 23), .lit (.int .i64 18)], .agg [.lit (.int .i64 16), .lit (.int .i64 25), .lit (.int .i64 20)], .agg [.lit (.int .i64 18), .lit (.int .i64 29), .lit (.int .i64 23)]]
def laid_loop_example_g00016_impl_zm {H : Type} : DataW H := .agg [.agg [.lit (.int .i64 13107), .lit (.int .i64 5243), .lit (.int .i64 8066)], .agg [.lit (.int .i64 11916), .lit (.int .i64 4660), .lit (.int .i64 7490)], .agg [.lit (.int .i64 10082), .lit (.int .i64 4194), .lit (.int .i64 6554)], .agg [.lit (.int .i64 9362), .lit (.int .i64 3647), .lit (.int .i64 5825)], .agg [.lit (.int .i64 8192), .lit (.int .i64 3355), .lit (.int .i64 5243)], .agg [.lit (.int .i64 7282), .lit (.int .i64 2893), .lit (.int .i64 4559)]]
def laid_loop_example_g00016_impl_zk {H : Type} : DataW H := .agg [.lit (.int .i64 16384), .lit (.int .i64 16364), .lit (.int .i64 16305), .lit (.int .i64 16207), .lit (.int .i64 16069), .lit (.int .i64 15893), .lit (.int .i64 15679), .lit (.int .i64 15426), .lit (.int .i64 15137), .lit (.int .i64 14811), .lit (.int .i64 14449), .lit (.int .i64 14053), .lit (.int .i64 13623), .lit (.int .i64 13160), .lit (.int .i64 12665), .lit (.int .i64 12140), .lit (.int .i64 11585), .lit (.int .i64 11003), .lit (.int .i64 10394), .lit (.int .i64 9760), .lit (.int .i64 9102), .lit (.int .i64 8423), .lit (.int .i64 7723), .lit (.int .i64 7005), .lit (.int .i64 6270), .lit (.int .i64 5520), .lit (.int .i64 4756), .lit (.int .i64 3981), .lit (.int .i64 3196), .lit (.int .i64 2404), .lit (.int .i64 1606), .lit (.int .i64 804), .lit (.int .i64 0)]

/-- 'laws.FnExactSmallForward': WHATEVER THE INPUT: true; the input reads as it did. -/
def fnExactSmallForwardSpec : ChangeSpec := { name := "fnExactSmallForward", vars := ["loop.example/g00016/impl.zrows"], fn := fun _ => fun
  | [d, g1] => { results := [.lit (.bool true)], args := [d], vars := [g1] }
  | _ => none }
def fnExactSmallForwardRow : OpenClaim := { program := "ytkhpcclddkddmaadoor", sum := "dbaa35e33b449ff76fb483838399e98abe40b260fd89cc6798a87040b1c7e63d", func := "loop.example/g00016/laws.FnExactSmallForward", spec := "fnExactSmallForward", named := ["loop.example/g00016/impl.zrows"], apart := false, laid := [("loop.example/g00016/impl.zrows", laid_loop_example_g00016_impl_zrows)] }
def FnExactSmallForwardSaid : Prop := fnExactSmallForwardRow.holds Tryd.pinned (OpenSpec.ofChange fnExactSmallForwardSpec)

/-- ITS FALSE NEIGHBOUR: 'it returns false'. Refute it at one input. -/
def fnExactSmallForwardWrong : ChangeSpec := { name := "fnExactSmallForward", vars := ["loop.example/g00016/impl.zrows"], fn := fun _ => fun
  | [d, g1] => { results := [.lit (.bool false)], args := [d], vars := [g1] }
  | _ => none }
def FnExactSmallForwardWrongFalsely : Prop := fnExactSmallForwardRow.holds Tryd.pinned (OpenSpec.ofChange fnExactSmallForwardWrong)

/-- 'laws.FnExactSmallFine': WHATEVER THE INPUT: true; the input reads as it did. -/
def fnExactSmallFineSpec : ChangeSpec := { name := "fnExactSmallFine", vars := ["loop.example/g00016/impl.zv"], fn := fun _ => fun
  | [d1, d2, g1] => { results := [.lit (.bool true)], args := [d1, d2], vars := [g1] }
  | _ => none }
def fnExactSmallFineRow : OpenClaim := { program := "ytkhpcclddkddmaadoor", sum := "dbaa35e33b449ff76fb483838399e98abe40b260fd89cc6798a87040b1c7e63d", func := "loop.example/g00016/laws.FnExactSmallFine", spec := "fnExactSmallFine", named := ["loop.example/g00016/impl.zv"], apart := false, laid := [("loop.example/g00016/impl.zv", laid_loop_example_g00016_impl_zv)] }
def FnExactSmallFineSaid : Prop := fnExactSmallFineRow.holds Tryd.pinned (OpenSpec.ofChange fnExactSmallFineSpec)

/-- ITS FALSE NEIGHBOUR: 'it returns false'. Refute it at one input. -/
def fnExactSmallFineWrong : ChangeSpec := { name := "fnExactSmallFine", vars := ["loop.example/g00016/impl.zv"], fn := fun _ => fun
  | [d1, d2, g1] => { results := [.lit (.bool false)], args := [d1, d2], vars := [g1] }
  | _ => none }
def FnExactSmallFineWrongFalsely : Prop := fnExactSmallFineRow.holds Tryd.pinned (OpenSpec.ofChange fnExactSmallFineWrong)

/-- 'laws.FnExactSmallCoarse': WHATEVER THE INPUT: true; the input reads as it did. -/
def fnExactSmallCoarseSpec : ChangeSpec := { name := "fnExactSmallCoarse", vars := ["loop.example/g00016/impl.zm"], fn := fun _ => fun
  | [d1, d2, g1] => { results := [.lit (.bool true)], args := [d1, d2], vars := [g1] }
  | _ => none }
def fnExactSmallCoarseRow : OpenClaim := { program := "ytkhpcclddkddmaadoor", sum := "dbaa35e33b449ff76fb483838399e98abe40b260fd89cc6798a87040b1c7e63d", func := "loop.example/g00016/laws.FnExactSmallCoarse", spec := "fnExactSmallCoarse", named := ["loop.example/g00016/impl.zm"], apart := false, laid := [("loop.example/g00016/impl.zm", laid_loop_example_g00016_impl_zm)] }
def FnExactSmallCoarseSaid : Prop := fnExactSmallCoarseRow.holds Tryd.pinned (OpenSpec.ofChange fnExactSmallCoarseSpec)

/-- ITS FALSE NEIGHBOUR: 'it returns false'. Refute it at one input. -/
def fnExactSmallCoarseWrong : ChangeSpec := { name := "fnExactSmallCoarse", vars := ["loop.example/g00016/impl.zm"], fn := fun _ => fun
  | [d1, d2, g1] => { results := [.lit (.bool false)], args := [d1, d2], vars := [g1] }
  | _ => none }
def FnExactSmallCoarseWrongFalsely : Prop := fnExactSmallCoarseRow.holds Tryd.pinned (OpenSpec.ofChange fnExactSmallCoarseWrong)

/-- 'laws.FnExactWindow': WHATEVER THE INPUT: true; the input reads as it did. -/
def fnExactWindowSpec : ChangeSpec := { name := "fnExactWindow", vars := ["loop.example/g00016/impl.zk"], fn := fun _ => fun
  | [g1] => { results := [.lit (.bool true)], args := [], vars := [g1] }
  | _ => none }
def fnExactWindowRow : OpenClaim := { program := "ytkhpcclddkddmaadoor", sum := "dbaa35e33b449ff76fb483838399e98abe40b260fd89cc6798a87040b1c7e63d", func := "loop.example/g00016/laws.FnExactWindow", spec := "fnExactWindow", named := ["loop.example/g00016/impl.zk"], apart := false, laid := [("loop.example/g00016/impl.zk", laid_loop_example_g00016_impl_zk)] }
def FnExactWindowSaid : Prop := fnExactWindowRow.holds Tryd.pinned (OpenSpec.ofChange fnExactWindowSpec)

/-- ITS FALSE NEIGHBOUR: 'it returns false'. Refute it at one input. -/
def fnExactWindowWrong : ChangeSpec := { name := "fnExactWindow", vars := ["loop.example/g00016/impl.zk"], fn := fun _ => fun
  | [g1] => { results := [.lit (.bool false)], args := [], vars := [g1] }
  | _ => none }
def FnExactWindowWrongFalsely : Prop := fnExactWindowRow.holds Tryd.pinned (OpenSpec.ofChange fnExactWindowWrong)

/-- 'laws.FnExactUnlap': WHATEVER THE INPUT: true; the input reads as it did. -/
def fnExactUnlapSpec : ChangeSpec := { name := "fnExactUnlap", vars := ["loop.example/g00016/impl.zk"], fn := fun _ => fun
  | [d, g1] => { results := [.lit (.bool true)], args := [d], vars := [g1] }
  | _ => none }
def fnExactUnlapRow : OpenClaim := { program := "ytkhpcclddkddmaadoor", sum := "dbaa35e33b449ff76fb483838399e98abe40b260fd89cc6798a87040b1c7e63d", func := "loop.example/g00016/laws.FnExactUnlap", spec := "fnExactUnlap", named := ["loop.example/g00016/impl.zk"], apart := false, laid := [("loop.example/g00016/impl.zk", laid_loop_example_g00016_impl_zk)] }
def FnExactUnlapSaid : Prop := fnExactUnlapRow.holds Tryd.pinned (OpenSpec.ofChange fnExactUnlapSpec)

/-- ITS FALSE NEIGHBOUR: 'it returns false'. Refute it at one input. -/
def fnExactUnlapWrong : ChangeSpec := { name := "fnExactUnlap", vars := ["loop.example/g00016/impl.zk"], fn := fun _ => fun
  | [d, g1] => { results := [.lit (.bool false)], args := [d], vars := [g1] }
  | _ => none }
def FnExactUnlapWrongFalsely : Prop := fnExactUnlapRow.holds Tryd.pinned (OpenSpec.ofChange fnExactUnlapWrong)

/- THE SECOND FORM. 'bulk': how many values and letters a reading holds, each counted each time it is reached (what is shared counts as often as it is met; a slice's spare places count too). A statement '..UptoSaid' is the law's where the arguments, and the package variables that the reading takes, are together of bulk at most 1048576: NARROWER than '..Said'. Prove '..Said' where nothing that the law and all that it calls make is longer than what came in: it says more and counts as full. Else prove '..UptoSaid'. A law counts once. -/
mutual
def uptoBulk {H : Type} : DataW H → Nat
  | .lit (.string bytes) => bytes.length + 1
  | .lit _ => 1
  | .nil => 1
  | .ptr d => uptoBulk d + 1
  | .slice elems spare => uptoBulkAll elems + uptoBulkAll spare + 1
  | .agg parts => uptoBulkAll parts + 1
  | .iface _ d => uptoBulk d + 1
  | .map entries => uptoBulkEntries entries + 1
  | .held _ => 1
def uptoBulkAll {H : Type} : List (DataW H) → Nat
  | [] => 0
  | d :: r => uptoBulk d + uptoBulkAll r
def uptoBulkEntries {H : Type} : List (Lit × DataW H) → Nat
  | [] => 0
  | x :: r => uptoBulkEntry x + uptoBulkEntries r
def uptoBulkEntry {H : Type} : Lit × DataW H → Nat
  | (.string bytes, d) => bytes.length + uptoBulk d + 1
  | (_, d) => uptoBulk d + 1
 end
def uptoSmall : (H : Type) → List (DataW H) → Bool := fun _ ds => decide (uptoBulkAll ds ≤ 1048576)
def OpenSpec.upto (s : _root_.Go.ChangeSpec) : _root_.Go.OpenSpec := { _root_.Go.OpenSpec.ofChange s with cond := some uptoSmall }

/-- 'laws.FnExactSmallForward', WHERE WHAT IT READS IS OF BULK AT MOST 1048576: true; the input reads as it did. -/
def fnExactSmallForwardUptoRow : OpenClaim := { program := "ytkhpcclddkddmaadoor", sum := "dbaa35e33b449ff76fb483838399e98abe40b260fd89cc6798a87040b1c7e63d", func := "loop.example/g00016/laws.FnExactSmallForward", spec := "fnExactSmallForward", named := ["loop.example/g00016/impl.zrows"], apart := false, laid := [("loop.example/g00016/impl.zrows", laid_loop_example_g00016_impl_zrows)], narrowed := true }
def FnExactSmallForwardUptoSaid : Prop := fnExactSmallForwardUptoRow.holds Tryd.pinned (OpenSpec.upto fnExactSmallForwardSpec)

/-- 'laws.FnExactSmallFine', WHERE WHAT IT READS IS OF BULK AT MOST 1048576: true; the input reads as it did. -/
def fnExactSmallFineUptoRow : OpenClaim := { program := "ytkhpcclddkddmaadoor", sum := "dbaa35e33b449ff76fb483838399e98abe40b260fd89cc6798a87040b1c7e63d", func := "loop.example/g00016/laws.FnExactSmallFine", spec := "fnExactSmallFine", named := ["loop.example/g00016/impl.zv"], apart := false, laid := [("loop.example/g00016/impl.zv", laid_loop_example_g00016_impl_zv)], narrowed := true }
def FnExactSmallFineUptoSaid : Prop := fnExactSmallFineUptoRow.holds Tryd.pinned (OpenSpec.upto fnExactSmallFineSpec)

/-- 'laws.FnExactSmallCoarse', WHERE WHAT IT READS IS OF BULK AT MOST 1048576: true; the input reads as it did. -/
def fnExactSmallCoarseUptoRow : OpenClaim := { program := "ytkhpcclddkddmaadoor", sum := "dbaa35e33b449ff76fb483838399e98abe40b260fd89cc6798a87040b1c7e63d", func := "loop.example/g00016/laws.FnExactSmallCoarse", spec := "fnExactSmallCoarse", named := ["loop.example/g00016/impl.zm"], apart := false, laid := [("loop.example/g00016/impl.zm", laid_loop_example_g00016_impl_zm)], narrowed := true }
def FnExactSmallCoarseUptoSaid : Prop := fnExactSmallCoarseUptoRow.holds Tryd.pinned (OpenSpec.upto fnExactSmallCoarseSpec)

/-- 'laws.FnExactWindow', WHERE WHAT IT READS IS OF BULK AT MOST 1048576: true; the input reads as it did. -/
def fnExactWindowUptoRow : OpenClaim := { program := "ytkhpcclddkddmaadoor", sum := "dbaa35e33b449ff76fb483838399e98abe40b260fd89cc6798a87040b1c7e63d", func := "loop.example/g00016/laws.FnExactWindow", spec := "fnExactWindow", named := ["loop.example/g00016/impl.zk"], apart := false, laid := [("loop.example/g00016/impl.zk", laid_loop_example_g00016_impl_zk)], narrowed := true }
def FnExactWindowUptoSaid : Prop := fnExactWindowUptoRow.holds Tryd.pinned (OpenSpec.upto fnExactWindowSpec)

/-- 'laws.FnExactUnlap', WHERE WHAT IT READS IS OF BULK AT MOST 1048576: true; the input reads as it did. -/
def fnExactUnlapUptoRow : OpenClaim := { program := "ytkhpcclddkddmaadoor", sum := "dbaa35e33b449ff76fb483838399e98abe40b260fd89cc6798a87040b1c7e63d", func := "loop.example/g00016/laws.FnExactUnlap", spec := "fnExactUnlap", named := ["loop.example/g00016/impl.zk"], apart := false, laid := [("loop.example/g00016/impl.zk", laid_loop_example_g00016_impl_zk)], narrowed := true }
def FnExactUnlapUptoSaid : Prop := fnExactUnlapUptoRow.holds Tryd.pinned (OpenSpec.upto fnExactUnlapSpec)

end Rows
end Go.Proofs.YtkhpcclddkddmaaDoor
