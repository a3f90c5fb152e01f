/-
  NARROWER THAN 'FOR EVERY INPUT', by the rows' own cells (each row's printed sentence says how): FnExactPowers: laid · FnWaves: laid.
  DERIVED. THE GIVEN ROWS OF THIS SEAT. 2 by the template 'for every input the law returns true; each argument reads behind the call as it read before'; 0 by the template 'total and deterministic' (their statements: YtdijjadoneeadaaDoorTotals.lean).
  GIVEN WITH THE SEED: the statements are not yours to turn. If you find one false, say at which input.
  Laid BY PROGRAM, IN A SANDBOX (cutbox-rows.mjs): the forced cells as the released guide's own fill.sh prints them over the translation 251d04d179741ecc… (all of the seat's roots in one cut). By AI agents, Wed Nov 11 2026. No macro, syntax, notation, axiom, sorry.
-/
import Derived.Test.YtdijjadoneeadaaDoorChecked
import GoSem.Claim
import GoSem.ClaimJoined
import GoSem.ClaimMapViews
import Derived.JoinedTies
import Derived.KernelRfl
namespace Go.Proofs.YtdijjadoneeadaaDoor
/- THE CELL 'sum', in the pinned program and in every row, IS THE sha256 OF THE DUMP (.gsa) THAT YtdijjadoneeadaaDoorProg.lean LOADS. Nothing in Lean hashes anything: it is a label: what it is worth is what the hold of that sum in a sandbox is worth. -/
noncomputable def Tryd.pinned : Pinned := { name := "ytdijjadoneeadaadoor", sum := "251d04d179741ecc2a3a871bbe11747578db04d53ee0e3f45efe14976d9e6e81", checked := Tryd.checked }
namespace Rows
def none {H : Type} : Left H := { results := [], args := [] }

/- WHAT THE LISTED PACKAGE-LEVEL VARIABLES READ AS WHEN THE CALL BEGINS. Each datum BY PROGRAM (the guide's laid-datum.mjs) off the statement by which the dump's own 'gosem.cut.vars' lays the variable. In a bare row this is a premise. The card (YtdijjadoneeadaaDoorCards.lean) ties it to the program's text. -/
def laid_loop_example_g00016_impl_zpairs {H : Type} : DataW H := .agg [.agg [.lit (.float .f64 4607182418800017408), .lit (.float .f64 0)], .agg [.lit (.float .f64 4606496786581982534), .lit (.float .f64 13823937468626282851)], .agg [.lit (.float .f64 4604544271217802189), .lit (.float .f64 13827916308072577997)], .agg [.lit (.float .f64 4600565431771507043), .lit (.float .f64 13829868823436758342)], .agg [.lit (.float .f64 0), .lit (.float .f64 13830554455654793216)], .agg [.lit (.float .f64 13823937468626282851), .lit (.float .f64 13829868823436758342)], .agg [.lit (.float .f64 13827916308072577997), .lit (.float .f64 13827916308072577997)], .agg [.lit (.float .f64 13829868823436758342), .lit (.float .f64 13823937468626282851)]]

/-- 'laws.FnExactPowers': WHATEVER THE INPUT: true; the input reads as it did. -/
def fnExactPowersSpec : ChangeSpec := { name := "fnExactPowers", vars := ["loop.example/g00016/impl.zpairs"], fn := fun _ => fun
  | [d, g1] => { results := [.lit (.bool true)], args := [d], vars := [g1] }
  | _ => none }
def fnExactPowersRow : OpenClaim := { program := "ytdijjadoneeadaadoor", sum := "251d04d179741ecc2a3a871bbe11747578db04d53ee0e3f45efe14976d9e6e81", func := "loop.example/g00016/laws.FnExactPowers", spec := "fnExactPowers", named := ["loop.example/g00016/impl.zpairs"], apart := false, laid := [("loop.example/g00016/impl.zpairs", laid_loop_example_g00016_impl_zpairs)] }
def FnExactPowersSaid : Prop := fnExactPowersRow.holds Tryd.pinned (OpenSpec.ofChange fnExactPowersSpec)

/-- ITS FALSE NEIGHBOUR: 'it returns false'. Refute it at one input. -/
def fnExactPowersWrong : ChangeSpec := { name := "fnExactPowers", vars := ["loop.example/g00016/impl.zpairs"], fn := fun _ => fun
  | [d, g1] => { results := [.lit (.bool false)], args := [d], vars := [g1] }
  | _ => none }
def FnExactPowersWrongFalsely : Prop := fnExactPowersRow.holds Tryd.pinned (OpenSpec.ofChange fnExactPowersWrong)

/-- 'laws.FnWaves': WHATEVER THE INPUT: true; the input reads as it did. -/
def fnWavesSpec : ChangeSpec := { name := "fnWaves", vars := ["loop.example/g00016/impl.zpairs"], fn := fun _ => fun
  | [d1, d2, g1] => { results := [.lit (.bool true)], args := [d1, d2], vars := [g1] }
  | _ => none }
def fnWavesRow : OpenClaim := { program := "ytdijjadoneeadaadoor", sum := "251d04d179741ecc2a3a871bbe11747578db04d53ee0e3f45efe14976d9e6e81", func := "loop.example/g00016/laws.FnWaves", spec := "fnWaves", named := ["loop.example/g00016/impl.zpairs"], apart := false, laid := [("loop.example/g00016/impl.zpairs", laid_loop_example_g00016_impl_zpairs)] }
def FnWavesSaid : Prop := fnWavesRow.holds Tryd.pinned (OpenSpec.ofChange fnWavesSpec)

/-- ITS FALSE NEIGHBOUR: 'it returns false'. Refute it at one input. -/
def fnWavesWrong : ChangeSpec := { name := "fnWaves", vars := ["loop.example/g00016/impl.zpairs"], fn := fun _ => fun
  | [d1, d2, g1] => { results := [.lit (.bool false)], args := [d1, d2], vars := [g1] }
  | _ => none }
def FnWavesWrongFalsely : Prop := fnWavesRow.holds Tryd.pinned (OpenSpec.ofChange fnWavesWrong)

/- THE SECOND FORM. 'bulk': how many values and letters a reading holds, each counted each time it is reached (what is shared counts as often as it is met; a slice's spare places count too). A statement '..UptoSaid' is the law's where the arguments, and the package variables that the reading takes, are together of bulk at most 1048576: NARROWER than '..Said'. Prove '..Said' where nothing that the law and all that it calls make is longer than what came in: it says more and counts as full. Else prove '..UptoSaid'. A law counts once. -/
mutual
def uptoBulk {H : Type} : DataW H → Nat
  | .lit (.string bytes) => bytes.length + 1
  | .lit _ => 1
  | .nil => 1
  | .ptr d => uptoBulk d + 1
  | .slice elems spare => uptoBulkAll elems + uptoBulkAll spare + 1
  | .agg parts => uptoBulkAll parts + 1
  | .iface _ d => uptoBulk d + 1
  | .map entries => uptoBulkEntries entries + 1
  | .held _ => 1
def uptoBulkAll {H : Type} : List (DataW H) → Nat
  | [] => 0
  | d :: r => uptoBulk d + uptoBulkAll r
def uptoBulkEntries {H : Type} : List (Lit × DataW H) → Nat
  | [] => 0
  | x :: r => uptoBulkEntry x + uptoBulkEntries r
def uptoBulkEntry {H : Type} : Lit × DataW H → Nat
  | (.string bytes, d) => bytes.length + uptoBulk d + 1
  | (_, d) => uptoBulk d + 1
 end
def uptoSmall : (H : Type) → List (DataW H) → Bool := fun _ ds => decide (uptoBulkAll ds ≤ 1048576)
def OpenSpec.upto (s : _root_.Go.ChangeSpec) : _root_.Go.OpenSpec := { _root_.Go.OpenSpec.ofChange s with cond := some uptoSmall }

/-- 'laws.FnExactPowers', WHERE WHAT IT READS IS OF BULK AT MOST 1048576: true; the input reads as it did. -/
def fnExactPowersUptoRow : OpenClaim := { program := "ytdijjadoneeadaadoor", sum := "251d04d179741ecc2a3a871bbe11747578db04d53ee0e3f45efe14976d9e6e81", func := "loop.example/g00016/laws.FnExactPowers", spec := "fnExactPowers", named := ["loop.example/g00016/impl.zpairs"], apart := false, laid := [("loop.example/g00016/impl.zpairs", laid_loop_example_g00016_impl_zpairs)], narrowed := true }
def FnExactPowersUptoSaid : Prop := fnExactPowersUptoRow.holds Tryd.pinned (OpenSpec.upto fnExactPowersSpec)

/-- 'laws.FnWaves', WHERE WHAT IT READS IS OF BULK AT MOST 1048576: true; the input reads as it did. -/
def fnWavesUptoRow : OpenClaim := { program := "ytdijjadoneeadaadoor", sum := "251d04d179741ecc2a3a871bbe11747578db04d53ee0e3f45efe14976d9e6e81", func := "loop.example/g00016/laws.FnWaves", spec := "fnWaves", named := ["loop.example/g00016/impl.zpairs"], apart := false, laid := [("loop.example/g00016/impl.zpairs", laid_loop_example_g00016_impl_zpairs)], narrowed := true }
def FnWavesUptoSaid : Prop := fnWavesUptoRow.holds Tryd.pinned (OpenSpec.upto fnWavesSpec)

end Rows
end Go.Proofs.YtdijjadoneeadaaDoor
