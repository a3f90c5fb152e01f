-- PRINTED BY print.sh 35421559b90ae4d0a3588c463048766b98c2df88dd9212a6774a882060cdf62d: not written by this session
import Derived.Test.YtbfcilailhcanaaProg
import Derived.Below
import Derived.Deep.Draws
import Derived.Deep.AppendLies
import Derived.Maps.AppendAt
import Derived.OwnWalk
import Derived.Laws.BytesArg
import Derived.Laws.MakeOwn
import Derived.Laws.OwnMore
import Derived.Deep.OwnRows
import Derived.Tactics
import Derived.Lib.ConvBytes
import Derived.Laws.Slices
import Derived.WalkKit
import Derived.KernelRfl
import Derived.RowKit3
import Derived.Deep.LoopGhost
import Derived.Deep.QuietTactic
import Derived.BigQuiet
import Derived.WideLaws
import Derived.Deep.DeepCutAuto
import Derived.Deep.CutBlock
import Derived.Deep.RegionHeld3
import Derived.Laws.Rows
import Derived.Lib.AppendStr
import Derived.ArgAppend
import Derived.Laws.IdiomCopy
import Derived.OrdersHeld
import Derived.Laws.BitsLemmas
import Derived.RowKit
import Derived.Test.YtbfcilailhcanaaWWords
import Derived.Test.YtbfcilailhcanaaWLast
import Derived.Test.YtbfcilailhcanaaWTab
import Derived.Test.YtbfcilailhcanaaWFour
import Derived.Test.YtbfcilailhcanaaWQPut
import Derived.Test.YtbfcilailhcanaaWApart
import Derived.Test.YtbfcilailhcanaaWArr
import Derived.Test.YtbfcilailhcanaaWZeros
import Derived.Test.YtbfcilailhcanaaWFoot
import Derived.Test.YtbfcilailhcanaaWKept
import Derived.Test.YtbfcilailhcanaaWShare
import Derived.Test.YtbfcilailhcanaaWN
import Derived.Test.YtbfcilailhcanaaWFootNe
import Derived.Test.YtbfcilailhcanaaWAt
import Derived.Test.YtbfcilailhcanaaWEqStruct
import Derived.Test.YtbfcilailhcanaaWRepsOne
import Derived.Test.YtbfcilailhcanaaWInv
import Derived.Test.YtbfcilailhcanaaWInvWords
import Derived.Test.YtbfcilailhcanaaWGuard
import Derived.Test.YtbfcilailhcanaaWNEv
import Derived.Test.YtbfcilailhcanaaWMore
namespace Go.Proofs.Ytbfcilailhcanaa.PFnExactUnlift
open Go.RowKit Go.Proofs.YtbfcilailhcanaaW.PrintWords Go.Proofs.YtbfcilailhcanaaW.PrintLast Go.Proofs.YtbfcilailhcanaaW.PrintMore
attribute [local go_sem] max2_int min2_int max_two min_two max_three min_three max_four min_four   -- for this text's walks alone
set_option linter.unusedVariables false
set_option linter.unusedSimpArgs false



def errW : Option Int → Value
  | none => .nilIface
  | some c => .iface 0 (.int .i64 c)
theorem errW_none : errW none = .nilIface := rfl
theorem errW_some (c : Int) : errW (some c) = .iface 0 (.int .i64 c) := rfl

-- the values' own types

end Go.Proofs.Ytbfcilailhcanaa.PFnExactUnlift
