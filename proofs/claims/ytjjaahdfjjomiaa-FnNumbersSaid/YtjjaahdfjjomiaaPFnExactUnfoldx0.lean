-- PRINTED BY print.sh 35421559b90ae4d0a3588c463048766b98c2df88dd9212a6774a882060cdf62d: not written by this session
import Derived.Test.YtjjaahdfjjomiaaProg
import Derived.Below
import Derived.Deep.Draws
import Derived.Deep.AppendLies
import Derived.Maps.AppendAt
import Derived.OwnWalk
import Derived.Laws.BytesArg
import Derived.Laws.MakeOwn
import Derived.Laws.OwnMore
import Derived.Deep.OwnRows
import Derived.Tactics
import Derived.Lib.ConvBytes
import Derived.Laws.Slices
import Derived.WalkKit
import Derived.KernelRfl
import Derived.RowKit3
import Derived.Deep.LoopGhost
import Derived.Deep.QuietTactic
import Derived.BigQuiet
import Derived.WideLaws
import Derived.Deep.DeepCutAuto
import Derived.Deep.CutBlock
import Derived.Deep.RegionHeld3
import Derived.Laws.Rows
import Derived.Lib.AppendStr
import Derived.ArgAppend
import Derived.Laws.IdiomCopy
import Derived.OrdersHeld
import Derived.Laws.BitsLemmas
import Derived.RowKit
import Derived.Test.YtjjaahdfjjomiaaWWords
import Derived.Test.YtjjaahdfjjomiaaWLast
import Derived.Test.YtjjaahdfjjomiaaWTab
import Derived.Test.YtjjaahdfjjomiaaWFour
import Derived.Test.YtjjaahdfjjomiaaWQPut
import Derived.Test.YtjjaahdfjjomiaaWApart
import Derived.Test.YtjjaahdfjjomiaaWArr
import Derived.Test.YtjjaahdfjjomiaaWZeros
import Derived.Test.YtjjaahdfjjomiaaWFoot
import Derived.Test.YtjjaahdfjjomiaaWKept
import Derived.Test.YtjjaahdfjjomiaaWShare
import Derived.Test.YtjjaahdfjjomiaaWN
import Derived.Test.YtjjaahdfjjomiaaWFootNe
import Derived.Test.YtjjaahdfjjomiaaWAt
import Derived.Test.YtjjaahdfjjomiaaWEqStruct
import Derived.Test.YtjjaahdfjjomiaaWRepsOne
import Derived.Test.YtjjaahdfjjomiaaWInv
import Derived.Test.YtjjaahdfjjomiaaWInvWords
import Derived.Test.YtjjaahdfjjomiaaWGuard
import Derived.Test.YtjjaahdfjjomiaaWNEv
import Derived.Test.YtjjaahdfjjomiaaWMore
namespace Go.Proofs.Ytjjaahdfjjomiaa.PFnExactUnfold
open Go.RowKit Go.Proofs.YtjjaahdfjjomiaaW.PrintWords Go.Proofs.YtjjaahdfjjomiaaW.PrintLast Go.Proofs.YtjjaahdfjjomiaaW.PrintMore
attribute [local go_sem] max2_int min2_int max_two min_two max_three min_three max_four min_four   -- for this text's walks alone
set_option linter.unusedVariables false
set_option linter.unusedSimpArgs false



def errW : Option Int → Value
  | none => .nilIface
  | some c => .iface 0 (.int .i64 c)
theorem errW_none : errW none = .nilIface := rfl
theorem errW_some (c : Int) : errW (some c) = .iface 0 (.int .i64 c) := rfl

-- the values' own types

end Go.Proofs.Ytjjaahdfjjomiaa.PFnExactUnfold
