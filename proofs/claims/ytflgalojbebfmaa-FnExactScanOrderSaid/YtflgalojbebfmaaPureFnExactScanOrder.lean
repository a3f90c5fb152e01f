/- Proved: the program's ScanOrder tells what the reference's tells, in memory of its own. No condition. -/
import Derived.Test.YtflgalojbebfmaaPFnExactScanOrderx2
import Derived.Test.YtflgalojbebfmaaMy
namespace Go.Proofs.Ytflgalojbebfmaa.Pure
open Go.RowKit Go.Proofs.Ytflgalojbebfmaa.PFnExactScanOrder Go.Proofs.YtflgalojbebfmaaW.PrintWords Go.Proofs.YtflgalojbebfmaaW.PrintLast Go.Proofs.YtflgalojbebfmaaW.PrintMore Go.Proofs.Ytflgalojbebfmaa.My
set_option linter.unusedVariables false
set_option linter.unusedSimpArgs false
attribute [local congr] bind_left ite_left

theorem FnExactScanOrder : laws_FnExactScanOrder.Pure := ⟨300, by decide +kernel⟩

end Go.Proofs.Ytflgalojbebfmaa.Pure
