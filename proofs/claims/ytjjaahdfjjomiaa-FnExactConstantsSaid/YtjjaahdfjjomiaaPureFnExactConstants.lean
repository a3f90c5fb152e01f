/- Proved: each constant of the program is the one that the statement names. No condition. -/
import Derived.Test.YtjjaahdfjjomiaaPFnExactConstantsx1
import Derived.Test.YtjjaahdfjjomiaaMy
namespace Go.Proofs.Ytjjaahdfjjomiaa.Pure
open Go.RowKit Go.Proofs.Ytjjaahdfjjomiaa.PFnExactConstants Go.Proofs.YtjjaahdfjjomiaaW.PrintWords Go.Proofs.YtjjaahdfjjomiaaW.PrintLast Go.Proofs.YtjjaahdfjjomiaaW.PrintMore Go.Proofs.Ytjjaahdfjjomiaa.My

theorem FnExactConstants : laws_FnExactConstants.Pure := rfl

end Go.Proofs.Ytjjaahdfjjomiaa.Pure
