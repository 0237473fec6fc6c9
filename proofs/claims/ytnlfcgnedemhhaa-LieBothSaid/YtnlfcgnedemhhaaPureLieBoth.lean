/- One node accepts what another one says of itself just if that one accepts what it says: of any two ports. No condition: the walk says it whole. -/
import Derived.Test.YtnlfcgnedemhhaaPx10
namespace Go.Proofs.Ytnlfcgnedemhhaa.Pure
open Go Go.RowKit Go.Proofs.Ytnlfcgnedemhhaa.P Go.Proofs.YtnlfcgnedemhhaaW.PrintWords Go.Proofs.YtnlfcgnedemhhaaW.PrintLast
set_option linter.unusedVariables false

theorem LieBoth : selvagelaw09_LieBoth.Pure := fun _ _ _ _ => rfl

end Go.Proofs.Ytnlfcgnedemhhaa.Pure
