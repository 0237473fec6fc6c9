/- What an end of a link says of itself is its port, whatever it heard: of any port and any steps. No condition: the walk says it whole. -/
import Derived.Test.YtnlfcgnedemhhaaPx12
namespace Go.Proofs.Ytnlfcgnedemhhaa.Pure
open Go Go.RowKit Go.Proofs.Ytnlfcgnedemhhaa.P Go.Proofs.YtnlfcgnedemhhaaW.PrintWords Go.Proofs.YtnlfcgnedemhhaaW.PrintLast
set_option linter.unusedVariables false

theorem LieSays : selvagelaw09_LieSays.Pure := fun _ _ _ _ => rfl

end Go.Proofs.Ytnlfcgnedemhhaa.Pure
