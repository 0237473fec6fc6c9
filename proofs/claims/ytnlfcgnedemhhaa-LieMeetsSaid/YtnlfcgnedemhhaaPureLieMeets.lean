/- Two ends that hear one another are ThreeWay behind two rounds if both accept what the other one says, and stay so; else neither ever is: of any two ports and any number of rounds. No condition: the walk says it whole. -/
import Derived.Test.YtnlfcgnedemhhaaPx10
namespace Go.Proofs.Ytnlfcgnedemhhaa.Pure
open Go Go.RowKit Go.Proofs.Ytnlfcgnedemhhaa.P Go.Proofs.YtnlfcgnedemhhaaW.PrintWords Go.Proofs.YtnlfcgnedemhhaaW.PrintLast
set_option linter.unusedVariables false

theorem LieMeets : selvagelaw09_LieMeets.Pure := fun _ _ _ _ _ _ => rfl

end Go.Proofs.Ytnlfcgnedemhhaa.Pure
