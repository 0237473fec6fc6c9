/- Whether a node may take what another one says of itself: of any port and anything that is said. No condition. -/
import Derived.Test.YtnlfcgnedemhhaaPx9
namespace Go.Proofs.Ytnlfcgnedemhhaa.Pure
open Go Go.RowKit Go.Proofs.Ytnlfcgnedemhhaa.P Go.Proofs.YtnlfcgnedemhhaaW.PrintWords Go.Proofs.YtnlfcgnedemhhaaW.PrintLast
set_option linter.unusedVariables false

theorem wf_bd {n : Int} (h : (Lit.int .i64 n).wf = true) : -9223372036854775808 ≤ n ∧ n < 9223372036854775808 := by
  simp [Lit.wf, IntKind.min, IntKind.max, IntKind.signed, IntKind.bits] at h; omega
theorem LieAccepts : selvagelaw09_LieAccepts.Pure := by
  intro p x hp hx
  unfold selvagelaw09_LieAccepts.f
  exact if_pos ⟨wf_bd hp.2.1, wf_bd hx.2.1⟩

end Go.Proofs.Ytnlfcgnedemhhaa.Pure
