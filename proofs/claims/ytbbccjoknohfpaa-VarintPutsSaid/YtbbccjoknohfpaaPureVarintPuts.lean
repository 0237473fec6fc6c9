/-
  Any number as bytes, with and without a sign: the program's bytes, its zigzag and the way back are the document's, of every number. No condition.
-/
import Derived.Test.YtbbccjoknohfpaaPx3
import Derived.Test.YtbbccjoknohfpaaLinkAwake01
import Derived.Test.YtbbccjoknohfpaaLinkRefPut
namespace Go.Proofs.Ytbbccjoknohfpaa.Pure
open Go Go.RowKit Go.Proofs.Ytbbccjoknohfpaa.P Go.Proofs.Ytbbccjoknohfpaa.M Go.Proofs.Ytbbccjoknohfpaa.Link Go.Proofs.YtbbccjoknohfpaaW.PrintWords Go.Proofs.YtbbccjoknohfpaaW.PrintLast
set_option linter.unusedVariables false

theorem VarintPuts : selvagelaw01_VarintPuts.Pure := by
  intro u n hu hn
  have bu := wf_u64 hu
  have bn := wf_i64 hn
  refine ⟨22, ?_⟩
  unfold selvagelaw01_VarintPuts.f
  rw [awake_f (Nat.le_refl _)]
  simp only [bs, if_true]
  rw [put_f bu.1 bu.2 (by decide), refPut_f bu.1 bu.2 (by decide), zig_f bn.1 bn.2, refZig_f bn.1 bn.2, zag_f bu.1 bu.2, refZag_f bu.1 bu.2]
  simp

end Go.Proofs.Ytbbccjoknohfpaa.Pure
