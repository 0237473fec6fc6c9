/-
  The number, and the numbers, of any bytes (up to the law's own bound): the program's Take and Unpack are the document's. No condition.
-/
import Derived.Test.YtbbccjoknohfpaaPx8
import Derived.Test.YtbbccjoknohfpaaLinkAwake01
import Derived.Test.YtbbccjoknohfpaaLinkRefTake
namespace Go.Proofs.Ytbbccjoknohfpaa.Pure
open Go Go.RowKit Go.Proofs.Ytbbccjoknohfpaa.P Go.Proofs.Ytbbccjoknohfpaa.M Go.Proofs.Ytbbccjoknohfpaa.Link Go.Proofs.YtbbccjoknohfpaaW.PrintWords Go.Proofs.YtbbccjoknohfpaaW.PrintLast
set_option linter.unusedVariables false

theorem VarintTakes : selvagelaw01_VarintTakes.Pure := by
  intro b hbl hbs hb
  have bb : ∀ x ∈ b, 0 ≤ x ∧ x < 256 := fun x hx => wf_u8 (hb x hx)
  refine ⟨5001, ?_⟩
  unfold selvagelaw01_VarintTakes.f
  rw [awake_f (by decide), bs, if_pos rfl]
  simp only [selvagelaw01_VarintTakes.j0]
  by_cases hl : (b.length : Int) > 2000
  · rw [decide_eq_true hl, if_pos rfl]
  · rw [decide_eq_false hl, if_neg (by decide), take_f bb (by omega) (by decide), bs, refTake_f bb (by omega) (by decide), bs]
    have hu : varint_Unpack.f b = some (unpackR b) := by
      unfold varint_Unpack.f
      rw [if_pos (mem_isBytes bb), if_pos (by omega)]
    have hul : (unpackR b).1.length ≤ b.length := by
      unfold unpackR
      split
      · have := items_len b; simp; omega
      · simp
    rw [hu, bs, refUnpack_f bb (by omega) (by omega), bs, refSame_f (by omega) (by omega), bs]
    simp

end Go.Proofs.Ytbbccjoknohfpaa.Pure
