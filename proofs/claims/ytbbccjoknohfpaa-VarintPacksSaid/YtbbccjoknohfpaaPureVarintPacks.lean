/-
  Numbers in a row are unpacked as they were; any bytes that are unpacked are those of their numbers (up to the law's own bounds). No condition.
-/
import Derived.Test.YtbbccjoknohfpaaPx9
import Derived.Test.YtbbccjoknohfpaaLinkAwake01
import Derived.Test.YtbbccjoknohfpaaLinkRefTake
import Derived.Test.YtbbccjoknohfpaaLinkPack
namespace Go.Proofs.Ytbbccjoknohfpaa.Pure
open Go Go.RowKit Go.Proofs.Ytbbccjoknohfpaa.P Go.Proofs.Ytbbccjoknohfpaa.M Go.Proofs.Ytbbccjoknohfpaa.Link Go.Proofs.YtbbccjoknohfpaaW.PrintWords Go.Proofs.YtbbccjoknohfpaaW.PrintLast
set_option linter.unusedVariables false

theorem pack_bytes (l : List Int) : ∀ x ∈ pack l, 0 ≤ x ∧ x < 256 := by
  induction l with
  | nil => simp [pack]
  | cons a r ih =>
    intro x hx
    rcases List.mem_append.1 hx with h | h
    · exact put_bytes _ x h
    · exact ih x h

theorem VarintPacks : selvagelaw01_VarintPacks.Pure := by
  intro l b hll hls hl hbl hbs hb
  have bb : ∀ x ∈ b, 0 ≤ x ∧ x < 256 := fun x hx => wf_u8 (hb x hx)
  have bl : ∀ x ∈ l, -9223372036854775808 ≤ x ∧ x < 9223372036854775808 := fun x hx => wf_i64 (hl x hx)
  refine ⟨20001, ?_⟩
  unfold selvagelaw01_VarintPacks.f
  rw [awake_f (by decide), bs, if_pos rfl]
  simp only [selvagelaw01_VarintPacks.j0]
  by_cases h1 : (l.length : Int) > 500
  · rw [if_pos h1, if_pos trivial]
  · rw [if_neg h1]
    by_cases h2 : (b.length : Int) > 2000
    · rw [decide_eq_true h2, if_pos rfl]
    · rw [decide_eq_false h2, if_neg (by decide), pack_f bl (by omega) (by omega), bs]
      have hpl := pack_len l bl
      have hu1 : varint_Unpack.f (pack l) = some (l, 0) := by
        unfold varint_Unpack.f
        rw [if_pos (mem_isBytes (pack_bytes l)), if_pos (by omega), unpackR_pack l bl]
      have hu2 : varint_Unpack.f b = some (unpackR b) := by
        unfold varint_Unpack.f
        rw [if_pos (mem_isBytes bb), if_pos (by omega)]
      rw [hu1, bs, hu2, bs, refSame_f (by omega) (by omega), bs]
      simp only [decide_true]
      rw [if_pos trivial, if_pos trivial]
      rcases pack_unpackR b with h | ⟨he, h0, hr⟩
      · rw [h]; simp
      · rw [h0, if_pos rfl]
        have hul : (unpackR b).1.length ≤ b.length := by
          unfold unpackR
          split
          · have := items_len b; simp; omega
          · simp
        rw [pack_f hr (by omega) (by omega), bs, he]
        simp

end Go.Proofs.Ytbbccjoknohfpaa.Pure
