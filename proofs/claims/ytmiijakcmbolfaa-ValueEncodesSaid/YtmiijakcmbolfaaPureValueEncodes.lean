/-
  The bytes of any items, if they are a record, and whether they are one: the program's are the document's, of any items up to the law's own bounds. No condition.
-/
import Derived.Test.YtmiijakcmbolfaaPx4
import Derived.Test.YtmiijakcmbolfaaLinkAwake02
namespace Go.Proofs.Ytmiijakcmbolfaa.Pure
open Go Go.RowKit Go.Proofs.Ytmiijakcmbolfaa.P Go.Proofs.Ytmiijakcmbolfaa.M Go.Proofs.Ytmiijakcmbolfaa.Link Go.Proofs.YtmiijakcmbolfaaW.PrintWords Go.Proofs.YtmiijakcmbolfaaW.PrintLast
set_option linter.unusedVariables false

theorem ValueEncodes : selvagelaw02_ValueEncodes.Pure := by
  intro l h
  obtain ⟨hg, hb, hl⟩ := good_items h
  refine ⟨501, ?_⟩
  unfold selvagelaw02_ValueEncodes.f
  rw [awake_f (by decide), bs, few_f hb hl (by decide), bs, if_pos rfl]
  simp only [selvagelaw02_ValueEncodes.j0]
  cases hf : few l with
  | false => rfl
  | true =>
    unfold few at hf
    simp only [Bool.and_eq_true, decide_eq_true_eq] at hf
    have he := enc_len hg hb
    rw [if_neg (by decide), encode_f hg hl (by omega) (by omega), bs, refEncode_f hg hl (by omega) (by omega), bs, right_f hl (by omega), bs, refRight_f hl (by omega), bs]
    simp

end Go.Proofs.Ytmiijakcmbolfaa.Pure
