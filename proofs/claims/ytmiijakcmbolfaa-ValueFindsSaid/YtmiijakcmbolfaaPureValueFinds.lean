/-
  Where a field is, and what some fields leave: of any items up to the law's own bounds. No condition.
-/
import Derived.Test.YtmiijakcmbolfaaPx10
import Derived.Test.YtmiijakcmbolfaaLinkAwake02
import Derived.Test.YtmiijakcmbolfaaLinkRefFields
namespace Go.Proofs.Ytmiijakcmbolfaa.Pure
open Go Go.RowKit Go.Proofs.Ytmiijakcmbolfaa.P Go.Proofs.Ytmiijakcmbolfaa.M Go.Proofs.Ytmiijakcmbolfaa.Link Go.Proofs.YtmiijakcmbolfaaW.PrintWords Go.Proofs.YtmiijakcmbolfaaW.PrintLast
set_option linter.unusedVariables false

theorem ValueFinds : selvagelaw02_ValueFinds.Pure := by
  intro l id ids h1 _ h2
  obtain ⟨hg, hb, hl⟩ := good_items h1
  have hs1 : l.length < 2932031007402 := by omega
  have hs2 : ids.length < 4611686018427387904 := by omega
  have hdl : (dropR l ids).length ≤ l.length := by
    have := dropP_len l ids (fieldsR l)
    have := fields_sum l
    rw [dropP_all] at *
    omega
  refine ⟨((ids.length + 4) * (l.length + 1) + 2 * l.length + 500) + 1, ?_⟩
  generalize hM : (ids.length + 4) * (l.length + 1) = M
  unfold selvagelaw02_ValueFinds.f
  rw [awake_f (by omega), bs, few_f hb hl (by omega), bs, if_pos rfl]
  have hj : ∀ b : Bool, selvagelaw02_ValueFinds.j0 ((M + 2 * l.length + 500) + 1) l id ids true b = some true := by
    intro b
    simp only [selvagelaw02_ValueFinds.j0]
    cases b with
    | true => rw [if_pos rfl]
    | false =>
      have hf : value_Find.f l id = some (findR l id) := by unfold value_Find.f; rw [if_pos hs1]
      have hd : value_Drop.f l ids = some (dropR l ids) := by unfold value_Drop.f; rw [if_pos hs1, if_pos hs2]
      rw [if_neg (by decide), hf, bs, refFind_f hl (by omega), bs, hd, bs, refDrop_f hs1 (by omega) (by omega), bs, refSame_f (by omega) (by omega), bs, if_pos rfl, if_pos rfl, if_pos (by simp)]
  cases few l with
  | true => rw [if_pos rfl]; exact hj _
  | false => rw [if_neg (by decide)]; exact hj _

end Go.Proofs.Ytmiijakcmbolfaa.Pure
