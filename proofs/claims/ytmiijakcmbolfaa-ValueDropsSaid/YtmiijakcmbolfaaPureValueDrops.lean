/- What is left of a record but for some fields is a record, in which each field that is asked for is found as it was; of any items and numbers up to the law's own bounds. No condition. -/
import Derived.Test.YtmiijakcmbolfaaPx11
namespace Go.Proofs.Ytmiijakcmbolfaa.Pure
open Go Go.RowKit Go.Proofs.Ytmiijakcmbolfaa.P Go.Proofs.Ytmiijakcmbolfaa.M Go.Proofs.Ytmiijakcmbolfaa.Link Go.Proofs.YtmiijakcmbolfaaW.PrintWords Go.Proofs.YtmiijakcmbolfaaW.PrintLast
set_option linter.unusedVariables false

theorem ValueDrops : selvagelaw02_ValueDrops.Pure := by
  intro l ids id hl hi _
  obtain ⟨h1, h2, h3⟩ := good_items hl
  unfold selvagelaw02_ValueDrops.f
  exact if_pos ⟨h1, h2, by have := hl.2.1; omega, by have := hi.2.1; omega⟩

end Go.Proofs.Ytmiijakcmbolfaa.Pure
