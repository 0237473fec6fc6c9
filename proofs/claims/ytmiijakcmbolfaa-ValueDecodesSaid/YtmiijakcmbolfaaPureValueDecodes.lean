/- The record of any bytes is the document's: of any bytes up to the law's own bounds. No condition. -/
import Derived.Test.YtmiijakcmbolfaaPx14
namespace Go.Proofs.Ytmiijakcmbolfaa.Pure
open Go Go.RowKit Go.Proofs.Ytmiijakcmbolfaa.P Go.Proofs.Ytmiijakcmbolfaa.M Go.Proofs.Ytmiijakcmbolfaa.Link Go.Proofs.YtmiijakcmbolfaaW.PrintWords Go.Proofs.YtmiijakcmbolfaaW.PrintLast
set_option linter.unusedVariables false

theorem ValueDecodes : selvagelaw02_ValueDecodes.Pure := by
  intro l hl
  unfold selvagelaw02_ValueDecodes.f
  exact if_pos (fun x hx => wf_u8 (hl.2.2 x hx))

end Go.Proofs.Ytmiijakcmbolfaa.Pure
