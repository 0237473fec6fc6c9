/- A record's bytes are decoded as it, and any bytes that are decoded are those of their record: of any items and bytes up to the law's own bounds. No condition. -/
import Derived.Test.YtmiijakcmbolfaaPx15
namespace Go.Proofs.Ytmiijakcmbolfaa.Pure
open Go Go.RowKit Go.Proofs.Ytmiijakcmbolfaa.P Go.Proofs.Ytmiijakcmbolfaa.M Go.Proofs.Ytmiijakcmbolfaa.Link Go.Proofs.YtmiijakcmbolfaaW.PrintWords Go.Proofs.YtmiijakcmbolfaaW.PrintLast
set_option linter.unusedVariables false

theorem ValueBack : selvagelaw02_ValueBack.Pure := by
  intro l b hl hb
  obtain ⟨h1, h2, h3⟩ := good_items hl
  unfold selvagelaw02_ValueBack.f
  exact if_pos ⟨h1, h2, by have := hl.2.1; omega, fun x hx => wf_u8 (hb.2.2 x hx)⟩

end Go.Proofs.Ytmiijakcmbolfaa.Pure
