/- awake of chapter 2. -/
import Derived.Test.YtmiijakcmbolfaaPx2
import Derived.Test.YtmiijakcmbolfaaLinkRefItems
import Derived.Test.YtmiijakcmbolfaaMathStr
namespace Go.Proofs.Ytmiijakcmbolfaa.Link
open Go Go.RowKit Go.Proofs.Ytmiijakcmbolfaa.P Go.Proofs.Ytmiijakcmbolfaa.M Go.Proofs.YtmiijakcmbolfaaW.PrintWords Go.Proofs.YtmiijakcmbolfaaW.PrintLast
set_option linter.unusedVariables false

theorem awake_f {k : Nat} (hk : 20 ≤ k) : selvagelaw02_awake.f k = some true := by
  unfold selvagelaw02_awake.f
  have he : encodeR [(⟨1, 1, 5, []⟩ : Itm)] = ([4, 10], 0) := by
    have h4 : put 4 = [4] := put_small (by decide)
    have h10 : put 10 = [10] := put_small (by decide)
    simp [encodeR, rightAt, plain, named, deeper, encAll, encItem, zig, h4, h10]
  rw [encode_f (l := [⟨1, 1, 5, []⟩]) (by intro x hx; simp at hx; subst hx; exact ⟨by decide, by decide, by decide, by decide, by decide, by decide, by simp⟩) (by simp) (by
    have := congrArg Prod.fst he
    simp only [encodeR] at this
    have h4 : put 4 = [4] := put_small (by decide)
    have h10 : put 10 = [10] := put_small (by decide)
    simp [encAll, encItem, zig, h4, h10]) (by simp; omega), bs, he]
  simp only
  rw [if_pos trivial, if_pos (by rw [str_toList]; decide), right_f (by simp) (by simp; omega), bs]
  simp [rightAt, plain, named, deeper]

end Go.Proofs.Ytmiijakcmbolfaa.Link
