/- awake, and the plain forms of what the other printed functions of chapter 1 tell. -/
import Derived.Test.YtbbccjoknohfpaaPx1
import Derived.Test.YtbbccjoknohfpaaLinkVarint
import Derived.Test.YtbbccjoknohfpaaMathStr
namespace Go.Proofs.Ytbbccjoknohfpaa.Link
open Go Go.RowKit Go.Proofs.Ytbbccjoknohfpaa.P Go.Proofs.Ytbbccjoknohfpaa.M Go.Proofs.YtbbccjoknohfpaaW.PrintWords Go.Proofs.YtbbccjoknohfpaaW.PrintLast
set_option linter.unusedVariables false

theorem put300 : put 300 = [172, 2] := by simp [put]

theorem awake_f {k : Nat} (hk : 22 ≤ k) : selvagelaw01_awake.f k = some true := by
  unfold selvagelaw01_awake.f
  rw [take_f (by simp) (by simp) hk]
  have h := takeR_put (n := 300) (by decide) [9]
  rw [put300] at h
  rw [show ([172, 2] : List Int) ++ [9] = [172, 2, 9] from rfl] at h
  rw [h]
  simp only [bs, if_true]
  rw [if_pos (show ((300 : Nat) : Int) = 300 from rfl), if_pos (show ((([172, 2] : List Int).length : Nat) : Int) = 2 from rfl), put_f (by decide) (by decide) (by omega)]
  simp only [bs]
  rw [show (300 : Int).toNat = 300 from rfl, put300, str_toList, if_pos (by decide), zig_f (by decide) (by decide)]
  rfl

end Go.Proofs.Ytbbccjoknohfpaa.Link
