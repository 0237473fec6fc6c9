/- Plain facts of byte lists read as strings. No program in sight. -/
import Derived.Laws.BytesArg
import Derived.Lib.Bytes
import Derived.RowKit
namespace Go.Proofs.Ytmiijakcmbolfaa.M
open Go Go.RowKit
set_option linter.unusedVariables false

theorem byte_inj {x y : Int} (hx0 : 0 ≤ x) (hx1 : x < 256) (hy0 : 0 ≤ y) (hy1 : y < 256) (h : UInt8.ofNat x.toNat = UInt8.ofNat y.toNat) : x = y := by
  have := congrArg UInt8.toNat h
  simp at this
  omega

theorem map_byte_inj : ∀ {a b : List Int}, (∀ x ∈ a, 0 ≤ x ∧ x < 256) → (∀ x ∈ b, 0 ≤ x ∧ x < 256) → (a.map fun n => UInt8.ofNat n.toNat) = (b.map fun n => UInt8.ofNat n.toNat) → a = b
  | [], [], _, _, _ => rfl
  | [], _ :: _, _, _, h => by simp at h
  | _ :: _, [], _, _, h => by simp at h
  | x :: a, y :: b, ha, hb, h => by
    simp only [List.map_cons, List.cons.injEq] at h
    have h1 := ha x (by simp)
    have h2 := hb y (by simp)
    rw [byte_inj h1.1 h1.2 h2.1 h2.2 h.1, map_byte_inj (fun z hz => ha z (by simp [hz])) (fun z hz => hb z (by simp [hz])) h.2]

theorem str_toList (a : List Int) : (strOfNums a).toList = a.map fun n => UInt8.ofNat n.toNat := by
  rw [Go.Lib.strOfNums_toList]; rfl

theorem str_eq {a b : List Int} (ha : ∀ x ∈ a, 0 ≤ x ∧ x < 256) (hb : ∀ x ∈ b, 0 ≤ x ∧ x < 256) : (strOfNums a).toList = (strOfNums b).toList ↔ a = b := by
  rw [str_toList, str_toList]
  exact ⟨map_byte_inj ha hb, fun h => by rw [h]⟩

end Go.Proofs.Ytmiijakcmbolfaa.M
