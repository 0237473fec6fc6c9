/- The fields of a record that are not within others: plain mathematics. -/
import Derived.Test.YtmiijakcmbolfaaLinkItems
namespace Go.Proofs.Ytmiijakcmbolfaa.Link
open Go Go.RowKit Go.Proofs.Ytmiijakcmbolfaa.P Go.Proofs.Ytmiijakcmbolfaa.M Go.Proofs.YtmiijakcmbolfaaW.PrintWords Go.Proofs.YtmiijakcmbolfaaW.PrintLast
set_option linter.unusedVariables false

/-- of items from place i on, a field having begun at 'from', so deep: where each field begins and ends -/
def spans : List Itm → Nat → Nat → Int → List (Nat × Nat)
  | [], _, _, _ => []
  | x :: r, i, from_, deep => if 0 < deep + deeper x then spans r (i + 1) from_ (deep + deeper x) else (from_, i + 1) :: spans r (i + 1) (i + 1) (deep + deeper x)
def fieldsR (l : List Itm) : List (Nat × Nat) := if rightAt 0 l = true then spans l 0 0 0 else []

theorem spans_in (r : List Itm) : ∀ (i from_ : Nat) (deep : Int), from_ ≤ i → ∀ p ∈ spans r i from_ deep, from_ ≤ p.1 ∧ p.1 < p.2 ∧ p.2 ≤ i + r.length := by
  induction r with
  | nil => intro i f d h p hp; simp [spans] at hp
  | cons x r ih =>
    intro i f d h p hp
    simp only [spans] at hp
    split at hp
    · have := ih (i + 1) f _ (by omega) p hp
      simp; omega
    · rcases List.mem_cons.1 hp with rfl | hp
      · simp; omega
      · have := ih (i + 1) (i + 1) _ (by omega) p hp
        simp; omega
theorem fields_in {l : List Itm} : ∀ p ∈ fieldsR l, p.1 < p.2 ∧ p.2 ≤ l.length := by
  intro p hp
  unfold fieldsR at hp
  split at hp
  · have := spans_in l 0 0 0 (by omega) p hp; omega
  · simp at hp

/-- the item at a place -/
def itemAt (l : List Itm) (i : Nat) : Itm := l.getD i z30
def findR (l : List Itm) (id : Int) : Int × Int × Bool :=
  match (fieldsR l).find? (fun p => decide ((itemAt l p.1).f1 = id)) with
  | some p => ((p.1 : Int), (p.2 : Int), true)
  | none => (0, 0, false)
def dropR (l : List Itm) (ids : List Int) : List Itm := (fieldsR l).flatMap fun p => if (itemAt l p.1).f1 ∈ ids then (l.take p.2).drop p.1 else []

end Go.Proofs.Ytmiijakcmbolfaa.Link
