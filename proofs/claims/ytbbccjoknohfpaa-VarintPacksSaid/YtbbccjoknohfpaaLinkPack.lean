/- Pack: the plain mathematics' word. -/
import Derived.Test.YtbbccjoknohfpaaPx5
import Derived.Test.YtbbccjoknohfpaaLinkVarint
namespace Go.Proofs.Ytbbccjoknohfpaa.Link
open Go Go.RowKit Go.Proofs.Ytbbccjoknohfpaa.P Go.Proofs.Ytbbccjoknohfpaa.M Go.Proofs.YtbbccjoknohfpaaW.PrintWords Go.Proofs.YtbbccjoknohfpaaW.PrintLast
set_option linter.unusedVariables false

theorem pack_len (l : List Int) (hl : ∀ x ∈ l, -9223372036854775808 ≤ x ∧ x < 9223372036854775808) : (pack l).length ≤ 10 * l.length := by
  induction l with
  | nil => simp [pack]
  | cons a r ih =>
    have ha := hl a (by simp)
    have h1 := put_len10 (zig_lt ha.1 ha.2)
    have h2 := ih (fun x hx => hl x (by simp [hx]))
    simp [pack]; omega

theorem pack_l0 (r : List Int) : ∀ (p acc : List Int) (k : Nat), (∀ x ∈ r, -9223372036854775808 ≤ x ∧ x < 9223372036854775808) → p.length + r.length < 9223372036854775807 → acc.length + (pack r).length < 140737488355328 → r.length + 11 ≤ k →
    varint_Pack.l0 k acc (p ++ r) ((p ++ r).length : Int) (p.length : Int) = some (acc ++ pack r) := by
  induction r with
  | nil =>
    intro p acc k hr hb ha hk
    obtain ⟨k, rfl⟩ : ∃ m, k = m + 1 := ⟨k - 1, by omega⟩
    simp only [varint_Pack.l0]
    rw [if_neg (by simp)]
    simp [pack]
  | cons c r ih =>
    intro p acc k hr hb ha hk
    obtain ⟨k, rfl⟩ : ∃ m, k = m + 1 := ⟨k - 1, by omega⟩
    have hc := hr c (by simp)
    simp only [varint_Pack.l0]
    simp only [List.length_cons] at hb hk
    rw [if_pos (by simp; omega), if_pos (by omega), if_pos (by simp; omega), rd_app, zig_f hc.1 hc.2]
    simp only [bs]
    have hz := zig_lt hc.1 hc.2
    rw [put_f (by omega) (by omega) (by omega)]
    simp only [bs, Int.toNat_natCast]
    simp only [pack, List.length_append] at ha
    rw [if_pos (by omega), show wrap64 ((p.length : Int) + 1) = ((p ++ [c]).length : Int) from by rw [wrap64_id (by omega) (by omega)]; simp,
      show p ++ c :: r = (p ++ [c]) ++ r from by simp]
    rw [ih (p ++ [c]) (acc ++ put (zig c)) k (fun x hx => hr x (by simp [hx])) (by simp; omega) (by simp; omega) (by omega)]
    simp [pack]

theorem pack_f {k : Nat} {l : List Int} (hl : ∀ x ∈ l, -9223372036854775808 ≤ x ∧ x < 9223372036854775808) (hn : 10 * l.length < 140737488355328) (hk : l.length + 11 ≤ k) : varint_Pack.f k l = some (pack l) := by
  have h := pack_len l hl
  have := pack_l0 l [] [] k hl (by simp; omega) (by simp; omega) hk
  simpa [varint_Pack.f] using this

end Go.Proofs.Ytbbccjoknohfpaa.Link
