/- Put and Zig: the plain mathematics' words. -/
import Derived.Test.YtmiijakcmbolfaaPx1
import Derived.Test.YtmiijakcmbolfaaMathVarint
import Derived.Test.YtmiijakcmbolfaaMathBits
namespace Go.Proofs.Ytmiijakcmbolfaa.Link
open Go Go.RowKit Go.Proofs.Ytmiijakcmbolfaa.P Go.Proofs.Ytmiijakcmbolfaa.M Go.Proofs.YtmiijakcmbolfaaW.PrintWords Go.Proofs.YtmiijakcmbolfaaW.PrintLast
set_option linter.unusedVariables false
set_option linter.unusedSimpArgs false

theorem put_l0 (n : Nat) : ∀ (k : Nat) (acc : List Int), (put n).length ≤ k → acc.length + (put n).length < 140737488355328 → varint_Put.l0 k (n : Int) acc = some (acc ++ put n) := by
  induction n using Nat.strongRecOn with
  | _ n ih =>
    intro k acc hk ha
    have hp := put_len_pos n
    obtain ⟨k, rfl⟩ : ∃ m, k = m + 1 := ⟨k - 1, by omega⟩
    by_cases h : n < 128
    · rw [put_small h] at *
      simp only [varint_Put.l0]
      rw [if_neg (by omega), if_pos (by omega)]
      congr 3; omega
    · rw [put_big (by omega)] at hk ha ⊢
      simp only [List.length_cons] at hk ha
      simp only [varint_Put.l0]
      rw [if_pos (by omega), if_pos (by omega), or128 (by omega) (by omega)]
      rw [show ((n : Int) / 128) = ((n / 128 : Nat) : Int) from by omega]
      rw [ih (n / 128) (by omega) k _ (by omega) (by simp; omega)]
      rw [List.append_assoc, List.singleton_append]
      congr 4
      omega

theorem put_f {k : Nat} {a : Int} (h0 : 0 ≤ a) (h1 : a < 18446744073709551616) (hk : 10 ≤ k) : varint_Put.f k a = some (put a.toNat) := by
  obtain ⟨n, rfl⟩ := Int.eq_ofNat_of_zero_le h0
  have hl := put_len10 (n := n) (by omega)
  unfold varint_Put.f
  have := put_l0 n k [] (by omega) (by simp; omega)
  simpa using this

theorem zig_f {a : Int} (h0 : -9223372036854775808 ≤ a) (h1 : a < 9223372036854775808) : varint_Zig.f a = some ((zig a : Nat) : Int) := by
  unfold varint_Zig.f
  simp only [wrap_u64]
  congr 1
  by_cases h : 0 ≤ a
  · rw [show a / 9223372036854775808 % 18446744073709551616 = 0 from by omega, xor_zero_u64 (by omega) (by omega)]
    unfold zig; rw [if_pos h]; omega
  · rw [show a / 9223372036854775808 % 18446744073709551616 = 18446744073709551615 from by omega, xor_ones_u64 (by omega) (by omega)]
    unfold zig; rw [if_neg h]; omega

end Go.Proofs.Ytmiijakcmbolfaa.Link
