/- The reference's Put, Zig and Zag: the plain mathematics' words. -/
import Derived.Test.YtmiijakcmbolfaaPx12
import Derived.Test.YtmiijakcmbolfaaPx3
import Derived.Test.YtmiijakcmbolfaaLinkPut
namespace Go.Proofs.Ytmiijakcmbolfaa.Link
open Go Go.RowKit Go.Proofs.Ytmiijakcmbolfaa.P Go.Proofs.Ytmiijakcmbolfaa.M Go.Proofs.YtmiijakcmbolfaaW.PrintWords Go.Proofs.YtmiijakcmbolfaaW.PrintLast
set_option linter.unusedVariables false

theorem refPut_n (n : Nat) (hn : n < 18446744073709551616) : ∀ k : Nat, (put n).length ≤ k → selvageref01_Put.f k (n : Int) = some (put n) := by
  induction n using Nat.strongRecOn with
  | _ n ih =>
    intro k hk
    have hp := put_len_pos n
    have hl := put_len10 hn
    obtain ⟨k, rfl⟩ : ∃ m, k = m + 1 := ⟨k - 1, by omega⟩
    by_cases h : n < 128
    · rw [put_small h]
      simp only [selvageref01_Put.f]
      rw [if_pos (by omega)]
      congr 2; omega
    · rw [put_big (by omega)] at hk hl ⊢
      simp only [List.length_cons] at hk hl
      simp only [selvageref01_Put.f]
      rw [if_neg (by omega)]
      simp only [bs]
      rw [show IntKind.u64.wrap (Int.tdiv (n : Int) 128) = ((n / 128 : Nat) : Int) from by rw [wrap_u64, Int.tdiv_eq_ediv_of_nonneg (by omega)]; omega, ih (n / 128) (by omega) (by omega) k (by omega)]
      simp only [bs]
      rw [if_pos (by simp; omega)]
      simp only [List.singleton_append, Option.some.injEq, List.cons.injEq, and_true]
      rw [wrap_u64, Int.tmod_eq_emod_of_nonneg (by omega)]
      omega

theorem refPut_f {k : Nat} {a : Int} (h0 : 0 ≤ a) (h1 : a < 18446744073709551616) (hk : 10 ≤ k) : selvageref01_Put.f k a = some (put a.toNat) := by
  obtain ⟨n, rfl⟩ := Int.eq_ofNat_of_zero_le h0
  have hl := put_len10 (n := n) (by omega)
  exact refPut_n n (by omega) k (by omega)

theorem refZig_f {a : Int} (h0 : -9223372036854775808 ≤ a) (h1 : a < 9223372036854775808) : selvageref01_Zig.f a = some ((zig a : Nat) : Int) := by
  unfold selvageref01_Zig.f zig
  by_cases h : 0 ≤ a
  · rw [if_pos h, if_pos h]
    simp only [wrap_u64]
    congr 1; omega
  · rw [if_neg (by omega), if_neg h]
    simp only [wrap_u64]
    congr 1
    rw [show wrap64 (a + 1) = a + 1 from wrap64_id (by omega) (by omega), show wrap64 (-(a + 1)) = -(a + 1) from wrap64_id (by omega) (by omega)]
    omega

theorem refZag_f {a : Int} (h0 : 0 ≤ a) (h1 : a < 18446744073709551616) : selvageref01_Zag.f a = some (zag a.toNat) := by
  obtain ⟨n, rfl⟩ := Int.eq_ofNat_of_zero_le h0
  unfold selvageref01_Zag.f zag
  rw [Int.tmod_eq_emod_of_nonneg (by omega), Int.tdiv_eq_ediv_of_nonneg (by omega), wrap_u64]
  rw [show ((n : Int) / 2 % 18446744073709551616) = (n : Int) / 2 from by omega]
  by_cases h : n % 2 = 0
  · rw [if_pos (by omega), if_pos (by simpa using h), wrap64_id (by omega) (by omega)]
    simp
  · rw [if_neg (by omega), if_neg (by simpa using h), wrap64_id (n := (n : Int) / 2) (by omega) (by omega), wrap64_id (n := -((n : Int) / 2)) (by omega) (by omega), wrap64_id (by omega) (by omega)]
    simp

end Go.Proofs.Ytmiijakcmbolfaa.Link
