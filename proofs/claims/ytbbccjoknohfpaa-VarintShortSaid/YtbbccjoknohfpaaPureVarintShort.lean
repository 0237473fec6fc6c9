/-
  Numbers nearer to 0 have no more bytes: of any two whole numbers, the one that is zigzagged to less has no more bytes; and of two numbers of one sign the nearer one is zigzagged to less. No condition.
-/
import Derived.Test.YtbbccjoknohfpaaPx1
import Derived.Test.YtbbccjoknohfpaaLinkAwake01
namespace Go.Proofs.Ytbbccjoknohfpaa.Pure
open Go Go.RowKit Go.Proofs.Ytbbccjoknohfpaa.P Go.Proofs.Ytbbccjoknohfpaa.M Go.Proofs.Ytbbccjoknohfpaa.Link Go.Proofs.YtbbccjoknohfpaaW.PrintWords Go.Proofs.YtbbccjoknohfpaaW.PrintLast
set_option linter.unusedVariables false

theorem VarintShort : selvagelaw01_VarintShort.Pure := by
  intro m n hm hn
  have bm := wf_i64 hm
  have bn := wf_i64 hn
  refine ⟨22, ?_⟩
  unfold selvagelaw01_VarintShort.f
  rw [awake_f (Nat.le_refl _)]
  simp only [bs, if_true]
  rw [zig_f bm.1 bm.2, zig_f bn.1 bn.2]
  simp only [bs]
  have lm := zig_lt bm.1 bm.2
  have ln := zig_lt bn.1 bn.2
  rw [put_f (by omega) (by omega) (by decide), put_f (by omega) (by omega) (by decide)]
  simp only [bs, Int.toNat_natCast]
  have hz : ∀ x : Int, zig x = if 0 ≤ x then (2 * x).toNat else (-2 * x - 1).toNat := fun _ => rfl
  have hlen : ¬ ((zig m : Int) > zig n) → ((put (zig m)).length : Int) ≤ ((put (zig n)).length : Int) := by
    intro h
    have := put_len_mono (m := zig m) (n := zig n) (by omega)
    omega
  have key : (0 ≤ m → m ≤ n → (zig m : Int) ≤ zig n) ∧ (m < 0 → n ≤ m → (zig m : Int) ≤ zig n) := by
    rw [hz m, hz n]
    constructor
    · intro h1 h2
      rw [if_pos h1, if_pos (by omega)]; omega
    · intro h1 h2
      rw [if_neg (by omega), if_neg (by omega)]; omega
  generalize (zig m : Int) = a at *
  generalize (zig n : Int) = b at *
  by_cases c1 : a > b
  · rw [if_pos c1]
    by_cases c2 : m < 0
    · rw [if_pos c2, if_neg (by omega)]
      by_cases c3 : n > m
      · rw [if_pos c3]
      · have := key.2 c2 (by omega); omega
    · rw [if_neg c2]
      by_cases c3 : n < m
      · rw [if_pos c3, if_pos (by omega)]
      · have := key.1 (by omega) (by omega); omega
  · rw [if_neg c1, if_pos (hlen c1)]
    by_cases c2 : m < 0
    · rw [if_pos c2, if_neg (by omega)]
      by_cases c3 : n > m
      · rw [if_pos c3]
      · rw [if_neg c3]; simp; omega
    · rw [if_neg c2]
      by_cases c3 : n < m
      · rw [if_pos c3, if_pos (by omega)]
      · rw [if_neg c3, if_pos (key.1 (by omega) (by omega)), if_pos (by omega)]

end Go.Proofs.Ytbbccjoknohfpaa.Pure
