/-
  Of a number's bytes that are cut off there is none; of several numbers' bytes the first one is taken: of every two numbers, wherever it is cut. No condition.
-/
import Derived.Test.YtbbccjoknohfpaaPx5
import Derived.Test.YtbbccjoknohfpaaLinkAwake01
import Derived.Test.YtbbccjoknohfpaaLinkPack
namespace Go.Proofs.Ytbbccjoknohfpaa.Pure
open Go Go.RowKit Go.Proofs.Ytbbccjoknohfpaa.P Go.Proofs.Ytbbccjoknohfpaa.M Go.Proofs.Ytbbccjoknohfpaa.Link Go.Proofs.YtbbccjoknohfpaaW.PrintWords Go.Proofs.YtbbccjoknohfpaaW.PrintLast
set_option linter.unusedVariables false

theorem cut_none (n j : Nat) (hn : n < 18446744073709551616) (hj : j < (put n).length) : takeR ((put n).take j) = (0, 0, 2) := by
  rcases takeR_cases ((put n).take j) with ⟨m, r, hm, hbe, _⟩ | ⟨_, ht⟩
  · exfalso
    have h1 : put n ++ [] = put m ++ (r ++ (put n).drop j) := by
      rw [← List.append_assoc, ← hbe, List.take_append_drop]; simp
    have h2 := (put_prefix h1).1
    subst h2
    have h3 := congrArg List.length hbe
    simp at h3
    omega
  · exact ht

theorem VarintCut : selvagelaw01_VarintCut.Pure := by
  intro m n at_ hm hn ha
  have bm := wf_i64 hm
  have bn := wf_i64 hn
  have ba := wf_i64 ha
  have lm := zig_lt bm.1 bm.2
  have ln := zig_lt bn.1 bn.2
  refine ⟨40, ?_⟩
  unfold selvagelaw01_VarintCut.f
  rw [awake_f (by decide), pack_f (by intro x hx; simp at hx; rcases hx with rfl | rfl; exact bm; exact bn) (by simp) (by simp), zig_f bm.1 bm.2]
  simp only [bs, if_true]
  rw [put_f (by omega) (by omega) (by decide)]
  simp only [bs, Int.toNat_natCast]
  have hp : pack [m, n] = put (zig m) ++ put (zig n) := by simp [pack]
  have hlen : (put (zig m)).length ≤ (pack [m, n]).length := by rw [hp]; simp
  have h10 := put_len10 lm
  have h10n := put_len10 ln
  have hpos := put_len_pos (zig m)
  simp only [selvagelaw01_VarintCut.j0]
  by_cases c : at_ < 0
  · rw [if_pos c]
    simp only [if_true]
    congr 1
    simp; omega
  · rw [if_neg c, show decide (((put (zig m)).length : Int) > ((pack [m, n]).length : Int)) = false from by simp; omega, if_neg (by decide)]
    have hpb : ∀ x ∈ pack [m, n], 0 ≤ x ∧ x < 256 := by
      intro x hx
      rw [hp] at hx
      rcases List.mem_append.1 hx with h | h
      · exact put_bytes _ x h
      · exact put_bytes _ x h
    rw [take_f hpb (by rw [hp]; simp; omega) (by decide), hp, takeR_put lm]
    simp only [bs, if_true]
    obtain ⟨a, rfl⟩ := Int.eq_ofNat_of_zero_le (show 0 ≤ at_ from by omega)
    obtain ⟨L, hL⟩ : ∃ L, (put (zig m)).length = L := ⟨_, rfl⟩
    rw [hL] at hpos h10 ⊢
    have hmod : Int.tmod (a : Int) (L : Int) = ((a % L : Nat) : Int) := by rw [Int.tmod_eq_emod_of_nonneg (by omega)]; rfl
    have hlt : a % L < L := Nat.mod_lt _ hpos
    rw [if_neg (by omega), hmod, if_pos (by omega), if_pos (by omega)]
    rw [take_f (fun x hx => put_bytes _ x (List.mem_of_mem_take hx)) (by simp; omega) (by decide)]
    simp only [bs]
    rw [show ((a % L : Nat) : Int).toNat = a % L from by omega, cut_none _ _ lm (by omega), zag_f (by omega) (by omega)]
    simp only [bs, Int.toNat_natCast]
    rw [zag_zig]
    simp

end Go.Proofs.Ytbbccjoknohfpaa.Pure
