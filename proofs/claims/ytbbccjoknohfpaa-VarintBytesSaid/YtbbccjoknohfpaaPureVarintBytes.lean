/-
  A number has one byte for each seven bits, or part of these; all but the last one are 128 or above: of every number. No condition.
-/
import Derived.Test.YtbbccjoknohfpaaPx2
import Derived.Test.YtbbccjoknohfpaaLinkAwake01
namespace Go.Proofs.Ytbbccjoknohfpaa.Pure
open Go Go.RowKit Go.Proofs.Ytbbccjoknohfpaa.P Go.Proofs.Ytbbccjoknohfpaa.M Go.Proofs.Ytbbccjoknohfpaa.Link Go.Proofs.YtbbccjoknohfpaaW.PrintWords Go.Proofs.YtbbccjoknohfpaaW.PrintLast
set_option linter.unusedVariables false

theorem bytes_l1 (p : List Int) (c : Int) (hp : ∀ x ∈ p, 128 ≤ x) (hc : c < 128) (hl : p.length < 10) (d : Nat) : ∀ (k i : Nat), p.length + 1 - i = d → i ≤ p.length + 1 → d < k → selvagelaw01_VarintBytes.l1 k (p ++ [c]) (i : Int) = some true := by
  induction d with
  | zero =>
    intro k i hd hi hk
    obtain ⟨k, rfl⟩ : ∃ m, k = m + 1 := ⟨k - 1, by omega⟩
    simp only [selvagelaw01_VarintBytes.l1]
    rw [if_neg (by simp; omega)]
  | succ d ih =>
    intro k i hd hi hk
    obtain ⟨k, rfl⟩ : ∃ m, k = m + 1 := ⟨k - 1, by omega⟩
    simp only [selvagelaw01_VarintBytes.l1]
    rw [if_pos (by simp; omega), if_pos (by omega)]
    have hw : wrap64 (((p ++ [c]).length : Int) - 1) = (p.length : Int) := by rw [List.length_append, List.length_singleton, wrap64_id (by omega) (by omega)]; omega
    have hi1 : wrap64 ((i : Int) + 1) = ((i + 1 : Nat) : Int) := by rw [wrap64_id (by omega) (by omega)]; first | rfl | omega
    have hr : ((decide (rd (p ++ [c]) (i : Int) ≥ 128)) != (decide ((i : Int) < (p.length : Int)))) = false := by
      by_cases h : i < p.length
      · have h1 : rd (p ++ [c]) (i : Int) = p[i] := by
          simp only [rd, Int.toNat_natCast]
          rw [List.getD_eq_getElem?_getD, List.getElem?_append_left h, List.getElem?_eq_getElem h]; rfl
        rw [h1]
        have := hp p[i] (List.getElem_mem h)
        simp; omega
      · have h1 : rd (p ++ [c]) (i : Int) = c := by
          have : i = p.length := by omega
          subst this
          exact rd_app p c []
        rw [h1]; simp; omega
    rw [hw, hr, hi1, if_neg (by decide)]
    exact ih k (i + 1) (by omega) (by omega) (by omega)

def many (n : Nat) : Nat := if n = 0 then 0 else (put n).length
theorem many_step {n : Nat} (h : 0 < n) : many n = 1 + many (n / 128) := by
  unfold many
  rw [if_neg (by omega)]
  by_cases hs : n < 128
  · rw [put_small hs, if_pos (by omega)]; rfl
  · rw [put_big (by omega), if_neg (by omega)]; simp; omega

theorem bytes_l0 (P : List Int) (hP : ∀ k : Nat, 12 ≤ k → selvagelaw01_VarintBytes.l1 k P 0 = some true) (hl : P.length ≤ 10) (n : Nat) : n < 18446744073709551616 → ∀ (k w : Nat), w + many n = P.length → many n + 15 ≤ k → selvagelaw01_VarintBytes.l0 k true P (w : Int) (n : Int) = some true := by
  induction n using Nat.strongRecOn with
  | _ n ih =>
    intro hn k w hw hk
    obtain ⟨k, rfl⟩ : ∃ m, k = m + 1 := ⟨k - 1, by omega⟩
    simp only [selvagelaw01_VarintBytes.l0]
    by_cases h : 0 < n
    · have hm := many_step h
      rw [if_pos (by omega), show wrap64 ((w : Int) + 1) = ((w + 1 : Nat) : Int) from by rw [wrap64_id (by omega) (by omega)]; rfl,
        show IntKind.u64.wrap (Int.tdiv (n : Int) 128) = ((n / 128 : Nat) : Int) from by rw [wrap_u64, Int.tdiv_eq_ediv_of_nonneg (by omega)]; omega]
      exact ih (n / 128) (by omega) (by omega) k (w + 1) (by omega) (by omega)
    · obtain rfl : n = 0 := by omega
      have hm0 : many 0 = 0 := rfl
      rw [hm0] at hw hk
      rw [if_neg (by omega)]
      simp only [if_true]
      obtain ⟨k, rfl⟩ : ∃ m, k = m + 1 := ⟨k - 1, by omega⟩
      have hb : ((P.length : Int) != (w : Int)) = false := by simp; omega
      rw [hb]
      simp only [selvagelaw01_VarintBytes.j1]
      rw [if_neg (by decide)]
      exact hP k (by omega)

theorem VarintBytes : selvagelaw01_VarintBytes.Pure := by
  intro u hu
  have bu := wf_u64 hu
  obtain ⟨n, rfl⟩ := Int.eq_ofNat_of_zero_le bu.1
  have hl := put_len10 (n := n) (by omega)
  refine ⟨40, ?_⟩
  unfold selvagelaw01_VarintBytes.f
  rw [awake_f (by decide)]
  simp only [bs]
  rw [put_f bu.1 bu.2 (by decide)]
  simp only [bs, Int.toNat_natCast]
  obtain ⟨p, c, e, hp, c0, c1, cz⟩ := put_form n
  have hlp : p.length < 10 := by rw [e] at hl; simp at hl; omega
  rw [show IntKind.u64.wrap (Int.tdiv (n : Int) 128) = ((n / 128 : Nat) : Int) from by rw [wrap_u64, Int.tdiv_eq_ediv_of_nonneg (by omega)]; omega]
  have hm : 1 + many (n / 128) = (put n).length := by
    by_cases h : 0 < n
    · rw [← many_step h]; unfold many; rw [if_neg (by omega)]
    · obtain rfl : n = 0 := by omega
      rw [put_small (by decide)]; rfl
  refine bytes_l0 (put n) ?_ hl (n / 128) (by omega) 40 1 hm (by omega)
  intro k hk
  rw [e]
  exact bytes_l1 p c (fun x hx => (hp x hx).1) c1 hlp (p.length + 1) k 0 (by omega) (by omega) (by omega)

end Go.Proofs.Ytbbccjoknohfpaa.Pure
