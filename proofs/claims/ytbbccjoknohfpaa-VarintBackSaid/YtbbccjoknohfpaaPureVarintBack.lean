/-
  Numbers' bytes are taken as they were, whatever stands behind; any bytes that are taken are those of their number; zigzag and back is the number: of every number, and of any bytes up to the law's own bound. No condition.
-/
import Derived.Test.YtbbccjoknohfpaaPx4
import Derived.Test.YtbbccjoknohfpaaLinkAwake01
namespace Go.Proofs.Ytbbccjoknohfpaa.Pure
open Go Go.RowKit Go.Proofs.Ytbbccjoknohfpaa.P Go.Proofs.Ytbbccjoknohfpaa.M Go.Proofs.Ytbbccjoknohfpaa.Link Go.Proofs.YtbbccjoknohfpaaW.PrintWords Go.Proofs.YtbbccjoknohfpaaW.PrintLast
set_option linter.unusedVariables false

theorem VarintBack : selvagelaw01_VarintBack.Pure := by
  intro u n b hu hn hbl hbs hb
  have bu := wf_u64 hu
  have bn := wf_i64 hn
  have bb : ∀ x ∈ b, 0 ≤ x ∧ x < 256 := fun x hx => wf_u8 (hb x hx)
  refine ⟨40, ?_⟩
  unfold selvagelaw01_VarintBack.f
  rw [awake_f (by decide)]
  simp only [bs, if_true]
  simp only [selvagelaw01_VarintBack.j0]
  by_cases hl : (b.length : Int) > 2000
  · rw [decide_eq_true hl]; simp
  · rw [decide_eq_false hl, if_neg (by decide), put_f bu.1 bu.2 (by decide)]
    obtain ⟨n', rfl⟩ := Int.eq_ofNat_of_zero_le bu.1
    have hpl := put_len10 (n := n') (by omega)
    simp only [bs, Int.toNat_natCast, List.nil_append, List.length_nil, Nat.zero_add]
    rw [if_pos (by omega), if_pos (by omega)]
    have hb2 : ∀ x ∈ put n' ++ b, 0 ≤ x ∧ x < 256 := by
      intro x hx
      rcases List.mem_append.1 hx with h | h
      · exact put_bytes n' x h
      · exact bb x h
    rw [take_f hb2 (by simp; omega) (by decide), take_f bb (by omega) (by decide), takeR_put (by omega)]
    simp only [bs, if_true]
    rw [if_neg (by omega), zig_f bn.1 bn.2, zag_f (by omega) (by omega)]
    simp only [bs]
    have hz : zag (zig n) = n := zag_zig n
    have hzl := zig_lt bn.1 bn.2
    rw [zag_f (a := ((zig n : Nat) : Int)) (by omega) (by omega)]
    simp only [bs, Int.toNat_natCast]
    rw [hz, if_pos rfl]
    have hzb := zag_bd (u := n') (by omega)
    rw [zig_f hzb.1 hzb.2]
    simp only [bs]
    rw [zig_zag, if_pos rfl]
    rcases takeR_cases b with ⟨m, r, hm, hbe, ht⟩ | ⟨_, ht⟩
    · rw [ht]
      simp only [if_true]
      have hlen : (put m).length ≤ b.length := by rw [hbe]; simp
      rw [if_pos (by omega), put_f (by omega) (by omega) (by decide)]
      simp only [bs, Int.toNat_natCast]
      rw [if_pos (by omega), show b.take (put m).length = put m from by rw [hbe]; simp]
      simp
    · rw [ht]; simp

end Go.Proofs.Ytbbccjoknohfpaa.Pure
