/- What the printed functions of varint, and of its reference, tell: the plain mathematics' words. -/
import Derived.Test.YtmiijakcmbolfaaPx12
import Derived.Test.YtmiijakcmbolfaaLinkPut
namespace Go.Proofs.Ytmiijakcmbolfaa.Link
open Go Go.RowKit Go.Proofs.Ytmiijakcmbolfaa.P Go.Proofs.Ytmiijakcmbolfaa.M Go.Proofs.YtmiijakcmbolfaaW.PrintWords Go.Proofs.YtmiijakcmbolfaaW.PrintLast
set_option linter.unusedVariables false
set_option linter.unusedSimpArgs false

theorem zag_f {a : Int} (h0 : 0 ≤ a) (h1 : a < 18446744073709551616) : varint_Zag.f a = some (zag a.toNat) := by
  obtain ⟨n, rfl⟩ := Int.eq_ofNat_of_zero_le h0
  unfold varint_Zag.f
  rw [and_one_u64 h0 h1]
  congr 1
  by_cases h : n % 2 = 0
  · rw [show wrap64 (-(wrap64 ((n : Int) % 2))) = 0 from by rw [show (n : Int) % 2 = 0 from by omega]; unfold wrap64; omega, wrap64_id (by omega) (by omega), xor_zero_i64 (by omega) (by omega)]
    unfold zag; rw [if_pos (by simpa using h)]; simp
  · rw [show wrap64 (-(wrap64 ((n : Int) % 2))) = -1 from by rw [show (n : Int) % 2 = 1 from by omega]; unfold wrap64; omega, wrap64_id (by omega) (by omega), xor_ones_i64 (by omega) (by omega)]
    unfold zag; rw [if_neg (by simpa using h)]; simp

/-! Take: bytes ahead of place i have all been 128 or above -/
theorem rd_app (p : List Int) (c : Int) (r : List Int) : rd (p ++ c :: r) (p.length : Int) = c := by simp [rd]

theorem take_l0 (r : List Int) : ∀ (p : List Int) (k : Nat), (∀ x ∈ p, 128 ≤ x ∧ x < 256) → (∀ x ∈ r, 0 ≤ x ∧ x < 256) → p.length ≤ 10 → p.length + r.length < 9223372036854775807 → 2 * (11 - p.length) ≤ k → val p < 18446744073709551616 →
    varint_Take.l0 k (val p : Int) (p ++ r) ((p ++ r).length : Int) (p.length : Int) = some (takeR (p ++ r)) := by
  induction r with
  | nil =>
    intro p k hp hr hl hb hk hv
    obtain ⟨k, rfl⟩ : ∃ m, k = m + 1 := ⟨k - 1, by omega⟩
    simp only [varint_Take.l0, List.append_nil]
    rw [if_neg (by omega)]
    congr 1
    unfold takeR
    have : ∀ (q : List Int), (∀ x ∈ q, 128 ≤ x ∧ x < 256) → q.dropWhile (fun x => decide (128 ≤ x)) = [] := by
      intro q hq
      induction q with
      | nil => rfl
      | cons a q ih => have := hq a (by simp); simp [List.dropWhile_cons, this.1, ih (fun x hx => hq x (by simp [hx]))]
    rw [this p hp]
  | cons c r ih =>
    intro p k hp hr hl hb hk hv
    have hc := hr c (by simp)
    obtain ⟨k, rfl⟩ : ∃ m, k = m + 2 := ⟨k - 2, by omega⟩
    have hx : ∀ x ∈ p, 128 ≤ x := fun x hx => (hp x hx).1
    -- if c ends a number: what takeR says
    have hend : c < 128 → takeR (p ++ c :: r) = if put (val (p ++ [c])) = p ++ [c] ∧ val (p ++ [c]) < 18446744073709551616 then ((val (p ++ [c]) : Int), ((p.length + 1 : Nat) : Int), 0) else (0, 0, 2) := by
      intro h
      obtain ⟨h1, h2⟩ := takeWhile_pre p c r hx h
      unfold takeR; rw [h2]; simp only [h1]
    have hmore : p.length = 10 → takeR (p ++ c :: r) = (0, 0, 2) := by
      intro h
      rcases takeR_cases (p ++ c :: r) with ⟨n, s, hn, hb', _⟩ | ⟨_, h'⟩
      · obtain ⟨q, d, e, hq, d0, d1, dz⟩ := put_form n
        have hlen := put_len10 hn
        rw [e] at hb' hlen
        simp at hlen
        have hd : (p ++ c :: r)[q.length]? = some d := by rw [hb']; simp
        rw [List.getElem?_append_left (by omega)] at hd
        have := hx d (List.mem_of_getElem? hd); omega
      · exact h'
    simp only [varint_Take.l0]
    rw [if_pos (by simp; omega), if_pos (by omega), if_pos (by simp; omega)]
    rw [rd_app]
    rw [show IntKind.u64.wrap (bits .andNot .u8 c 128) = c % 128 from by rw [andNot128 hc.1 hc.2, wrap_u64]; omega]
    have hw7 : wrap64 (7 * (p.length : Int)) = 7 * (p.length : Int) := wrap64_id (by omega) (by omega)
    by_cases h10 : p.length = 10
    · rw [if_pos (by omega)]
      simp only [varint_Take.j1, if_true]
      rw [hmore h10]
    · rw [if_neg (by omega), hw7, if_pos (by omega)]
      have hm : min (7 * (p.length : Int)).toNat (IntKind.bits .u64) = 7 * p.length := by simp [IntKind.bits]; omega
      have hshl : shl .u64 (c % 128) (7 * (p.length : Int)) = (c % 128) * 2 ^ (7 * p.length) % 18446744073709551616 := by unfold shl; rw [hm, wrap_u64]
      have hpl : p.length ≤ 9 := by omega
      have hp128 : (2 : Int) ^ (7 * p.length) = ((128 ^ p.length : Nat) : Int) := by
        rw [Int.pow_mul]; simp
      rw [hp128] at hshl
      have hvl := val_lt p
      have hb9 : 128 ^ p.length ≤ 128 ^ 9 := Nat.pow_le_pow_right (by decide) hpl
      have hpos : 0 < 128 ^ p.length := Nat.pow_pos (by decide)
      rw [show (128 : Nat) ^ 9 = 9223372036854775808 from rfl] at hb9
      have hshr : shr .u64 (shl .u64 (c % 128) (7 * (p.length : Int))) (7 * (p.length : Int)) = (c % 128) * ((128 ^ p.length : Nat) : Int) % 18446744073709551616 / ((128 ^ p.length : Nat) : Int) := by
        rw [hshl]; unfold shr; rw [hm, hp128]
      generalize hM : (128 ^ p.length : Nat) = M at *
      have hval : val (p ++ [c]) = val p + M * (c % 128).toNat := by rw [val_append, hM]; simp [val]
      obtain ⟨d, hd⟩ : ∃ d : Nat, c % 128 = (d : Int) := ⟨(c % 128).toNat, by omega⟩
      have hd1 : d < 128 := by omega
      rw [hd] at hshl hshr hval ⊢
      rw [show ((d : Int)).toNat = d from by omega] at hval
      rw [show ((d : Int) * (M : Int)) = ((M * d : Nat) : Int) from by rw [Int.natCast_mul, Int.mul_comm]] at hshl hshr
      by_cases hfit : M * d < 18446744073709551616
      · -- it fits
        have hs1 : shl .u64 (d : Int) (7 * (p.length : Int)) = ((M * d : Nat) : Int) := by rw [hshl]; omega
        have hs2 : shr .u64 (shl .u64 (d : Int) (7 * (p.length : Int))) (7 * (p.length : Int)) = (d : Int) := by
          rw [hshr, show (((M * d : Nat) : Int) % 18446744073709551616) = ((M * d : Nat) : Int) from by omega, ← Int.natCast_ediv, Nat.mul_div_cancel_left _ hpos]
        have hor : bits .or .u64 (val p : Int) ((M * d : Nat) : Int) = ((val p + M * d : Nat) : Int) := by
          rw [or_add_u64 (i := 7 * p.length) (by omega) (by rw [hp128]; omega) (by omega) (by rw [hp128, ← Int.natCast_emod, Nat.mul_mod_right]; rfl) (by omega) (by omega)]; omega
        rw [hs2]
        have hbne : ((d : Int) != (d : Int)) = false := by simp
        rw [hbne]
        simp only [varint_Take.j1]
        rw [if_neg (by decide), hw7, if_pos (by omega), hs1, hor]
        by_cases h128 : c ≥ 128
        · rw [if_pos h128]
          have h1 : wrap64 ((p.length : Int) + 1) = ((p ++ [c]).length : Int) := by rw [wrap64_id (by omega) (by omega)]; simp
          have h2 : p ++ c :: r = (p ++ [c]) ++ r := by simp
          rw [h1, h2, ← hval]
          have hlen : (p ++ [c]).length = p.length + 1 := by simp
          refine ih (p ++ [c]) k ?_ (fun x hx' => hr x (by simp [hx'])) (by omega) (by simp at hb ⊢; omega) (by omega) ?_
          · intro x hx'
            rcases List.mem_append.1 hx' with h' | h'
            · exact hp x h'
            · simp at h'; omega
          · rw [hval]
            by_cases h9 : p.length = 9
            · rw [h9] at hM; rw [show (128 : Nat) ^ 9 = 9223372036854775808 from rfl] at hM; subst hM
              omega
            · have hb8 : 128 ^ p.length ≤ 128 ^ 8 := Nat.pow_le_pow_right (by decide) (by omega)
              rw [hM, show (128 : Nat) ^ 8 = 72057594037927936 from rfl] at hb8
              have : M * d ≤ M * 127 := Nat.mul_le_mul_left _ (by omega)
              omega
        · rw [if_neg h128]
          have hcd : c = (d : Int) := by omega
          rw [hend (by omega)]
          by_cases h0 : c = 0 ∧ 0 < p.length
          · rw [if_pos h0.1, if_pos (by omega), if_neg]
            rintro ⟨h1, _⟩
            obtain ⟨q, e, h2, hq, e0, e1, ez⟩ := put_form (val (p ++ [c]))
            rw [h2] at h1
            have h3 := List.append_inj' h1 rfl
            simp at h3
            have h4 := ez (by rw [h3.2]; exact h0.1)
            rw [← h3.1, h4] at h0; simp at h0
          · have hput : put (val (p ++ [c])) = p ++ [c] := put_val p c hp hc.1 (by omega) (fun h => by
              rcases Nat.eq_zero_or_pos p.length with h' | h'
              · exact List.eq_nil_of_length_eq_zero h'
              · exact absurd ⟨h, h'⟩ h0)
            have hlt : val (p ++ [c]) < 18446744073709551616 := by
              rw [hval]
              by_cases h9 : p.length = 9
              · rw [h9] at hM; rw [show (128 : Nat) ^ 9 = 9223372036854775808 from rfl] at hM; subst hM
                omega
              · have hb8 : 128 ^ p.length ≤ 128 ^ 8 := Nat.pow_le_pow_right (by decide) (by omega)
                rw [hM, show (128 : Nat) ^ 8 = 72057594037927936 from rfl] at hb8
                have : M * d ≤ M * 127 := Nat.mul_le_mul_left _ (by omega)
                omega
            have hboth : put (val (p ++ [c])) = p ++ [c] ∧ val (p ++ [c]) < 18446744073709551616 := ⟨hput, hlt⟩
            rw [if_pos hboth, hval]
            have hw1 : wrap64 ((p.length : Int) + 1) = ((p.length + 1 : Nat) : Int) := by rw [wrap64_id (by omega) (by omega)]; omega
            by_cases hz : c = 0
            · have hp0 : p.length = 0 := by
                rcases Nat.eq_zero_or_pos p.length with h' | h'
                · exact h'
                · exact absurd ⟨hz, h'⟩ h0
              have hp1 : ¬ ((p.length : Int) > 0) := by rw [hp0]; decide
              rw [if_pos hz, if_neg hp1, hw1]
            · rw [if_neg hz, hw1]
      · -- it does not: part 2 or more at place 9
        have h9 : p.length = 9 := by
          rcases Nat.lt_or_ge p.length 9 with h' | h'
          · have hb8 : 128 ^ p.length ≤ 128 ^ 8 := Nat.pow_le_pow_right (by decide) (by omega)
            rw [hM, show (128 : Nat) ^ 8 = 72057594037927936 from rfl] at hb8
            have : M * d ≤ M * 127 := Nat.mul_le_mul_left _ (by omega)
            omega
          · omega
        have hM9 : M = 9223372036854775808 := by rw [← hM, h9]
        have hne : shr .u64 (shl .u64 (d : Int) (7 * (p.length : Int))) (7 * (p.length : Int)) ≠ (d : Int) := by
          rw [hM9] at hfit; rw [hshr, hM9]; omega
        have hb1 : (shr .u64 (shl .u64 (d : Int) (7 * (p.length : Int))) (7 * (p.length : Int)) != (d : Int)) = true := by simpa using hne
        rw [hb1]
        simp only [varint_Take.j1, if_true]
        congr 1
        rcases takeR_cases (p ++ c :: r) with ⟨n, s, hn, hb', _⟩ | ⟨_, h'⟩
        · exfalso
          obtain ⟨q, e, he, hq, e0, e1, ez⟩ := put_form n
          have hlen := put_len10 hn
          have hvn := val_put n
          rw [he] at hb' hlen hvn
          simp at hlen
          have hq9 : q.length = 9 := by
            rcases Nat.lt_or_ge q.length 9 with h' | h'
            · have hd' : (p ++ c :: r)[q.length]? = some e := by rw [hb']; simp
              rw [List.getElem?_append_left (by omega)] at hd'
              have := hx e (List.mem_of_getElem? hd'); omega
            · omega
          have h3 : p ++ c :: r = q ++ e :: s := by rw [hb']; simp
          have h4 := List.append_inj h3 (by omega)
          simp at h4
          obtain ⟨rfl, rfl, rfl⟩ := h4
          rw [hval] at hvn
          omega
        · exact h'.symm

theorem take_f {k : Nat} {b : List Int} (hb : ∀ x ∈ b, 0 ≤ x ∧ x < 256) (hl : b.length < 9223372036854775807) (hk : 22 ≤ k) : varint_Take.f k b = some (takeR b) := by
  have := take_l0 b [] k (by simp) hb (by simp) (by simpa using hl) (by simpa using hk) (by simp [val])
  simpa [varint_Take.f, val] using this

end Go.Proofs.Ytmiijakcmbolfaa.Link
