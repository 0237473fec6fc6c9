/- The reference's Take is the plain one (no other function of chapter 1 is needed). -/
import Derived.Test.YtmiijakcmbolfaaPx12
import Derived.Test.YtmiijakcmbolfaaLinkRefPut
import Derived.Test.YtmiijakcmbolfaaLinkVarint
import Derived.Test.YtmiijakcmbolfaaMathStr
namespace Go.Proofs.Ytmiijakcmbolfaa.Link
open Go Go.RowKit Go.Proofs.Ytmiijakcmbolfaa.P Go.Proofs.Ytmiijakcmbolfaa.M Go.Proofs.YtmiijakcmbolfaaW.PrintWords Go.Proofs.YtmiijakcmbolfaaW.PrintLast
set_option linter.unusedVariables false

theorem takeR_end (p : List Int) (c : Int) (r : List Int) (hp : ∀ x ∈ p, 128 ≤ x) (h : c < 128) :
    takeR (p ++ c :: r) = if put (val (p ++ [c])) = p ++ [c] ∧ val (p ++ [c]) < 18446744073709551616 then ((val (p ++ [c]) : Int), ((p.length + 1 : Nat) : Int), 0) else (0, 0, 2) := by
  obtain ⟨h1, h2⟩ := takeWhile_pre p c r hp h
  unfold takeR; rw [h2]; simp only [h1]
theorem takeR_long (p r : List Int) (hp : ∀ x ∈ p, 128 ≤ x) (h : p.length = 10 ∨ r = []) : takeR (p ++ r) = (0, 0, 2) := by
  rcases takeR_cases (p ++ r) with ⟨n, s, hn, hb', _⟩ | ⟨_, h'⟩
  · exfalso
    obtain ⟨q, d, e, hq, d0, d1, dz⟩ := put_form n
    have hlen := put_len10 hn
    rw [e] at hb' hlen
    simp at hlen
    have hd : (p ++ r)[q.length]? = some d := by rw [hb']; simp
    have hlt : q.length < p.length := by
      rcases h with h | h
      · omega
      · subst h
        have := congrArg List.length hb'
        simp at this
        omega
    rw [List.getElem?_append_left hlt] at hd
    have := hp d (List.mem_of_getElem? hd)
    omega
  · exact h'

theorem modM (v : Nat) : ∃ x : Nat, (v : Int) % 18446744073709551616 = (x : Int) ∧ x < 18446744073709551616 ∧ (v < 18446744073709551616 → x = v) :=
  ⟨((v : Int) % 18446744073709551616).toNat, by omega, by omega, by intro h; omega⟩
theorem modmul (a b M : Int) : (a % M * b) % M = a * b % M := by rw [Int.mul_emod (a % M), Int.emod_emod_of_dvd _ (Int.dvd_refl _), ← Int.mul_emod]

theorem refTake_l1 (x0 : List Int) (x5 : Int) (i : Nat) (hi : i < 100) (d : Nat) : ∀ (k j : Nat) (x7 : Int), i = j + d → 0 ≤ x7 → x7 < 18446744073709551616 →
    selvageref01_Take.l1 (k + d) x0 x5 (i : Int) x7 (j : Int) = selvageref01_Take.l1 k x0 x5 (i : Int) (x7 * 128 ^ d % 18446744073709551616) (i : Int) := by
  induction d with
  | zero =>
    intro k j x7 hj h0 hx
    obtain rfl : i = j := by omega
    rw [Int.pow_zero, Int.mul_one, Int.emod_eq_of_lt h0 hx]
    rfl
  | succ d ih =>
    intro k j x7 hj h0 hx
    rw [show k + (d + 1) = (k + d) + 1 from rfl]
    conv => lhs; simp only [selvageref01_Take.l1]
    rw [if_pos (by omega)]
    rw [wrap_u64, show wrap64 ((j : Int) + 1) = ((j + 1 : Nat) : Int) from by rw [wrap64_id (by omega) (by omega)]; rfl]
    rw [ih k (j + 1) _ (by omega) (Int.emod_nonneg _ (by decide)) (Int.emod_lt_of_pos _ (by decide))]
    rw [modmul, Int.mul_assoc, show (128 : Int) * 128 ^ d = 128 ^ (d + 1) from by rw [Int.pow_succ, Int.mul_comm]]

theorem refTake_l0 (r : List Int) : ∀ (p : List Int) (k : Nat), (∀ x ∈ p, 128 ≤ x ∧ x < 256) → (∀ x ∈ r, 0 ≤ x ∧ x < 256) → p.length ≤ 10 → p.length + r.length < 9223372036854775807 → 30 * (11 - p.length) ≤ k →
    selvageref01_Take.l0 k (p ++ r) ((val p : Int) % 18446744073709551616) (p.length : Int) = some (takeR (p ++ r)) := by
  induction r with
  | nil =>
    intro p k hp hr hl hb hk
    obtain ⟨k, rfl⟩ : ∃ m, k = m + 2 := ⟨k - 2, by omega⟩
    simp only [selvageref01_Take.l0]
    rw [if_neg (by simp)]
    simp only [selvageref01_Take.j1]
    rw [if_neg (by decide), takeR_long p [] (fun x hx => (hp x hx).1) (.inr rfl)]
  | cons c r ih =>
    intro p k hp hr hl hb hk
    have hc := hr c (by simp)
    have hx : ∀ x ∈ p, 128 ≤ x := fun x hx => (hp x hx).1
    obtain ⟨k, rfl⟩ : ∃ m, k = m + 2 := ⟨k - 2, by omega⟩
    simp only [selvageref01_Take.l0]
    rw [if_pos (by simp; omega)]
    by_cases h10 : p.length = 10
    · rw [show decide ((p.length : Int) < 10) = false from by simp; omega]
      simp only [selvageref01_Take.j1]
      rw [if_neg (by decide), takeR_long p (c :: r) hx (.inl h10)]
    · rw [show decide ((p.length : Int) < 10) = true from by simp; omega]
      simp only [selvageref01_Take.j1]
      have hin : (p.length : Int) < ((p ++ c :: r).length : Int) := by simp; omega
      have hin1 : ((p.length + 1 : Nat) : Int) ≤ ((p ++ c :: r).length : Int) := by simp; omega
      have hp0 : (0 : Int) ≤ (p.length : Int) := by omega
      rw [if_pos trivial, if_pos hp0, if_pos hin, rd_app]
      obtain ⟨d, hd⟩ : ∃ d : Nat, c % 128 = (d : Int) := ⟨(c % 128).toNat, by omega⟩
      have hd1 : d < 128 := by omega
      rw [show IntKind.u64.wrap (Int.tmod c 128) = (d : Int) from by rw [wrap_u64, Int.tmod_eq_emod_of_nonneg hc.1]; omega]
      obtain ⟨k, rfl⟩ : ∃ m, k = (m + 1) + p.length := ⟨k - 1 - p.length, by omega⟩
      have hk10 : 10 ≤ k := by omega
      have hk30 : 30 * (11 - (p.length + 1)) ≤ k := by omega
      have h0 := refTake_l1 (p ++ c :: r) ((val p : Int) % 18446744073709551616) p.length (by omega) p.length (k + 1) 0 (d : Int) (by omega) (by omega) (by omega)
      rw [show ((0 : Nat) : Int) = 0 from rfl] at h0
      rw [h0]
      clear h0
      simp only [selvageref01_Take.l1]
      rw [if_neg (by omega), if_pos hp0, if_pos hin, rd_app]
      have hval : val (p ++ [c]) = val p + 128 ^ p.length * d := by
        rw [val_append]; simp only [val]; rw [show (c % 128).toNat = d from by omega]; simp
      have hacc : IntKind.u64.wrap ((val p : Int) % 18446744073709551616 + (d : Int) * 128 ^ p.length % 18446744073709551616) = (val (p ++ [c]) : Int) % 18446744073709551616 := by
        rw [wrap_u64, ← Int.add_emod, hval]
        congr 1
        rw [Int.natCast_add, Int.natCast_mul, Int.natCast_pow, Int.mul_comm]
        rfl
      have hw1 : wrap64 ((p.length : Int) + 1) = ((p.length + 1 : Nat) : Int) := by rw [wrap64_id (by omega) (by omega)]; rfl
      rw [hacc, hw1]
      clear hacc hval hw1
      by_cases h128 : c ≥ 128
      · rw [if_pos h128]
        have h2 : p ++ c :: r = (p ++ [c]) ++ r := by simp
        have h3 : ((p.length + 1 : Nat) : Int) = ((p ++ [c]).length : Int) := by simp
        rw [h2, h3]
        refine ih (p ++ [c]) k ?_ (fun x hx' => hr x (by simp [hx'])) (by simp; omega) (by simp at hb ⊢; omega) (by simp; omega)
        intro x hx'
        rcases List.mem_append.1 hx' with h' | h'
        · exact hp x h'
        · simp at h'; omega
      · rw [if_neg h128, takeR_end p c r hx (by omega)]
        have hb2 : ∀ x ∈ p ++ [c], 0 ≤ x ∧ x < 256 := by
          intro x hx'
          rcases List.mem_append.1 hx' with h' | h'
          · have := hp x h'; omega
          · simp at h'; omega
        have htk : (p ++ c :: r).take (((p.length + 1 : Nat) : Int)).toNat = p ++ [c] := by
          rw [Int.toNat_natCast, show p ++ c :: r = (p ++ [c]) ++ r from by simp, show p.length + 1 = (p ++ [c]).length from by simp, List.take_left']
          rfl
        obtain ⟨v, hv⟩ : ∃ v, val (p ++ [c]) = v := ⟨_, rfl⟩
        rw [hv]
        obtain ⟨x, hxv, hxM, hxe⟩ := modM v
        rw [hxv, refPut_f (by omega) (by omega) hk10, bs, Int.toNat_natCast, if_pos (by omega), if_pos hin1, htk]
        have hiff := str_eq (a := put x) (b := p ++ [c]) (put_bytes _) hb2
        clear hxv
        by_cases hput : put x = p ++ [c]
        · have hvx := val_put x
          rw [hput, hv] at hvx
          subst hvx
          have hboth : put v = p ++ [c] ∧ v < 18446744073709551616 := ⟨hput, hxM⟩
          rw [if_pos (hiff.2 hput), if_pos hboth]
        · rw [if_neg (fun h => hput (hiff.1 h)), if_neg]
          rintro ⟨h1, h2⟩
          rw [hxe h2] at hput
          exact hput h1

theorem refTake_f {k : Nat} {b : List Int} (hb : ∀ x ∈ b, 0 ≤ x ∧ x < 256) (hl : b.length < 9223372036854775807) (hk : 330 ≤ k) : selvageref01_Take.f k b = some (takeR b) := by
  have := refTake_l0 b [] k (by simp) hb (by simp) (by simpa using hl) (by simpa using hk)
  simpa [selvageref01_Take.f, val] using this

end Go.Proofs.Ytmiijakcmbolfaa.Link
