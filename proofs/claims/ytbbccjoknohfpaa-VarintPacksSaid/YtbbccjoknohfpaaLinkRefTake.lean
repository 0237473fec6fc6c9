/- The reference's Take and Unpack, and Same: the plain mathematics' words. -/
import Derived.Test.YtbbccjoknohfpaaPx6
import Derived.Test.YtbbccjoknohfpaaPx8
import Derived.Test.YtbbccjoknohfpaaLinkRefPut
import Derived.Test.YtbbccjoknohfpaaMathUnpack
import Derived.Test.YtbbccjoknohfpaaMathStr
namespace Go.Proofs.Ytbbccjoknohfpaa.Link
open Go Go.RowKit Go.Proofs.Ytbbccjoknohfpaa.P Go.Proofs.Ytbbccjoknohfpaa.M Go.Proofs.YtbbccjoknohfpaaW.PrintWords Go.Proofs.YtbbccjoknohfpaaW.PrintLast
set_option linter.unusedVariables false

theorem takeR_end (p : List Int) (c : Int) (r : List Int) (hp : ∀ x ∈ p, 128 ≤ x) (h : c < 128) :
    takeR (p ++ c :: r) = if put (val (p ++ [c])) = p ++ [c] ∧ val (p ++ [c]) < 18446744073709551616 then ((val (p ++ [c]) : Int), ((p.length + 1 : Nat) : Int), 0) else (0, 0, 2) := by
  obtain ⟨h1, h2⟩ := takeWhile_pre p c r hp h
  unfold takeR; rw [h2]; simp only [h1]
theorem takeR_long (p r : List Int) (hp : ∀ x ∈ p, 128 ≤ x) (h : p.length = 10 ∨ r = []) : takeR (p ++ r) = (0, 0, 2) := by
  rcases takeR_cases (p ++ r) with ⟨n, s, hn, hb', _⟩ | ⟨_, h'⟩
  · exfalso
    obtain ⟨q, d, e, hq, d0, d1, dz⟩ := put_form n
    have hlen := put_len10 hn
    rw [e] at hb' hlen
    simp at hlen
    have hd : (p ++ r)[q.length]? = some d := by rw [hb']; simp
    have hlt : q.length < p.length := by
      rcases h with h | h
      · omega
      · subst h
        have := congrArg List.length hb'
        simp at this
        omega
    rw [List.getElem?_append_left hlt] at hd
    have := hp d (List.mem_of_getElem? hd)
    omega
  · exact h'

theorem modM (v : Nat) : ∃ x : Nat, (v : Int) % 18446744073709551616 = (x : Int) ∧ x < 18446744073709551616 ∧ (v < 18446744073709551616 → x = v) :=
  ⟨((v : Int) % 18446744073709551616).toNat, by omega, by omega, by intro h; omega⟩
theorem modmul (a b M : Int) : (a % M * b) % M = a * b % M := by rw [Int.mul_emod (a % M), Int.emod_emod_of_dvd _ (Int.dvd_refl _), ← Int.mul_emod]

theorem refTake_l1 (x0 : List Int) (x5 : Int) (i : Nat) (hi : i < 100) (d : Nat) : ∀ (k j : Nat) (x7 : Int), i = j + d → 0 ≤ x7 → x7 < 18446744073709551616 →
    selvageref01_Take.l1 (k + d) x0 x5 (i : Int) x7 (j : Int) = selvageref01_Take.l1 k x0 x5 (i : Int) (x7 * 128 ^ d % 18446744073709551616) (i : Int) := by
  induction d with
  | zero =>
    intro k j x7 hj h0 hx
    obtain rfl : i = j := by omega
    rw [Int.pow_zero, Int.mul_one, Int.emod_eq_of_lt h0 hx]
    rfl
  | succ d ih =>
    intro k j x7 hj h0 hx
    rw [show k + (d + 1) = (k + d) + 1 from rfl]
    conv => lhs; simp only [selvageref01_Take.l1]
    rw [if_pos (by omega)]
    rw [wrap_u64, show wrap64 ((j : Int) + 1) = ((j + 1 : Nat) : Int) from by rw [wrap64_id (by omega) (by omega)]; rfl]
    rw [ih k (j + 1) _ (by omega) (Int.emod_nonneg _ (by decide)) (Int.emod_lt_of_pos _ (by decide))]
    rw [modmul, Int.mul_assoc, show (128 : Int) * 128 ^ d = 128 ^ (d + 1) from by rw [Int.pow_succ, Int.mul_comm]]

theorem refTake_l0 (r : List Int) : ∀ (p : List Int) (k : Nat), (∀ x ∈ p, 128 ≤ x ∧ x < 256) → (∀ x ∈ r, 0 ≤ x ∧ x < 256) → p.length ≤ 10 → p.length + r.length < 9223372036854775807 → 30 * (11 - p.length) ≤ k →
    selvageref01_Take.l0 k (p ++ r) ((val p : Int) % 18446744073709551616) (p.length : Int) = some (takeR (p ++ r)) := by
  induction r with
  | nil =>
    intro p k hp hr hl hb hk
    obtain ⟨k, rfl⟩ : ∃ m, k = m + 2 := ⟨k - 2, by omega⟩
    simp only [selvageref01_Take.l0]
    rw [if_neg (by simp)]
    simp only [selvageref01_Take.j1]
    rw [if_neg (by decide), takeR_long p [] (fun x hx => (hp x hx).1) (.inr rfl)]
  | cons c r ih =>
    intro p k hp hr hl hb hk
    have hc := hr c (by simp)
    have hx : ∀ x ∈ p, 128 ≤ x := fun x hx => (hp x hx).1
    obtain ⟨k, rfl⟩ : ∃ m, k = m + 2 := ⟨k - 2, by omega⟩
    simp only [selvageref01_Take.l0]
    rw [if_pos (by simp; omega)]
    by_cases h10 : p.length = 10
    · rw [show decide ((p.length : Int) < 10) = false from by simp; omega]
      simp only [selvageref01_Take.j1]
      rw [if_neg (by decide), takeR_long p (c :: r) hx (.inl h10)]
    · rw [show decide ((p.length : Int) < 10) = true from by simp; omega]
      simp only [selvageref01_Take.j1]
      have hin : (p.length : Int) < ((p ++ c :: r).length : Int) := by simp; omega
      have hin1 : ((p.length + 1 : Nat) : Int) ≤ ((p ++ c :: r).length : Int) := by simp; omega
      have hp0 : (0 : Int) ≤ (p.length : Int) := by omega
      rw [if_pos trivial, if_pos hp0, if_pos hin, rd_app]
      obtain ⟨d, hd⟩ : ∃ d : Nat, c % 128 = (d : Int) := ⟨(c % 128).toNat, by omega⟩
      have hd1 : d < 128 := by omega
      rw [show IntKind.u64.wrap (Int.tmod c 128) = (d : Int) from by rw [wrap_u64, Int.tmod_eq_emod_of_nonneg hc.1]; omega]
      obtain ⟨k, rfl⟩ : ∃ m, k = (m + 1) + p.length := ⟨k - 1 - p.length, by omega⟩
      have hk10 : 10 ≤ k := by omega
      have hk30 : 30 * (11 - (p.length + 1)) ≤ k := by omega
      have h0 := refTake_l1 (p ++ c :: r) ((val p : Int) % 18446744073709551616) p.length (by omega) p.length (k + 1) 0 (d : Int) (by omega) (by omega) (by omega)
      rw [show ((0 : Nat) : Int) = 0 from rfl] at h0
      rw [h0]
      clear h0
      simp only [selvageref01_Take.l1]
      rw [if_neg (by omega), if_pos hp0, if_pos hin, rd_app]
      have hval : val (p ++ [c]) = val p + 128 ^ p.length * d := by
        rw [val_append]; simp only [val]; rw [show (c % 128).toNat = d from by omega]; simp
      have hacc : IntKind.u64.wrap ((val p : Int) % 18446744073709551616 + (d : Int) * 128 ^ p.length % 18446744073709551616) = (val (p ++ [c]) : Int) % 18446744073709551616 := by
        rw [wrap_u64, ← Int.add_emod, hval]
        congr 1
        rw [Int.natCast_add, Int.natCast_mul, Int.natCast_pow, Int.mul_comm]
        rfl
      have hw1 : wrap64 ((p.length : Int) + 1) = ((p.length + 1 : Nat) : Int) := by rw [wrap64_id (by omega) (by omega)]; rfl
      rw [hacc, hw1]
      clear hacc hval hw1
      by_cases h128 : c ≥ 128
      · rw [if_pos h128]
        have h2 : p ++ c :: r = (p ++ [c]) ++ r := by simp
        have h3 : ((p.length + 1 : Nat) : Int) = ((p ++ [c]).length : Int) := by simp
        rw [h2, h3]
        refine ih (p ++ [c]) k ?_ (fun x hx' => hr x (by simp [hx'])) (by simp; omega) (by simp at hb ⊢; omega) (by simp; omega)
        intro x hx'
        rcases List.mem_append.1 hx' with h' | h'
        · exact hp x h'
        · simp at h'; omega
      · rw [if_neg h128, takeR_end p c r hx (by omega)]
        have hb2 : ∀ x ∈ p ++ [c], 0 ≤ x ∧ x < 256 := by
          intro x hx'
          rcases List.mem_append.1 hx' with h' | h'
          · have := hp x h'; omega
          · simp at h'; omega
        have htk : (p ++ c :: r).take (((p.length + 1 : Nat) : Int)).toNat = p ++ [c] := by
          rw [Int.toNat_natCast, show p ++ c :: r = (p ++ [c]) ++ r from by simp, show p.length + 1 = (p ++ [c]).length from by simp, List.take_left']
          rfl
        obtain ⟨v, hv⟩ : ∃ v, val (p ++ [c]) = v := ⟨_, rfl⟩
        rw [hv]
        obtain ⟨x, hxv, hxM, hxe⟩ := modM v
        rw [hxv, refPut_f (by omega) (by omega) hk10, bs, Int.toNat_natCast, if_pos (by omega), if_pos hin1, htk]
        have hiff := str_eq (a := put x) (b := p ++ [c]) (put_bytes _) hb2
        clear hxv
        by_cases hput : put x = p ++ [c]
        · have hvx := val_put x
          rw [hput, hv] at hvx
          subst hvx
          have hboth : put v = p ++ [c] ∧ v < 18446744073709551616 := ⟨hput, hxM⟩
          rw [if_pos (hiff.2 hput), if_pos hboth]
        · rw [if_neg (fun h => hput (hiff.1 h)), if_neg]
          rintro ⟨h1, h2⟩
          rw [hxe h2] at hput
          exact hput h1

theorem refTake_f {k : Nat} {b : List Int} (hb : ∀ x ∈ b, 0 ≤ x ∧ x < 256) (hl : b.length < 9223372036854775807) (hk : 330 ≤ k) : selvageref01_Take.f k b = some (takeR b) := by
  have := refTake_l0 b [] k (by simp) hb (by simp) (by simpa using hl) (by simpa using hk)
  simpa [selvageref01_Take.f, val] using this

theorem refUnpack_l0 (n : Nat) : ∀ (b acc : List Int) (k : Nat), b.length ≤ n → (∀ x ∈ b, 0 ≤ x ∧ x < 256) → acc.length + b.length < 17592186044416 → b.length + 331 ≤ k →
    selvageref01_Unpack.l0 k b acc = some (if (items b).all (·.2) then (acc ++ (items b).map (·.1), 0) else ([], 2)) := by
  induction n with
  | zero =>
    intro b acc k hn hb hl hk
    obtain rfl : b = [] := List.eq_nil_of_length_eq_zero (by omega)
    obtain ⟨k, rfl⟩ : ∃ m, k = m + 1 := ⟨k - 1, by omega⟩
    simp only [selvageref01_Unpack.l0]
    rw [if_neg (by simp), items_nil]
    simp
  | succ n ih =>
    intro b acc k hn hb hl hk
    by_cases he : b = []
    · subst he
      exact ih [] acc k (by simp) hb hl hk
    · have hpos : 0 < b.length := List.length_pos_iff.2 he
      obtain ⟨k, rfl⟩ : ∃ m, k = m + 1 := ⟨k - 1, by omega⟩
      simp only [selvageref01_Unpack.l0]
      rw [if_pos (by omega), refTake_f hb (by omega) (by omega), bs]
      rcases takeR_cases b with ⟨m, r, hm, hbe, ht⟩ | ⟨_, ht⟩
      · have hp := put_len_pos m
        have hlen : b.length = (put m).length + r.length := by rw [hbe]; simp
        have hdr : b.drop (put m).length = r := by rw [hbe]; simp
        rw [ht]
        simp only
        rw [if_pos trivial, refZag_f (by omega) (by omega), bs, Int.toNat_natCast, if_pos (by omega), if_pos (by omega), if_pos (by omega), Int.toNat_natCast, hdr]
        rw [ih r (acc ++ [zag m]) k (by omega) (fun x hx => hb x (by rw [hbe]; simp [hx])) (by simp; omega) (by omega)]
        rw [hbe, items_put hm]
        simp only [List.all_cons, Bool.true_and, List.map_cons, List.append_assoc, List.singleton_append]
      · rw [ht, items_bad he ht]
        simp

theorem refUnpack_f {k : Nat} {b : List Int} (hb : ∀ x ∈ b, 0 ≤ x ∧ x < 256) (hl : b.length < 17592186044416) (hk : b.length + 331 ≤ k) : selvageref01_Unpack.f k b = some (unpackR b) := by
  have := refUnpack_l0 b.length b [] k (Nat.le_refl _) hb (by simpa using hl) hk
  unfold selvageref01_Unpack.f unpackR
  rw [this]
  simp

theorem refSame_l0 (a b : List Int) (hab : a.length = b.length) (hl : a.length < 9223372036854775807) (d : Nat) : ∀ (k i : Nat), i + d = a.length → d < k → ∃ r, selvageref01_Same.l0 k a b (i : Int) = some r ∧ (r = true ↔ a.drop i = b.drop i) := by
  induction d with
  | zero =>
    intro k i hi hk
    obtain ⟨k, rfl⟩ : ∃ m, k = m + 1 := ⟨k - 1, by omega⟩
    refine ⟨true, ?_, ?_⟩
    · simp only [selvageref01_Same.l0]
      rw [if_neg (by omega)]
    · rw [List.drop_eq_nil_of_le (by omega), List.drop_eq_nil_of_le (by omega)]; simp
  | succ d ih =>
    intro k i hi hk
    obtain ⟨k, rfl⟩ : ∃ m, k = m + 1 := ⟨k - 1, by omega⟩
    have ha : i < a.length := by omega
    have hb : i < b.length := by omega
    have ea : rd a (i : Int) = a[i] := by simp only [rd, Int.toNat_natCast]; rw [List.getD_eq_getElem?_getD, List.getElem?_eq_getElem ha]; rfl
    have eb : rd b (i : Int) = b[i] := by simp only [rd, Int.toNat_natCast]; rw [List.getD_eq_getElem?_getD, List.getElem?_eq_getElem hb]; rfl
    have da : a.drop i = a[i] :: a.drop (i + 1) := List.drop_eq_getElem_cons ha
    have db : b.drop i = b[i] :: b.drop (i + 1) := List.drop_eq_getElem_cons hb
    simp only [selvageref01_Same.l0]
    rw [if_pos (by omega), if_pos (by omega), if_pos (by omega), ea, eb]
    rw [show wrap64 ((i : Int) + 1) = ((i + 1 : Nat) : Int) from by rw [wrap64_id (by omega) (by omega)]; rfl]
    by_cases h : a[i] = b[i]
    · rw [if_pos h]
      obtain ⟨r, hr, hiff⟩ := ih k (i + 1) (by omega) (by omega)
      refine ⟨r, hr, hiff.trans ?_⟩
      rw [da, db, h, List.cons.injEq]
      exact ⟨fun h => ⟨rfl, h⟩, fun h => h.2⟩
    · rw [if_neg h]
      refine ⟨false, rfl, ?_⟩
      rw [da, db, List.cons.injEq]
      exact ⟨fun e => Bool.noConfusion e, fun h' => (h h'.1).elim⟩

theorem refSame_f {k : Nat} {a b : List Int} (hl : a.length < 9223372036854775807) (hk : a.length < k) : selvageref01_Same.f k a b = some (decide (a = b)) := by
  unfold selvageref01_Same.f
  by_cases hab : a.length = b.length
  · rw [if_pos (by omega)]
    obtain ⟨r, hr, hiff⟩ := refSame_l0 a b hab hl a.length k 0 (by omega) hk
    rw [show ((0 : Nat) : Int) = 0 from rfl] at hr
    rw [hr]
    simp only [List.drop_zero] at hiff
    congr 1
    cases r <;> simp_all
  · rw [if_neg (by omega), decide_eq_false (fun h => hab (by rw [h]))]

end Go.Proofs.Ytbbccjoknohfpaa.Link
