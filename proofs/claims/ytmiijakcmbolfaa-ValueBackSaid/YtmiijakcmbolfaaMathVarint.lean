/- Plain mathematics of varints: numbers as bytes of seven bits each, and back. No program in sight. -/
import Derived.RowKit
namespace Go.Proofs.Ytmiijakcmbolfaa.M
set_option linter.unusedVariables false
set_option linter.unusedSimpArgs false

/-- a number as bytes -/
def put (n : Nat) : List Int := if n < 128 then [(n : Int)] else ((n % 128 + 128 : Nat) : Int) :: put (n / 128)

/-- the number of bytes of seven bits each, the lowest first -/
def val : List Int → Nat
  | [] => 0
  | c :: r => (c % 128).toNat + 128 * val r

theorem put_small {n : Nat} (h : n < 128) : put n = [(n : Int)] := by rw [put]; simp [h]
theorem put_big {n : Nat} (h : 128 ≤ n) : put n = ((n % 128 + 128 : Nat) : Int) :: put (n / 128) := by
  rw [put]; rw [if_neg (by omega)]

theorem val_append (p q : List Int) : val (p ++ q) = val p + 128 ^ p.length * val q := by
  induction p with
  | nil => simp [val]
  | cons c r ih =>
    simp only [List.cons_append, val, ih, List.length_cons, Nat.pow_succ, Nat.mul_add]
    rw [Nat.mul_comm (128 ^ r.length) 128, Nat.mul_assoc]; omega

theorem val_put (n : Nat) : val (put n) = n := by
  induction n using Nat.strongRecOn with
  | _ n ih =>
    by_cases h : n < 128
    · rw [put_small h]; simp only [val]; omega
    · rw [put_big (by omega)]; simp only [val]; rw [ih (n / 128) (by omega)]; omega

theorem val_lt (p : List Int) : val p < 128 ^ p.length := by
  induction p with
  | nil => simp [val]
  | cons c r ih =>
    simp only [val, List.length_cons, Nat.pow_succ]
    have : (c % 128).toNat < 128 := by omega
    omega

/-- the form of a number's bytes -/
theorem put_form (n : Nat) : ∃ p c, put n = p ++ [c] ∧ (∀ x ∈ p, 128 ≤ x ∧ x < 256) ∧ 0 ≤ c ∧ c < 128 ∧ (c = 0 → p = []) := by
  induction n using Nat.strongRecOn with
  | _ n ih =>
    by_cases h : n < 128
    · exact ⟨[], n, by rw [put_small h]; rfl, by simp, by omega, by omega, by simp⟩
    · obtain ⟨p, c, e, hp, c0, c1, cz⟩ := ih (n / 128) (by omega)
      refine ⟨((n % 128 + 128 : Nat) : Int) :: p, c, by rw [put_big (by omega), e]; rfl, ?_, c0, c1, ?_⟩
      · intro x hx
        rcases List.mem_cons.1 hx with rfl | hx
        · omega
        · exact hp x hx
      · intro hc
        have hpe := cz hc
        subst hc
        rw [hpe] at e
        have := val_put (n / 128)
        rw [e] at this
        simp [val] at this
        omega

theorem put_val (p : List Int) (c : Int) (hp : ∀ x ∈ p, 128 ≤ x ∧ x < 256) (c0 : 0 ≤ c) (c1 : c < 128) (cz : c = 0 → p = []) : put (val (p ++ [c])) = p ++ [c] := by
  induction p with
  | nil => simp only [List.nil_append, val]; rw [put_small (by omega)]; congr 1; omega
  | cons a r ih =>
    have ha := hp a (by simp)
    have hc : c ≠ 0 := fun h => by have := cz h; simp at this
    have ih' := ih (fun x hx => hp x (by simp [hx])) (fun h => absurd h hc)
    have hpos : 0 < val (r ++ [c]) := by
      rw [val_append]
      have : 0 < 128 ^ r.length * val [c] := Nat.mul_pos (Nat.pow_pos (by decide)) (by simp only [val]; omega)
      omega
    simp only [List.cons_append, val]
    rw [put_big (by omega), show ((a % 128).toNat + 128 * val (r ++ [c])) / 128 = val (r ++ [c]) from by omega, ih']
    congr 1
    omega

theorem put_inj {m n : Nat} (h : put m = put n) : m = n := by rw [← val_put m, ← val_put n, h]

theorem put_ne_nil (n : Nat) : put n ≠ [] := by
  obtain ⟨p, c, e, _⟩ := put_form n
  rw [e]; simp

theorem put_bytes (n : Nat) : ∀ x ∈ put n, 0 ≤ x ∧ x < 256 := by
  obtain ⟨p, c, e, hp, c0, c1, _⟩ := put_form n
  rw [e]
  intro x hx
  rcases List.mem_append.1 hx with h | h
  · have := hp x h; omega
  · simp at h; omega

theorem put_len_pos (n : Nat) : 0 < (put n).length := List.length_pos_iff.2 (put_ne_nil n)

theorem put_len_le {n k : Nat} (hk : 0 < k) (h : n < 128 ^ k) : (put n).length ≤ k := by
  induction k generalizing n with
  | zero => omega
  | succ k ih =>
    by_cases hs : n < 128
    · rw [put_small hs]; simp
    · rw [put_big (by omega)]
      have hk' : 0 < k := by
        rcases Nat.eq_zero_or_pos k with rfl | h'
        · simp at h; omega
        · exact h'
      have := ih hk' (n := n / 128) (by rw [Nat.pow_succ] at h; omega)
      simp; omega

theorem put_len10 {n : Nat} (h : n < 18446744073709551616) : (put n).length ≤ 10 := put_len_le (by decide) (Nat.lt_of_lt_of_le h (by decide))

theorem put_len_mono {m n : Nat} (h : m ≤ n) : (put m).length ≤ (put n).length := by
  induction m using Nat.strongRecOn generalizing n with
  | _ m ih =>
    by_cases hm : m < 128
    · rw [put_small hm]; have := put_len_pos n; simp; omega
    · rw [put_big (n := m) (by omega), put_big (n := n) (by omega)]
      have := ih (m / 128) (by omega) (n := n / 128) (by omega)
      simp; omega

/-- no number's bytes begin another one's -/
theorem split_unique {p q : List Int} {c d : Int} {r s : List Int} (hp : ∀ x ∈ p, 128 ≤ x) (hq : ∀ x ∈ q, 128 ≤ x) (hc : c < 128) (hd : d < 128)
    (h : p ++ c :: r = q ++ d :: s) : p = q ∧ c = d ∧ r = s := by
  induction p generalizing q with
  | nil =>
    cases q with
    | nil => simpa using h
    | cons b q => simp at h; have := hq b (by simp); omega
  | cons a p ih =>
    cases q with
    | nil => simp at h; have := hp a (by simp); omega
    | cons b q =>
      simp at h
      obtain ⟨rfl, h⟩ := h
      obtain ⟨h1, h2, h3⟩ := ih (fun x hx => hp x (by simp [hx])) (fun x hx => hq x (by simp [hx])) h
      exact ⟨by rw [h1], h2, h3⟩

theorem put_prefix {m n : Nat} {r s : List Int} (h : put m ++ r = put n ++ s) : m = n ∧ r = s := by
  obtain ⟨p, c, e, hp, c0, c1, cz⟩ := put_form m
  obtain ⟨q, d, f, hq, d0, d1, dz⟩ := put_form n
  rw [e, f] at h
  simp only [List.append_assoc, List.singleton_append] at h
  obtain ⟨h1, h2, h3⟩ := split_unique (fun x hx => (hp x hx).1) (fun x hx => (hq x hx).1) c1 d1 h
  exact ⟨put_inj (by rw [e, f, h1, h2]), h3⟩

/-- what bytes begin with: the number, how many bytes it has, 0; else 0, 0, 2 -/
def takeR (b : List Int) : Int × Int × Int :=
  match b.dropWhile (fun x => decide (128 ≤ x)) with
  | [] => (0, 0, 2)
  | c :: _ =>
    let p := b.takeWhile (fun x => decide (128 ≤ x))
    let n := val (p ++ [c])
    if put n = p ++ [c] ∧ n < 18446744073709551616 then ((n : Int), ((p.length + 1 : Nat) : Int), 0) else (0, 0, 2)

theorem takeWhile_pre (p : List Int) (c : Int) (r : List Int) (hp : ∀ x ∈ p, 128 ≤ x) (hc : c < 128) :
    (p ++ c :: r).takeWhile (fun x => decide (128 ≤ x)) = p ∧ (p ++ c :: r).dropWhile (fun x => decide (128 ≤ x)) = c :: r := by
  induction p with
  | nil =>
    have : decide (128 ≤ c) = false := by simp; omega
    simp [List.takeWhile_cons, List.dropWhile_cons, this]
  | cons a p ih =>
    have ha := hp a (by simp)
    have ih' := ih (fun x hx => hp x (by simp [hx]))
    simp [List.takeWhile_cons, List.dropWhile_cons, ha, ih'.1, ih'.2]

theorem takeR_put {n : Nat} (h : n < 18446744073709551616) (r : List Int) : takeR (put n ++ r) = ((n : Int), ((put n).length : Int), 0) := by
  obtain ⟨p, c, e, hp, c0, c1, cz⟩ := put_form n
  have hv := val_put n
  rw [e] at hv ⊢
  obtain ⟨h1, h2⟩ := takeWhile_pre p c r (fun x hx => (hp x hx).1) c1
  unfold takeR
  rw [show p ++ [c] ++ r = p ++ c :: r from by simp, h2]
  simp only [h1, hv]
  rw [if_pos ⟨e, h⟩]
  simp

/-- either bytes begin with a number's bytes, or they do not -/
theorem takeR_cases (b : List Int) : (∃ n r, n < 18446744073709551616 ∧ b = put n ++ r ∧ takeR b = ((n : Int), ((put n).length : Int), 0)) ∨ ((∀ n r, n < 18446744073709551616 → b ≠ put n ++ r) ∧ takeR b = (0, 0, 2)) := by
  by_cases h : ∃ n r, n < 18446744073709551616 ∧ b = put n ++ r
  · obtain ⟨n, r, hn, hb⟩ := h
    exact .inl ⟨n, r, hn, hb, by rw [hb]; exact takeR_put hn r⟩
  · refine .inr ⟨fun n r hn hb => h ⟨n, r, hn, hb⟩, ?_⟩
    unfold takeR
    cases hd : b.dropWhile (fun x => decide (128 ≤ x)) with
    | nil => rfl
    | cons c r =>
      simp only
      rw [if_neg]
      rintro ⟨h1, h2⟩
      refine h ⟨_, r, h2, ?_⟩
      rw [h1]
      have := List.takeWhile_append_dropWhile (p := fun x => decide (128 ≤ (x : Int))) (l := b)
      rw [hd] at this
      simp [this]

/-- numbers with a sign as ones without, and back -/
def zig (n : Int) : Nat := if 0 ≤ n then (2 * n).toNat else (-2 * n - 1).toNat
def zag (u : Nat) : Int := if u % 2 = 0 then (u / 2 : Nat) else -((u / 2 : Nat) : Int) - 1

theorem zag_zig (n : Int) : zag (zig n) = n := by unfold zag zig; split <;> split <;> omega
theorem zig_zag (u : Nat) : zig (zag u) = u := by unfold zag zig; split <;> split <;> omega
theorem zig_lt {n : Int} (h0 : -9223372036854775808 ≤ n) (h1 : n < 9223372036854775808) : zig n < 18446744073709551616 := by unfold zig; split <;> omega
theorem zag_bd {u : Nat} (h : u < 18446744073709551616) : -9223372036854775808 ≤ zag u ∧ zag u < 9223372036854775808 := by unfold zag; split <;> omega
theorem zig_inj {m n : Int} (h : zig m = zig n) : m = n := by rw [← zag_zig m, ← zag_zig n, h]

/-- numbers in a row -/
def pack : List Int → List Int
  | [] => []
  | n :: r => put (zig n) ++ pack r

theorem pack_append (a b : List Int) : pack (a ++ b) = pack a ++ pack b := by
  induction a with
  | nil => rfl
  | cons x r ih => simp [pack, ih]

end Go.Proofs.Ytmiijakcmbolfaa.M
