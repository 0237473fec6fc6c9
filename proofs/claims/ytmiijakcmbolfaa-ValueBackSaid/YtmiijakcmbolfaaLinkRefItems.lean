/- The reference's Right, Encode and Few: the plain mathematics' words. -/
import Derived.Test.YtmiijakcmbolfaaPx2
import Derived.Test.YtmiijakcmbolfaaPx3
import Derived.Test.YtmiijakcmbolfaaPx4
import Derived.Test.YtmiijakcmbolfaaLinkItems
import Derived.Test.YtmiijakcmbolfaaLinkRefPut
namespace Go.Proofs.Ytmiijakcmbolfaa.Link
open Go Go.RowKit Go.Proofs.Ytmiijakcmbolfaa.P Go.Proofs.Ytmiijakcmbolfaa.M Go.Proofs.YtmiijakcmbolfaaW.PrintWords Go.Proofs.YtmiijakcmbolfaaW.PrintLast
set_option linter.unusedVariables false

theorem shape_j0 (k : Nat) (x : Itm) (n : Bool) (h : named x = n) : selvageref02_shape.j0 (k + 1) n x.f0 x.f1 x.f2 x.f3 = some (plain x) := by
  simp only [selvageref02_shape.j0]
  unfold plain
  rw [h, beqL, beqI]
  by_cases h1 : x.f0 = 1
  · rw [if_pos h1, if_pos h1]; cases n <;> simp
  · rw [if_neg h1, if_neg h1]
    by_cases h2 : x.f0 = 2
    · rw [if_pos h2, if_pos h2]; cases n <;> simp
    · rw [if_neg h2, if_neg h2]
      by_cases h3 : x.f0 = 3
      · rw [if_pos h3, if_pos h3]; cases n <;> by_cases hn : x.f2 = 0 <;> simp [hn]
      · rw [if_neg h3, if_neg h3]
        by_cases h4 : x.f0 = 4
        · rw [if_pos h4]; by_cases hi : x.f1 = 0 <;> by_cases hn : x.f2 = 0 <;> simp [hi, hn, h4]
        · rw [if_neg h4]; simp [h4]

theorem shape_f {k : Nat} (x : Itm) (hk : 1 ≤ k) : selvageref02_shape.f k x.f0 x.f1 x.f2 x.f3 = some (plain x) := by
  obtain ⟨k, rfl⟩ : ∃ m, k = m + 1 := ⟨k - 1, by omega⟩
  unfold selvageref02_shape.f
  by_cases h : x.f1 ≥ 1
  · rw [if_pos h]; exact shape_j0 k x _ (by unfold named; rw [decide_eq_true h]; rfl)
  · rw [if_neg h]; exact shape_j0 k x _ (by unfold named; rw [decide_eq_false h]; rfl)

theorem refRight_l0 (r : List Itm) : ∀ (p : List Itm) (k : Nat) (deep : Int), 0 ≤ deep → deep ≤ 8 → p.length + r.length < 9223372036854775807 → 2 * r.length + 2 ≤ k →
    selvageref02_Right.l0 k (p ++ r) deep (p.length : Int) = some (rightAt deep r) := by
  induction r with
  | nil =>
    intro p k deep d0 d8 hb hk
    obtain ⟨k, rfl⟩ : ∃ m, k = m + 1 := ⟨k - 1, by omega⟩
    simp only [selvageref02_Right.l0]
    rw [if_neg (by simp), beqI]
    rfl
  | cons x r ih =>
    intro p k deep d0 d8 hb hk
    obtain ⟨k, rfl⟩ : ∃ m, k = m + 2 := ⟨k - 2, by omega⟩
    simp only [List.length_cons] at hb hk
    have hi0 : (0 : Int) ≤ (p.length : Int) := by omega
    have hi1 : (p.length : Int) < ((p ++ x :: r).length : Int) := by simp; omega
    have hw : wrap64 ((p.length : Int) + 1) = ((p ++ [x]).length : Int) := by rw [wrap64_id (by omega) (by omega)]; simp
    have hs : p ++ x :: r = (p ++ [x]) ++ r := by simp
    have step : ∀ d : Int, 0 ≤ d → d ≤ 8 → selvageref02_Right.l0 k (p ++ x :: r) d ((p ++ [x]).length : Int) = some (rightAt d r) := by
      intro d h0 h8
      rw [hs]
      exact ih (p ++ [x]) k d h0 h8 (by simp; omega) (by omega)
    simp only [selvageref02_Right.l0]
    rw [if_pos hi1, if_pos hi0, rd_item, shape_f x (by omega), bs]
    simp only [rightAt]
    cases hp : plain x with
    | false => simp
    | true =>
      rw [if_pos rfl]
      unfold deeper
      by_cases h3 : x.f0 = 3
      · rw [if_pos h3, if_pos h3]
        simp only [selvageref02_Right.j1]
        rw [if_pos hi0, if_pos hi1, rd_item, hw]
        rw [if_neg (show ¬ x.f0 = 4 by omega), show wrap64 (deep + 1) = deep + 1 from wrap64_id (by omega) (by omega), if_neg (show ¬ deep + 1 < 0 by omega)]
        by_cases h8 : deep + 1 > 8
        · rw [if_pos h8, decide_eq_false (show ¬ deep + 1 ≤ 8 by omega)]; simp
        · rw [if_neg h8, step _ (by omega) (by omega), decide_eq_true (show 0 ≤ deep + 1 by omega), decide_eq_true (show deep + 1 ≤ 8 by omega)]; simp
      · rw [if_neg h3, if_neg h3]
        simp only [selvageref02_Right.j1]
        rw [if_pos hi0, if_pos hi1, rd_item, hw]
        by_cases h4 : x.f0 = 4
        · rw [if_pos h4, if_pos h4, show wrap64 (deep - 1) = deep - 1 from wrap64_id (by omega) (by omega), show deep + -1 = deep - 1 from by omega]
          by_cases h0 : deep - 1 < 0
          · rw [if_pos h0, decide_eq_false (show ¬ 0 ≤ deep - 1 by omega)]; simp
          · rw [if_neg h0, if_neg (show ¬ deep - 1 > 8 by omega), step _ (by omega) (by omega), decide_eq_true (show 0 ≤ deep - 1 by omega), decide_eq_true (show deep - 1 ≤ 8 by omega)]; simp
        · rw [if_neg h4, if_neg h4, if_neg (show ¬ deep < 0 by omega), if_neg (show ¬ deep > 8 by omega), step _ (by omega) (by omega), show deep + 0 = deep from by omega, decide_eq_true d0, decide_eq_true d8]; simp

theorem refRight_f {k : Nat} {l : List Itm} (hl : l.length < 9223372036854775807) (hk : 2 * l.length + 2 ≤ k) : selvageref02_Right.f k l = some (rightAt 0 l) := by
  have := refRight_l0 l [] k 0 (by omega) (by omega) (by simpa using hl) hk
  simpa [selvageref02_Right.f] using this

theorem refEnc_l0 (r : List Itm) : ∀ (p : List Itm) (acc : List Int) (k : Nat), (∀ x ∈ r, plain x = true) → (∀ x ∈ r, GoodItem x) → p.length + r.length < 9223372036854775807 → acc.length ≤ 4096 → acc.length + (encAll r).length < 140737488355328 → 2 * r.length + 14 ≤ k →
    selvageref02_Encode.l0 k (p ++ r) acc (p.length : Int) = some (if 4096 < (acc ++ encAll r).length then ([], 3) else (acc ++ encAll r, 0)) := by
  induction r with
  | nil =>
    intro p acc k hp hg hb ha4 ha hk
    obtain ⟨k, rfl⟩ : ∃ m, k = m + 1 := ⟨k - 1, by omega⟩
    simp only [selvageref02_Encode.l0]
    rw [if_neg (by simp)]
    simp only [encAll, List.flatMap_nil, List.append_nil]
    rw [if_neg (by omega)]
  | cons x r ih =>
    intro p acc k hp hg hb ha4 ha hk
    obtain ⟨k, rfl⟩ : ∃ m, k = m + 2 := ⟨k - 2, by omega⟩
    simp only [List.length_cons] at hb hk
    have hx := hp x (by simp)
    have gx := hg x (by simp)
    obtain ⟨b0, b1, b2, b3⟩ := plain_bd hx
    have hx' : ∀ y ∈ r, plain y = true := fun y hy => hp y (by simp [hy])
    have hg' : ∀ y ∈ r, GoodItem y := fun y hy => hg y (by simp [hy])
    have hall : encAll (x :: r) = encItem x ++ encAll r := by simp [encAll]
    rw [hall] at ha ⊢
    simp only [List.length_append] at ha
    have hw : wrap64 ((p.length : Int) + 1) = ((p ++ [x]).length : Int) := by rw [wrap64_id (by omega) (by omega)]; simp
    have hs : p ++ x :: r = (p ++ [x]) ++ r := by simp
    have step : ∀ q : List Int, acc ++ encItem x = q → (if (q.length : Int) > 4096 then some (([] : List Int), (3 : Int)) else selvageref02_Encode.l0 k (p ++ x :: r) q ((p ++ [x]).length : Int)) =
        some (if 4096 < (acc ++ (encItem x ++ encAll r)).length then ([], 3) else (acc ++ (encItem x ++ encAll r), 0)) := by
      intro q hq
      have hql : q.length = acc.length + (encItem x).length := by rw [← hq]; simp
      by_cases h : (q.length : Int) > 4096
      · rw [if_pos h, if_pos (by simp only [List.length_append]; omega)]
      · rw [if_neg h, hs, ih (p ++ [x]) q k hx' hg' (by simp; omega) (by omega) (by omega) (by omega), ← hq, List.append_assoc]
    simp only [selvageref02_Encode.l0]
    rw [if_pos (by simp; omega), if_pos (by omega), rd_item]
    rw [show wrap64 (x.f1 * 4) = x.f1 * 4 from wrap64_id (by omega) (by omega), show wrap64 (x.f1 * 4 + x.f0) = x.f1 * 4 + x.f0 from wrap64_id (by omega) (by omega), show wrap64 (x.f1 * 4 + x.f0 - 1) = x.f1 * 4 + x.f0 - 1 from wrap64_id (by omega) (by omega),
      show IntKind.u64.wrap (x.f1 * 4 + x.f0 - 1) = x.f1 * 4 + x.f0 - 1 from by rw [wrap_u64]; omega]
    rw [refPut_f (by omega) (by omega) (by omega), bs]
    by_cases h1 : x.f0 = 1
    · have he : encItem x = put (x.f1 * 4 + x.f0 - 1).toNat ++ put (zig x.f2) := by unfold encItem; rw [if_pos h1]
      have hel : (encItem x).length = (put (x.f1 * 4 + x.f0 - 1).toNat).length + (put (zig x.f2)).length := by rw [he, List.length_append]
      have hz := zig_lt gx.n0 gx.n1
      rw [if_pos (by omega), bs, if_pos h1, refZig_f gx.n0 gx.n1, bs, refPut_f (by omega) (by omega) (by omega), bs, Int.toNat_natCast, if_pos (by simp only [List.length_append]; omega)]
      simp only [selvageref02_Encode.j1]
      rw [if_neg (show ¬ x.f0 = 2 by omega), hw]
      exact step _ (by rw [he, List.append_assoc])
    · rw [if_pos (by
        have : (put (x.f1 * 4 + x.f0 - 1).toNat).length ≤ (encItem x).length := by unfold encItem; simp only [List.length_append]; omega
        omega), bs, if_neg h1]
      simp only [selvageref02_Encode.j1]
      by_cases h2 : x.f0 = 2
      · have he : encItem x = put (x.f1 * 4 + x.f0 - 1).toNat ++ (put x.f3.length ++ x.f3) := by unfold encItem; rw [if_neg h1, if_pos h2]
        have hel : (encItem x).length = (put (x.f1 * 4 + x.f0 - 1).toNat).length + ((put x.f3.length).length + x.f3.length) := by rw [he]; simp only [List.length_append]
        rw [if_pos h2, show IntKind.u64.wrap (x.f3.length : Int) = (x.f3.length : Int) from by rw [wrap_u64]; omega, refPut_f (by omega) (by omega) (by omega), bs, Int.toNat_natCast, if_pos (by simp only [List.length_append]; omega), bs, if_pos (by simp only [List.length_append]; omega), bs, hw]
        exact step _ (by rw [he]; simp only [List.append_assoc])
      · have he : encItem x = put (x.f1 * 4 + x.f0 - 1).toNat := by unfold encItem; rw [if_neg h1, if_neg h2]; simp
        rw [if_neg h2, hw]
        exact step _ (by rw [he])

theorem refEncode_f {k : Nat} {l : List Itm} (hg : ∀ x ∈ l, GoodItem x) (hl : l.length < 9223372036854775807) (he : (encAll l).length < 140737488355328) (hk : 2 * l.length + 14 ≤ k) : selvageref02_Encode.f k l = some (encodeR l) := by
  unfold selvageref02_Encode.f encodeR
  rw [refRight_f hl (by omega), bs]
  cases hr : rightAt 0 l with
  | false => rw [if_neg (by decide), if_neg (by decide)]
  | true =>
    rw [if_pos rfl, if_pos rfl]
    have := refEnc_l0 l [] [] k (rightAt_plain hr) hg (by simpa using hl) (by simp) (by simpa using he) hk
    simpa using this

/-- how many bytes items have -/
def sumB (l : List Itm) : Nat := (l.map fun x => x.f3.length).sum
def few (l : List Itm) : Bool := decide (l.length ≤ 200) && decide (sumB l ≤ 10000)

theorem few_l0 (r : List Itm) : ∀ (p : List Itm) (k : Nat) (n : Nat), (∀ x ∈ r, x.f3.length ≤ 140737488355328) → n ≤ 10000 → p.length + r.length < 9223372036854775807 → r.length + 1 ≤ k →
    selvageref02_Few.l0 k (p ++ r) (n : Int) (p.length : Int) = some (decide (n + sumB r ≤ 10000)) := by
  induction r with
  | nil =>
    intro p k n hb hn hl hk
    obtain ⟨k, rfl⟩ : ∃ m, k = m + 1 := ⟨k - 1, by omega⟩
    simp only [selvageref02_Few.l0]
    rw [if_neg (by simp), decide_eq_true (by simpa [sumB] using hn)]
  | cons x r ih =>
    intro p k n hb hn hl hk
    obtain ⟨k, rfl⟩ : ∃ m, k = m + 1 := ⟨k - 1, by omega⟩
    simp only [List.length_cons] at hl hk
    have hx := hb x (by simp)
    have hsum : sumB (x :: r) = x.f3.length + sumB r := by simp [sumB]
    simp only [selvageref02_Few.l0]
    rw [if_pos (by simp; omega), if_pos (by omega), rd_item, show wrap64 ((n : Int) + (x.f3.length : Int)) = ((n + x.f3.length : Nat) : Int) from by rw [wrap64_id (by omega) (by omega)]; omega,
      show wrap64 ((p.length : Int) + 1) = ((p ++ [x]).length : Int) from by rw [wrap64_id (by omega) (by omega)]; simp]
    rw [hsum]
    by_cases h : n + x.f3.length > 10000
    · rw [if_pos (by omega), decide_eq_false (by omega)]
    · rw [if_neg (by omega), show p ++ x :: r = (p ++ [x]) ++ r from by simp, ih (p ++ [x]) k _ (fun y hy => hb y (by simp [hy])) (by omega) (by simp; omega) (by omega), Nat.add_assoc]

theorem few_f {k : Nat} {l : List Itm} (hb : ∀ x ∈ l, x.f3.length ≤ 140737488355328) (hl : l.length < 9223372036854775807) (hk : 201 ≤ k) : selvageref02_Few.f k l = some (few l) := by
  unfold selvageref02_Few.f few
  by_cases h : (l.length : Int) > 200
  · rw [if_pos h, decide_eq_false (by omega)]; rfl
  · rw [if_neg h, decide_eq_true (by omega)]
    have := few_l0 l [] k 0 hb (by omega) (by simpa using hl) (by omega)
    simpa using this

theorem enc_len {l : List Itm} (h : ∀ x ∈ l, GoodItem x) (hb : ∀ x ∈ l, x.f3.length ≤ 140737488355328) : (encAll l).length ≤ 20 * l.length + sumB l := by
  induction l with
  | nil => simp [encAll]
  | cons x r ih =>
    have gx := h x (by simp)
    have bx := hb x (by simp)
    have := ih (fun y hy => h y (by simp [hy])) (fun y hy => hb y (by simp [hy]))
    have hx : (encItem x).length ≤ 20 + x.f3.length := by
      unfold encItem
      have h1 : (put (x.f1 * 4 + x.f0 - 1).toNat).length ≤ 10 := by
        refine put_len_le (by decide) (Nat.lt_of_lt_of_le (m := 18446744073709551616 * 8) ?_ (by decide))
        have := gx.k0; have := gx.k1; have := gx.i0; have := gx.i1
        omega
      have h2 := put_len10 (zig_lt gx.n0 gx.n1)
      have h3 : (put x.f3.length).length ≤ 10 := put_len10 (by omega)
      split
      · simp only [List.length_append]; omega
      · split
        · simp only [List.length_append]; omega
        · simp only [List.append_nil]; omega
    have hall : encAll (x :: r) = encItem x ++ encAll r := by simp [encAll]
    have hsum : sumB (x :: r) = x.f3.length + sumB r := by simp [sumB]
    rw [hall, hsum, List.length_append, List.length_cons]
    omega

/-- the law's own bounds on its argument -/
theorem good_items {l : List Itm} (h : l.length ≤ maxLen ∧ l.length * 48 ≤ 140737488351232 ∧ ∀ y ∈ l, good30 y) : (∀ x ∈ l, GoodItem x) ∧ (∀ x ∈ l, x.f3.length ≤ 140737488355328) ∧ l.length < 9223372036854775807 := by
  obtain ⟨_, h2, h3⟩ := h
  refine ⟨fun x hx => ?_, fun x hx => ?_, by omega⟩
  · obtain ⟨h0, h1, h2, _, _, h5⟩ := h3 x hx
    have b0 := wf_i64 h0
    have b1 := wf_i64 h1
    have b2 := wf_i64 h2
    exact ⟨b0.1, b0.2, b1.1, b1.2, b2.1, b2.2, fun y hy => wf_u8 (h5 y hy)⟩
  · obtain ⟨_, _, _, _, h4, _⟩ := h3 x hx
    omega

end Go.Proofs.Ytmiijakcmbolfaa.Link
