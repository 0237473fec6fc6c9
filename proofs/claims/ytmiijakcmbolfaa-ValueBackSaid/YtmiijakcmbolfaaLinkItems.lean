/- Records of items: plain mathematics over the print's own structure of an item, and what the printed functions of value (Right, Encode) and of its reference tell. -/
import Derived.Test.YtmiijakcmbolfaaPx1
import Derived.Test.YtmiijakcmbolfaaPx2
import Derived.Test.YtmiijakcmbolfaaLinkPut
namespace Go.Proofs.Ytmiijakcmbolfaa.Link
open Go Go.RowKit Go.Proofs.Ytmiijakcmbolfaa.P Go.Proofs.Ytmiijakcmbolfaa.M Go.Proofs.YtmiijakcmbolfaaW.PrintWords Go.Proofs.YtmiijakcmbolfaaW.PrintLast
set_option linter.unusedVariables false

abbrev Itm := S30
/-- each number in its bounds, each byte one -/
structure GoodItem (x : Itm) : Prop where
  k0 : -9223372036854775808 ≤ x.f0
  k1 : x.f0 < 9223372036854775808
  i0 : -9223372036854775808 ≤ x.f1
  i1 : x.f1 < 9223372036854775808
  n0 : -9223372036854775808 ≤ x.f2
  n1 : x.f2 < 9223372036854775808
  b : ∀ y ∈ x.f3, 0 ≤ y ∧ y < 256

def deeper (x : Itm) : Int := if x.f0 = 3 then 1 else if x.f0 = 4 then -1 else 0
def named (x : Itm) : Bool := decide (1 ≤ x.f1) && decide (x.f1 ≤ 1000)
def plain (x : Itm) : Bool :=
  if x.f0 = 1 then named x && decide (x.f3.length = 0) else if x.f0 = 2 then named x && decide (x.f2 = 0)
  else if x.f0 = 3 then named x && (decide (x.f2 = 0) && decide (x.f3.length = 0)) else decide (x.f0 = 4) && (decide (x.f1 = 0) && (decide (x.f2 = 0) && decide (x.f3.length = 0)))
/-- are these a record, as deep as one is? -/
def rightAt (deep : Int) : List Itm → Bool
  | [] => decide (deep = 0)
  | x :: r => plain x && (decide (0 ≤ deep + deeper x) && decide (deep + deeper x ≤ 8)) && rightAt (deep + deeper x) r
def encItem (x : Itm) : List Int := put (x.f1 * 4 + x.f0 - 1).toNat ++ (if x.f0 = 1 then put (zig x.f2) else if x.f0 = 2 then put x.f3.length ++ x.f3 else [])
def encAll (l : List Itm) : List Int := l.flatMap encItem
def encodeR (l : List Itm) : List Int × Int := if rightAt 0 l = true then (if 4096 < (encAll l).length then ([], 3) else (encAll l, 0)) else ([], 1)

theorem rd_item (p : List Itm) (x : Itm) (r : List Itm) : rd_T30 (p ++ x :: r) (p.length : Int) = x := by simp [rd_T30]

theorem deeper_f (x : Itm) : value_deeper.f x.f0 x.f1 x.f2 x.f3 = some (deeper x) := by
  unfold value_deeper.f deeper
  split
  · rfl
  · split <;> rfl

theorem beqI (a b : Int) : (a == b) = decide (a = b) := by by_cases h : a = b <;> simp [h]
theorem beqL {α : Type} (l : List α) : ((l.length : Int) == 0) = decide (l.length = 0) := by
  rw [beqI]
  by_cases h : l.length = 0
  · rw [decide_eq_true h, decide_eq_true (by omega)]
  · rw [decide_eq_false h, decide_eq_false (by omega)]

theorem plain_j0 (k : Nat) (x : Itm) (n : Bool) (h : named x = n) : value_plain.j0 (k + 1) n x.f0 x.f1 x.f2 x.f3 = some (plain x) := by
  simp only [value_plain.j0]
  unfold plain
  rw [h, beqL, beqI]
  by_cases h1 : x.f0 = 1
  · rw [if_pos h1, if_pos h1]; cases n <;> simp
  · rw [if_neg h1, if_neg h1]
    by_cases h2 : x.f0 = 2
    · rw [if_pos h2, if_pos h2]; cases n <;> simp
    · rw [if_neg h2, if_neg h2]
      by_cases h3 : x.f0 = 3
      · rw [if_pos h3, if_pos h3]; cases n <;> by_cases hn : x.f2 = 0 <;> simp [hn]
      · rw [if_neg h3, if_neg h3]
        by_cases h4 : x.f0 = 4
        · rw [if_pos h4]; by_cases hi : x.f1 = 0 <;> by_cases hn : x.f2 = 0 <;> simp [hi, hn, h4]
        · rw [if_neg h4]; simp [h4]

theorem plain_f {k : Nat} (x : Itm) (hk : 1 ≤ k) : value_plain.f k x.f0 x.f1 x.f2 x.f3 = some (plain x) := by
  obtain ⟨k, rfl⟩ : ∃ m, k = m + 1 := ⟨k - 1, by omega⟩
  unfold value_plain.f
  by_cases h : x.f1 ≥ 1
  · rw [if_pos h]; exact plain_j0 k x _ (by unfold named; rw [decide_eq_true h]; rfl)
  · rw [if_neg h]; exact plain_j0 k x _ (by unfold named; rw [decide_eq_false h]; rfl)

theorem right_l0 (r : List Itm) : ∀ (p : List Itm) (k : Nat) (deep : Int), 0 ≤ deep → deep ≤ 8 → p.length + r.length < 9223372036854775807 → r.length + 2 ≤ k →
    value_Right.l0 k deep (p ++ r) ((p ++ r).length : Int) (p.length : Int) = some (rightAt deep r) := by
  induction r with
  | nil =>
    intro p k deep d0 d8 hb hk
    obtain ⟨k, rfl⟩ : ∃ m, k = m + 1 := ⟨k - 1, by omega⟩
    simp only [value_Right.l0]
    rw [if_neg (by simp), beqI]
    rfl
  | cons x r ih =>
    intro p k deep d0 d8 hb hk
    obtain ⟨k, rfl⟩ : ∃ m, k = m + 1 := ⟨k - 1, by omega⟩
    simp only [List.length_cons] at hb hk
    simp only [value_Right.l0]
    have hd : -1 ≤ deeper x ∧ deeper x ≤ 1 := by unfold deeper; split; omega; split <;> omega
    rw [if_pos (by simp; omega), if_pos (by omega), if_pos (by simp; omega), rd_item, deeper_f, bs, plain_f x (by omega), bs]
    rw [show wrap64 (deep + deeper x) = deep + deeper x from wrap64_id (by omega) (by omega), show wrap64 ((p.length : Int) + 1) = ((p ++ [x]).length : Int) from by rw [wrap64_id (by omega) (by omega)]; simp]
    simp only [rightAt]
    cases hp : plain x with
    | false => simp
    | true =>
      rw [if_pos rfl]
      by_cases h1 : deep + deeper x < 0
      · rw [if_pos h1, decide_eq_false (show ¬ 0 ≤ deep + deeper x by omega)]; simp
      · rw [if_neg h1]
        by_cases h2 : deep + deeper x > 8
        · rw [if_pos h2, decide_eq_false (show ¬ deep + deeper x ≤ 8 by omega)]; simp
        · rw [if_neg h2, show p ++ x :: r = (p ++ [x]) ++ r from by simp, ih (p ++ [x]) k _ (by omega) (by omega) (by simp; omega) (by omega)]
          rw [decide_eq_true (show 0 ≤ deep + deeper x by omega), decide_eq_true (show deep + deeper x ≤ 8 by omega)]; simp

theorem right_f {k : Nat} {l : List Itm} (hl : l.length < 9223372036854775807) (hk : l.length + 2 ≤ k) : value_Right.f k l = some (rightAt 0 l) := by
  have := right_l0 l [] k 0 (by omega) (by omega) (by simpa using hl) hk
  simpa [value_Right.f] using this

/-- of a plain item, its number is one of four, its name from 0 to 1000 -/
theorem plain_bd {x : Itm} (h : plain x = true) : 1 ≤ x.f0 ∧ x.f0 ≤ 4 ∧ 0 ≤ x.f1 ∧ x.f1 ≤ 1000 := by
  unfold plain named at h
  split at h
  · simp at h; omega
  · split at h
    · simp at h; omega
    · split at h
      · simp at h; omega
      · simp at h; omega

theorem rightAt_plain {deep : Int} {l : List Itm} (h : rightAt deep l = true) : ∀ x ∈ l, plain x = true := by
  induction l generalizing deep with
  | nil => simp
  | cons a r ih =>
    simp only [rightAt, Bool.and_eq_true] at h
    intro x hx
    rcases List.mem_cons.1 hx with rfl | hx
    · exact h.1.1
    · exact ih h.2 x hx

theorem enc_l0 (r : List Itm) : ∀ (p : List Itm) (acc : List Int) (k : Nat), (∀ x ∈ r, plain x = true) → (∀ x ∈ r, GoodItem x) → p.length + r.length < 9223372036854775807 → acc.length + (encAll r).length < 140737488355328 → r.length + 12 ≤ k →
    value_Encode.l0 k acc (p ++ r) ((p ++ r).length : Int) (p.length : Int) = some (if 4096 < (acc ++ encAll r).length then ([], 3) else (acc ++ encAll r, 0)) := by
  induction r with
  | nil =>
    intro p acc k hp hg hb ha hk
    obtain ⟨k, rfl⟩ : ∃ m, k = m + 1 := ⟨k - 1, by omega⟩
    simp only [value_Encode.l0]
    rw [if_neg (by simp)]
    simp only [encAll, List.flatMap_nil, List.append_nil]
    by_cases h : 4096 < acc.length
    · rw [if_pos (by omega), if_pos h]
    · rw [if_neg (by omega), if_neg h]
  | cons x r ih =>
    intro p acc k hp hg hb ha hk
    obtain ⟨k, rfl⟩ : ∃ m, k = m + 1 := ⟨k - 1, by omega⟩
    simp only [List.length_cons] at hb hk
    have hx := hp x (by simp)
    have gx := hg x (by simp)
    obtain ⟨b0, b1, b2, b3⟩ := plain_bd hx
    have hx' : ∀ y ∈ r, plain y = true := fun y hy => hp y (by simp [hy])
    have hg' : ∀ y ∈ r, GoodItem y := fun y hy => hg y (by simp [hy])
    have hall : encAll (x :: r) = encItem x ++ encAll r := by simp [encAll]
    rw [hall] at ha ⊢
    simp only [List.length_append] at ha
    simp only [value_Encode.l0]
    rw [if_pos (by simp; omega), if_pos (by omega), if_pos (by simp; omega), rd_item]
    rw [show wrap64 (x.f1 * 4) = x.f1 * 4 from wrap64_id (by omega) (by omega), show wrap64 (x.f1 * 4 + x.f0) = x.f1 * 4 + x.f0 from wrap64_id (by omega) (by omega), show wrap64 (x.f1 * 4 + x.f0 - 1) = x.f1 * 4 + x.f0 - 1 from wrap64_id (by omega) (by omega),
      show IntKind.u64.wrap (x.f1 * 4 + x.f0 - 1) = x.f1 * 4 + x.f0 - 1 from by rw [wrap_u64]; omega, show wrap64 ((p.length : Int) + 1) = ((p ++ [x]).length : Int) from by rw [wrap64_id (by omega) (by omega)]; simp]
    rw [put_f (by omega) (by omega) (by omega), bs]
    have hsplit : p ++ x :: r = (p ++ [x]) ++ r := by simp
    by_cases h1 : x.f0 = 1
    · have he : encItem x = put (x.f1 * 4 + x.f0 - 1).toNat ++ put (zig x.f2) := by unfold encItem; rw [if_pos h1]
      rw [he] at ha ⊢
      simp only [List.length_append] at ha
      have hz := zig_lt gx.n0 gx.n1
      rw [if_pos (by omega), bs, if_pos h1, zig_f gx.n0 gx.n1, bs, put_f (by omega) (by omega) (by omega), bs, Int.toNat_natCast, if_pos (by simp only [List.length_append]; omega)]
      rw [hsplit, ih (p ++ [x]) _ k hx' hg' (by simp; omega) (by simp only [List.length_append]; omega) (by omega)]
      simp only [List.append_assoc]
    · by_cases h2 : x.f0 = 2
      · have he : encItem x = put (x.f1 * 4 + x.f0 - 1).toNat ++ (put x.f3.length ++ x.f3) := by unfold encItem; rw [if_neg h1, if_pos h2]
        rw [he] at ha ⊢
        simp only [List.length_append] at ha
        rw [if_pos (by omega), bs, if_neg h1, if_pos h2, show IntKind.u64.wrap (x.f3.length : Int) = (x.f3.length : Int) from by rw [wrap_u64]; omega, put_f (by omega) (by omega) (by omega), bs, Int.toNat_natCast, if_pos (by simp only [List.length_append]; omega), bs, if_pos (by simp only [List.length_append]; omega)]
        rw [hsplit, ih (p ++ [x]) _ k hx' hg' (by simp; omega) (by simp only [List.length_append]; omega) (by omega)]
        simp only [List.append_assoc]
      · have he : encItem x = put (x.f1 * 4 + x.f0 - 1).toNat := by unfold encItem; rw [if_neg h1, if_neg h2]; simp
        rw [he] at ha ⊢
        rw [if_pos (by omega), bs, if_neg h1, if_neg h2]
        rw [hsplit, ih (p ++ [x]) _ k hx' hg' (by simp; omega) (by simp only [List.length_append]; omega) (by omega)]
        simp only [List.append_assoc]

theorem encode_f {k : Nat} {l : List Itm} (hg : ∀ x ∈ l, GoodItem x) (hl : l.length < 9223372036854775807) (he : (encAll l).length < 140737488355328) (hk : l.length + 12 ≤ k) : value_Encode.f k l = some (encodeR l) := by
  unfold value_Encode.f encodeR
  rw [right_f hl (by omega), bs]
  cases hr : rightAt 0 l with
  | false => rw [if_neg (by decide), if_neg (by decide)]
  | true =>
    rw [if_pos rfl, if_pos rfl]
    have := enc_l0 l [] [] k (rightAt_plain hr) hg (by simpa using hl) (by simpa using he) hk
    simpa using this

end Go.Proofs.Ytmiijakcmbolfaa.Link
