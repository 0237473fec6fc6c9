/- Plain mathematics: the numbers of bytes, one after another. No program in sight. -/
import Derived.Test.YtbbccjoknohfpaaMathVarint
namespace Go.Proofs.Ytbbccjoknohfpaa.M
set_option linter.unusedVariables false
set_option linter.unusedSimpArgs false

/-- what comes of bytes: each number, and whether it is one; behind what is none nothing comes -/
def items (b : List Int) : List (Int × Bool) :=
  if hb : b = [] then []
  else if h : (takeR b).2.2 = 0 then (zag (takeR b).1.toNat, true) :: items (b.drop (takeR b).2.1.toNat) else [(zag (takeR b).1.toNat, false)]
termination_by b.length
decreasing_by
  have hl : 0 < b.length := List.length_pos_iff.2 hb
  rcases takeR_cases b with ⟨n, r, hn, he, ht⟩ | ⟨_, ht⟩
  · have hp := put_len_pos n
    rw [ht] at h ⊢
    simp
    omega
  · rw [ht] at h
    simp at h

def unpackR (b : List Int) : List Int × Int := if (items b).all (·.2) then ((items b).map (·.1), 0) else ([], 2)

theorem items_nil : items [] = [] := by rw [items]; simp
theorem items_put {n : Nat} (h : n < 18446744073709551616) (r : List Int) : items (put n ++ r) = (zag n, true) :: items r := by
  have hne : put n ++ r ≠ [] := by simp [put_ne_nil]
  rw [items, dif_neg hne, dif_pos (by rw [takeR_put h])]
  rw [takeR_put h]
  simp
theorem items_bad {b : List Int} (hb : b ≠ []) (h : takeR b = (0, 0, 2)) : items b = [(0, false)] := by
  rw [items, dif_neg hb, dif_neg (by rw [h]; simp), h]
  simp [zag]

theorem items_len (b : List Int) : (items b).length ≤ b.length := by
  generalize hn : b.length = n
  induction n using Nat.strongRecOn generalizing b with
  | _ n ih =>
    by_cases hb : b = []
    · subst hb; simp [items_nil]
    · have hl : 0 < b.length := List.length_pos_iff.2 hb
      rcases takeR_cases b with ⟨m, r, hm, he, ht⟩ | ⟨_, ht⟩
      · have hp := put_len_pos m
        rw [he, items_put hm]
        have hr : r.length < n := by rw [← hn, he]; simp; omega
        have := ih r.length hr r rfl
        simp; omega
      · rw [items_bad hb ht]; simp; omega

theorem unpackR_pack (l : List Int) (hl : ∀ x ∈ l, -9223372036854775808 ≤ x ∧ x < 9223372036854775808) : unpackR (pack l) = (l, 0) := by
  have h : items (pack l) = l.map fun x => (x, true) := by
    induction l with
    | nil => simp [pack, items_nil]
    | cons a r ih =>
      have ha := hl a (by simp)
      rw [pack, items_put (zig_lt ha.1 ha.2), zag_zig, ih (fun x hx => hl x (by simp [hx]))]
      rfl
  unfold unpackR
  rw [h]
  simp [List.map_map]
  have : ((fun x => x.fst) ∘ fun x => (x, true) : Int → Int) = id := rfl
  rw [this]; simp

/-- bytes that are unpacked are those of their numbers -/
theorem pack_unpackR (b : List Int) : (unpackR b = ([], 2)) ∨ (pack (unpackR b).1 = b ∧ (unpackR b).2 = 0 ∧ ∀ x ∈ (unpackR b).1, -9223372036854775808 ≤ x ∧ x < 9223372036854775808) := by
  by_cases h : (items b).all (·.2) = true
  · refine .inr ?_
    have hu : unpackR b = ((items b).map (·.1), 0) := by unfold unpackR; rw [if_pos h]
    rw [hu]
    simp only
    clear hu
    suffices hs : ∀ n : Nat, ∀ b : List Int, b.length = n → (items b).all (·.2) = true → pack ((items b).map (·.1)) = b ∧ ∀ x ∈ (items b).map (·.1), -9223372036854775808 ≤ x ∧ x < 9223372036854775808 by
      exact ⟨(hs _ b rfl h).1, trivial, (hs _ b rfl h).2⟩
    intro n
    induction n using Nat.strongRecOn with
    | _ n ih =>
      intro b hn h
      by_cases hb : b = []
      · subst hb; simp [items_nil, pack]
      · rcases takeR_cases b with ⟨m, r, hm, he, ht⟩ | ⟨_, ht⟩
        · have hp := put_len_pos m
          rw [he, items_put hm] at h ⊢
          simp at h
          have hr : r.length < n := by rw [← hn, he]; simp; omega
          have := ih r.length hr r rfl (by simpa using h)
          have hz := zag_bd hm
          constructor
          · simp only [List.map_cons, pack]
            rw [zig_zag, this.1]
          · intro x hx
            rcases List.mem_cons.1 hx with rfl | hx
            · exact hz
            · exact this.2 x hx
        · rw [items_bad hb ht] at h
          simp at h
  · exact .inl (by unfold unpackR; rw [if_neg h])

end Go.Proofs.Ytbbccjoknohfpaa.M
