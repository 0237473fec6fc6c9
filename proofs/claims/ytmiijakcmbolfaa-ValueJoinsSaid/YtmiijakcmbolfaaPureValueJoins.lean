/-
  The bytes of one record behind another one are those of both, as long as there is room: of any two records up to the law's own bounds. No condition.
-/
import Derived.Test.YtmiijakcmbolfaaPx5
import Derived.Test.YtmiijakcmbolfaaLinkAwake02
namespace Go.Proofs.Ytmiijakcmbolfaa.Pure
open Go Go.RowKit Go.Proofs.Ytmiijakcmbolfaa.P Go.Proofs.Ytmiijakcmbolfaa.M Go.Proofs.Ytmiijakcmbolfaa.Link Go.Proofs.YtmiijakcmbolfaaW.PrintWords Go.Proofs.YtmiijakcmbolfaaW.PrintLast
set_option linter.unusedVariables false

theorem right_append' {d : Int} {l m : List S30} (h : rightAt d l = true) : rightAt d (l ++ m) = rightAt 0 m := by
  induction l generalizing d with
  | nil =>
    simp only [rightAt, decide_eq_true_eq] at h
    rw [h]; rfl
  | cons x r ih =>
    simp only [rightAt, Bool.and_eq_true] at h
    simp only [List.cons_append, rightAt]
    rw [ih h.2, h.1.1, h.1.2.1, h.1.2.2]; rfl
theorem str_append (a b : List Int) : (strOfNums a ++ strOfNums b).toList = (strOfNums (a ++ b)).toList := by
  rw [Go.Lib.toList_data, Go.Lib.toList_data, ByteArray.data_append, strOfNums_data, Array.toList_append, strOfNums_data, strOfNums_data, List.map_append]
theorem enc_append (a b : List S30) : encAll (a ++ b) = encAll a ++ encAll b := by simp [encAll]

theorem ValueJoins : selvagelaw02_ValueJoins.Pure := by
  intro l m h1 h2
  obtain ⟨hg, hb, hl⟩ := good_items h1
  obtain ⟨hg', hb', hl'⟩ := good_items h2
  have hs1 : l.length < 2932031007402 := by omega
  have hs2 : m.length < 2932031007402 := by omega
  refine ⟨(2 * l.length + 2 * m.length + 500) + 2, ?_⟩
  unfold selvagelaw02_ValueJoins.f
  rw [awake_f (by omega), bs, few_f hb hl (by omega), bs, few_f hb' hl' (by omega), bs, if_pos rfl]
  simp only [selvagelaw02_ValueJoins.j0]
  cases hf : few l with
  | false => rfl
  | true =>
    rw [if_pos rfl]
    cases hf' : few m with
    | false => rfl
    | true =>
      unfold few at hf hf'
      simp only [Bool.and_eq_true, decide_eq_true_eq] at hf hf'
      have he := enc_len hg hb
      have he' := enc_len hg' hb'
      rw [if_neg (by decide), encode_f hg hl (by omega) (by omega), bs, encode_f hg' hl' (by omega) (by omega), bs]
      simp only [selvagelaw02_ValueJoins.j1]
      unfold encodeR
      cases hr : rightAt 0 l with
      | false => rfl
      | true =>
        rw [if_pos rfl]
        by_cases c1 : 4096 < (encAll l).length
        · rw [if_pos c1]; rfl
        · rw [if_neg c1]
          simp only
          rw [if_pos trivial]
          cases hr' : rightAt 0 m with
          | false => rfl
          | true =>
            rw [if_pos rfl]
            by_cases c2 : 4096 < (encAll m).length
            · rw [if_pos c2]; rfl
            · rw [if_neg c2]
              simp only
              rw [if_neg (by decide), bs, if_pos (by simp; omega), bs, if_pos (by simp; omega), List.nil_append]
              have hg2 : ∀ x ∈ l ++ m, GoodItem x := fun x hx => by
                rcases List.mem_append.1 hx with h | h
                · exact hg x h
                · exact hg' x h
              rw [encode_f hg2 (by simp; omega) (by rw [enc_append]; simp; omega) (by simp; omega), bs]
              unfold encodeR
              rw [right_append' hr, hr', if_pos rfl, enc_append, List.length_append]
              rw [show wrap64 (((encAll l).length : Int) + ((encAll m).length : Int)) = (((encAll l).length + (encAll m).length : Nat) : Int) from by rw [wrap64_id (by omega) (by omega)]; omega]
              by_cases c3 : 4096 < (encAll l).length + (encAll m).length
              · rw [if_pos (by omega), if_pos c3]; rfl
              · rw [if_neg (by omega), if_neg c3]
                simp only
                rw [if_pos trivial, if_pos (by rw [strOfNums_size, strOfNums_size]; omega), str_append]
                simp

end Go.Proofs.Ytmiijakcmbolfaa.Pure
