/-
  A record within a field is one, as deep as there is room; one behind another one is one; what is open, or closed too often, is none: of any two records up to the law's own bounds. No condition.
-/
import Derived.Test.YtmiijakcmbolfaaPx5
import Derived.Test.YtmiijakcmbolfaaLinkAwake02
namespace Go.Proofs.Ytmiijakcmbolfaa.Pure
open Go Go.RowKit Go.Proofs.Ytmiijakcmbolfaa.P Go.Proofs.Ytmiijakcmbolfaa.M Go.Proofs.Ytmiijakcmbolfaa.Link Go.Proofs.YtmiijakcmbolfaaW.PrintWords Go.Proofs.YtmiijakcmbolfaaW.PrintLast
set_option linter.unusedVariables false

def net (l : List S30) : Int := (l.map deeper).sum
theorem right_net {d : Int} {l : List S30} (h : rightAt d l = true) : d + net l = 0 := by
  induction l generalizing d with
  | nil => simp [rightAt, net] at h ⊢; exact h
  | cons x r ih =>
    simp only [rightAt, Bool.and_eq_true] at h
    have := ih h.2
    simp only [net, List.map_cons, List.sum_cons] at this ⊢
    omega
theorem right_append {d : Int} {l m : List S30} (h : rightAt d l = true) : rightAt d (l ++ m) = rightAt 0 m := by
  induction l generalizing d with
  | nil =>
    simp only [rightAt, decide_eq_true_eq] at h
    rw [h]; rfl
  | cons x r ih =>
    simp only [rightAt, Bool.and_eq_true] at h
    simp only [List.cons_append, rightAt]
    rw [ih h.2, h.1.1, h.1.2.1, h.1.2.2]; rfl

theorem ValueRight : selvagelaw02_ValueRight.Pure := by
  intro l m h1 h2
  obtain ⟨hg, hb, hl⟩ := good_items h1
  obtain ⟨hg', hb', hl'⟩ := good_items h2
  have hs1 : l.length < 2932031007402 := by omega
  have hs2 : m.length < 2932031007402 := by omega
  refine ⟨(2 * l.length + 2 * m.length + 500) + 1, ?_⟩
  unfold selvagelaw02_ValueRight.f
  rw [awake_f (by omega), bs, few_f hb hl (by omega), bs, few_f hb' hl' (by omega), bs, if_pos rfl]
  simp only [selvagelaw02_ValueRight.j0]
  cases hf : few l with
  | false => rfl
  | true =>
    rw [if_pos rfl]
    cases hf' : few m with
    | false => rfl
    | true =>
      unfold few at hf hf'
      simp only [Bool.and_eq_true, decide_eq_true_eq] at hf hf'
      rw [if_pos rfl, right_f hl (by omega), bs]
      cases hr : rightAt 0 l with
      | false => rfl
      | true =>
        rw [if_pos rfl, right_f hl' (by omega), bs]
        cases hr' : rightAt 0 m with
        | false => rfl
        | true =>
          have hn := right_net hr
          have hopen : rightAt 0 ((⟨3, 1, 0, []⟩ : S30) :: l) = false := by
            cases he : rightAt 0 ((⟨3, 1, 0, []⟩ : S30) :: l) with
            | false => rfl
            | true =>
              have := right_net he
              simp only [net, List.map_cons, List.sum_cons] at this hn
              simp [deeper] at this hn
              omega
          have hclosed : rightAt 0 (l ++ [(⟨4, 0, 0, []⟩ : S30)]) = false := by
            rw [right_append hr]
            simp [rightAt, plain, deeper]
          rw [if_neg (by decide), bs, if_pos (by simp; omega), bs, bs, if_pos (by simp; omega), bs, if_pos (by simp; omega), bs, if_pos (by simp; omega), bs, if_pos (by simp; omega), bs, if_pos (by simp; omega), bs, if_pos (by simp; omega), bs]
          simp only [List.nil_append, List.singleton_append]
          rw [right_f (by simp; omega) (by simp; omega), bs, hopen, if_neg (by decide), right_f (by simp; omega) (by simp; omega), bs, hclosed, if_neg (by decide), right_f (by simp; omega) (by simp; omega), bs, right_append hr, hr', if_pos rfl,
            right_f (by simp; omega) (by simp; omega), bs, refRight_f (by simp; omega) (by simp; omega), bs]
          simp

end Go.Proofs.Ytmiijakcmbolfaa.Pure
