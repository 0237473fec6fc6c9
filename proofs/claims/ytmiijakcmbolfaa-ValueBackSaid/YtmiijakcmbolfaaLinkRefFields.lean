/- The reference's end, Find, Drop and Same: the plain mathematics' words. -/
import Derived.Test.YtmiijakcmbolfaaPx10
import Derived.Test.YtmiijakcmbolfaaPx7
import Derived.Test.YtmiijakcmbolfaaPx8
import Derived.Test.YtmiijakcmbolfaaPx9
import Derived.Test.YtmiijakcmbolfaaLinkRefItems
import Derived.Test.YtmiijakcmbolfaaLinkFields
namespace Go.Proofs.Ytmiijakcmbolfaa.Link
open Go Go.RowKit Go.Proofs.Ytmiijakcmbolfaa.P Go.Proofs.Ytmiijakcmbolfaa.M Go.Proofs.YtmiijakcmbolfaaW.PrintWords Go.Proofs.YtmiijakcmbolfaaW.PrintLast
set_option linter.unusedVariables false

/-- where the field that goes on at place i, so deep, ends -/
def endR : List Itm → Nat → Int → Nat
  | [], i, _ => i
  | x :: r, i, d => if 0 < d + deeper x then endR r (i + 1) (d + deeper x) else i + 1

theorem end_l0 (r : List Itm) : ∀ (p : List Itm) (k : Nat) (d : Int), rightAt d r = true → 0 ≤ d → d ≤ 8 → p.length + r.length < 9223372036854775807 → 2 * r.length + 1 ≤ k →
    selvageref02_end.l0 k (p ++ r) d (p.length : Int) = some (endR r p.length d : Int) := by
  induction r with
  | nil =>
    intro p k d hr d0 d8 hb hk
    obtain ⟨k, rfl⟩ : ∃ m, k = m + 1 := ⟨k - 1, by omega⟩
    simp only [selvageref02_end.l0]
    rw [if_neg (by simp)]
    simp [endR]
  | cons x r ih =>
    intro p k d hr d0 d8 hb hk
    simp only [List.length_cons] at hb hk
    obtain ⟨k, rfl⟩ : ∃ m, k = m + 2 := ⟨k - 2, by omega⟩
    have hi0 : (0 : Int) ≤ (p.length : Int) := by omega
    have hi1 : (p.length : Int) < ((p ++ x :: r).length : Int) := by simp; omega
    have hw : wrap64 ((p.length : Int) + 1) = ((p ++ [x]).length : Int) := by rw [wrap64_id (by omega) (by omega)]; simp
    have hw2 : wrap64 ((p.length : Int) + 1) = ((p.length + 1 : Nat) : Int) := by rw [wrap64_id (by omega) (by omega)]; omega
    have hs : p ++ x :: r = (p ++ [x]) ++ r := by simp
    simp only [rightAt, Bool.and_eq_true, decide_eq_true_eq] at hr
    obtain ⟨⟨_, hd0, hd8⟩, hr⟩ := hr
    have step : selvageref02_end.l0 k (p ++ x :: r) (d + deeper x) ((p ++ [x]).length : Int) = some (endR r (p ++ [x]).length (d + deeper x) : Int) := by
      rw [hs]
      exact ih (p ++ [x]) k _ hr hd0 hd8 (by simp; omega) (by omega)
    have hlen : (p ++ [x]).length = p.length + 1 := by simp
    simp only [selvageref02_end.l0]
    rw [if_pos hi1, if_pos hi0, rd_item]
    simp only [endR]
    by_cases h3 : x.f0 = 3
    · have hd : deeper x = 1 := by unfold deeper; rw [if_pos h3]
      rw [hd] at step hd0 hd8 ⊢
      rw [if_pos h3, show wrap64 (d + 1) = d + 1 from wrap64_id (by omega) (by omega)]
      simp only [selvageref02_end.j1]
      rw [if_pos hi0, if_pos hi1, rd_item, if_neg (show ¬ x.f0 = 4 by omega), if_neg (show ¬ d + 1 = 0 by omega), if_pos (show 0 < d + 1 by omega), hw, step, hlen]
    · rw [if_neg h3]
      simp only [selvageref02_end.j1]
      rw [if_pos hi0, if_pos hi1, rd_item]
      by_cases h4 : x.f0 = 4
      · have hd : deeper x = -1 := by unfold deeper; rw [if_neg h3, if_pos h4]
        rw [hd] at step hd0 hd8 ⊢
        rw [if_pos h4, show wrap64 (d - 1) = d + -1 from by rw [wrap64_id (by omega) (by omega)]; omega]
        by_cases hz : d + -1 = 0
        · rw [if_pos hz, if_neg (show ¬ 0 < d + -1 by omega), hw2]
        · rw [if_neg hz, if_pos (show 0 < d + -1 by omega), hw, step, hlen]
      · have hd : deeper x = 0 := by unfold deeper; rw [if_neg h3, if_neg h4]
        rw [hd, show d + 0 = d by omega] at step ⊢
        rw [if_neg h4]
        by_cases hz : d = 0
        · rw [if_pos hz, if_neg (show ¬ 0 < d by omega), hw2]
        · rw [if_neg hz, if_pos (show 0 < d by omega), hw, step, hlen]

theorem spans_end (r : List Itm) : ∀ (i f : Nat) (d : Int), rightAt d r = true → (0 < d ∨ r ≠ []) →
    ∃ q s, r = q ++ s ∧ q ≠ [] ∧ endR r i d = i + q.length ∧ spans r i f d = (f, i + q.length) :: spans s (i + q.length) (i + q.length) 0 ∧ rightAt 0 s = true := by
  induction r with
  | nil => intro i f d hr h; simp [rightAt] at hr; simp at h; omega
  | cons x r ih =>
    intro i f d hr _
    simp only [rightAt, Bool.and_eq_true, decide_eq_true_eq] at hr
    obtain ⟨⟨_, hd0, hd8⟩, hr⟩ := hr
    by_cases hp : 0 < d + deeper x
    · obtain ⟨q, s, h1, h2, h3, h4, h5⟩ := ih (i + 1) f _ hr (.inl hp)
      refine ⟨x :: q, s, by rw [h1]; rfl, by simp, ?_, ?_, h5⟩
      · simp only [endR]; rw [if_pos hp, h3]; simp; omega
      · simp only [spans]; rw [if_pos hp, h4, List.length_cons, show i + 1 + q.length = i + (q.length + 1) by omega]
    · refine ⟨[x], r, rfl, by simp, ?_, ?_, ?_⟩
      · simp only [endR]; rw [if_neg hp]; rfl
      · simp only [spans]; rw [if_neg hp, show d + deeper x = 0 by omega]; rfl
      · rw [show d + deeper x = 0 by omega] at hr; exact hr

def findIn (l : List Itm) (id : Int) (f : List (Nat × Nat)) : Int × Int × Bool :=
  match f.find? (fun p => decide ((itemAt l p.1).f1 = id)) with
  | some p => ((p.1 : Int), (p.2 : Int), true)
  | none => (0, 0, false)

theorem find_l0 (l : List Itm) (id : Int) (hl : l.length < 9223372036854775807) (n : Nat) : ∀ (p r : List Itm) (k : Nat), r.length ≤ n → l = p ++ r → rightAt 0 r = true → 2 * r.length + 5 ≤ k →
    selvageref02_Find.l0 k l id true (p.length : Int) = some (findIn l id (spans r p.length p.length 0)) := by
  induction n with
  | zero =>
    intro p r k hn he hr hk
    obtain rfl : r = [] := List.eq_nil_of_length_eq_zero (by omega)
    obtain ⟨k, rfl⟩ : ∃ m, k = m + 2 := ⟨k - 2, by omega⟩
    simp only [selvageref02_Find.l0]
    rw [if_neg (by rw [he]; simp)]
    simp only [selvageref02_Find.j1]
    rw [if_neg (by decide)]
    rfl
  | succ n ih =>
    intro p r k hn he hr hk
    obtain ⟨k, rfl⟩ : ∃ m, k = m + 2 := ⟨k - 2, by omega⟩
    simp only [selvageref02_Find.l0]
    cases r with
    | nil =>
      rw [if_neg (by rw [he]; simp)]
      simp only [selvageref02_Find.j1]
      rw [if_neg (by decide)]
      rfl
    | cons x r =>
      have hlen : l.length = p.length + (r.length + 1) := by rw [he]; simp
      obtain ⟨q, s, h1, h2, h3, h4, h5⟩ := spans_end (x :: r) p.length p.length 0 hr (.inr (by simp))
      have hq : 0 < q.length := List.length_pos_iff.2 h2
      have hqs : r.length + 1 = q.length + s.length := by have := congrArg List.length h1; simpa using this
      have hend : selvageref02_end.f k l (p.length : Int) = some ((p.length + q.length : Nat) : Int) := by
        unfold selvageref02_end.f
        rw [he, end_l0 (x :: r) p k 0 hr (by omega) (by omega) (by simp; omega) (by simp at hk ⊢; omega), h3]
      simp only [List.length_cons] at hn hk
      have hx : rd_T30 l (p.length : Int) = x := by rw [he]; exact rd_item p x r
      have hx' : itemAt l p.length = x := hx
      rw [if_pos (by omega)]
      simp only [selvageref02_Find.j1]
      rw [if_pos trivial, if_pos (by omega), if_pos (by omega), hx, hend, bs, bs, h4]
      unfold findIn
      rw [List.find?_cons, hx']
      by_cases hi : x.f1 = id
      · rw [if_pos hi, decide_eq_true hi]
      · rw [if_neg hi, decide_eq_false hi]
        have := ih (p ++ q) s k (by omega) (by rw [he, h1, List.append_assoc]) h5 (by omega)
        rw [List.length_append] at this
        rw [this]
        rfl

theorem refFind_f {k : Nat} {l : List Itm} {id : Int} (hl : l.length < 9223372036854775807) (hk : 2 * l.length + 5 ≤ k) : selvageref02_Find.f k l id = some (findR l id) := by
  unfold selvageref02_Find.f
  rw [refRight_f hl (by omega), bs]
  unfold findR fieldsR
  cases hr : rightAt 0 l with
  | true =>
    have := find_l0 l id hl l.length [] l k (Nat.le_refl _) rfl hr hk
    rw [if_pos rfl]
    exact this
  | false =>
    obtain ⟨k, rfl⟩ : ∃ m, k = m + 2 := ⟨k - 2, by omega⟩
    simp only [selvageref02_Find.l0]
    split <;> simp [selvageref02_Find.j1]

theorem same_l0 (l : List Itm) (hl : l.length < 9223372036854775807) (n : Nat) : ∀ (i k : Nat), i + n = l.length → n + 1 ≤ k → selvageref02_Same.l0 k l l (i : Int) = some true := by
  induction n with
  | zero =>
    intro i k h hk
    obtain ⟨k, rfl⟩ : ∃ m, k = m + 1 := ⟨k - 1, by omega⟩
    simp only [selvageref02_Same.l0]
    rw [if_neg (by omega)]
  | succ n ih =>
    intro i k h hk
    obtain ⟨k, rfl⟩ : ∃ m, k = m + 1 := ⟨k - 1, by omega⟩
    simp only [selvageref02_Same.l0]
    rw [if_pos (by omega), if_pos (by omega), if_pos (by omega), if_pos trivial, if_pos trivial, if_pos trivial, if_pos trivial, show wrap64 ((i : Int) + 1) = ((i + 1 : Nat) : Int) from by rw [wrap64_id (by omega) (by omega)]; omega]
    exact ih (i + 1) k (by omega) (by omega)

theorem refSame_f {k : Nat} {l : List Itm} (hl : l.length < 9223372036854775807) (hk : l.length + 1 ≤ k) : selvageref02_Same.f k l l = some true := by
  unfold selvageref02_Same.f
  rw [if_pos rfl]
  exact same_l0 l hl l.length 0 k (by omega) hk

theorem rd_split' (p : List Int) (x : Int) (r : List Int) : rd (p ++ x :: r) (p.length : Int) = x := by simp [rd]

theorem drop_l1 (l : List Itm) (ids : List Int) (out : List Itm) (i : Nat) (hi : i < l.length) (hn : ids.length < 9223372036854775807) (t : List Int) : ∀ (q : List Int) (b : Bool) (k : Nat), ids = q ++ t →
    selvageref02_Drop.l1 (k + t.length) l ids out true (i : Int) b (q.length : Int) = selvageref02_Drop.l1 k l ids out true (i : Int) (b || decide ((itemAt l i).f1 ∈ t)) (ids.length : Int) := by
  induction t with
  | nil =>
    intro q b k h
    rw [h]; simp
  | cons y t ih =>
    intro q b k h
    have hlen : ids.length = q.length + (t.length + 1) := by rw [h]; simp
    have hw : wrap64 ((q.length : Int) + 1) = ((q ++ [y]).length : Int) := by rw [wrap64_id (by omega) (by omega)]; simp
    rw [List.length_cons, ← Nat.add_assoc]
    have hx : rd_T30 l (i : Int) = itemAt l i := rfl
    have hy : rd ids (q.length : Int) = y := by rw [h]; exact rd_split' q y t
    have hs : ids = (q ++ [y]) ++ t := by rw [h]; simp
    simp only [selvageref02_Drop.l1]
    rw [if_pos (by omega)]
    cases b with
    | true =>
      rw [if_pos rfl, hw, ih (q ++ [y]) true k hs]
      simp
    | false =>
      rw [if_neg (by decide), if_pos (by omega), if_pos (by omega), if_pos (by omega), hx, hy, hw, ih (q ++ [y]) _ k hs]
      congr 1
      by_cases he : y = (itemAt l i).f1
      · simp [he]
      · have he' : ¬ (itemAt l i).f1 = y := fun h => he h.symm
        simp [he, he']

theorem drop_l0 (l : List Itm) (ids : List Int) (hl : l.length < 2932031007402) (hn : ids.length < 9223372036854775807) (n : Nat) : ∀ (p r out : List Itm) (k : Nat), r.length ≤ n → l = p ++ r → rightAt 0 r = true → out.length ≤ p.length → (ids.length + 4) * (n + 1) + 2 * l.length + 5 ≤ k →
    selvageref02_Drop.l0 k l ids out true (p.length : Int) = some (out ++ dropP l ids (spans r p.length p.length 0)) := by
  induction n with
  | zero =>
    intro p r out k hnr he hr ho hk
    obtain rfl : r = [] := List.eq_nil_of_length_eq_zero (by omega)
    obtain ⟨k, rfl⟩ : ∃ m, k = m + 2 := ⟨k - 2, by omega⟩
    simp only [selvageref02_Drop.l0]
    rw [if_neg (by rw [he]; simp)]
    simp only [selvageref02_Drop.j1]
    rw [if_neg (by decide)]
    simp [spans, dropP]
  | succ n ih =>
    intro p r out k hnr he hr ho hk
    have hmul : (ids.length + 4) * (n + 1 + 1) = (ids.length + 4) * (n + 1) + (ids.length + 4) := by rw [Nat.mul_succ]
    rw [hmul] at hk
    have hK := hk
    clear hk hmul
    generalize hM : (ids.length + 4) * (n + 1) = M at hK ih
    cases r with
    | nil =>
      obtain ⟨k, rfl⟩ : ∃ m, k = m + 2 := ⟨k - 2, by omega⟩
      simp only [selvageref02_Drop.l0]
      rw [if_neg (by rw [he]; simp)]
      simp only [selvageref02_Drop.j1]
      rw [if_neg (by decide)]
      simp [spans, dropP]
    | cons x r =>
      obtain ⟨k, rfl⟩ : ∃ m, k = m + 1 + ids.length + 2 := ⟨k - ids.length - 3, by omega⟩
      simp only [selvageref02_Drop.l0]
      have hlen : l.length = p.length + (r.length + 1) := by rw [he]; simp
      obtain ⟨q, s, h1, h2, h3, h4, h5⟩ := spans_end (x :: r) p.length p.length 0 hr (.inr (by simp))
      have hq : 0 < q.length := List.length_pos_iff.2 h2
      have hqs : r.length + 1 = q.length + s.length := by have := congrArg List.length h1; simpa using this
      have hend : selvageref02_end.f k l (p.length : Int) = some ((p.length + q.length : Nat) : Int) := by
        unfold selvageref02_end.f
        rw [he, end_l0 (x :: r) p k 0 hr (by omega) (by omega) (by simp; omega) (by simp; omega), h3]
      rw [if_pos (by omega)]
      simp only [selvageref02_Drop.j1]
      rw [if_pos trivial]
      have hl1 := drop_l1 l ids out p.length (by omega) hn ids [] false (k + 1) rfl
      rw [show (([] : List Int).length : Int) = 0 from rfl, Bool.false_or] at hl1
      rw [hl1]
      simp only [selvageref02_Drop.l1]
      rw [if_neg (by omega), h4]
      have hdp : dropP l ids ((p.length, p.length + q.length) :: spans s (p.length + q.length) (p.length + q.length) 0) = (if (itemAt l p.length).f1 ∈ ids then (l.take (p.length + q.length)).drop p.length else []) ++ dropP l ids (spans s (p.length + q.length) (p.length + q.length) 0) := by simp [dropP]
      rw [hdp]
      have hrec : ∀ o : List Itm, o.length ≤ p.length + q.length → selvageref02_Drop.l0 k l ids o true ((p.length + q.length : Nat) : Int) = some (o ++ dropP l ids (spans s (p.length + q.length) (p.length + q.length) 0)) := by
        intro o hol
        have := ih (p ++ q) s o k (by simp at hnr; omega) (by rw [he, h1, List.append_assoc]) h5 (by rw [List.length_append]; exact hol) (by omega)
        rw [List.length_append] at this
        exact this
      by_cases hin : (itemAt l p.length).f1 ∈ ids
      · have hyl : ((l.take (p.length + q.length)).drop p.length).length = q.length := by rw [List.length_drop, List.length_take]; omega
        rw [if_pos (decide_eq_true hin), hend, bs, if_pos (by omega), if_pos (by omega), if_pos (by omega), bs, Int.toNat_natCast, Int.toNat_natCast, if_pos (by omega), bs, hrec _ (by rw [List.length_append]; omega), if_pos hin, List.append_assoc]
      · rw [if_neg (by simpa using hin), hend, bs, hrec _ (by omega), if_neg hin, List.nil_append]

theorem refDrop_f {k : Nat} {l : List Itm} {ids : List Int} (hl : l.length < 2932031007402) (hn : ids.length < 9223372036854775807) (hk : (ids.length + 4) * (l.length + 1) + 2 * l.length + 5 ≤ k) : selvageref02_Drop.f k l ids = some (dropR l ids) := by
  unfold selvageref02_Drop.f
  rw [refRight_f (by omega) (by omega), bs, ← dropP_all]
  unfold fieldsR
  cases hr : rightAt 0 l with
  | true =>
    have := drop_l0 l ids hl hn l.length [] l [] k (Nat.le_refl _) rfl hr (Nat.le_refl _) hk
    simpa using this
  | false =>
    obtain ⟨k, rfl⟩ : ∃ m, k = m + 2 := ⟨k - 2, by omega⟩
    simp only [selvageref02_Drop.l0]
    split <;> simp [selvageref02_Drop.j1, dropP]

end Go.Proofs.Ytmiijakcmbolfaa.Link
