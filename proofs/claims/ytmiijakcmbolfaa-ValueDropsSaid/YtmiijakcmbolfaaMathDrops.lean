/- What Drop leaves of a right record: plain mathematics. A record is cut into its fields. -/
import Derived.Test.YtmiijakcmbolfaaLinkRefFields
namespace Go.Proofs.Ytmiijakcmbolfaa.Link
open Go Go.RowKit Go.Proofs.Ytmiijakcmbolfaa.P Go.Proofs.Ytmiijakcmbolfaa.M Go.Proofs.YtmiijakcmbolfaaW.PrintWords Go.Proofs.YtmiijakcmbolfaaW.PrintLast
set_option linter.unusedVariables false

/-- the fields, each as its items; 'acc': what has been read of the field that is open -/
def cutF : List Itm → Int → List Itm → List (List Itm)
  | [], _, _ => []
  | x :: r, d, acc => if 0 < d + deeper x then cutF r (d + deeper x) (acc ++ [x]) else (acc ++ [x]) :: cutF r (d + deeper x) []

theorem cutF_spans (l : List Itm) (r : List Itm) : ∀ (p acc : List Itm) (d : Int), l = p ++ (acc ++ r) →
    (spans r (p.length + acc.length) p.length d).map (fun s => (l.take s.2).drop s.1) = cutF r d acc := by
  induction r with
  | nil => intro p acc d h; simp [spans, cutF]
  | cons x r ih =>
    intro p acc d h
    simp only [spans, cutF]
    split
    · have := ih p (acc ++ [x]) (d + deeper x) (by rw [h]; simp)
      rw [List.length_append, List.length_singleton, ← Nat.add_assoc] at this
      exact this
    · have := ih (p ++ (acc ++ [x])) [] (d + deeper x) (by rw [h]; simp)
      simp only [List.length_append, List.length_singleton, List.length_nil, Nat.add_zero] at this
      rw [← Nat.add_assoc] at this
      rw [List.map_cons, this]
      congr 1
      have e : l = (p ++ (acc ++ [x])) ++ r := by rw [h]; simp
      rw [e, List.take_append_of_le_length (by simp; omega), List.take_of_length_le (by simp; omega), List.drop_append_of_le_length (by omega)]
      simp

theorem cutF_flat (r : List Itm) : ∀ (d : Int) (acc : List Itm), rightAt d r = true → (0 < d ∨ acc = []) → (cutF r d acc).flatten = acc ++ r := by
  induction r with
  | nil =>
    intro d acc hr h
    simp [rightAt] at hr
    rcases h with h | h
    · omega
    · simp [cutF, h]
  | cons x r ih =>
    intro d acc hr h
    simp only [rightAt, Bool.and_eq_true, decide_eq_true_eq] at hr
    obtain ⟨⟨_, h0, h8⟩, hr⟩ := hr
    simp only [cutF]
    split
    · rw [ih _ _ hr (.inl (by assumption))]; simp
    · rw [List.flatten_cons, ih _ _ hr (.inr rfl)]; simp

theorem right_append' {d : Int} {l m : List Itm} (h : rightAt d l = true) : rightAt d (l ++ m) = rightAt 0 m := by
  induction l generalizing d with
  | nil =>
    simp only [rightAt, decide_eq_true_eq] at h
    rw [h]; rfl
  | cons x r ih =>
    simp only [rightAt, Bool.and_eq_true] at h
    simp only [List.cons_append, rightAt]
    rw [ih h.2, h.1.1, h.1.2.1, h.1.2.2]; rfl

/-- a field: right, and cut no further -/
def IsField (q : List Itm) : Prop := rightAt 0 q = true ∧ ∀ s : List Itm, cutF (q ++ s) 0 [] = q :: cutF s 0 []

/-- what a head of a field is, so deep -/
theorem cutF_fields (r : List Itm) : ∀ (d : Int) (acc : List Itm), rightAt d r = true → 0 ≤ d →
    (0 < d ∨ acc = []) → (∀ s, rightAt 0 (acc ++ s) = rightAt d s) → (∀ s, cutF (acc ++ s) 0 [] = cutF s d acc) → ∀ q ∈ cutF r d acc, IsField q := by
  induction r with
  | nil => intro d acc _ _ _ _ _ q hq; simp [cutF] at hq
  | cons x r ih =>
    intro d acc hr d0 h ha hc q hq
    simp only [rightAt, Bool.and_eq_true, decide_eq_true_eq] at hr
    obtain ⟨⟨hp, h0, h8⟩, hr⟩ := hr
    simp only [cutF] at hq
    by_cases hd : 0 < d + deeper x
    · rw [if_pos hd] at hq
      refine ih (d + deeper x) (acc ++ [x]) hr h0 (.inl hd) (fun s => ?_) (fun s => ?_) q hq
      · rw [List.append_assoc, ha, List.singleton_append]
        simp only [rightAt]
        rw [hp, decide_eq_true h0, decide_eq_true h8]; simp
      · rw [List.append_assoc, hc, List.singleton_append]
        simp only [cutF]
        rw [if_pos hd]
    · have hz : d + deeper x = 0 := by omega
      rw [if_neg hd] at hq
      rcases List.mem_cons.1 hq with rfl | hq
      · refine ⟨?_, fun s => ?_⟩
        · have := ha [x]
          rw [this]
          simp only [rightAt]
          rw [hp, decide_eq_true h0, decide_eq_true h8, hz]; simp
        · rw [List.append_assoc, hc, List.singleton_append]
          simp only [cutF]
          rw [if_neg hd, hz]
      · rw [hz] at hq hr
        exact ih 0 [] hr (by omega) (.inr rfl) (fun s => rfl) (fun s => rfl) q hq

/-- the fields of fields behind one another are these -/
theorem cutF_flatten (qs : List (List Itm)) (h : ∀ q ∈ qs, IsField q) : cutF qs.flatten 0 [] = qs ∧ rightAt 0 qs.flatten = true := by
  induction qs with
  | nil => exact ⟨rfl, rfl⟩
  | cons q qs ih =>
    obtain ⟨h1, h2⟩ := ih (fun x hx => h x (by simp [hx]))
    obtain ⟨a1, a2⟩ := h q (by simp)
    rw [List.flatten_cons]
    exact ⟨by rw [a2, h1], by rw [right_append' a1, h2]⟩

/-- a field's number -/
def headId (q : List Itm) : Int := (itemAt q 0).f1
theorem headId_slice (l : List Itm) (a b : Nat) (h : a < b) (hb : b ≤ l.length) : headId ((l.take b).drop a) = (itemAt l a).f1 := by
  unfold headId itemAt
  rw [List.getD_eq_getElem?_getD, List.getD_eq_getElem?_getD, List.getElem?_drop, List.getElem?_take, if_pos (by omega), Nat.add_zero]

theorem dropP_cut (l : List Itm) (ids : List Int) (ps : List (Nat × Nat)) : (∀ p ∈ ps, p.1 < p.2 ∧ p.2 ≤ l.length) →
    dropP l ids ps = ((ps.map fun s => (l.take s.2).drop s.1).filter fun q => decide (headId q ∈ ids)).flatten := by
  induction ps with
  | nil => intro _; rfl
  | cons p ps ih =>
    intro h
    have hp := h p (by simp)
    have e : dropP l ids (p :: ps) = (if (itemAt l p.1).f1 ∈ ids then (l.take p.2).drop p.1 else []) ++ dropP l ids ps := by simp [dropP]
    rw [e, ih (fun x hx => h x (by simp [hx])), List.map_cons, List.filter_cons, headId_slice l p.1 p.2 hp.1 hp.2]
    by_cases hi : (itemAt l p.1).f1 ∈ ids
    · rw [if_pos hi, if_pos (decide_eq_true hi), List.flatten_cons]
    · rw [if_neg hi, if_neg (by simpa using hi), List.nil_append]

theorem dropR_cut {l : List Itm} (ids : List Int) (hr : rightAt 0 l = true) : dropR l ids = ((cutF l 0 []).filter fun q => decide (headId q ∈ ids)).flatten := by
  have h := cutF_spans l l [] [] 0 rfl
  have hf : fieldsR l = spans l 0 0 0 := by unfold fieldsR; rw [if_pos hr]
  rw [← dropP_all, dropP_cut l ids _ fields_in, hf, ← h]
  rfl

theorem fields_of {l : List Itm} (hr : rightAt 0 l = true) : ∀ q ∈ cutF l 0 [], IsField q :=
  cutF_fields l 0 [] hr (by omega) (.inr rfl) (fun _ => rfl) (fun _ => rfl)

theorem dropR_right {l : List Itm} (ids : List Int) (hr : rightAt 0 l = true) :
    cutF (dropR l ids) 0 [] = (cutF l 0 []).filter (fun q => decide (headId q ∈ ids)) ∧ rightAt 0 (dropR l ids) = true := by
  rw [dropR_cut ids hr]
  exact cutF_flatten _ (fun q hq => fields_of hr q (List.mem_filter.1 hq).1)

theorem dropR_again {l : List Itm} (ids : List Int) (hr : rightAt 0 l = true) : dropR (dropR l ids) ids = dropR l ids := by
  obtain ⟨h1, h2⟩ := dropR_right ids hr
  rw [dropR_cut ids h2, h1, List.filter_filter, dropR_cut ids hr]
  congr 2
  funext q
  simp

/-- the fields' places, the first one's beginning told -/
def offs : List (List Itm) → Nat → List (Nat × Nat)
  | [], _ => []
  | q :: qs, o => (o, o + q.length) :: offs qs (o + q.length)
theorem spans_offs (r : List Itm) : ∀ (p : Nat) (acc : List Itm) (d : Int), spans r (p + acc.length) p d = offs (cutF r d acc) p := by
  induction r with
  | nil => intro p acc d; simp [spans, cutF, offs]
  | cons x r ih =>
    intro p acc d
    simp only [spans, cutF]
    split
    · have := ih p (acc ++ [x]) (d + deeper x)
      rw [List.length_append, List.length_singleton, ← Nat.add_assoc] at this
      exact this
    · have := ih (p + acc.length + 1) [] (d + deeper x)
      rw [List.length_nil, Nat.add_zero] at this
      simp only [offs]
      rw [this, List.length_append, List.length_singleton, Nat.add_assoc]

/-- the first field of a number: its place, and its items -/
def findC : List (List Itm) → Nat → Int → Option (Nat × List Itm)
  | [], _, _ => none
  | q :: qs, o, id => if headId q = id then some (o, q) else findC qs (o + q.length) id

theorem findC_spec {id : Int} (qs : List (List Itm)) : ∀ {o a : Nat} {q : List Itm}, findC qs o id = some (a, q) → ∃ pre post, qs.flatten = pre ++ (q ++ post) ∧ a = o + pre.length ∧ headId q = id ∧ q ∈ qs := by
  induction qs with
  | nil => intro o a q h; simp [findC] at h
  | cons x qs ih =>
    intro o a q h
    simp only [findC] at h
    split at h
    · cases h
      exact ⟨[], qs.flatten, by simp, by simp, by assumption, by simp⟩
    · obtain ⟨pre, post, h1, h2, h3, h4⟩ := ih h
      exact ⟨x ++ pre, post, by rw [List.flatten_cons, h1]; simp, by rw [h2]; simp; omega, h3, by simp [h4]⟩

theorem findC_filter (id : Int) (ids : List Int) (qs : List (List Itm)) : ∀ (o o' : Nat),
    (findC (qs.filter fun q => decide (headId q ∈ ids)) o' id).map Prod.snd = if id ∈ ids then (findC qs o id).map Prod.snd else none := by
  induction qs with
  | nil => intro o o'; simp [findC]
  | cons x qs ih =>
    intro o o'
    rw [List.filter_cons]
    by_cases hx : headId x ∈ ids
    · rw [if_pos (decide_eq_true hx)]
      simp only [findC]
      by_cases he : headId x = id
      · rw [if_pos he, if_pos he, if_pos (he ▸ hx)]; rfl
      · rw [if_neg he, if_neg he]; exact ih _ _
    · rw [if_neg (by simpa using hx)]
      simp only [findC]
      by_cases he : headId x = id
      · have hn : ¬ id ∈ ids := fun h => hx (he ▸ h)
        rw [if_neg hn, ih (o + x.length) o', if_neg hn]
      · rw [if_neg he]; exact ih _ _

theorem find_offs (l : List Itm) (id : Int) (qs : List (List Itm)) : ∀ (p : List Itm), l = p ++ qs.flatten → (∀ q ∈ qs, q ≠ []) →
    findIn l id (offs qs p.length) = match findC qs p.length id with | some (a, q) => ((a : Int), ((a + q.length : Nat) : Int), true) | none => (0, 0, false) := by
  induction qs with
  | nil => intro p _ _; rfl
  | cons q qs ih =>
    intro p h hne
    have hq : 0 < q.length := List.length_pos_iff.2 (hne q (by simp))
    have hh : (itemAt l p.length).f1 = headId q := by
      unfold headId itemAt
      rw [List.getD_eq_getElem?_getD, List.getD_eq_getElem?_getD, h, List.getElem?_append_right (Nat.le_refl _), Nat.sub_self, List.flatten_cons, List.getElem?_append_left hq]
    have := ih (p ++ q) (by rw [h]; simp) (fun x hx => hne x (by simp [hx]))
    rw [List.length_append] at this
    unfold findIn at this ⊢
    simp only [offs, findC]
    rw [List.find?_cons, hh]
    by_cases he : headId q = id
    · rw [if_pos he, decide_eq_true he]
    · rw [if_neg he, decide_eq_false he]
      exact this

theorem cutF_ne (r : List Itm) : ∀ (d : Int) (acc : List Itm), ∀ q ∈ cutF r d acc, q ≠ [] := by
  induction r with
  | nil => intro d acc q hq; simp [cutF] at hq
  | cons x r ih =>
    intro d acc q hq
    simp only [cutF] at hq
    split at hq
    · exact ih _ _ q hq
    · rcases List.mem_cons.1 hq with rfl | hq
      · simp
      · exact ih _ _ q hq

theorem findR_cut {l : List Itm} (id : Int) (hr : rightAt 0 l = true) :
    findR l id = match findC (cutF l 0 []) 0 id with | some (a, q) => ((a : Int), ((a + q.length : Nat) : Int), true) | none => (0, 0, false) := by
  have h := spans_offs l 0 [] 0
  have hf : fieldsR l = spans l 0 0 0 := by unfold fieldsR; rw [if_pos hr]
  have hfl : l = [] ++ (cutF l 0 []).flatten := by rw [cutF_flat l 0 [] hr (.inr rfl)]; rfl
  have := find_offs l id (cutF l 0 []) [] hfl (cutF_ne l 0 [])
  have e : findR l id = findIn l id (fieldsR l) := rfl
  rw [e, hf, show spans l 0 0 0 = offs (cutF l 0 []) 0 from h]
  exact this

theorem find_slice {l : List Itm} {id : Int} {a : Nat} {q : List Itm} (hr : rightAt 0 l = true) (h : findC (cutF l 0 []) 0 id = some (a, q)) :
    a < a + q.length ∧ a + q.length ≤ l.length ∧ (l.take (a + q.length)).drop a = q := by
  obtain ⟨pre, post, h1, h2, _, h4⟩ := findC_spec _ h
  have hq : 0 < q.length := List.length_pos_iff.2 (cutF_ne l 0 [] q h4)
  rw [cutF_flat l 0 [] hr (.inr rfl), List.nil_append] at h1
  obtain rfl : a = pre.length := by omega
  have hl : l.length = pre.length + (q.length + post.length) := by rw [h1]; simp
  refine ⟨by omega, by omega, ?_⟩
  rw [h1, ← List.append_assoc, List.take_append_of_le_length (by simp), List.take_of_length_le (by simp), List.drop_append_of_le_length (Nat.le_refl _), List.drop_of_length_le (Nat.le_refl _), List.nil_append]

/-- a field that was asked for is found, as it was, just if it was there -/
theorem drops_find {l : List Itm} (ids : List Int) (id : Int) (hr : rightAt 0 l = true) :
    (findR (dropR l ids) id).2.2 = ((findR l id).2.2 && decide (id ∈ ids)) ∧
    ((findR (dropR l ids) id).2.2 = true → ∃ a b c d : Nat, findR l id = ((a : Int), (b : Int), true) ∧ findR (dropR l ids) id = ((c : Int), (d : Int), true) ∧
      a < b ∧ b ≤ l.length ∧ c < d ∧ d ≤ (dropR l ids).length ∧ (l.take b).drop a = ((dropR l ids).take d).drop c) := by
  obtain ⟨h1, h2⟩ := dropR_right ids hr
  have hf := findC_filter id ids (cutF l 0 []) 0 0
  rw [← h1] at hf
  rw [findR_cut id h2, findR_cut id hr]
  cases e1 : findC (cutF (dropR l ids) 0 []) 0 id with
  | none =>
    rw [e1] at hf
    cases e2 : findC (cutF l 0 []) 0 id with
    | none => exact ⟨by simp, by simp⟩
    | some y =>
      rw [e2] at hf
      by_cases hi : id ∈ ids
      · rw [if_pos hi] at hf; simp at hf
      · exact ⟨by simp [hi], by simp⟩
  | some x =>
    rw [e1] at hf
    by_cases hi : id ∈ ids
    · rw [if_pos hi] at hf
      cases e2 : findC (cutF l 0 []) 0 id with
      | none => rw [e2] at hf; simp at hf
      | some y =>
        rw [e2] at hf
        obtain ⟨c, q⟩ := x
        obtain ⟨a, q'⟩ := y
        simp at hf
        subst hf
        have s1 := find_slice h2 e1
        have s2 := find_slice hr e2
        exact ⟨by simp [hi], fun _ => ⟨a, a + q.length, c, c + q.length, rfl, rfl, s2.1, s2.2.1, s1.1, s1.2.1, by rw [s1.2.2, s2.2.2]⟩⟩
    · rw [if_neg hi] at hf; simp at hf

end Go.Proofs.Ytmiijakcmbolfaa.Link
