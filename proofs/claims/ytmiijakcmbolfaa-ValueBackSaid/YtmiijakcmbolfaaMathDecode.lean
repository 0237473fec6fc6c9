/- Records as bytes, and back: plain mathematics. -/
import Derived.Test.YtmiijakcmbolfaaWalkDecode
import Derived.Test.YtmiijakcmbolfaaLinkRefItems
set_option linter.unusedVariables false
namespace Go.Proofs.Ytmiijakcmbolfaa.P
open Go Go.RowKit Go.Proofs.Ytmiijakcmbolfaa.M Go.Proofs.Ytmiijakcmbolfaa.Link Go.Proofs.YtmiijakcmbolfaaW.PrintWords Go.Proofs.YtmiijakcmbolfaaW.PrintLast

theorem plain_parts {x : Itm} (h : plain x = true) : (x.f0 = 1 ∧ x.f3 = []) ∨ (x.f0 = 2 ∧ x.f2 = 0) ∨ ((x.f0 = 3 ∨ x.f0 = 4) ∧ x.f2 = 0 ∧ x.f3 = []) := by
  unfold plain at h
  split at h
  · simp only [Bool.and_eq_true, decide_eq_true_eq] at h
    exact .inl ⟨by assumption, List.length_eq_zero_iff.1 h.2⟩
  · split at h
    · simp only [Bool.and_eq_true, decide_eq_true_eq] at h
      exact .inr (.inl ⟨by assumption, h.2⟩)
    · split at h
      · simp only [Bool.and_eq_true, decide_eq_true_eq] at h
        exact .inr (.inr ⟨.inl (by assumption), h.2.1, List.length_eq_zero_iff.1 h.2.2⟩)
      · simp only [Bool.and_eq_true, decide_eq_true_eq] at h
        exact .inr (.inr ⟨.inr h.1, h.2.2.1, List.length_eq_zero_iff.1 h.2.2.2⟩)

theorem drop_put (n : Nat) (s : List Int) : (put n ++ s).drop (((put n).length : Int)).toNat = s := by simp

theorem itemR_enc {x : Itm} (hp : plain x = true) (hg : GoodItem x) (hlb : x.f3.length < 18446744073709551616) (r : List Int) : itemR (encItem x ++ r) = some (x, r) := by
  have hb := plain_bd hp
  have hc := plain_parts hp
  obtain ⟨k, id, n, b⟩ := x
  simp only at hb hc hlb
  have hgn := And.intro hg.n0 hg.n1
  simp only at hgn
  have hu : (id * 4 + k - 1).toNat < 18446744073709551616 := by omega
  have hmod : ((id * 4 + k - 1).toNat : Int) % 4 + 1 = k := by omega
  have hdiv : ((id * 4 + k - 1).toNat : Int) / 4 = id := by omega
  have hle : ¬ ((0 : Int) ≠ 0 ∨ 4003 < ((id * 4 + k - 1).toNat : Int)) := by omega
  have e0 : encItem ⟨k, id, n, b⟩ = put (id * 4 + k - 1).toNat ++ (if k = 1 then put (zig n) else if k = 2 then put b.length ++ b else []) := rfl
  rw [e0, List.append_assoc]
  unfold itemR
  rw [takeR_put hu]
  simp only
  rw [if_neg hle, hmod, hdiv, drop_put]
  rcases hc with ⟨rfl, rfl⟩ | ⟨rfl, rfl⟩ | ⟨hk, rfl, rfl⟩
  · rw [if_pos rfl, if_pos rfl, takeR_put (zig_lt hgn.1 hgn.2)]
    simp only
    rw [if_neg (by simp), Int.toNat_natCast, zag_zig, drop_put]
  · simp only [show ((2 : Int) = 1) = False from by decide, if_false, if_true]
    rw [List.append_assoc, takeR_put hlb]
    simp only
    rw [drop_put, if_neg (by simp; omega), Int.toNat_natCast]
    simp
  · rw [if_neg (by omega), if_neg (by omega), if_neg (by omega), if_neg (by omega)]
    simp

theorem encItem_ne (x : Itm) : encItem x ≠ [] := by
  unfold encItem
  intro h
  have := List.append_eq_nil_iff.1 h
  exact put_ne_nil _ this.1

theorem decR_enc : ∀ (l : List Itm), (∀ x ∈ l, plain x = true ∧ GoodItem x ∧ x.f3.length < 18446744073709551616) → decR (encAll l) = some l
  | [], _ => decR_nil
  | x :: r, h => by
    obtain ⟨h1, h2, h3⟩ := h x (by simp)
    have e : encAll (x :: r) = encItem x ++ encAll r := by simp [encAll]
    rw [e, decR_some (fun e' => encItem_ne x (List.append_eq_nil_iff.1 e').1) (itemR_enc h1 h2 h3 _), decR_enc r (fun y hy => h y (by simp [hy]))]
    rfl

theorem decodeR_encode {l : List Itm} {b : List Int} (hg : ∀ x ∈ l, GoodItem x) (hb : ∀ x ∈ l, x.f3.length ≤ 140737488355328) (h : encodeR l = (b, 0)) : decodeR b = (l, 0) ∧ b = encAll l ∧ b.length ≤ 4096 := by
  unfold encodeR at h
  split at h
  · rename_i hr
    split at h
    · simp at h
    · rename_i hlen
      simp only [Prod.mk.injEq] at h
      obtain ⟨rfl, _⟩ := h
      refine ⟨?_, rfl, by omega⟩
      unfold decodeR
      rw [decR_enc l (fun x hx => ⟨rightAt_plain hr x hx, hg x hx, by have := hb x hx; omega⟩)]
      simp only
      rw [if_pos ⟨by omega, hr⟩]
  · simp at h

theorem itemR_good {b r : List Int} {x : Itm} (hby : ∀ y ∈ b, 0 ≤ y ∧ y < 256) (h : itemR b = some (x, r)) : GoodItem x ∧ x.f3.length ≤ b.length ∧ (plain x = true → encItem x ++ r = b) := by
  unfold itemR at h
  rcases takeR_cases b with ⟨u, s, hu, rfl, ht⟩ | ⟨_, ht⟩
  · rw [ht] at h
    simp only at h
    split at h
    · cases h
    · rename_i hle
      have hu2 : u ≤ 4003 := by omega
      rw [drop_put] at h
      have hk : (((u : Int) / 4) * 4 + ((u : Int) % 4 + 1) - 1).toNat = u := by omega
      split at h
      · rename_i hk1
        rcases takeR_cases s with ⟨v, q, hv, rfl, ht2⟩ | ⟨_, ht2⟩
        · rw [ht2] at h
          simp only at h
          split at h
          · cases h
          · rw [drop_put] at h
            cases h
            have hz := zag_bd hv
            refine ⟨⟨by simp only; omega, by simp only; omega, by simp only; omega, by simp only; omega, by simp only [Int.toNat_natCast]; omega, by simp only [Int.toNat_natCast]; omega, by simp⟩, by simp, fun _ => ?_⟩
            unfold encItem
            simp only
            rw [hk, if_pos hk1, Int.toNat_natCast, zig_zag, List.append_assoc]
        · rw [ht2] at h
          simp at h
      · rename_i hk1
        split at h
        · rename_i hk2
          rcases takeR_cases s with ⟨v, q, hv, rfl, ht2⟩ | ⟨_, ht2⟩
          · rw [ht2] at h
            simp only at h
            rw [drop_put] at h
            split at h
            · cases h
            · rename_i hlv
              rw [Int.toNat_natCast] at h
              cases h
              have hlen : (q.take v).length = v := by rw [List.length_take]; omega
              refine ⟨⟨by simp only; omega, by simp only; omega, by simp only; omega, by simp only; omega, by simp only; omega, by simp only; omega, fun y hy => hby y (by simp only at hy; simp [List.mem_of_mem_take hy])⟩, by simp only [List.length_append]; omega, fun _ => ?_⟩
              unfold encItem
              simp only
              rw [hk, if_neg hk1, if_pos hk2, hlen, List.append_assoc, List.append_assoc, List.take_append_drop]
          · rw [ht2] at h
            simp at h
        · rename_i hk2
          cases h
          refine ⟨⟨by simp only; omega, by simp only; omega, by simp only; omega, by simp only; omega, by simp only; omega, by simp only; omega, by simp⟩, by simp, fun _ => ?_⟩
          unfold encItem
          simp only
          rw [hk, if_neg hk1, if_neg hk2, List.append_nil]
  · rw [ht] at h
    simp at h

theorem decR_good (n : Nat) : ∀ (b : List Int) (l : List Itm), b.length ≤ n → (∀ y ∈ b, 0 ≤ y ∧ y < 256) → decR b = some l → (∀ x ∈ l, GoodItem x ∧ x.f3.length ≤ n) ∧ l.length ≤ b.length ∧ ((∀ x ∈ l, plain x = true) → encAll l = b) := by
  induction n with
  | zero =>
    intro b l hn _ h
    obtain rfl : b = [] := List.length_eq_zero_iff.1 (by omega)
    rw [decR_nil] at h
    cases h
    exact ⟨by simp, by simp, fun _ => rfl⟩
  | succ n ih =>
    intro b l hn hby h
    by_cases hb : b = []
    · subst hb
      rw [decR_nil] at h
      cases h
      exact ⟨by simp, by simp, fun _ => rfl⟩
    · cases hi : itemR b with
      | none => rw [decR_none hb hi] at h; cases h
      | some p =>
        obtain ⟨x, r⟩ := p
        rw [decR_some hb hi] at h
        obtain ⟨hl, m, hm⟩ := itemR_rest hi
        obtain ⟨g1, g2, g3⟩ := itemR_good hby hi
        cases hd : decR r with
        | none => rw [hd] at h; cases h
        | some q =>
          rw [hd] at h
          cases h
          obtain ⟨i1, i2, i3⟩ := ih r q (by omega) (fun y hy => hby y (List.mem_of_mem_drop (hm ▸ hy))) hd
          refine ⟨fun y hy => ?_, by simp; omega, fun hp => ?_⟩
          · rcases List.mem_cons.1 hy with rfl | hy
            · exact ⟨g1, by omega⟩
            · have := i1 y hy; exact ⟨this.1, by omega⟩
          · have e : encAll (x :: q) = encItem x ++ encAll q := by simp [encAll]
            rw [e, i3 (fun y hy => hp y (by simp [hy])), g3 (hp x (by simp))]

theorem decodeR_back {b : List Int} {l : List Itm} {e : Int} (hby : ∀ y ∈ b, 0 ≤ y ∧ y < 256) (h : decodeR b = (l, e)) :
    (e = 2 ∧ l = []) ∨ (e = 0 ∧ encodeR l = (b, 0) ∧ encAll l = b ∧ (∀ x ∈ l, GoodItem x ∧ x.f3.length ≤ b.length) ∧ l.length ≤ b.length) := by
  unfold decodeR at h
  cases hd : decR b with
  | none => rw [hd] at h; simp at h; exact .inl ⟨h.2.symm, h.1⟩
  | some q =>
    rw [hd] at h
    simp only at h
    split at h
    · rename_i hc
      simp only [Prod.mk.injEq] at h
      obtain ⟨rfl, rfl⟩ := h
      obtain ⟨g1, g2, g3⟩ := decR_good b.length b q (Nat.le_refl _) hby hd
      have he := g3 (rightAt_plain hc.2)
      refine .inr ⟨rfl, ?_, he, g1, g2⟩
      unfold encodeR
      rw [if_pos hc.2, he, if_neg (by omega)]
    · simp only [Prod.mk.injEq] at h
      exact .inl ⟨h.2.symm, h.1.symm⟩

end Go.Proofs.Ytmiijakcmbolfaa.P
