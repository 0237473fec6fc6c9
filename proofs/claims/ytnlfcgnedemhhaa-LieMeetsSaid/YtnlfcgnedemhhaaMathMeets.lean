/- Two ends that hear one another: plain mathematics. -/
import Derived.Test.YtnlfcgnedemhhaaLieMath
namespace Go.Proofs.Ytnlfcgnedemhhaa.L
set_option linter.unusedVariables false

theorem tick_on {s : St} {now : Int} (hm : moment now = true) (h : s.state = 0 ∨ now < s.until_) : tick s now = (0, { s with nonce := next s.nonce }) := by
  unfold tick
  rw [if_neg (by rw [hm]; simp), if_neg (by omega)]
theorem take_on {s : St} {x : Say} {now : Int} (hm : moment now = true) (hr : rightSay x = true) (ha : accepts s.port x = true) (h3 : s.state ≠ 3) (hh : hears s = false ∨ (s.other.node = x.node ∧ s.other.link = x.link)) :
    (take s x now).2 = { s with other := ⟨x.node, x.link, x.level, x.nonce⟩, until_ := now + x.hold, state := if sees s x = true then 2 else 1 } := by
  unfold take
  rw [if_neg (by rw [hm]; simp), if_neg (by rw [hr]; simp), if_neg (by rw [ha]; simp), if_neg h3, if_neg]
  rintro ⟨h1, h2⟩
  rcases hh with h | h
  · rw [h] at h1; cases h1
  · exact h2 h
theorem take_not {s : St} {x : Say} {now : Int} (hm : moment now = true) (hr : rightSay x = true) (ha : accepts s.port x = false) (hh : s.other.node ≠ x.node) : (take s x now).2 = s := by
  unfold take
  rw [if_neg (by rw [hm]; simp), if_neg (by rw [hr]; simp), if_pos ha]
  simp only
  rw [if_neg (fun h => hh h.1)]
theorem port_within {p : Port} (h : rightPort p = true) : (1 ≤ p.node ∧ p.node ≤ 1000) ∧ (-1 ≤ p.level ∧ p.level ≤ 24) ∧ (0 ≤ p.pod ∧ p.pod ≤ 65535) ∧ (0 ≤ p.mtu ∧ p.mtu ≤ 65535) ∧ (0 ≤ p.link ∧ p.link ≤ 65535) ∧ (1 ≤ p.hold ∧ p.hold ≤ 1000) := by
  unfold rightPort within at h
  simp only [Bool.and_eq_true, decide_eq_true_eq] at h
  exact h
/-- an end of port p with a nonce n that heard node, link and nonce -/
theorem say_right {p : Port} (hp : rightPort p = true) {st n un : Int} {o : Oth} (hn : 1 ≤ n ∧ n ≤ 65535) (h0 : 0 ≤ o.node ∧ o.node ≤ 1000) (h1 : 0 ≤ o.link ∧ o.link ≤ 65535) (h2 : 0 ≤ o.nonce ∧ o.nonce ≤ 65535) : rightSay (say ⟨p, st, n, o, un⟩) = true := by
  have := port_within hp
  unfold say rightSay within
  simp only [Bool.and_eq_true, decide_eq_true_eq]
  omega
theorem both_law (p q : Port) : accepts p (say (new q)) = accepts q (say (new p)) := by
  unfold accepts say new
  simp only
  have h1 : (q.node = p.node ∨ q.mtu ≠ p.mtu ∨ p.level < 0 ∨ q.level < 0) ↔ (p.node = q.node ∨ p.mtu ≠ q.mtu ∨ q.level < 0 ∨ p.level < 0) := by omega
  have h2 : (q.pod ≠ p.pod ∧ q.pod ≠ 0 ∧ p.pod ≠ 0) ↔ (p.pod ≠ q.pod ∧ p.pod ≠ 0 ∧ q.pod ≠ 0) := by omega
  by_cases c1 : (p.node = q.node ∨ p.mtu ≠ q.mtu ∨ q.level < 0 ∨ p.level < 0)
  · rw [if_pos c1, if_pos (h1.2 c1)]
  · rw [if_neg c1, if_neg (fun h => c1 (h1.1 h))]
    by_cases c2 : (p.pod ≠ q.pod ∧ p.pod ≠ 0 ∧ q.pod ≠ 0)
    · rw [if_pos c2, if_pos (h2.2 c2)]
    · rw [if_neg c2, if_neg (fun h => c2 (h2.1 h))]
      by_cases c3 : p.level = q.level
      · rw [if_pos c3, if_pos c3.symm, c3]
      · rw [if_neg c3, if_neg (fun h => c3 h.symm)]
        exact decide_eq_decide.2 (by omega)

/-- the two ends behind n rounds -/
def meetA (f : Bool) (p q : Port) (n : Nat) : St := if n = 0 then new p else if f = true then ⟨p, 2, (n : Int) + 1, ⟨q.node, q.link, q.level, (n : Int) + 1⟩, (n : Int) - 1 + q.hold⟩ else ⟨p, 0, (n : Int) + 1, noOth, 0⟩
def meetB (f : Bool) (p q : Port) (n : Nat) : St := if n = 0 then new q else if f = true then ⟨q, if n = 1 then 1 else 2, (n : Int) + 1, ⟨p.node, p.link, p.level, (n : Int) + 1⟩, (n : Int) - 1 + p.hold⟩ else ⟨q, 0, (n : Int) + 1, noOth, 0⟩

theorem meetA_t (p q : Port) {n : Nat} (h : n ≠ 0) : meetA true p q n = ⟨p, 2, (n : Int) + 1, ⟨q.node, q.link, q.level, (n : Int) + 1⟩, (n : Int) - 1 + q.hold⟩ := by unfold meetA; rw [if_neg h, if_pos rfl]
theorem meetA_f (p q : Port) {n : Nat} (h : n ≠ 0) : meetA false p q n = ⟨p, 0, (n : Int) + 1, noOth, 0⟩ := by unfold meetA; rw [if_neg h, if_neg (by simp)]
theorem meetB_t (p q : Port) {n : Nat} (h : n ≠ 0) : meetB true p q n = ⟨q, if n = 1 then 1 else 2, (n : Int) + 1, ⟨p.node, p.link, p.level, (n : Int) + 1⟩, (n : Int) - 1 + p.hold⟩ := by unfold meetB; rw [if_neg h, if_pos rfl]
theorem meetB_f (p q : Port) {n : Nat} (h : n ≠ 0) : meetB false p q n = ⟨q, 0, (n : Int) + 1, noOth, 0⟩ := by unfold meetB; rw [if_neg h, if_neg (by simp)]
theorem next_small {n : Int} (h : 1 ≤ n ∧ n < 65535) : next n = n + 1 := by unfold next; rw [if_pos h]
theorem fresh_ok {t o : Int} (ht : 1 ≤ t ∧ t ≤ 65535) (ho : 1 ≤ o ∧ o ≤ 65535) (h : o = t ∨ o = t + 1) : fresh t o 16 = true := by
  unfold fresh nonce within
  simp only [Bool.and_eq_true, decide_eq_true_eq]
  rcases h with rfl | rfl
  · omega
  · have : (t + 1 - t + 65535) % 65535 = 1 := by omega
    rw [this]; omega

theorem meets_first {p q : Port} (hp : rightPort p = true) (hq : rightPort q = true) {f : Bool} (hf : accepts p (say (new q)) = f) :
    round (new p) (new q) 0 = (meetA f p q 1, meetB f p q 1) := by
  have hg : accepts q (say (new p)) = f := (both_law p q).symm.trans hf
  have bp := port_within hp
  have bq := port_within hq
  have hm : moment 0 = true := rfl
  have e1 : (tick (new p) 0).2 = ⟨p, 0, 2, noOth, 0⟩ := by rw [tick_on hm (.inl rfl)]; rfl
  have e2 : (tick (new q) 0).2 = ⟨q, 0, 2, noOth, 0⟩ := by rw [tick_on hm (.inl rfl)]; rfl
  unfold round
  rw [e1, e2]
  have r1 : rightSay (say ⟨p, 0, 2, noOth, 0⟩) = true := say_right hp (by omega) (by decide) (by decide) (by decide)
  cases f with
  | true =>
    have t1 : (take ⟨q, 0, 2, noOth, 0⟩ (say ⟨p, 0, 2, noOth, 0⟩) 0).2 = ⟨q, 1, 2, ⟨p.node, p.link, p.level, 2⟩, 0 + p.hold⟩ := by
      rw [take_on hm r1 hg (by simp) (.inl rfl)]
      have hs : sees ⟨q, 0, 2, noOth, 0⟩ (say ⟨p, 0, 2, noOth, 0⟩) = false := by
        unfold sees say noOth
        simp only
        rw [decide_eq_false (by omega)]; rfl
      rw [hs]; rfl
    rw [t1]
    have r2 : rightSay (say ⟨q, 1, 2, ⟨p.node, p.link, p.level, 2⟩, 0 + p.hold⟩) = true := say_right hq (by omega) (by simp only; omega) (by simp only; omega) (by simp only; omega)
    have t2 : (take ⟨p, 0, 2, noOth, 0⟩ (say ⟨q, 1, 2, ⟨p.node, p.link, p.level, 2⟩, 0 + p.hold⟩) 0).2 = ⟨p, 2, 2, ⟨q.node, q.link, q.level, 2⟩, 0 + q.hold⟩ := by
      rw [take_on hm r2 hf (by simp) (.inl rfl)]
      have hs : sees ⟨p, 0, 2, noOth, 0⟩ (say ⟨q, 1, 2, ⟨p.node, p.link, p.level, 2⟩, 0 + p.hold⟩) = true := by
        unfold sees say
        simp only [decide_true, Bool.true_and]
        exact fresh_ok (by omega) (by omega) (.inl rfl)
      rw [hs]; rfl
    rw [t2]
    simp [meetA, meetB]
  | false =>
    have t1 : (take ⟨q, 0, 2, noOth, 0⟩ (say ⟨p, 0, 2, noOth, 0⟩) 0).2 = ⟨q, 0, 2, noOth, 0⟩ := take_not hm r1 hg (by simp only [noOth, say]; omega)
    rw [t1]
    have r2 : rightSay (say ⟨q, 0, 2, noOth, 0⟩) = true := say_right hq (by omega) (by decide) (by decide) (by decide)
    rw [take_not hm r2 hf (by simp only [noOth, say]; omega)]
    simp [meetA, meetB]

theorem meets_step {p q : Port} (hp : rightPort p = true) (hq : rightPort q = true) (hhp : 2 ≤ p.hold) (hhq : 2 ≤ q.hold) {f : Bool} (hf : accepts p (say (new q)) = f) {n : Nat} (h0 : n ≠ 0) (hn : n < 60) :
    round (meetA f p q n) (meetB f p q n) (n : Int) = (meetA f p q (n + 1), meetB f p q (n + 1)) := by
  have hg : accepts q (say (new p)) = f := (both_law p q).symm.trans hf
  have bp := port_within hp
  have bq := port_within hq
  have hm : moment (n : Int) = true := by unfold moment within; simp only [Bool.and_eq_true, decide_eq_true_eq]; omega
  have hnx : next ((n : Int) + 1) = (n : Int) + 2 := by rw [next_small (by omega)]; omega
  cases f with
  | true =>
    rw [meetA_t p q h0, meetB_t p q h0, meetA_t p q (Nat.succ_ne_zero n), meetB_t p q (Nat.succ_ne_zero n)]
    have e1 : (tick ⟨p, 2, (n : Int) + 1, ⟨q.node, q.link, q.level, (n : Int) + 1⟩, (n : Int) - 1 + q.hold⟩ (n : Int)).2 = ⟨p, 2, (n : Int) + 2, ⟨q.node, q.link, q.level, (n : Int) + 1⟩, (n : Int) - 1 + q.hold⟩ := by
      rw [tick_on hm (.inr (by simp only; omega))]; simp only [hnx]
    obtain ⟨sb, hsb⟩ : ∃ sb : Int, sb = if n = 1 then 1 else 2 := ⟨_, rfl⟩
    rw [← hsb, if_neg (show ¬ (n + 1 = 1) by omega)]
    have hs3 : sb ≠ 3 := by rw [hsb]; split <;> decide
    have e2 : (tick ⟨q, sb, (n : Int) + 1, ⟨p.node, p.link, p.level, (n : Int) + 1⟩, (n : Int) - 1 + p.hold⟩ (n : Int)).2 = ⟨q, sb, (n : Int) + 2, ⟨p.node, p.link, p.level, (n : Int) + 1⟩, (n : Int) - 1 + p.hold⟩ := by
      rw [tick_on hm (.inr (by simp only; omega))]; simp only [hnx]
    unfold round
    rw [e1, e2]
    have r1 : rightSay (say ⟨p, 2, (n : Int) + 2, ⟨q.node, q.link, q.level, (n : Int) + 1⟩, (n : Int) - 1 + q.hold⟩) = true := say_right hp (by omega) (by simp only; omega) (by simp only; omega) (by simp only; omega)
    have t1 : (take ⟨q, sb, (n : Int) + 2, ⟨p.node, p.link, p.level, (n : Int) + 1⟩, (n : Int) - 1 + p.hold⟩ (say ⟨p, 2, (n : Int) + 2, ⟨q.node, q.link, q.level, (n : Int) + 1⟩, (n : Int) - 1 + q.hold⟩) (n : Int)).2 = ⟨q, 2, (n : Int) + 2, ⟨p.node, p.link, p.level, (n : Int) + 2⟩, (n : Int) + p.hold⟩ := by
      rw [take_on hm r1 hg hs3 (.inr ⟨rfl, rfl⟩)]
      have hs : sees ⟨q, sb, (n : Int) + 2, ⟨p.node, p.link, p.level, (n : Int) + 1⟩, (n : Int) - 1 + p.hold⟩ (say ⟨p, 2, (n : Int) + 2, ⟨q.node, q.link, q.level, (n : Int) + 1⟩, (n : Int) - 1 + q.hold⟩) = true := by
        unfold sees say
        simp only [decide_true, Bool.true_and]
        exact fresh_ok (by omega) (by omega) (.inr (by omega))
      rw [hs]; rfl
    rw [t1]
    have r2 : rightSay (say ⟨q, 2, (n : Int) + 2, ⟨p.node, p.link, p.level, (n : Int) + 2⟩, (n : Int) + p.hold⟩) = true := say_right hq (by omega) (by simp only; omega) (by simp only; omega) (by simp only; omega)
    have t2 : (take ⟨p, 2, (n : Int) + 2, ⟨q.node, q.link, q.level, (n : Int) + 1⟩, (n : Int) - 1 + q.hold⟩ (say ⟨q, 2, (n : Int) + 2, ⟨p.node, p.link, p.level, (n : Int) + 2⟩, (n : Int) + p.hold⟩) (n : Int)).2 = ⟨p, 2, (n : Int) + 2, ⟨q.node, q.link, q.level, (n : Int) + 2⟩, (n : Int) + q.hold⟩ := by
      rw [take_on hm r2 hf (by simp) (.inr ⟨rfl, rfl⟩)]
      have hs : sees ⟨p, 2, (n : Int) + 2, ⟨q.node, q.link, q.level, (n : Int) + 1⟩, (n : Int) - 1 + q.hold⟩ (say ⟨q, 2, (n : Int) + 2, ⟨p.node, p.link, p.level, (n : Int) + 2⟩, (n : Int) + p.hold⟩) = true := by
        unfold sees say
        simp only [decide_true, Bool.true_and]
        exact fresh_ok (by omega) (by omega) (.inl rfl)
      rw [hs]; rfl
    rw [t2]
    have c1 : ((n + 1 : Nat) : Int) + 1 = (n : Int) + 2 := by omega
    have c2 : ((n + 1 : Nat) : Int) - 1 = (n : Int) := by omega
    rw [c1, c2]
  | false =>
    rw [meetA_f p q h0, meetB_f p q h0, meetA_f p q (Nat.succ_ne_zero n), meetB_f p q (Nat.succ_ne_zero n)]
    have e1 : (tick ⟨p, 0, (n : Int) + 1, noOth, 0⟩ (n : Int)).2 = ⟨p, 0, (n : Int) + 2, noOth, 0⟩ := by rw [tick_on hm (.inl rfl)]; simp only [hnx]
    have e2 : (tick ⟨q, 0, (n : Int) + 1, noOth, 0⟩ (n : Int)).2 = ⟨q, 0, (n : Int) + 2, noOth, 0⟩ := by rw [tick_on hm (.inl rfl)]; simp only [hnx]
    unfold round
    rw [e1, e2]
    have r1 : rightSay (say ⟨p, 0, (n : Int) + 2, noOth, 0⟩) = true := say_right hp (by omega) (by decide) (by decide) (by decide)
    have r2 : rightSay (say ⟨q, 0, (n : Int) + 2, noOth, 0⟩) = true := say_right hq (by omega) (by decide) (by decide) (by decide)
    rw [take_not hm r1 hg (by simp only [noOth, say]; omega)]
    rw [take_not hm r2 hf (by simp only [noOth, say]; omega)]
    have c1 : ((n + 1 : Nat) : Int) + 1 = (n : Int) + 2 := by omega
    rw [c1]

theorem meets_round {p q : Port} (hp : rightPort p = true) (hq : rightPort q = true) (hhp : 2 ≤ p.hold) (hhq : 2 ≤ q.hold) {f : Bool} (hf : accepts p (say (new q)) = f) {n : Nat} (hn : n < 60) :
    round (meetA f p q n) (meetB f p q n) (n : Int) = (meetA f p q (n + 1), meetB f p q (n + 1)) := by
  by_cases h0 : n = 0
  · subst h0; exact meets_first hp hq hf
  · exact meets_step hp hq hhp hhq hf h0 hn
/-- where they stand behind n rounds -/
theorem meets_state {f : Bool} {p q : Port} {n : Nat} (h : 2 ≤ n) : (meetA f p q n).state = (if f = true then 2 else 0) ∧ (meetB f p q n).state = (if f = true then 2 else 0) := by
  have h0 : n ≠ 0 := by omega
  cases f with
  | true => rw [meetA_t p q h0, meetB_t p q h0, if_neg (show ¬ n = 1 by omega)]; exact ⟨rfl, rfl⟩
  | false => rw [meetA_f p q h0, meetB_f p q h0]; exact ⟨rfl, rfl⟩
theorem meets_port {f : Bool} {p q : Port} (n : Nat) : (meetA f p q n).port = p ∧ (meetB f p q n).port = q := by
  unfold meetA meetB
  by_cases h : n = 0
  · rw [if_pos h, if_pos h]; exact ⟨rfl, rfl⟩
  · rw [if_neg h, if_neg h]; cases f <;> exact ⟨rfl, rfl⟩
theorem meets_end {f : Bool} {p q : Port} {n : Nat} (hq : rightPort q = true) (h : 2 ≤ n) (hn : n ≤ 60) : (tick (meetA f p q n) ((n : Int) + q.hold)).2.state = 0 := by
  have bq := port_within hq
  have hm : moment ((n : Int) + q.hold) = true := by unfold moment within; simp only [Bool.and_eq_true, decide_eq_true_eq]; omega
  have h0 : n ≠ 0 := by omega
  cases f with
  | true =>
    rw [meetA_t p q h0]
    unfold tick
    rw [if_neg (by rw [hm]; simp), if_pos ⟨by simp, by simp only; omega⟩]; rfl
  | false =>
    rw [meetA_f p q h0, tick_on hm (.inl rfl)]
end Go.Proofs.Ytnlfcgnedemhhaa.L
