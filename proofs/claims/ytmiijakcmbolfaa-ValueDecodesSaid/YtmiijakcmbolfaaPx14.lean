-- Printed by a program of this session over the kit's print: all laws of the seat in one namespace, some texts by hand.
import Derived.Test.YtmiijakcmbolfaaPx0
import Derived.Test.YtmiijakcmbolfaaPx2
import Derived.Test.YtmiijakcmbolfaaPx8
import Derived.Test.YtmiijakcmbolfaaWalkRefDecode
import Derived.Test.YtmiijakcmbolfaaLinkRefFields
import Derived.Test.YtmiijakcmbolfaaLinkAwake02
import Derived.Lib.Hide
namespace Go.Proofs.Ytmiijakcmbolfaa.P
open Go.RowKit Go.Proofs.YtmiijakcmbolfaaW.PrintWords Go.Proofs.YtmiijakcmbolfaaW.PrintLast Go.Proofs.YtmiijakcmbolfaaW.PrintMore
attribute [local go_sem] max2_int min2_int max_two min_two max_three min_three max_four min_four   -- for this text's walks alone
set_option linter.unusedVariables false
set_option linter.unusedSimpArgs false

--HAND Derived.Test.YtmiijakcmbolfaaWalkRefDecode Derived.Test.YtmiijakcmbolfaaLinkRefFields Derived.Test.YtmiijakcmbolfaaLinkAwake02 Derived.Lib.Hide
/-! ### selvagelaw02_ValueDecodes: function 8, by hand -/
-- a hand text for the law ValueDecodes: behind value_Decode.calls, selvageref02_Decode.calls2, selvagelaw02_awake.calls, selvageref02_Same.calls
open Go.Shelf Go.Proofs.Ytmiijakcmbolfaa.M Go.Proofs.Ytmiijakcmbolfaa.Link

def DecodesOk (l : List Int) : Prop := ∀ x ∈ l, 0 ≤ x ∧ x < 256
theorem decodeR_len {b : List Int} : (decodeR b).1.length ≤ b.length := by
  unfold decodeR
  cases hd : decR b with
  | none => simp
  | some q =>
    simp only
    split
    · have h : ∀ (n : Nat) (b : List Int) (q : List Itm), b.length ≤ n → decR b = some q → q.length ≤ b.length := by
        intro n
        induction n with
        | zero =>
          intro b q hn h
          obtain rfl : b = [] := List.length_eq_zero_iff.1 (by omega)
          rw [decR_nil] at h; cases h; simp
        | succ n ih =>
          intro b q hn h
          by_cases hb : b = []
          · subst hb; rw [decR_nil] at h; cases h; simp
          · cases hi : itemR b with
            | none => rw [decR_none hb hi] at h; cases h
            | some p =>
              obtain ⟨x, r⟩ := p
              rw [decR_some hb hi] at h
              have hl := (itemR_rest hi).1
              cases hd : decR r with
              | none => rw [hd] at h; cases h
              | some q' => rw [hd] at h; cases h; have := ih r q' (by omega) hd; simp; omega
      exact h _ b q (Nat.le_refl _) hd
    · simp
open Classical in
noncomputable def selvagelaw02_ValueDecodes.f (l0 : List Int) : Option Bool := if DecodesOk l0 then some true else none

set_option maxRecDepth 100000 in
set_option maxHeartbeats 8000000 in
theorem selvagelaw02_ValueDecodes.calls (A0 : Option Addr) (c0 : Nat) (l0 : List Int) (r : Bool) (w : World)
    (hr0 : Kd.C (Kd.int .u8) w A0 l0.length l0) (hc0 : l0.length ≤ c0) (h : selvagelaw02_ValueDecodes.f l0 = some r) :
    Calls Try.prog 8 #[.slice A0 l0.length c0] w fun e w' => e = .returned (.bool r) ∧ Below w.heap.size w w' := by
  unfold selvagelaw02_ValueDecodes.f at h
  by_cases hok : DecodesOk l0
  · rw [if_pos hok] at h
    cases h
    have HOK := Aside0.mk hok
    have HA := Aside0.mk (awake_f (k := 20) (Nat.le_refl _))
    have HR0 := Aside0.mk hr0
    have HC0 := Aside0.mk hc0
    have HB := Aside0.mk (Below.refl w.heap.size w)
    clear hr0 hc0 hok
    go_enter Try.func8, Try.ntmps8
    go_wp2_with fail
    refine (selvagelaw02_awake.calls 20 true _ HA.out).mono ?_
    rintro e w1 ⟨rfl, hb⟩
    have HB1 := Aside0.mk (below_step HB.out hb)
    clear hb HB
    by_cases hlen : (l0.length : Int) > 6000
    · have t0 : decide ((l0.length : Int) > 6000) = true := decide_eq_true hlen
      have t1 : decide ((6000 : Int) < (l0.length : Int)) = true := decide_eq_true hlen
      go_wp2
      go_ret
      exact ⟨rfl, HB1.out⟩
    · have t0 : decide ((l0.length : Int) > 6000) = false := decide_eq_false hlen
      have t1 : decide ((6000 : Int) < (l0.length : Int)) = false := decide_eq_false hlen
      have HL := Aside0.mk (show l0.length < 1099511627776 by omega)
      go_wp2_with fail
      refine (value_Decode.calls _ _ l0 _ (Kd.C_below HR0.out HB1.out) HC0.out HOK.out HL.out).mono ?_
      rintro e w2 ⟨v2, rfl, hR2, hb⟩
      have HB2 := Aside0.mk (below_step HB1.out hb)
      obtain ⟨A2, c2, rfl⟩ := Kd.R_slice hR2
      have HR2 := Aside0.mk (Kd.R_reads' hR2)
      clear hb hR2
      go_wp2_with fail
      refine (selvageref02_Decode.calls2 _ _ l0 _ (Kd.C_below HR0.out HB2.out) HC0.out HOK.out HL.out).mono ?_
      rintro e w3 ⟨v3, rfl, hR3, hb⟩
      have HB3 := Aside0.mk (below_step HB2.out hb)
      obtain ⟨A3, c3, rfl⟩ := Kd.R_slice hR3
      have HR3 := Aside0.mk (Kd.R_reads' hR3)
      have HR23 := Aside0.mk (Kd.C_below HR2.out.2.2 hb)
      clear hb hR3
      have HSM := Aside0.mk (refSame_f (l := (decodeR l0).1) (k := (decodeR l0).1.length + 1) (by have := decodeR_len (b := l0); have := HL.out; omega) (Nat.le_refl _))
      have hmm : ∀ p : List Itm × Int, p = decodeR l0 → True := fun _ _ => trivial
      generalize decodeR l0 = p at HR2 HR3 HR23 HSM ⊢
      obtain ⟨m, e⟩ := p
      simp only at HR2 HR3 HR23 HSM ⊢
      go_wp2_with fail
      refine (selvageref02_Same.calls (m.length + 1) _ _ m _ _ m true _ HR23.out HR2.out.2.1 HR3.out.2.2 HR3.out.2.1 HSM.out).mono ?_
      rintro e' w' ⟨rfl, ⟨nd, rfl⟩⟩
      go_wp2
      go_ret
      exact ⟨by simp, pw_below_drewN HB3.out _⟩
  · rw [if_neg hok] at h; cases h


/-- THE ONE PURE STATEMENT of selvagelaw02_ValueDecodes: yours. -/
def selvagelaw02_ValueDecodes.Pure : Prop := ∀ (x0 : List Int), (x0.length ≤ maxLen ∧ x0.length * 1 ≤ 140737488351232 ∧ ∀ yx0 ∈ x0, (Lit.int .u8 yx0).wf = true) → selvagelaw02_ValueDecodes.f x0 = some true
theorem selvagelaw02_ValueDecodes.walk (P : selvagelaw02_ValueDecodes.Pure) (x0 : List Int) (w : World) (A0 : Option Addr) (c0 : Nat) (g0 : (x0.length ≤ maxLen ∧ x0.length * 1 ≤ 140737488351232 ∧ ∀ yx0 ∈ x0, (Lit.int .u8 yx0).wf = true)) (hr0 : Kd.F (Kd.int .u8) w (fun _ => True) A0 x0.length x0) (hc0 : x0.length ≤ c0) :
    Calls Try.prog 8 #[.slice A0 x0.length c0] w fun e w' => e = .returned (.bool true) ∧ Below w.heap.size w w' := by
  have h := P x0 g0
  refine (selvagelaw02_ValueDecodes.calls _ _ x0 true w (Kd.F_now hr0) hc0 h).mono ?_
  rintro e w' ⟨rfl, hd⟩
  exact ⟨rfl, hd⟩

end Go.Proofs.Ytmiijakcmbolfaa.P
