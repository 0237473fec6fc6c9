-- Printed by a program of this session over the kit's print: all laws of the seat in one namespace, some texts by hand.
import Derived.Test.YtmiijakcmbolfaaPx0
import Derived.Test.YtmiijakcmbolfaaPx2
import Derived.Test.YtmiijakcmbolfaaPx4
import Derived.Test.YtmiijakcmbolfaaPx8
import Derived.Test.YtmiijakcmbolfaaMathDecode
import Derived.Test.YtmiijakcmbolfaaLinkRefFields
import Derived.Test.YtmiijakcmbolfaaLinkAwake02
import Derived.Lib.Hide
namespace Go.Proofs.Ytmiijakcmbolfaa.P
open Go.RowKit Go.Proofs.YtmiijakcmbolfaaW.PrintWords Go.Proofs.YtmiijakcmbolfaaW.PrintLast Go.Proofs.YtmiijakcmbolfaaW.PrintMore
attribute [local go_sem] max2_int min2_int max_two min_two max_three min_three max_four min_four   -- for this text's walks alone
set_option linter.unusedVariables false
set_option linter.unusedSimpArgs false

--HAND Derived.Test.YtmiijakcmbolfaaMathDecode Derived.Test.YtmiijakcmbolfaaLinkRefFields Derived.Test.YtmiijakcmbolfaaLinkAwake02 Derived.Lib.Hide
/-! ### selvagelaw02_ValueBack: function 9, by hand -/
-- a hand text for the law ValueBack: behind value_Decode.calls, value_Encode.calls, selvagelaw02_awake.calls, selvageref02_Few.calls, selvageref02_Same.calls
open Go.Shelf Go.Proofs.Ytmiijakcmbolfaa.M Go.Proofs.Ytmiijakcmbolfaa.Link

def BackOk (l : List Itm) (b : List Int) : Prop := (∀ x ∈ l, GoodItem x) ∧ (∀ x ∈ l, x.f3.length ≤ 140737488355328) ∧ l.length < 2932031007402 ∧ (∀ x ∈ b, 0 ≤ x ∧ x < 256)
theorem encAll_bytes {l : List Itm} (hg : ∀ x ∈ l, GoodItem x) : ∀ y ∈ encAll l, 0 ≤ y ∧ y < 256 := by
  intro y hy
  obtain ⟨x, hx, hy⟩ := List.mem_flatMap.1 hy
  unfold encItem at hy
  rcases List.mem_append.1 hy with hy | hy
  · exact put_bytes _ y hy
  · split at hy
    · exact put_bytes _ y hy
    · split at hy
      · rcases List.mem_append.1 hy with hy | hy
        · exact put_bytes _ y hy
        · exact (hg x hx).b y hy
      · simp at hy
open Classical in
noncomputable def selvagelaw02_ValueBack.f (l0 : List Itm) (l1 : List Int) : Option Bool := if BackOk l0 l1 then some true else none

set_option maxRecDepth 100000 in
set_option maxHeartbeats 8000000 in
theorem selvagelaw02_ValueBack.calls (A0 : Option Addr) (c0 : Nat) (l0 : List Itm) (A1 : Option Addr) (c1 : Nat) (l1 : List Int) (r : Bool) (w : World)
    (hr0 : Kd.C k30 w A0 l0.length l0) (hc0 : l0.length ≤ c0) (hr1 : Kd.C (Kd.int .u8) w A1 l1.length l1) (hc1 : l1.length ≤ c1) (h : selvagelaw02_ValueBack.f l0 l1 = some r) :
    Calls Try.prog 9 #[.slice A0 l0.length c0, .slice A1 l1.length c1] w fun e w' => e = .returned (.bool r) ∧ Below w.heap.size w w' := by
  unfold selvagelaw02_ValueBack.f at h
  by_cases hok : BackOk l0 l1
  · rw [if_pos hok] at h
    cases h
    obtain ⟨hg, hb, hl, hby⟩ := hok
    have HG := Aside0.mk hg
    have HBB := Aside0.mk hb
    have HL0 := Aside0.mk hl
    have HBY := Aside0.mk hby
    obtain ⟨tf, htf⟩ : ∃ t, t = few l0 := ⟨_, rfl⟩
    have HFEW := Aside0.mk (few_f (k := 201) hb (by omega) (Nat.le_refl _))
    rw [← htf] at HFEW
    have HTF := Aside0.mk htf
    have HA := Aside0.mk (awake_f (k := 20) (Nat.le_refl _))
    have HR0 := Aside0.mk hr0
    have HC0 := Aside0.mk hc0
    have HR1 := Aside0.mk hr1
    have HC1 := Aside0.mk hc1
    have HB := Aside0.mk (Below.refl w.heap.size w)
    clear hr0 hc0 hr1 hc1 hg hb hl hby htf
    go_enter Try.func9, Try.ntmps9
    go_wp2_with fail
    refine (selvagelaw02_awake.calls 20 true _ HA.out).mono ?_
    rintro e w1 ⟨rfl, hb⟩
    have HB1 := Aside0.mk (below_step HB.out hb)
    clear hb HB
    go_wp2_with fail
    refine (selvageref02_Few.calls 201 _ _ l0 tf _ (Kd.C_below HR0.out HB1.out) HC0.out HFEW.out).mono ?_
    rintro e w2 ⟨rfl, ⟨nd, rfl⟩⟩
    have hb2 : Below w.heap.size w (w1.drewN nd) := pw_below_drewN HB1.out _
    clear HB1
    generalize w1.drewN nd = w2 at hb2
    have HB2 := Aside0.mk hb2
    clear hb2
    cases tf with
    | false =>
      go_wp2
      go_ret
      exact ⟨rfl, HB2.out⟩
    | true =>
      by_cases hlen : (l1.length : Int) > 6000
      · have t0 : decide ((l1.length : Int) > 6000) = true := decide_eq_true hlen
        have t1 : decide ((6000 : Int) < (l1.length : Int)) = true := decide_eq_true hlen
        go_wp2
        go_ret
        exact ⟨rfl, HB2.out⟩
      · have t0 : decide ((l1.length : Int) > 6000) = false := decide_eq_false hlen
        have t1 : decide ((6000 : Int) < (l1.length : Int)) = false := decide_eq_false hlen
        have HL1 := Aside0.mk (show l1.length ≤ 6000 by omega)
        clear hlen
        have hfew := HTF.out.symm
        unfold few at hfew
        simp only [Bool.and_eq_true, decide_eq_true_eq] at hfew
        have hen := enc_len HG.out HBB.out
        have hef := encode_f (l := l0) (k := l0.length + 12) HG.out (by omega) (by omega) (Nat.le_refl _)
        have HLL := Aside0.mk hfew.1
        have hdec : ∀ c, encodeR l0 = (c, 0) → decodeR c = (l0, 0) ∧ (∀ y ∈ c, 0 ≤ y ∧ y < 256) ∧ c.length ≤ 4096 := fun c hc => by
          obtain ⟨h1, h2, h3⟩ := decodeR_encode HG.out HBB.out hc
          exact ⟨h1, by rw [h2]; exact encAll_bytes HG.out, h3⟩
        generalize encodeR l0 = ec at hef hdec
        obtain ⟨c, e⟩ := ec
        have HEF := Aside0.mk hef
        have HDEC := Aside0.mk hdec
        clear hfew hen hef hdec HTF HFEW HA HG HBB
        go_wp2_with fail
        refine (value_Encode.calls (l0.length + 12) _ _ l0 c e _ (Kd.C_below HR0.out HB2.out) HC0.out HEF.out).mono ?_
        rintro e' w3 ⟨v3, rfl, hR3, hb⟩
        have HB3 := Aside0.mk (below_step HB2.out hb)
        obtain ⟨A3, c3, rfl⟩ := Kd.R_slice hR3
        have HR3 := Aside0.mk (Kd.R_reads' hR3)
        clear hb hR3 HB2
        go_upto_if 37 with (fail)
        go_cut [4] (fun v4 wc => v4 = .bool false ∧ Aside0 (Below w.heap.size w wc))
        case first =>
          by_cases he : e = 0
          · subst he
            obtain ⟨h1, h2, h3⟩ := HDEC.out c rfl
            have HD := Aside0.mk h1
            go_wp2_with fail
            refine (value_Decode.calls _ _ c _ HR3.out.2.2 HR3.out.2.1 h2 (by omega)).mono ?_
            rintro e' w4 ⟨v4, rfl, hR4, hb⟩
            rw [HD.out] at hR4 ⊢
            have HB4 := Aside0.mk (below_step HB3.out hb)
            obtain ⟨A4, c4, rfl⟩ := Kd.R_slice hR4
            have HR4 := Aside0.mk (Kd.R_reads' hR4)
            have HSM := Aside0.mk (refSame_f (l := l0) (k := l0.length + 1) (by have := HL0.out; omega) (Nat.le_refl _))
            clear hb hR4 h1 h2 h3
            go_wp2_with fail
            refine (selvageref02_Same.calls (l0.length + 1) _ _ l0 _ _ l0 true _ (Kd.C_below HR0.out HB4.out) HC0.out HR4.out.2.2 HR4.out.2.1 HSM.out).mono ?_
            rintro e' w' ⟨rfl, ⟨nd, rfl⟩⟩
            go_wp2
            go_meet
            case rel => exact ⟨rfl, ⟨pw_below_drewN HB4.out _⟩⟩
          · have t2 : (e == 0) = false := beq_eq_false_iff_ne.2 he
            go_wp2
            go_meet
            case rel => exact ⟨rfl, HB3⟩
        case rest =>
          obtain ⟨rfl, HB⟩ := hcut
          clear HB3 HR3 HDEC HEF
          go_wp2_with fail
          refine (value_Decode.calls _ _ l1 _ (Kd.C_below HR1.out HB.out) HC1.out HBY.out (by have := HL1.out; omega)).mono ?_
          rintro e' w4 ⟨v4, rfl, hR4, hb⟩
          have HB4 := Aside0.mk (below_step HB.out hb)
          obtain ⟨A4, c4, rfl⟩ := Kd.R_slice hR4
          have HR4 := Aside0.mk (Kd.R_reads' hR4)
          clear hb hR4 HB
          have hback : ∀ m e, decodeR l1 = (m, e) → _ := fun m e h => decodeR_back HBY.out h
          obtain ⟨p, hp⟩ : ∃ p, decodeR l1 = p := ⟨_, rfl⟩
          rw [hp] at HR4 ⊢
          obtain ⟨m, e⟩ := p
          simp only at HR4 ⊢
          rcases hback m e hp with ⟨rfl, rfl⟩ | ⟨rfl, h1, h2, h3, h4⟩
          · clear hback hp
            go_wp2
            go_ret
            exact ⟨by simp, HB4.out⟩
          · have hef := encode_f (l := m) (k := m.length + 12) (fun x hx => (h3 x hx).1) (by have := HL1.out; omega) (by rw [h2]; have := HL1.out; omega) (Nat.le_refl _)
            rw [h1] at hef
            have HEF := Aside0.mk hef
            clear hback hp hef h1 h2 h3 h4
            go_wp2_with fail
            refine (value_Encode.calls (m.length + 12) _ _ m l1 0 _ HR4.out.2.2 HR4.out.2.1 HEF.out).mono ?_
            rintro e' w5 ⟨v5, rfl, hR5, hb⟩
            have HB5 := Aside0.mk (below_step HB4.out hb)
            obtain ⟨A5, c5, rfl⟩ := Kd.R_slice hR5
            have hC5 := (Kd.R_reads' hR5).2.2
            have hs5 := Kd.C_string (P := Try.prog) (A := A5) (n := l1.length) (c := c5) Try.underlying25 Try.underlying5 Try.underlying9 hC5
            have hs1 := Kd.C_string (P := Try.prog) (A := A1) (n := l1.length) (c := c1) Try.underlying25 Try.underlying5 Try.underlying9 (Kd.C_below HR1.out HB5.out)
            clear hb hR5 hC5
            go_wp2
            go_ret
            exact ⟨by simp, HB5.out⟩
  · rw [if_neg hok] at h; cases h


/-- THE ONE PURE STATEMENT of selvagelaw02_ValueBack: yours. -/
def selvagelaw02_ValueBack.Pure : Prop := ∀ (x0 : List (S30)) (x1 : List Int), (x0.length ≤ maxLen ∧ x0.length * 48 ≤ 140737488351232 ∧ ∀ yx0 ∈ x0, good30 yx0) → (x1.length ≤ maxLen ∧ x1.length * 1 ≤ 140737488351232 ∧ ∀ yx1 ∈ x1, (Lit.int .u8 yx1).wf = true) → selvagelaw02_ValueBack.f x0 x1 = some true
theorem selvagelaw02_ValueBack.walk (P : selvagelaw02_ValueBack.Pure) (x0 : List (S30)) (x1 : List Int) (w : World) (A0 : Option Addr) (c0 : Nat) (A1 : Option Addr) (c1 : Nat) (g0 : (x0.length ≤ maxLen ∧ x0.length * 48 ≤ 140737488351232 ∧ ∀ yx0 ∈ x0, good30 yx0)) (g1 : (x1.length ≤ maxLen ∧ x1.length * 1 ≤ 140737488351232 ∧ ∀ yx1 ∈ x1, (Lit.int .u8 yx1).wf = true)) (hr0 : Kd.F k30 w (fun _ => True) A0 x0.length x0) (hc0 : x0.length ≤ c0) (hr1 : Kd.F (Kd.int .u8) w (fun _ => True) A1 x1.length x1) (hc1 : x1.length ≤ c1) :
    Calls Try.prog 9 #[.slice A0 x0.length c0, .slice A1 x1.length c1] w fun e w' => e = .returned (.bool true) ∧ Below w.heap.size w w' := by
  have h := P x0 x1 g0 g1
  refine (selvagelaw02_ValueBack.calls _ _ x0 _ _ x1 true w (Kd.F_now hr0) hc0 (Kd.F_now hr1) hc1 h).mono ?_
  rintro e w' ⟨rfl, hd⟩
  exact ⟨rfl, hd⟩

end Go.Proofs.Ytmiijakcmbolfaa.P
