-- Printed by a program of this session over the kit's print: all laws of the seat in one namespace, some texts by hand.
import Derived.Test.YtmiijakcmbolfaaPx0
import Derived.Test.YtmiijakcmbolfaaPx1
import Derived.Test.YtmiijakcmbolfaaPx2
import Derived.Test.YtmiijakcmbolfaaPx4
import Derived.Test.YtmiijakcmbolfaaPx6
import Derived.Test.YtmiijakcmbolfaaPx8
import Derived.Test.YtmiijakcmbolfaaPx9
import Derived.Test.YtmiijakcmbolfaaMathDrops
import Derived.Test.YtmiijakcmbolfaaLinkAwake02
import Derived.Lib.Hide
namespace Go.Proofs.Ytmiijakcmbolfaa.P
open Go.RowKit Go.Proofs.YtmiijakcmbolfaaW.PrintWords Go.Proofs.YtmiijakcmbolfaaW.PrintLast Go.Proofs.YtmiijakcmbolfaaW.PrintMore
attribute [local go_sem] max2_int min2_int max_two min_two max_three min_three max_four min_four   -- for this text's walks alone
set_option linter.unusedVariables false
set_option linter.unusedSimpArgs false

--HAND Derived.Test.YtmiijakcmbolfaaMathDrops Derived.Test.YtmiijakcmbolfaaLinkAwake02 Derived.Lib.Hide
/-! ### selvagelaw02_ValueDrops: function 7, by hand -/
-- a hand text for the law ValueDrops: behind value_Find.calls, value_Drop.calls, value_Right.calls, selvagelaw02_awake.calls, selvageref02_Few.calls, selvageref02_Same.calls
open Go.Shelf Go.Proofs.Ytmiijakcmbolfaa.M Go.Proofs.Ytmiijakcmbolfaa.Link

def DropsOk (l : List Itm) (ids : List Int) : Prop := (∀ x ∈ l, GoodItem x) ∧ (∀ x ∈ l, x.f3.length ≤ 140737488355328) ∧ l.length < 2932031007402 ∧ ids.length < 4611686018427387904
open Classical in
noncomputable def selvagelaw02_ValueDrops.f (l0 : List Itm) (l1 : List Int) (a2 : Int) : Option Bool := if DropsOk l0 l1 then some true else none
def inTo (l1 : List Int) (a : Int) (k : Nat) : Bool := decide (a ∈ l1.take k)
theorem inTo_zero (l1 : List Int) (a : Int) : inTo l1 a 0 = false := by simp [inTo]
theorem inTo_all (l1 : List Int) (a : Int) (k : Nat) (h : l1.length ≤ k) : inTo l1 a k = decide (a ∈ l1) := by unfold inTo; rw [List.take_of_length_le h]
theorem inTo_succ (l1 : List Int) (a : Int) (k : Nat) (h : k < l1.length) : inTo l1 a (k + 1) = (inTo l1 a k || (rd l1 (k : Int) == a)) := by
  unfold inTo
  rw [List.take_succ_eq_append_getElem h, show rd l1 (k : Int) = l1[k] from by simp [rd, h]]
  rw [Bool.eq_iff_iff]
  simp only [List.mem_append, List.mem_singleton, decide_eq_true_eq, Bool.or_eq_true, beq_iff_eq]
  constructor
  · rintro (h | h)
    · exact .inl h
    · exact .inr h.symm
  · rintro (h | h)
    · exact .inl h
    · exact .inr h.symm
def dropsOut (l0 : List Itm) (l1 : List Int) : Bool := !(few l0) || decide ((l1.length : Int) > 100) || !(rightAt 0 l0)

set_option maxRecDepth 100000 in
set_option maxHeartbeats 8000000 in
theorem selvagelaw02_ValueDrops.calls (A0 : Option Addr) (c0 : Nat) (l0 : List Itm) (A1 : Option Addr) (c1 : Nat) (l1 : List Int) (a2 : Int) (r : Bool) (w : World)
    (hr0 : Kd.C k30 w A0 l0.length l0) (hc0 : l0.length ≤ c0) (hr1 : Kd.C (Kd.int .i64) w A1 l1.length l1) (hc1 : l1.length ≤ c1) (h : selvagelaw02_ValueDrops.f l0 l1 a2 = some r) :
    Calls Try.prog 7 #[.slice A0 l0.length c0, .slice A1 l1.length c1, .int .i64 a2] w fun e w' => e = .returned (.bool r) ∧ Below w.heap.size w w' := by
  unfold selvagelaw02_ValueDrops.f at h
  by_cases hok : DropsOk l0 l1
  · rw [if_pos hok] at h
    cases h
    obtain ⟨hg, hb, hl, hn⟩ := hok
    obtain ⟨tf, htf⟩ : ∃ t, t = few l0 := ⟨_, rfl⟩
    obtain ⟨tr, htr⟩ : ∃ t, t = rightAt 0 l0 := ⟨_, rfl⟩
    have HA := Aside0.mk (awake_f (k := 20) (Nat.le_refl _))
    have HFEW := Aside0.mk (few_f (k := 201) hb (by omega) (Nat.le_refl _))
    rw [← htf] at HFEW
    have HRT := Aside0.mk (right_f (l := l0) (k := l0.length + 2) (by omega) (Nat.le_refl _))
    rw [← htr] at HRT
    have HOUT : Aside0 (dropsOut l0 l1 = (!tf || decide ((l1.length : Int) > 100) || !tr)) := ⟨by rw [htf, htr]; rfl⟩
    have HR0 := Aside0.mk hr0
    have HC0 := Aside0.mk hc0
    have HR1 := Aside0.mk hr1
    have HC1 := Aside0.mk hc1
    have HL := Aside0.mk hl
    have HN := Aside0.mk hn
    have HTR := Aside0.mk htr
    clear hr0 hr1 hc0 hc1 hg hb hl hn htf htr
    have HB := Aside0.mk (Below.refl w.heap.size w)
    go_enter Try.func7, Try.ntmps7
    go_upto_region 3 with (first | ((with_reducible refine gate_callee (f := 10) rfl ?_); refine goesL_ (some 19) rfl rfl Try.func10 (by kernel_rfl) rfl #[] rfl (by (try simp only [List.map_toArray, List.map_cons, List.map_nil]); first | done | rfl) ?_; (with_reducible refine (selvagelaw02_awake.calls 20 true _ HA.out).mono ?_); rintro e w7 ⟨rfl, hb⟩; refine ⟨_, rfl, ?_⟩; have n0_ := Aside0.mk (below_step (by repeat (first | (with_reducible first | exact HB.out | apply below_alloc | apply pw_below_drewN | apply below_drew1) | exact HB.out)) hb); clear HB; have HB := n0_; clear n0_; (try clear hb)) | ((with_reducible refine gate_callee (f := 11) rfl ?_); refine goesL_ (some 21) rfl rfl Try.func11 (by kernel_rfl) rfl #[.slice A0 l0.length c0] rfl (by (try simp only [List.map_toArray, List.map_cons, List.map_nil]); first | done | rfl) ?_; (with_reducible refine (selvageref02_Few.calls 201 _ _ l0 tf _ ?side1 ?side2 HFEW.out).mono ?_); (case side1 => repeat (first | exact (Kd.C_below HR0.out HB.out) | (with_reducible refine Kd.C_alloc ?_ _) | (with_reducible refine Kd.C_drewN ?_ _) | (with_reducible refine Kd.C_drew ?_))); (case side2 => exact HC0.out); rintro e w' ⟨rfl, ⟨nd, rfl⟩⟩; refine ⟨_, rfl, ?_⟩))
    (try simp only [Act.put, List.setIfInBounds_toArray, List.set_cons_zero, List.set_cons_succ])
    go_cut [37] (fun v37 wc => v37 = .bool (dropsOut l0 l1) ∧ Aside0 (Below w.heap.size w wc))
    case first =>
      cases tf with
      | false =>
        go_wp2
        go_meet
        case rel => exact ⟨by rw [HOUT.out]; rfl, ⟨(by repeat (first | (with_reducible first | exact HB.out | apply below_alloc | apply pw_below_drewN | apply below_drew1) | exact HB.out))⟩⟩
      | true =>
        by_cases hi : (l1.length : Int) > 100
        · have t0 : decide ((l1.length : Int) > 100) = true := decide_eq_true hi
          go_wp2
          go_meet
          case rel => exact ⟨by rw [HOUT.out, t0]; rfl, ⟨(by repeat (first | (with_reducible first | exact HB.out | apply below_alloc | apply pw_below_drewN | apply below_drew1) | exact HB.out))⟩⟩
        · have t0 : decide ((l1.length : Int) > 100) = false := decide_eq_false hi
          go_wp2_with fail
          refine (value_Right.calls (l0.length + 2) _ _ l0 tr _ (Kd.C_drewN (Kd.C_below HR0.out HB.out) _) HC0.out HRT.out).mono ?_
          rintro e w8 ⟨rfl, hb⟩
          have n0_ := Aside0.mk (below_step (by repeat (first | (with_reducible first | exact HB.out | apply below_alloc | apply pw_below_drewN | apply below_drew1) | exact HB.out)) hb)
          clear HB; have HB := n0_; clear n0_ hb
          go_wp2
          go_meet
          case rel => exact ⟨by rw [HOUT.out, t0]; cases tr <;> rfl, ⟨(by repeat (first | (with_reducible first | exact HB.out | apply below_alloc | apply pw_below_drewN | apply below_drew1) | exact HB.out))⟩⟩
    case rest =>
      obtain ⟨rfl, HB⟩ := hcut
      cases hd : dropsOut l0 l1 with
      | true =>
        go_wp2
        go_ret
        exact ⟨rfl, (by repeat (first | (with_reducible first | exact HB.out | apply below_alloc | apply pw_below_drewN | apply below_drew1) | exact HB.out))⟩
      | false =>
        rw [hd] at HOUT
        have HTR1 : Aside0 (rightAt 0 l0 = true) := ⟨by have h1 := HOUT.out; rw [← HTR.out]; cases tr with | true => rfl | false => rw [Bool.not_false, Bool.or_true] at h1; cases h1⟩
        have HD1 := Aside0.mk (dropR_right l1 HTR1.out)
        have HD2 := Aside0.mk (dropR_again l1 HTR1.out)
        have HD3 := Aside0.mk (drops_find l1 a2 HTR1.out)
        have HLEN := Aside0.mk (Nat.le_trans (dropP_len l0 l1 (fieldsR l0)) (fields_sum l0))
        rw [dropP_all] at HLEN
        clear HOUT HTR HFEW HRT HA hd
        have HF1 : Aside0 (value_Drop.f l0 l1 = some (dropR l0 l1)) := ⟨by unfold value_Drop.f; rw [if_pos HL.out, if_pos HN.out]⟩
        have HG1 : Aside0 (value_Find.f l0 a2 = some (findR l0 a2)) := ⟨by unfold value_Find.f; rw [if_pos HL.out]⟩
        have HG2 : Aside0 (value_Find.f (dropR l0 l1) a2 = some (findR (dropR l0 l1) a2)) := ⟨by unfold value_Find.f; rw [if_pos (by have := HL.out; have := HLEN.out; omega)]⟩
        have HF2 : Aside0 (value_Drop.f (dropR l0 l1) l1 = some (dropR l0 l1)) := ⟨by unfold value_Drop.f; rw [if_pos (by have := HL.out; have := HLEN.out; omega), if_pos HN.out, HD2.out]⟩
        have HRT2 := Aside0.mk (right_f (l := dropR l0 l1) (k := (dropR l0 l1).length + 2) (by have := HL.out; have := HLEN.out; omega) (Nat.le_refl _))
        rw [HD1.out.2] at HRT2
        have HSM := Aside0.mk (refSame_f (l := dropR l0 l1) (k := (dropR l0 l1).length + 1) (by have := HL.out; have := HLEN.out; omega) (Nat.le_refl _))
        revert HF1 HG1 HG2 HF2 HRT2 HSM HD3 HLEN
        generalize dropR l0 l1 = m
        intro HD3 HLEN HF1 HG1 HG2 HF2 HRT2 HSM
        clear HD1 HD2 HTR1
        go_wp2_with fail
        refine (value_Drop.calls (fun k_ => k_ < w.heap.size) _ _ l0 _ _ l1 m _ (Kd.V_mk HC0.out (Kd.F_below (Kd.C_F k30_heap HR0.out) HB.out)) (Kd.C_below HR1.out HB.out) HC1.out HF1.out).mono ?_
        rintro e w1 ⟨v1, rfl, ho0, hb⟩
        obtain ⟨Am, cm, rfl⟩ := Kd.N_slice ho0
        have HM := Aside0.mk (Kd.N_reads' ho0).2.2
        have HCM := Aside0.mk (Kd.N_reads' ho0).2.1
        have HB1 := Aside0.mk (below_step HB.out hb)
        clear HB hb ho0
        go_wp2_with fail
        refine (value_Drop.calls (fun k_ => k_ < w1.heap.size) _ _ m _ _ l1 m _ (Kd.V_mk HCM.out (Kd.C_F k30_heap HM.out)) (Kd.C_below HR1.out HB1.out) HC1.out HF2.out).mono ?_
        rintro e w2 ⟨v2, rfl, ho0, hb⟩
        obtain ⟨An, cn, rfl⟩ := Kd.N_slice ho0
        have HA1 := Aside0.mk (Kd.N_reads' ho0).2.2
        have HCA := Aside0.mk (Kd.N_reads' ho0).2.1
        have HB2 := Aside0.mk (below_step HB1.out hb)
        have HBM := Aside0.mk hb
        clear hb ho0
        go_wp2_with fail
        refine (selvageref02_Same.calls (m.length + 1) _ _ m _ _ m true _ HA1.out HCA.out (Kd.C_below HM.out HBM.out) HCM.out HSM.out).mono ?_
        rintro e w' ⟨rfl, ⟨nd, rfl⟩⟩
        clear HA1 HCA HF1 HF2
        go_wp2
        have HR1b := Aside0.mk (Kd.C_drewN (Kd.C_below HR1.out HB2.out) nd)
        have HMb := Aside0.mk (Kd.C_drewN (Kd.C_below HM.out HBM.out) nd)
        have HB3 : Aside0 (Below w.heap.size w (w2.drewN nd)) := ⟨HB2.out.trans ⟨rfl, rfl, rfl, Nat.le_refl _, fun _ _ => rfl⟩⟩
        have HR0b := Aside0.mk (Kd.C_drewN (Kd.C_below HR0.out HB2.out) nd)
        revert HR1b HMb HB3 HR0b
        generalize w2.drewN nd = w3
        intro HR1b HMb HB3 HR0b
        clear HM HB1 HB2 HBM HR0 HR1
        go_loop [11, 12] (fun v11 v12 => ∃ k : Nat, k ≤ l1.length ∧ v12 = .int .i64 k ∧ v11 = .bool (inTo l1 a2 k)) (fun _ v12 => l1.length - (intOf v12).toNat)
        case atStart => exact ⟨0, Nat.zero_le _, rfl, by rw [inTo_zero]⟩
        case round =>
          obtain ⟨k, hk, rfl, rfl⟩ := hrel
          have hn := HN.out
          by_cases hlt : k < l1.length
          · have t0 : decide (k < l1.length) = true := decide_eq_true hlt
            have t1 : decide ((k : Int) < (l1.length : Int)) = true := decide_eq_true (by omega)
            obtain ⟨ad, ead, hx⟩ := Kd.at_int HR1b.out (k : Int) (by omega) (by omega)
            rw [Int.toNat_natCast] at hx
            cases ead
            have hq0 : (0 : Int) ≤ (k : Int) := by omega
            have hq1 : (k : Int) < (l1.length : Int) := by omega
            have HS := Aside0.mk (inTo_succ l1 a2 k hlt)
            revert HS
            generalize hib : inTo l1 a2 k = ib
            clear hib
            cases ib with
            | true =>
              intro HS
              go_wp2
              go_round
              case rel => exact ⟨k + 1, by omega, by go_num, by rw [HS.out]; rfl⟩
              case measure => simp [intOf]; omega
            | false =>
              intro HS
              go_wp2
              go_round
              case rel => exact ⟨k + 1, by omega, by go_num, by rw [HS.out]; rfl⟩
              case measure => simp [intOf]; omega
          · have t0 : decide (k < l1.length) = false := decide_eq_false hlt
            have t1 : decide ((k : Int) < (l1.length : Int)) = false := decide_eq_false (by omega)
            have HALL := Aside0.mk (inTo_all l1 a2 k (by omega))
            revert HALL
            generalize inTo l1 a2 k = ib
            intro HALL
            clear hk hlt
            obtain ⟨fa, fb, fi, hfi⟩ : ∃ a b c, findR l0 a2 = (a, b, c) := ⟨_, _, _, rfl⟩
            obtain ⟨ga, gb, gi, hgi⟩ : ∃ a b c, findR m a2 = (a, b, c) := ⟨_, _, _, rfl⟩
            rw [hfi] at HG1
            rw [hgi] at HG2
            rw [hfi, hgi, ← HALL.out] at HD3
            clear hfi hgi HALL
            go_wp2_with fail
            refine (value_Find.calls _ _ l0 a2 fa fb fi _ HR0b.out HC0.out HG1.out).mono ?_
            rintro e w4 ⟨rfl, hb⟩
            have HB4 := Aside0.mk (below_step HB3.out hb)
            have HM4 := Aside0.mk (Kd.C_below HMb.out hb)
            have HR04 := Aside0.mk (Kd.C_below HR0b.out hb)
            clear hb HB3 HR0b HMb
            go_wp2_with fail
            refine (value_Find.calls _ _ m a2 ga gb gi _ HM4.out HCM.out HG2.out).mono ?_
            rintro e w5 ⟨rfl, hb⟩
            have HB5 := Aside0.mk (below_step HB4.out hb)
            have HM5 := Aside0.mk (Kd.C_below HM4.out hb)
            have HR05 := Aside0.mk (Kd.C_below HR04.out hb)
            clear hb HB4 HM4 HR04
            go_wp2_with fail
            refine (value_Right.calls (m.length + 2) _ _ m true _ HM5.out HCM.out HRT2.out).mono ?_
            rintro e w6 ⟨rfl, hb⟩
            have HB6 := Aside0.mk (below_step HB5.out hb)
            have HM6 := Aside0.mk (Kd.C_below HM5.out hb)
            have HR06 := Aside0.mk (Kd.C_below HR05.out hb)
            clear hb HB5 HM5 HR05
            have t2 : decide ((m.length : Int) > (l0.length : Int)) = false := decide_eq_false (by have := HLEN.out; omega)
            have t3 : decide ((l0.length : Int) < (m.length : Int)) = false := decide_eq_false (by have := HLEN.out; omega)
            have t4 : decide (l0.length < m.length) = false := decide_eq_false (by have := HLEN.out; omega)
            cases gi with
            | false =>
              have HFI : Aside0 (fi = false ∨ ib = false) := ⟨by have := HD3.out.1; cases fi <;> cases ib <;> first | exact .inl rfl | exact .inr rfl | cases this⟩
              cases fi with
              | false =>
                go_wp2
                go_quiet (fail)
                go_wp2
                go_ret
                exact ⟨rfl, pw_below_drewN HB6.out _⟩
              | true =>
                cases ib with
                | false =>
                  go_wp2
                  go_quiet (fail)
                  go_wp2
                  go_ret
                  exact ⟨rfl, pw_below_drewN HB6.out _⟩
                | true => exact absurd HFI.out (by decide)
            | true =>
              have HFI : Aside0 (fi = true ∧ ib = true) := ⟨by have := HD3.out.1; cases fi <;> cases ib <;> first | exact ⟨rfl, rfl⟩ | cases this⟩
              obtain ⟨rfl, rfl⟩ := HFI.out
              obtain ⟨a, b, c, d, e1, e2, g1, g2, g3, g4, g5⟩ := HD3.out.2 rfl
              clear HD3 HFI
              have hfa : fa = (a : Int) := congrArg Prod.fst e1
              have hfb : fb = (b : Int) := congrArg (fun x => x.2.1) e1
              have hga : ga = (c : Int) := congrArg Prod.fst e2
              have hgb : gb = (d : Int) := congrArg (fun x => x.2.1) e2
              clear e1 e2
              obtain ⟨i0, hi0, hz0, hsz0, hby0⟩ := info_parts info30
              have hcut1 := cut_mid (P := Try.prog) 22 30 .i64 .i64 Try.underlying22 hi0 4 hsz0 A0 l0.length c0 fa fb (by omega) (by omega) (by omega) HC0.out
              have hcut2 := cut_mid (P := Try.prog) 22 30 .i64 .i64 Try.underlying22 hi0 4 hsz0 Am m.length cm ga gb (by omega) (by omega) (by omega) HCM.out
              have hS1 := Kd.C_mid (c := c0) HR06.out (Nat.le_of_lt g1) g2 HC0.out
              have hS2 := Kd.C_mid (c := cm) HM6.out (Nat.le_of_lt g3) g4 HCM.out
              have n1 : fa.toNat = a := by omega
              have n2 : fb.toNat = b := by omega
              have n3 : ga.toNat = c := by omega
              have n4 : gb.toNat = d := by omega
              rw [n1, n2] at hcut1
              rw [n3, n4] at hcut2
              have q0 : (0 : Int) ≤ fa := by omega
              have q1 : fb ≤ (l0.length : Int) := by omega
              have q2 : fa < fb := by omega
              have q2' : fa ≤ fb := by omega
              have q3 : gb ≤ (m.length : Int) := by omega
              have q4 : ga < gb := by omega
              have q4' : ga ≤ gb := by omega
              have q5 : (0 : Int) ≤ ga := by omega
              clear hfa hfb hga hgb n1 n2 n3 n4
              have e1 : ((l0.take b).drop a).length = b - a := by rw [List.length_drop, List.length_take]; omega
              have e2 : ((m.take d).drop c).length = d - c := by rw [List.length_drop, List.length_take]; omega
              rw [← e1] at hcut1
              rw [← e2] at hcut2
              rw [← g5] at hS2 hcut2
              have hn1 : ((l0.take b).drop a).length ≤ c0 - a := by rw [e1]; have := HC0.out; omega
              have hn2 : ((l0.take b).drop a).length ≤ cm - c := by rw [g5, e2]; have := HCM.out; omega
              have hsm := refSame_f (l := (l0.take b).drop a) (k := ((l0.take b).drop a).length + 1) (by rw [e1]; have := HL.out; omega) (Nat.le_refl _)
              clear e1 e2 g5 g1 g2 g3 g4 hi0 hz0 hsz0 hby0
              obtain ⟨Aq, hAq⟩ : ∃ A, A = (if c0 = a then A0 else A0.map (·.add (a * 4))) := ⟨_, rfl⟩
              obtain ⟨An', hAn'⟩ : ∃ A, A = (if cm = c then Am else Am.map (·.add (c * 4))) := ⟨_, rfl⟩
              rw [← hAq] at hcut1
              rw [← hAn'] at hcut2
              replace hS1 : Kd.C k30 w6 Aq ((l0.take b).drop a).length ((l0.take b).drop a) := by rw [hAq]; exact hS1
              replace hS2 : Kd.C k30 w6 An' ((l0.take b).drop a).length ((l0.take b).drop a) := by rw [hAn']; exact hS2
              clear hAq hAn'
              generalize (l0.take b).drop a = q at hcut1 hcut2 hS1 hS2 hn1 hn2 hsm
              generalize c0 - a = cq at hcut1 hn1
              generalize cm - c = cn' at hcut2 hn2
              clear a b c d
              have HS1 := Aside0.mk hS1
              have HS2 := Aside0.mk hS2
              have HSM2 := Aside0.mk hsm
              have HN1 := Aside0.mk hn1
              have HN2 := Aside0.mk hn2
              clear hS1 hS2 hn1 hn2 hsm
              go_wp2
              go_quiet ((go_at_call 18; (refine (selvageref02_Same.calls (q.length + 1) _ _ q _ _ q true _ (Kd.C_drewN HS1.out _) HN1.out (Kd.C_drewN HS2.out _) HN2.out HSM2.out).mono ?_); rintro e w' ⟨rfl, ⟨nd, rfl⟩⟩; exact ⟨rfl, _, World.drewN_drewN _ _ _⟩))
              go_wp2
              go_ret
              exact ⟨rfl, pw_below_drewN HB6.out _⟩
  · rw [if_neg hok] at h; cases h


/-- THE ONE PURE STATEMENT of selvagelaw02_ValueDrops: yours. -/
def selvagelaw02_ValueDrops.Pure : Prop := ∀ (x0 : List (S30)) (x1 : List Int) (x2 : Int), (x0.length ≤ maxLen ∧ x0.length * 48 ≤ 140737488351232 ∧ ∀ yx0 ∈ x0, good30 yx0) → (x1.length ≤ maxLen ∧ x1.length * 8 ≤ 140737488351232 ∧ ∀ yx1 ∈ x1, (Lit.int .i64 yx1).wf = true) → (Lit.int .i64 x2).wf = true → selvagelaw02_ValueDrops.f x0 x1 x2 = some true
theorem selvagelaw02_ValueDrops.walk (P : selvagelaw02_ValueDrops.Pure) (x0 : List (S30)) (x1 : List Int) (x2 : Int) (w : World) (A0 : Option Addr) (c0 : Nat) (A1 : Option Addr) (c1 : Nat) (g0 : (x0.length ≤ maxLen ∧ x0.length * 48 ≤ 140737488351232 ∧ ∀ yx0 ∈ x0, good30 yx0)) (g1 : (x1.length ≤ maxLen ∧ x1.length * 8 ≤ 140737488351232 ∧ ∀ yx1 ∈ x1, (Lit.int .i64 yx1).wf = true)) (g2 : (Lit.int .i64 x2).wf = true) (hr0 : Kd.F k30 w (fun _ => True) A0 x0.length x0) (hc0 : x0.length ≤ c0) (hr1 : Kd.F (Kd.int .i64) w (fun _ => True) A1 x1.length x1) (hc1 : x1.length ≤ c1) :
    Calls Try.prog 7 #[.slice A0 x0.length c0, .slice A1 x1.length c1, .int .i64 x2] w fun e w' => e = .returned (.bool true) ∧ Below w.heap.size w w' := by
  have h := P x0 x1 x2 g0 g1 g2
  refine (selvagelaw02_ValueDrops.calls _ _ x0 _ _ x1 x2 true w (Kd.F_now hr0) hc0 (Kd.F_now hr1) hc1 h).mono ?_
  rintro e w' ⟨rfl, hd⟩
  exact ⟨rfl, hd⟩

end Go.Proofs.Ytmiijakcmbolfaa.P
