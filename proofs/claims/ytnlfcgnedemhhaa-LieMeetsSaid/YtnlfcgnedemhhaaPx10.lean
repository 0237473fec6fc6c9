-- Printed by a program of this session over the kit's print: all laws of the seat in one namespace, some texts by hand.
import Derived.Test.YtnlfcgnedemhhaaPx0
import Derived.Test.YtnlfcgnedemhhaaPx5
import Derived.Test.YtnlfcgnedemhhaaPx9
import Derived.Test.YtnlfcgnedemhhaaWalkAwake
import Derived.Test.YtnlfcgnedemhhaaMathMeets
import Derived.Deep.RegionHeld3
import Derived.Deep.RegionWith
namespace Go.Proofs.Ytnlfcgnedemhhaa.P
open Go.RowKit Go.Proofs.YtnlfcgnedemhhaaW.PrintWords Go.Proofs.YtnlfcgnedemhhaaW.PrintLast Go.Proofs.YtnlfcgnedemhhaaW.PrintMore
attribute [local go_sem] max2_int min2_int max_two min_two max_three min_three max_four min_four   -- for this text's walks alone
set_option linter.unusedVariables false
set_option linter.unusedSimpArgs false

--HAND Derived.Test.YtnlfcgnedemhhaaWalkAwake Derived.Test.YtnlfcgnedemhhaaMathMeets Derived.Deep.RegionHeld3 Derived.Deep.RegionWith
/-! ### selvagelaw09_LieMeets: function 4, by hand -/
-- a hand text for the law LieMeets
theorem mt_twelve_below {W w' : World} {a0 a1 a2 a3 a4 a5 a6 a7 a8 a9 a10 a11 : Addr} {u0 u1 u2 u3 u4 u5 u6 u7 u8 u9 u10 u11 : Value} (hb : Below W.heap.size W w')
    (h : W.cell? a0 = some u0 ∧ W.cell? a1 = some u1 ∧ W.cell? a2 = some u2 ∧ W.cell? a3 = some u3 ∧ W.cell? a4 = some u4 ∧ W.cell? a5 = some u5 ∧ W.cell? a6 = some u6 ∧ W.cell? a7 = some u7 ∧ W.cell? a8 = some u8 ∧ W.cell? a9 = some u9 ∧ W.cell? a10 = some u10 ∧ W.cell? a11 = some u11) :
    w'.cell? a0 = some u0 ∧ w'.cell? a1 = some u1 ∧ w'.cell? a2 = some u2 ∧ w'.cell? a3 = some u3 ∧ w'.cell? a4 = some u4 ∧ w'.cell? a5 = some u5 ∧ w'.cell? a6 = some u6 ∧ w'.cell? a7 = some u7 ∧ w'.cell? a8 = some u8 ∧ w'.cell? a9 = some u9 ∧ w'.cell? a10 = some u10 ∧ w'.cell? a11 = some u11 := by
  obtain ⟨h0, h1, h2, h3, h4, h5, h6, h7, h8, h9, h10, h11⟩ := h
  exact ⟨pw_cell_below hb h0, pw_cell_below hb h1, pw_cell_below hb h2, pw_cell_below hb h3, pw_cell_below hb h4, pw_cell_below hb h5, pw_cell_below hb h6, pw_cell_below hb h7, pw_cell_below hb h8, pw_cell_below hb h9, pw_cell_below hb h10, pw_cell_below hb h11⟩

def selvagelaw09_LieMeets.f (p0 p1 p2 p3 p4 p5 q0 q1 q2 q3 q4 q5 a2 : Int) : Option Bool := some true

set_option maxRecDepth 100000 in
set_option maxHeartbeats 8000000 in
theorem selvagelaw09_LieMeets.calls (p0 p1 p2 p3 p4 p5 q0 q1 q2 q3 q4 q5 a2 : Int) (r : Bool) (w : World) (h : selvagelaw09_LieMeets.f p0 p1 p2 p3 p4 p5 q0 q1 q2 q3 q4 q5 a2 = some r) :
    Calls Try.prog 4 #[.agg #[.int .i64 p0, .int .i64 p1, .int .i64 p2, .int .i64 p3, .int .i64 p4, .int .i64 p5], .agg #[.int .i64 q0, .int .i64 q1, .int .i64 q2, .int .i64 q3, .int .i64 q4, .int .i64 q5], .int .i64 a2] w fun e w' => e = .returned (.bool r) ∧ Below w.heap.size w w' := by
  cases h
  have HB := Aside0.mk (Below.refl w.heap.size w)
  go_enter Try.func4, Try.ntmps4
  go_wp2_with (first
    | ((with_reducible refine gate_dst (N := 3) rfl ?_); refine box_event ?hg (N := 3) ?hd (cs := #[.int .i64 p0, .int .i64 p1, .int .i64 p2, .int .i64 p3, .int .i64 p4, .int .i64 p5]) (t := 23) ?hr ?_; (case hd => rfl); (case hg => rfl); (case hr => first | (go_simp; done) | (go_simp; rfl)); intro b2 hg2 w1 hbox hb; have HB1 := Aside0.mk (below_step HB.out hb); have HX2 := Aside0.mk hbox; clear hg2 hbox hb HB)
    | ((with_reducible refine gate_dst (N := 4) rfl ?_); refine box_event ?hg (N := 4) ?hd (cs := #[.int .i64 q0, .int .i64 q1, .int .i64 q2, .int .i64 q3, .int .i64 q4, .int .i64 q5]) (t := 23) ?hr ?_; (case hd => rfl); (case hg => rfl); (case hr => first | (go_simp; done) | (go_simp; rfl)); intro b3 hg3 w2 hbox hb; have HB2 := Aside0.mk (below_step HB1.out hb); have HX3 := Aside0.mk hbox; have HX2 := Aside0.mk (blk_below HX2.out hb); clear hg3 hbox hb HB1))
  refine (awake_q _).mono ?_
  rintro e w3 ⟨rfl, hb⟩
  have HB3 := Aside0.mk (below_step HB2.out hb)
  have x2 := blk_below HX2.out hb
  have x3 := blk_below HX3.out hb
  have HP := Aside0.mk x2
  have HQ := Aside0.mk x3
  clear hb HB2 HX2 HX3
  have c0 := (blk_cell x2 0).trans rfl
  have c1 := (blk_cell x2 1).trans rfl
  have c2 := (blk_cell x2 2).trans rfl
  have c3 := (blk_cell x2 3).trans rfl
  have c4 := (blk_cell x2 4).trans rfl
  have c5 := (blk_cell x2 5).trans rfl
  clear x2 x3
  go_wp2_with fail
  refine (new_q w w3 (⟨p0, p1, p2, p3, p4, p5⟩ : L.Port) HB3.out).mono ?_
  rintro e w4 (⟨hr1, g1, rfl, hg1, hI, hb⟩ | ⟨hr1, rfl, hb⟩)
  · have HB4 := Aside0.mk (below_step HB3.out hb)
    have HR1 := Aside0.mk hr1
    have HI4 := Aside0.mk hI
    have HP4 := Aside0.mk (blk_below HP.out hb)
    have x3 := blk_below HQ.out hb
    have HQ4 := Aside0.mk x3
    clear hb hr1 hg1 hI c0 c1 c2 c3 c4 c5 HB3 HP HQ
    have c0 := (blk_cell x3 0).trans rfl
    have c1 := (blk_cell x3 1).trans rfl
    have c2 := (blk_cell x3 2).trans rfl
    have c3 := (blk_cell x3 3).trans rfl
    have c4 := (blk_cell x3 4).trans rfl
    have c5 := (blk_cell x3 5).trans rfl
    clear x3
    go_wp2_with fail
    refine (new_q w w4 (⟨q0, q1, q2, q3, q4, q5⟩ : L.Port) HB4.out).mono ?_
    rintro e w5 (⟨hr2, g2, rfl, hg2, hJ, hb⟩ | ⟨hr2, rfl, hb⟩)
    · have HB5 := Aside0.mk (below_step HB4.out hb)
      have HR2 := Aside0.mk hr2
      have HJ5 := Aside0.mk hJ
      have HI5 := Aside0.mk (IsS57.below HI4.out hb)
      have HNE := Aside0.mk (show g1 ≠ g2 from fun e => by have := HI4.out.lt; omega)
      have HN3 := Aside0.mk (show b3 ≠ g1 from fun e => by have h1 := HI4.out.1; have h2 := HQ4.out; rw [e, h1] at h2; cases h2)
      have HN4 := Aside0.mk (show b3 ≠ g2 from fun e => by have := blk_lt HQ4.out; omega)
      have x2 := blk_below HP4.out hb
      have x3 := blk_below HQ4.out hb
      have HX2 := Aside0.mk x2
      have HX3 := Aside0.mk x3
      clear hb hr2 hg2 hJ c0 c1 c2 c3 c4 c5 HB4 HP4 HQ4 HI4
      have c0 := (blk_cell x2 0).trans rfl
      have c1 := (blk_cell x2 1).trans rfl
      have c2 := (blk_cell x2 2).trans rfl
      have c3 := (blk_cell x2 3).trans rfl
      have c4 := (blk_cell x2 4).trans rfl
      have c5 := (blk_cell x2 5).trans rfl
      have d0 := (blk_cell x3 0).trans rfl
      have d1 := (blk_cell x3 1).trans rfl
      have d2 := (blk_cell x3 2).trans rfl
      have d3 := (blk_cell x3 3).trans rfl
      have d4 := (blk_cell x3 4).trans rfl
      have d5 := (blk_cell x3 5).trans rfl
      clear x2 x3
      by_cases h1 : a2 < 2
      · have t0 : decide (a2 < 2) = true := decide_eq_true h1
        go_wp2
        go_ret
        exact ⟨rfl, HB5.out⟩
      by_cases h2 : a2 > 60
      · have t0 : decide (a2 < 2) = false := decide_eq_false h1
        have t1 : decide (a2 > 60) = true := decide_eq_true h2
        have t2 : decide (60 < a2) = true := decide_eq_true h2
        go_wp2
        go_ret
        exact ⟨rfl, HB5.out⟩
      by_cases h3 : p5 < 2
      · have t0 : decide (a2 < 2) = false := decide_eq_false h1
        have t1 : decide (a2 > 60) = false := decide_eq_false h2
        have t2 : decide (60 < a2) = false := decide_eq_false h2
        have t3 : decide (p5 < 2) = true := decide_eq_true h3
        go_wp2
        go_ret
        exact ⟨rfl, HB5.out⟩
      by_cases h4 : q5 < 2
      · have t0 : decide (a2 < 2) = false := decide_eq_false h1
        have t1 : decide (a2 > 60) = false := decide_eq_false h2
        have t2 : decide (60 < a2) = false := decide_eq_false h2
        have t3 : decide (p5 < 2) = false := decide_eq_false h3
        have t4 : decide (q5 < 2) = true := decide_eq_true h4
        go_wp2
        go_ret
        exact ⟨rfl, HB5.out⟩
      have t0 : decide (a2 < 2) = false := decide_eq_false h1
      have t1 : decide (a2 > 60) = false := decide_eq_false h2
      have t2 : decide (60 < a2) = false := decide_eq_false h2
      have t3 : decide (p5 < 2) = false := decide_eq_false h3
      have t4 : decide (q5 < 2) = false := decide_eq_false h4
      have bp := L.port_within HR1.out
      have bq := L.port_within HR2.out
      simp only at bp bq
      have HLP := Aside0.mk (show -9223372036854775808 ≤ p1 ∧ p1 < 9223372036854775808 by omega)
      have HLQ := Aside0.mk (show -9223372036854775808 ≤ q1 ∧ q1 < 9223372036854775808 by omega)
      have HQ5 := Aside0.mk (show 0 ≤ q5 ∧ q5 ≤ 1000 by omega)
      have HA2 := Aside0.mk (show 2 ≤ a2 ∧ a2 ≤ 60 by omega)
      have HH2 := Aside0.mk (show 2 ≤ p5 ∧ 2 ≤ q5 by omega)
      clear bp bq h1 h2 h3 h4
      go_upto_region 6 with (fail)
      clear t0 t1 t2 t3 t4
      obtain ⟨f, hf⟩ : ∃ f, L.accepts (⟨p0, p1, p2, p3, p4, p5⟩ : L.Port) (L.say (L.new (⟨q0, q1, q2, q3, q4, q5⟩ : L.Port))) = f := ⟨_, rfl⟩
      have HF := Aside0.mk hf
      have HG := Aside0.mk ((L.both_law (⟨p0, p1, p2, p3, p4, p5⟩ : L.Port) (⟨q0, q1, q2, q3, q4, q5⟩ : L.Port)).symm.trans hf)
      clear hf
      (try simp only [Act.put, List.setIfInBounds_toArray, List.set_cons_zero, List.set_cons_succ])
      go_cut [12] (fun v12 wc => v12 = .bool f ∧ Aside0 (IsL w wc g1 (L.new (⟨p0, p1, p2, p3, p4, p5⟩ : L.Port))) ∧ Aside0 (IsL w wc g2 (L.new (⟨q0, q1, q2, q3, q4, q5⟩ : L.Port))) ∧ Aside0 (Below w.heap.size w wc) ∧ Aside0 (wc.heap[b3]? = some (.cells #[.int .i64 q0, .int .i64 q1, .int .i64 q2, .int .i64 q3, .int .i64 q4, .int .i64 q5] 23 (0, 0))))
      case first =>
        have HAP : Aside0 (∀ W, Calls Try.prog 10 #[.agg #[.int .i64 p0, .int .i64 p1, .int .i64 p2, .int .i64 p3, .int .i64 p4, .int .i64 p5], lieV (L.say (L.new (⟨q0, q1, q2, q3, q4, q5⟩ : L.Port)))] W fun e w' => e = .returned (.bool (L.accepts (⟨p0, p1, p2, p3, p4, p5⟩ : L.Port) (L.say (L.new (⟨q0, q1, q2, q3, q4, q5⟩ : L.Port))))) ∧ Below W.heap.size W w') := ⟨fun W => lie_Accepts.calls (⟨p0, p1, p2, p3, p4, p5⟩ : L.Port) _ W HLP.out HLQ.out⟩
        have HAQ : Aside0 (∀ W, Calls Try.prog 10 #[.agg #[.int .i64 q0, .int .i64 q1, .int .i64 q2, .int .i64 q3, .int .i64 q4, .int .i64 q5], lieV (L.say (L.new (⟨p0, p1, p2, p3, p4, p5⟩ : L.Port)))] W fun e w' => e = .returned (.bool (L.accepts (⟨q0, q1, q2, q3, q4, q5⟩ : L.Port) (L.say (L.new (⟨p0, p1, p2, p3, p4, p5⟩ : L.Port))))) ∧ Below W.heap.size W w') := ⟨fun W => lie_Accepts.calls (⟨q0, q1, q2, q3, q4, q5⟩ : L.Port) _ W HLQ.out HLP.out⟩
        rw [HF.out] at HAP
        rw [HG.out] at HAQ
        have HSP : Aside0 (∀ W, IsL w W g1 (L.new (⟨p0, p1, p2, p3, p4, p5⟩ : L.Port)) → Calls Try.prog 13 #[.pointer (some ⟨g1, 0, none⟩)] W fun e w' => e = .returned (lieV (L.say (L.new (⟨p0, p1, p2, p3, p4, p5⟩ : L.Port)))) ∧ Below W.heap.size W w') := ⟨fun W h => say_q w W g1 _ h⟩
        have HSQ : Aside0 (∀ W, IsL w W g2 (L.new (⟨q0, q1, q2, q3, q4, q5⟩ : L.Port)) → Calls Try.prog 13 #[.pointer (some ⟨g2, 0, none⟩)] W fun e w' => e = .returned (lieV (L.say (L.new (⟨q0, q1, q2, q3, q4, q5⟩ : L.Port)))) ∧ Below W.heap.size W w') := ⟨fun W h => say_q w W g2 _ h⟩
        have HKI : Aside0 (∀ W w', IsL w W g1 (L.new (⟨p0, p1, p2, p3, p4, p5⟩ : L.Port)) → Below W.heap.size W w' → IsL w w' g1 (L.new (⟨p0, p1, p2, p3, p4, p5⟩ : L.Port))) := ⟨fun W w' h hb => IsS57.below h hb⟩
        have HKJ : Aside0 (∀ W w', IsL w W g2 (L.new (⟨q0, q1, q2, q3, q4, q5⟩ : L.Port)) → Below W.heap.size W w' → IsL w w' g2 (L.new (⟨q0, q1, q2, q3, q4, q5⟩ : L.Port))) := ⟨fun W w' h hb => IsS57.below h hb⟩
        have HIC : Aside0 (IsL w w5.drew g1 (L.new (⟨p0, p1, p2, p3, p4, p5⟩ : L.Port))) := ⟨HI5.out.drew⟩
        have HJC : Aside0 (IsL w w5.drew g2 (L.new (⟨q0, q1, q2, q3, q4, q5⟩ : L.Port))) := ⟨HJ5.out.drew⟩
        have HBC5 := Aside0.mk (below_drew1 HB5.out)
        have HXC : Aside0 (w5.drew.heap[b3]? = some (.cells #[.int .i64 q0, .int .i64 q1, .int .i64 q2, .int .i64 q3, .int .i64 q4, .int .i64 q5] 23 (0, 0))) := ⟨blk_drew HX3.out⟩
        clear HF HG HLP HLQ HI5 HJ5 HB5 HX2 HX3 HR1 HR2
        generalize L.say (L.new (⟨p0, p1, p2, p3, p4, p5⟩ : L.Port)) = xp at HAQ HSP
        generalize L.say (L.new (⟨q0, q1, q2, q3, q4, q5⟩ : L.Port)) = xq at HAP HSQ
        obtain ⟨xp0, xp1, xp2, xp3, xp4, xp5, xp6, xp7, xp8, xp9, xp10, xp11⟩ := xp
        obtain ⟨xq0, xq1, xq2, xq3, xq4, xq5, xq6, xq7, xq8, xq9, xq10, xq11⟩ := xq
        unfold lieV at HAP HAQ HSP HSQ
        simp only at HAP HAQ HSP HSQ
        have hS := And.intro c0 (And.intro c1 (And.intro c2 (And.intro c3 (And.intro c4 (And.intro c5 (And.intro d0 (And.intro d1 (And.intro d2 (And.intro d3 (And.intro d4 (d5)))))))))))
        have hbz := Below.refl w5.heap.size w5
        cases f with
        | true =>
          go_region_held3 (fun w' => w'.cell? ⟨b2, 0, none⟩ = some (.int .i64 p0) ∧ w'.cell? ⟨b2, 1, none⟩ = some (.int .i64 p1) ∧ w'.cell? ⟨b2, 2, none⟩ = some (.int .i64 p2) ∧ w'.cell? ⟨b2, 3, none⟩ = some (.int .i64 p3) ∧ w'.cell? ⟨b2, 4, none⟩ = some (.int .i64 p4) ∧ w'.cell? ⟨b2, 5, none⟩ = some (.int .i64 p5) ∧ w'.cell? ⟨b3, 0, none⟩ = some (.int .i64 q0) ∧ w'.cell? ⟨b3, 1, none⟩ = some (.int .i64 q1) ∧ w'.cell? ⟨b3, 2, none⟩ = some (.int .i64 q2) ∧ w'.cell? ⟨b3, 3, none⟩ = some (.int .i64 q3) ∧ w'.cell? ⟨b3, 4, none⟩ = some (.int .i64 q4) ∧ w'.cell? ⟨b3, 5, none⟩ = some (.int .i64 q5))
            (first | (refine mt_twelve_below hbz ?_; first | assumption | go_keep) | go_keep)
            (first
              | (go_at_call 13; (with_reducible refine (HSQ.out _ HJC.out).mono ?_); rintro e' wa ⟨rfl, hbz⟩; have HBA := Aside0.mk (below_step HBC5.out hbz); have HIA := Aside0.mk (HKI.out _ _ HIC.out hbz); have HJA := Aside0.mk (HKJ.out _ _ HJC.out hbz); have HXA := Aside0.mk (blk_below HXC.out hbz))
              | (go_at_call 10; (with_reducible refine (HAP.out _).mono ?_); rintro e' wb ⟨rfl, hbz⟩; have HBB := Aside0.mk (below_step HBA.out hbz); have HIB := Aside0.mk (HKI.out _ _ HIA.out hbz); have HJB := Aside0.mk (HKJ.out _ _ HJA.out hbz); have HXB := Aside0.mk (blk_below HXA.out hbz))
              | (go_at_call 13; (with_reducible refine (HSP.out _ HIB.out).mono ?_); rintro e' wc ⟨rfl, hbz⟩; have HBC := Aside0.mk (below_step HBB.out hbz); have HID := Aside0.mk (HKI.out _ _ HIB.out hbz); have HJD := Aside0.mk (HKJ.out _ _ HJB.out hbz); have HXD := Aside0.mk (blk_below HXB.out hbz))
              | (go_at_call 10; (with_reducible refine (HAQ.out _).mono ?_); rintro e' wd ⟨rfl, hbz⟩; have HBD := Aside0.mk (below_step HBC.out hbz); have HIE := Aside0.mk (HKI.out _ _ HID.out hbz); have HJE := Aside0.mk (HKJ.out _ _ HJD.out hbz); have HXE := Aside0.mk (blk_below HXD.out hbz)))
          all_goals go_wp2
          all_goals
            go_meet
            case rel => exact ⟨rfl, HIE, HJE, HBD, HXE⟩
        | false =>
          refine start_ (n := 11) (S := fun w' => w'.cell? ⟨b2, 0, none⟩ = some (.int .i64 p0) ∧ w'.cell? ⟨b2, 1, none⟩ = some (.int .i64 p1) ∧ w'.cell? ⟨b2, 2, none⟩ = some (.int .i64 p2) ∧ w'.cell? ⟨b2, 3, none⟩ = some (.int .i64 p3) ∧ w'.cell? ⟨b2, 4, none⟩ = some (.int .i64 p4) ∧ w'.cell? ⟨b2, 5, none⟩ = some (.int .i64 p5)) (ds := []) #[false, false, false, false, false, false, false, false, false, false, false] (by kernel_rfl) rfl rfl ⟨c0, c1, c2, c3, c4, c5⟩ (fun hHeld => ?_)
          refine take_ (i := 0) (N := some 54) (v := ?_) (a' := ?_) #[true, false, false, false, false, false, false, false, false, false, false] rfl rfl (by kernel_rfl) (fun _ _ _ h => h) (Or.inl ⟨by rfl, ?_⟩) hHeld ?_ ?_
          rotate_left
          · rintro w' ⟨s0, s1, s2, s3, s4, s5⟩
            go_simp
            first | done | with_reducible rfl
          rotate_left
          · simp only [Act.put, List.setIfInBounds_toArray, List.set_cons_zero, List.set_cons_succ]
            rfl
          refine pure_ (i := 1) (N := some 55) (v := ?_) (a' := ?_) #[true, true, false, false, false, false, false, false, false, false, false] rfl rfl (by kernel_rfl) (fun _ _ _ h => h) (Or.inl ⟨by rfl, ?_⟩) ?_ ?_
          rotate_left
          · intro w'
            go_simp
            first | done | with_reducible rfl
          rotate_left
          · simp only [Act.put, List.setIfInBounds_toArray, List.set_cons_zero, List.set_cons_succ]
            rfl
          refine one_ (i := 2) (N := some 56) #[true, true, true, false, false, false, false, false, false, false, false] rfl rfl (by kernel_rfl) (by decide) (fun K hK => ?_)
          refine goes_ Try.func13 (by kernel_rfl) rfl #[.pointer (some ⟨g2, 0, none⟩)] (by rfl) rfl rfl (by (try simp only [List.map_toArray, List.map_cons, List.map_nil]); first | done | rfl) ?_
          with_reducible refine (HSQ.out _ HJC.out).mono ?_
          rintro e' wa ⟨rfl, hb⟩
          refine ⟨_, rfl, ?_⟩
          have HBA := Aside0.mk (below_step HBC5.out hb)
          have HIA := Aside0.mk (HKI.out _ _ HIC.out hb)
          have HJA := Aside0.mk (HKJ.out _ _ HJC.out hb)
          have HXA := Aside0.mk (blk_below HXC.out hb)
          obtain ⟨s0, s1, s2, s3, s4, s5⟩ := hHeld
          refine hK.out _ _ ⟨pw_cell_below hb s0, pw_cell_below hb s1, pw_cell_below hb s2, pw_cell_below hb s3, pw_cell_below hb s4, pw_cell_below hb s5⟩ (fun hHeld => ?_)
          clear hb s0 s1 s2 s3 s4 s5 hK
          (try simp only [Act.put, List.setIfInBounds_toArray, List.set_cons_zero, List.set_cons_succ])
          refine one_ (i := 3) (N := some 57) #[true, true, true, true, false, false, false, false, false, false, false] rfl rfl (by kernel_rfl) (by decide) (fun K hK => ?_)
          refine goes_ Try.func10 (by kernel_rfl) rfl #[.agg #[.int .i64 p0, .int .i64 p1, .int .i64 p2, .int .i64 p3, .int .i64 p4, .int .i64 p5], .agg #[.int .i64 xq0, .int .i64 xq1, .int .i64 xq2, .int .i64 xq3, .int .i64 xq4, .int .i64 xq5, .int .i64 xq6, .int .i64 xq7, .int .i64 xq8, .int .i64 xq9, .bool xq10, .bool xq11]] (by rfl) rfl rfl (by (try simp only [List.map_toArray, List.map_cons, List.map_nil]); first | done | rfl) ?_
          with_reducible refine (HAP.out _).mono ?_
          rintro e' wb ⟨rfl, hb⟩
          refine ⟨_, rfl, ?_⟩
          have HBB := Aside0.mk (below_step HBA.out hb)
          have HIB := Aside0.mk (HKI.out _ _ HIA.out hb)
          have HJB := Aside0.mk (HKJ.out _ _ HJA.out hb)
          have HXB := Aside0.mk (blk_below HXA.out hb)
          obtain ⟨s0, s1, s2, s3, s4, s5⟩ := hHeld
          refine hK.out _ _ ⟨pw_cell_below hb s0, pw_cell_below hb s1, pw_cell_below hb s2, pw_cell_below hb s3, pw_cell_below hb s4, pw_cell_below hb s5⟩ (fun hHeld => ?_)
          clear hb s0 s1 s2 s3 s4 s5 hK
          (try simp only [Act.put, List.setIfInBounds_toArray, List.set_cons_zero, List.set_cons_succ])
          refine pure_ (i := 4) (N := some 58) (v := ?_) (a' := ?_) #[true, true, true, true, true, false, false, false, false, false, false] rfl rfl (by kernel_rfl) (fun _ _ _ h => h) (Or.inl ⟨by rfl, ?_⟩) ?_ ?_
          rotate_left
          · intro w'
            go_simp
            first | done | with_reducible rfl
          rotate_left
          · simp only [Act.put, List.setIfInBounds_toArray, List.set_cons_zero, List.set_cons_succ]
            rfl
          refine pure_ (i := 5) (N := some 59) (v := undef) (a' := ?_) #[true, true, true, true, true, true, false, false, false, false, false] rfl rfl (by kernel_rfl) (fun _ _ _ h => h) (Or.inr ⟨by rfl, rfl⟩) ?_ ?_
          rotate_left
          · simp only [Act.put, List.setIfInBounds_toArray, List.set_cons_zero, List.set_cons_succ]
            rfl
          refine pure_ (i := 6) (N := some 60) (v := undef) (a' := ?_) #[true, true, true, true, true, true, true, false, false, false, false] rfl rfl (by kernel_rfl) (fun _ _ _ h => h) (Or.inr ⟨by rfl, rfl⟩) ?_ ?_
          rotate_left
          · simp only [Act.put, List.setIfInBounds_toArray, List.set_cons_zero, List.set_cons_succ]
            rfl
          refine pure_ (i := 7) (N := some 61) (v := undef) (a' := ?_) #[true, true, true, true, true, true, true, true, false, false, false] rfl rfl (by kernel_rfl) (fun _ _ _ h => h) (Or.inr ⟨by rfl, rfl⟩) ?_ ?_
          rotate_left
          · simp only [Act.put, List.setIfInBounds_toArray, List.set_cons_zero, List.set_cons_succ]
            rfl
          refine pure_ (i := 8) (N := some 62) (v := undef) (a' := ?_) #[true, true, true, true, true, true, true, true, true, false, false] rfl rfl (by kernel_rfl) (fun _ _ _ h => h) (Or.inr ⟨by rfl, rfl⟩) ?_ ?_
          rotate_left
          · simp only [Act.put, List.setIfInBounds_toArray, List.set_cons_zero, List.set_cons_succ]
            rfl
          refine pure_ (i := 9) (N := some 63) (v := ?_) (a' := ?_) #[true, true, true, true, true, true, true, true, true, true, false] rfl rfl (by kernel_rfl) (fun _ _ _ h => h) (Or.inl ⟨by rfl, ?_⟩) ?_ ?_
          rotate_left
          · intro w'
            go_simp
            first | done | with_reducible rfl
          rotate_left
          · simp only [Act.put, List.setIfInBounds_toArray, List.set_cons_zero, List.set_cons_succ]
            rfl
          refine pure_ (i := 10) (N := some 12) (v := ?_) (a' := ?_) #[true, true, true, true, true, true, true, true, true, true, true] rfl rfl (by kernel_rfl) (fun _ _ _ h => h) (Or.inl ⟨by rfl, ?_⟩) ?_ ?_
          rotate_left
          · intro w'
            go_simp
            first | done | with_reducible rfl
          rotate_left
          · simp only [Act.put, List.setIfInBounds_toArray, List.set_cons_zero, List.set_cons_succ]
            rfl
          refine done_ (by kernel_rfl) ?_
          try go_wp2
          go_meet
          case rel => exact ⟨rfl, HIB, HJB, HBB, HXB⟩
      case rest =>
        obtain ⟨rfl, HI6, HJ6, HB6, HX6⟩ := hcut
        clear c0 c1 c2 c3 c4 c5 d0 d1 d2 d3 d4 d5 HI5 HJ5 HB5 HX2 HX3
        go_wp2_with fail
        go_loopg [13] 62 (fun kq v13 wr => ∃ n : Nat, v13 = .int .i64 n ∧ Aside0 ((n : Int) ≤ a2 ∧ n ≤ 60 ∧ 61 - n < kq) ∧ Aside0 (IsL w wr g1 (L.meetA f (⟨p0, p1, p2, p3, p4, p5⟩ : L.Port) (⟨q0, q1, q2, q3, q4, q5⟩ : L.Port) n)) ∧ Aside0 (IsL w wr g2 (L.meetB f (⟨p0, p1, p2, p3, p4, p5⟩ : L.Port) (⟨q0, q1, q2, q3, q4, q5⟩ : L.Port) n)) ∧ Aside0 (Below w.heap.size w wr) ∧ Aside0 (wr.heap[b3]? = some (.cells #[.int .i64 q0, .int .i64 q1, .int .i64 q2, .int .i64 q3, .int .i64 q4, .int .i64 q5] 23 (0, 0))))
        case atStart => exact ⟨0, rfl, ⟨by have := HA2.out; omega⟩, HI6, HJ6, HB6, HX6⟩
        case round =>
          clear HI6 HJ6 HB6 HX6
          obtain ⟨n, rfl, HK, HI, HJ, HB, HX⟩ := hrel
          cases gk with
          | zero => exact absurd HK.out.2.2 (by omega)
          | succ k3 =>
          by_cases hlt : (n : Int) < a2
          · have t0 : decide ((n : Int) < a2) = true := decide_eq_true hlt
            have HM := Aside0.mk (L.meets_round HR1.out HR2.out HH2.out.1 HH2.out.2 HF.out (n := n) (by have := HA2.out; omega))
            have HP1 := Aside0.mk (show (L.meetA f (⟨p0, p1, p2, p3, p4, p5⟩ : L.Port) (⟨q0, q1, q2, q3, q4, q5⟩ : L.Port) n).port.level = p1 by rw [(L.meets_port n).1])
            have HP2 := Aside0.mk (show (L.meetB f (⟨p0, p1, p2, p3, p4, p5⟩ : L.Port) (⟨q0, q1, q2, q3, q4, q5⟩ : L.Port) n).port.level = q1 by rw [(L.meets_port n).2])
            have HKN := Aside0.mk (show (n : Int) + 1 ≤ a2 ∧ n + 1 ≤ 60 ∧ 61 - (n + 1) < k3 from by have := HK.out; have := HA2.out; omega)
            clear hlt HK
            go_wp2_with fail
            refine (round_q w wr g1 g2 _ _ (n : Int) HNE.out HI.out HJ.out HB.out (by rw [HP1.out]; exact HLP.out) (by rw [HP2.out]; exact HLQ.out)).mono ?_
            rintro e w7 ⟨rfl, hI, hJ, hb, hk⟩
            rw [HM.out] at hI hJ
            have HI7 := Aside0.mk hI
            have HJ7 := Aside0.mk hJ
            have HB7 := Aside0.mk hb
            have HX7 := Aside0.mk ((hk.2 b3 (blk_lt HX.out) HN3.out HN4.out).trans HX.out)
            have HSA : Aside0 (∀ W, IsL w W g1 (L.meetA f (⟨p0, p1, p2, p3, p4, p5⟩ : L.Port) (⟨q0, q1, q2, q3, q4, q5⟩ : L.Port) (n + 1)) → Calls Try.prog 15 #[.pointer (some ⟨g1, 0, none⟩)] W fun e w' => e = .returned (.int .i64 (L.meetA f (⟨p0, p1, p2, p3, p4, p5⟩ : L.Port) (⟨q0, q1, q2, q3, q4, q5⟩ : L.Port) (n + 1)).state) ∧ W = w') := ⟨fun W h => state_q w W g1 _ h⟩
            have HSB : Aside0 (∀ W, IsL w W g2 (L.meetB f (⟨p0, p1, p2, p3, p4, p5⟩ : L.Port) (⟨q0, q1, q2, q3, q4, q5⟩ : L.Port) (n + 1)) → Calls Try.prog 15 #[.pointer (some ⟨g2, 0, none⟩)] W fun e w' => e = .returned (.int .i64 (L.meetB f (⟨p0, p1, p2, p3, p4, p5⟩ : L.Port) (⟨q0, q1, q2, q3, q4, q5⟩ : L.Port) (n + 1)).state) ∧ W = w') := ⟨fun W h => state_q w W g2 _ h⟩
            clear hI hJ hb hk HM HP1 HP2 HI HJ HB HX t0
            by_cases h0 : n = 0
            · subst h0
              have t1 : decide (((0 : Nat) : Int) > 0) = false := rfl
              have t2 : decide ((0 : Int) < ((0 : Nat) : Int)) = false := rfl
              go_wp2
              go_roundg k3
              case measure => omega
              case rel => exact ⟨1, by go_num, HKN, HI7, HJ7, HB7, HX7⟩
            · have t1 : decide ((n : Int) > 0) = true := decide_eq_true (by omega)
              have t2 : decide ((0 : Int) < (n : Int)) = true := decide_eq_true (by omega)
              have t3 : decide (0 < n) = true := decide_eq_true (by omega)
              have hs := L.meets_state (f := f) (p := (⟨p0, p1, p2, p3, p4, p5⟩ : L.Port)) (q := (⟨q0, q1, q2, q3, q4, q5⟩ : L.Port)) (n := n + 1) (by omega)
              rw [hs.1] at HSA
              rw [hs.2] at HSB
              clear hs
              cases f with
              | true =>
                rw [if_pos rfl] at HSA HSB
                go_wp2_with fail
                refine (HSA.out _ HI7.out).mono ?_
                rintro e w' ⟨rfl, rfl⟩
                go_wp2_with fail
                refine (HSB.out _ HJ7.out).mono ?_
                rintro e w' ⟨rfl, rfl⟩
                go_wp2
                go_roundg k3
                case measure => omega
                case rel => exact ⟨n + 1, congrArg (Value.int .i64) (show wrap64 ((n : Int) + 1) = ((n + 1 : Nat) : Int) by have := HKN.out; unfold wrap64; omega), HKN, HI7, HJ7, HB7, HX7⟩
              | false =>
                rw [if_neg (by simp)] at HSA HSB
                go_wp2_with fail
                refine (HSA.out _ HI7.out).mono ?_
                rintro e w' ⟨rfl, rfl⟩
                go_wp2_with fail
                refine (HSB.out _ HJ7.out).mono ?_
                rintro e w' ⟨rfl, rfl⟩
                go_wp2
                go_roundg k3
                case measure => omega
                case rel => exact ⟨n + 1, congrArg (Value.int .i64) (show wrap64 ((n : Int) + 1) = ((n + 1 : Nat) : Int) by have := HKN.out; unfold wrap64; omega), HKN, HI7, HJ7, HB7, HX7⟩
          · have t0 : decide ((n : Int) < a2) = false := decide_eq_false hlt
            have hn : a2 = (n : Int) := by have := HK.out; omega
            subst hn
            have HEND := Aside0.mk (L.meets_end (f := f) (p := (⟨p0, p1, p2, p3, p4, p5⟩ : L.Port)) (q := (⟨q0, q1, q2, q3, q4, q5⟩ : L.Port)) (n := n) HR2.out (by have := HA2.out; omega) HK.out.2.1)
            have d5 := (blk_cell HX.out 5).trans rfl
            have hw1 : (-9223372036854775808 : Int) ≤ (n : Int) + q5 := by have := HQ5.out; omega
            have hw2 : (n : Int) + q5 < 9223372036854775808 := by have := HQ5.out; have := HA2.out; omega
            clear hlt HK
            go_wp2_with fail
            refine (tick_q w wr g1 _ ((n : Int) + q5) HI.out HB.out).mono ?_
            rintro e w7 ⟨rfl, hI, hb, _⟩
            have HI7 := Aside0.mk hI
            have HB7 := Aside0.mk hb
            clear hI hb
            have HSA : Aside0 (∀ W, IsL w W g1 (L.tick (L.meetA f (⟨p0, p1, p2, p3, p4, p5⟩ : L.Port) (⟨q0, q1, q2, q3, q4, q5⟩ : L.Port) n) ((n : Int) + q5)).2 → Calls Try.prog 15 #[.pointer (some ⟨g1, 0, none⟩)] W fun e w' => e = .returned (.int .i64 (L.tick (L.meetA f (⟨p0, p1, p2, p3, p4, p5⟩ : L.Port) (⟨q0, q1, q2, q3, q4, q5⟩ : L.Port) n) ((n : Int) + q5)).2.state) ∧ W = w') := ⟨fun W h => state_q w W g1 _ h⟩
            rw [HEND.out] at HSA
            go_wp2_with fail
            refine (HSA.out _ HI7.out).mono ?_
            rintro e w' ⟨rfl, rfl⟩
            go_wp2
            go_ret
            exact ⟨rfl, HB7.out⟩
    · have HB5 := Aside0.mk (below_step HB4.out hb)
      clear hb c0 c1 c2 c3 c4 c5
      go_wp2
      go_ret
      exact ⟨rfl, HB5.out⟩
  · have HB4 := Aside0.mk (below_step HB3.out hb)
    have x3 := blk_below HQ.out hb
    clear hb hr1 c0 c1 c2 c3 c4 c5 HB3 HP HQ
    have c0 := (blk_cell x3 0).trans rfl
    have c1 := (blk_cell x3 1).trans rfl
    have c2 := (blk_cell x3 2).trans rfl
    have c3 := (blk_cell x3 3).trans rfl
    have c4 := (blk_cell x3 4).trans rfl
    have c5 := (blk_cell x3 5).trans rfl
    clear x3
    go_wp2_with fail
    refine (new_q w w4 (⟨q0, q1, q2, q3, q4, q5⟩ : L.Port) HB4.out).mono ?_
    rintro e w5 (⟨hr2, g2, rfl, hg2, hJ, hb⟩ | ⟨hr2, rfl, hb⟩)
    all_goals
      have HB5 := Aside0.mk (below_step HB4.out hb)
      clear hb c0 c1 c2 c3 c4 c5
      go_wp2
      go_ret
      exact ⟨rfl, HB5.out⟩


/-- THE ONE PURE STATEMENT of selvagelaw09_LieMeets: yours. -/
def selvagelaw09_LieMeets.Pure : Prop := ∀ (x0 : S23) (x1 : S23) (x2 : Int), good23 x0 → good23 x1 → (Lit.int .i64 x2).wf = true → selvagelaw09_LieMeets.f x0.f0 x0.f1 x0.f2 x0.f3 x0.f4 x0.f5 x1.f0 x1.f1 x1.f2 x1.f3 x1.f4 x1.f5 x2 = some true
theorem selvagelaw09_LieMeets.walk (P : selvagelaw09_LieMeets.Pure) (x0 : S23) (x1 : S23) (x2 : Int) (w : World)  (g0 : good23 x0) (g1 : good23 x1) (g2 : (Lit.int .i64 x2).wf = true)  :
    Calls Try.prog 4 #[.agg #[.int .i64 x0.f0, .int .i64 x0.f1, .int .i64 x0.f2, .int .i64 x0.f3, .int .i64 x0.f4, .int .i64 x0.f5], .agg #[.int .i64 x1.f0, .int .i64 x1.f1, .int .i64 x1.f2, .int .i64 x1.f3, .int .i64 x1.f4, .int .i64 x1.f5], .int .i64 x2] w fun e w' => e = .returned (.bool true) ∧ Below w.heap.size w w' := by
  have h := P x0 x1 x2 g0 g1 g2
  refine (selvagelaw09_LieMeets.calls x0.f0 x0.f1 x0.f2 x0.f3 x0.f4 x0.f5 x1.f0 x1.f1 x1.f2 x1.f3 x1.f4 x1.f5 x2 true w  h).mono ?_
  rintro e w' ⟨rfl, hd⟩
  exact ⟨rfl, hd⟩

end Go.Proofs.Ytnlfcgnedemhhaa.P
