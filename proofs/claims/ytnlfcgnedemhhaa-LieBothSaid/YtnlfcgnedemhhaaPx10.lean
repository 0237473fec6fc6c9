-- Printed by a program of this session over the kit's print: all laws of the seat in one namespace, some texts by hand.
import Derived.Test.YtnlfcgnedemhhaaPx0
import Derived.Test.YtnlfcgnedemhhaaPx5
import Derived.Test.YtnlfcgnedemhhaaPx6
import Derived.Test.YtnlfcgnedemhhaaPx7
import Derived.Test.YtnlfcgnedemhhaaWalkAwake
import Derived.Deep.RegionHeld3
namespace Go.Proofs.Ytnlfcgnedemhhaa.P
open Go.RowKit Go.Proofs.YtnlfcgnedemhhaaW.PrintWords Go.Proofs.YtnlfcgnedemhhaaW.PrintLast Go.Proofs.YtnlfcgnedemhhaaW.PrintMore
attribute [local go_sem] max2_int min2_int max_two min_two max_three min_three max_four min_four   -- for this text's walks alone
set_option linter.unusedVariables false
set_option linter.unusedSimpArgs false

--HAND Derived.Test.YtnlfcgnedemhhaaWalkAwake Derived.Deep.RegionHeld3
/-! ### selvagelaw09_LieBoth: function 5, by hand -/
-- a hand text for the law LieBoth: behind lie_right.calls, wire_rightTie.calls, selvagelaw09_port.calls, wire_within.calls, seal_nonce.calls
theorem both_law (p q : L.Port) : L.accepts p (L.say (L.new q)) = L.accepts q (L.say (L.new p)) := by
  unfold L.accepts L.say L.new
  simp only
  have h1 : (q.node = p.node ∨ q.mtu ≠ p.mtu ∨ p.level < 0 ∨ q.level < 0) ↔ (p.node = q.node ∨ p.mtu ≠ q.mtu ∨ q.level < 0 ∨ p.level < 0) := by omega
  have h2 : (q.pod ≠ p.pod ∧ q.pod ≠ 0 ∧ p.pod ≠ 0) ↔ (p.pod ≠ q.pod ∧ p.pod ≠ 0 ∧ q.pod ≠ 0) := by omega
  by_cases c1 : (p.node = q.node ∨ p.mtu ≠ q.mtu ∨ q.level < 0 ∨ p.level < 0)
  · rw [if_pos c1, if_pos (h1.2 c1)]
  · rw [if_neg c1, if_neg (fun h => c1 (h1.1 h))]
    by_cases c2 : (p.pod ≠ q.pod ∧ p.pod ≠ 0 ∧ q.pod ≠ 0)
    · rw [if_pos c2, if_pos (h2.2 c2)]
    · rw [if_neg c2, if_neg (fun h => c2 (h2.1 h))]
      by_cases c3 : p.level = q.level
      · rw [if_pos c3, if_pos c3.symm, c3]
      · rw [if_neg c3, if_neg (fun h => c3 h.symm)]
        exact decide_eq_decide.2 (by omega)
theorem port_bd {p : L.Port} (h : L.rightPort p = true) : (1 ≤ p.node ∧ p.node ≤ 1000) ∧ (-1 ≤ p.level ∧ p.level ≤ 24) ∧ (0 ≤ p.pod ∧ p.pod ≤ 65535) ∧ (0 ≤ p.mtu ∧ p.mtu ≤ 65535) ∧ (0 ≤ p.link ∧ p.link ≤ 65535) ∧ (1 ≤ p.hold ∧ p.hold ≤ 1000) := by
  unfold L.rightPort L.within at h
  simp only [Bool.and_eq_true, decide_eq_true_eq] at h
  exact h
def P64 (p : L.Port) : Prop := -9223372036854775808 ≤ p.level ∧ p.level < 9223372036854775808
instance (p : L.Port) : Decidable (P64 p) := by unfold P64; exact inferInstance
theorem twelve_below {W w' : World} {a0 a1 a2 a3 a4 a5 b0 b1 b2 b3 b4 b5 : Addr} {u0 u1 u2 u3 u4 u5 v0 v1 v2 v3 v4 v5 : Value} (hb : Below W.heap.size W w')
    (h : W.cell? a0 = some u0 ∧ W.cell? a1 = some u1 ∧ W.cell? a2 = some u2 ∧ W.cell? a3 = some u3 ∧ W.cell? a4 = some u4 ∧ W.cell? a5 = some u5 ∧ W.cell? b0 = some v0 ∧ W.cell? b1 = some v1 ∧ W.cell? b2 = some v2 ∧ W.cell? b3 = some v3 ∧ W.cell? b4 = some v4 ∧ W.cell? b5 = some v5) :
    w'.cell? a0 = some u0 ∧ w'.cell? a1 = some u1 ∧ w'.cell? a2 = some u2 ∧ w'.cell? a3 = some u3 ∧ w'.cell? a4 = some u4 ∧ w'.cell? a5 = some u5 ∧ w'.cell? b0 = some v0 ∧ w'.cell? b1 = some v1 ∧ w'.cell? b2 = some v2 ∧ w'.cell? b3 = some v3 ∧ w'.cell? b4 = some v4 ∧ w'.cell? b5 = some v5 := by
  obtain ⟨h0, h1, h2, h3, h4, h5, h6, h7, h8, h9, h10, h11⟩ := h
  exact ⟨pw_cell_below hb h0, pw_cell_below hb h1, pw_cell_below hb h2, pw_cell_below hb h3, pw_cell_below hb h4, pw_cell_below hb h5, pw_cell_below hb h6, pw_cell_below hb h7, pw_cell_below hb h8, pw_cell_below hb h9, pw_cell_below hb h10, pw_cell_below hb h11⟩

def selvagelaw09_LieBoth.f (a0 a1 a2 a3 a4 a5 b0 b1 b2 b3 b4 b5 : Int) : Option Bool := some true

set_option maxRecDepth 100000 in
set_option maxHeartbeats 8000000 in
theorem selvagelaw09_LieBoth.calls (p0 p1 p2 p3 p4 p5 q0 q1 q2 q3 q4 q5 : Int) (r : Bool) (w : World) (h : selvagelaw09_LieBoth.f p0 p1 p2 p3 p4 p5 q0 q1 q2 q3 q4 q5 = some r) :
    Calls Try.prog 5 #[.agg #[.int .i64 p0, .int .i64 p1, .int .i64 p2, .int .i64 p3, .int .i64 p4, .int .i64 p5], .agg #[.int .i64 q0, .int .i64 q1, .int .i64 q2, .int .i64 q3, .int .i64 q4, .int .i64 q5]] w fun e w' => e = .returned (.bool r) ∧ Below w.heap.size w w' := by
  cases h
  have HB := Aside0.mk (Below.refl w.heap.size w)
  go_enter Try.func5, Try.ntmps5
  go_wp2_with (first
    | ((with_reducible refine gate_dst (N := 2) rfl ?_); refine box_event ?hg (N := 2) ?hd (cs := #[.int .i64 p0, .int .i64 p1, .int .i64 p2, .int .i64 p3, .int .i64 p4, .int .i64 p5]) (t := 23) ?hr ?_; (case hd => rfl); (case hg => rfl); (case hr => first | (go_simp; done) | (go_simp; rfl)); intro b2 hg2 w1 hbox hb; have HB1 := Aside0.mk (below_step HB.out hb); have HX2 := Aside0.mk hbox; clear hg2 hbox hb HB)
    | ((with_reducible refine gate_dst (N := 3) rfl ?_); refine box_event ?hg (N := 3) ?hd (cs := #[.int .i64 q0, .int .i64 q1, .int .i64 q2, .int .i64 q3, .int .i64 q4, .int .i64 q5]) (t := 23) ?hr ?_; (case hd => rfl); (case hg => rfl); (case hr => first | (go_simp; done) | (go_simp; rfl)); intro b3 hg3 w2 hbox hb; have HB2 := Aside0.mk (below_step HB1.out hb); have HX3 := Aside0.mk hbox; have HX2 := Aside0.mk (blk_below HX2.out hb); clear hg3 hbox hb HB1))
  refine (awake_q _).mono ?_
  rintro e w3 ⟨rfl, hb⟩
  have HB3 := Aside0.mk (below_step HB2.out hb)
  have x2 := blk_below HX2.out hb
  have x3 := blk_below HX3.out hb
  have HP := Aside0.mk x2
  have HQ := Aside0.mk x3
  clear hb HB2 HX2 HX3
  have c0 := (blk_cell x2 0).trans rfl
  have c1 := (blk_cell x2 1).trans rfl
  have c2 := (blk_cell x2 2).trans rfl
  have c3 := (blk_cell x2 3).trans rfl
  have c4 := (blk_cell x2 4).trans rfl
  have c5 := (blk_cell x2 5).trans rfl
  clear x2 x3
  go_wp2_with fail
  refine (new_q w w3 ⟨p0, p1, p2, p3, p4, p5⟩ HB3.out).mono ?_
  rintro e w4 (⟨hr1, g1, rfl, hg1, hI, hb⟩ | ⟨hr1, rfl, hb⟩)
  · have HB4 := Aside0.mk (below_step HB3.out hb)
    have HR1 := Aside0.mk hr1
    have HI4 := Aside0.mk hI
    have HP4 := Aside0.mk (blk_below HP.out hb)
    have x3 := blk_below HQ.out hb
    have HQ4 := Aside0.mk x3
    clear hb hr1 hg1 hI c0 c1 c2 c3 c4 c5 HB3 HP HQ
    have c0 := (blk_cell x3 0).trans rfl
    have c1 := (blk_cell x3 1).trans rfl
    have c2 := (blk_cell x3 2).trans rfl
    have c3 := (blk_cell x3 3).trans rfl
    have c4 := (blk_cell x3 4).trans rfl
    have c5 := (blk_cell x3 5).trans rfl
    clear x3
    go_wp2_with fail
    refine (new_q w w4 ⟨q0, q1, q2, q3, q4, q5⟩ HB4.out).mono ?_
    rintro e w5 (⟨hr2, g2, rfl, hg2, hJ, hb⟩ | ⟨hr2, rfl, hb⟩)
    · have HB5 := Aside0.mk (below_step HB4.out hb)
      have HR2 := Aside0.mk hr2
      have HJ5 := Aside0.mk hJ
      have HI5 := Aside0.mk (HI4.out.below hb)
      have x2 := blk_below HP4.out hb
      have x3 := blk_below HQ4.out hb
      have HX2 := Aside0.mk x2
      have HX3 := Aside0.mk x3
      clear hb hr2 hg2 hJ c0 c1 c2 c3 c4 c5 HB4 HP4 HQ4 HI4
      have c0 := (blk_cell x2 0).trans rfl
      have c1 := (blk_cell x2 1).trans rfl
      have c2 := (blk_cell x2 2).trans rfl
      have c3 := (blk_cell x2 3).trans rfl
      have c4 := (blk_cell x2 4).trans rfl
      have c5 := (blk_cell x2 5).trans rfl
      have d0 := (blk_cell x3 0).trans rfl
      have d1 := (blk_cell x3 1).trans rfl
      have d2 := (blk_cell x3 2).trans rfl
      have d3 := (blk_cell x3 3).trans rfl
      have d4 := (blk_cell x3 4).trans rfl
      have d5 := (blk_cell x3 5).trans rfl
      clear x2 x3
      have HLAW := Aside0.mk (both_law ⟨p0, p1, p2, p3, p4, p5⟩ ⟨q0, q1, q2, q3, q4, q5⟩)
      have bp := port_bd HR1.out
      have bq := port_bd HR2.out
      simp only at bp bq
      have HLP := Aside0.mk (show -9223372036854775808 ≤ p1 ∧ p1 < 9223372036854775808 by omega)
      have HLQ := Aside0.mk (show -9223372036854775808 ≤ q1 ∧ q1 < 9223372036854775808 by omega)
      clear bp bq
      have HAP : Aside0 (∀ W, Calls Try.prog 10 #[.agg #[.int .i64 p0, .int .i64 p1, .int .i64 p2, .int .i64 p3, .int .i64 p4, .int .i64 p5], lieV (L.say (L.new ⟨q0, q1, q2, q3, q4, q5⟩))] W fun e w' => e = .returned (.bool (L.accepts ⟨p0, p1, p2, p3, p4, p5⟩ (L.say (L.new ⟨q0, q1, q2, q3, q4, q5⟩)))) ∧ Below W.heap.size W w') := ⟨fun W => lie_Accepts.calls ⟨p0, p1, p2, p3, p4, p5⟩ _ W HLP.out HLQ.out⟩
      have HAQ : Aside0 (∀ W, Calls Try.prog 10 #[.agg #[.int .i64 q0, .int .i64 q1, .int .i64 q2, .int .i64 q3, .int .i64 q4, .int .i64 q5], lieV (L.say (L.new ⟨p0, p1, p2, p3, p4, p5⟩))] W fun e w' => e = .returned (.bool (L.accepts ⟨q0, q1, q2, q3, q4, q5⟩ (L.say (L.new ⟨p0, p1, p2, p3, p4, p5⟩)))) ∧ Below W.heap.size W w') := ⟨fun W => lie_Accepts.calls ⟨q0, q1, q2, q3, q4, q5⟩ _ W HLQ.out HLP.out⟩
      rw [← HLAW.out] at HAQ
      have HSP : Aside0 (∀ W, IsL w W g1 (L.new ⟨p0, p1, p2, p3, p4, p5⟩) → Calls Try.prog 13 #[.pointer (some ⟨g1, 0, none⟩)] W fun e w' => e = .returned (lieV (L.say (L.new ⟨p0, p1, p2, p3, p4, p5⟩))) ∧ Below W.heap.size W w') := ⟨fun W h => say_q w W g1 _ h⟩
      have HSQ : Aside0 (∀ W, IsL w W g2 (L.new ⟨q0, q1, q2, q3, q4, q5⟩) → Calls Try.prog 13 #[.pointer (some ⟨g2, 0, none⟩)] W fun e w' => e = .returned (lieV (L.say (L.new ⟨q0, q1, q2, q3, q4, q5⟩))) ∧ Below W.heap.size W w') := ⟨fun W h => say_q w W g2 _ h⟩
      have HKI : Aside0 (∀ W w', IsL w W g1 (L.new ⟨p0, p1, p2, p3, p4, p5⟩) → Below W.heap.size W w' → IsL w w' g1 (L.new ⟨p0, p1, p2, p3, p4, p5⟩)) := ⟨fun W w' h hb => IsS57.below h hb⟩
      have HIC : Aside0 (IsL w w5.drew g1 (L.new ⟨p0, p1, p2, p3, p4, p5⟩)) := ⟨HI5.out.drew⟩
      have HJC : Aside0 (IsL w w5.drew g2 (L.new ⟨q0, q1, q2, q3, q4, q5⟩)) := ⟨HJ5.out.drew⟩
      have HBC5 := Aside0.mk (below_drew1 HB5.out)
      clear HLAW HLP HLQ HI5 HJ5 HB5 HX2 HX3 HR1 HR2
      generalize L.accepts ⟨p0, p1, p2, p3, p4, p5⟩ (L.say (L.new ⟨q0, q1, q2, q3, q4, q5⟩)) = vv at HAP HAQ
      generalize L.say (L.new ⟨p0, p1, p2, p3, p4, p5⟩) = xp at HAQ HSP
      generalize L.say (L.new ⟨q0, q1, q2, q3, q4, q5⟩) = xq at HAP HSQ
      generalize L.new ⟨p0, p1, p2, p3, p4, p5⟩ = sp at HSP HKI HIC
      generalize L.new ⟨q0, q1, q2, q3, q4, q5⟩ = sq at HSQ HJC
      obtain ⟨xp0, xp1, xp2, xp3, xp4, xp5, xp6, xp7, xp8, xp9, xp10, xp11⟩ := xp
      obtain ⟨xq0, xq1, xq2, xq3, xq4, xq5, xq6, xq7, xq8, xq9, xq10, xq11⟩ := xq
      unfold lieV at HAP HAQ HSP HSQ
      simp only at HAP HAQ HSP HSQ
      go_wp2_with fail
      have hS := And.intro c0 (And.intro c1 (And.intro c2 (And.intro c3 (And.intro c4 (And.intro c5 (And.intro d0 (And.intro d1 (And.intro d2 (And.intro d3 (And.intro d4 d5))))))))))
      have hbz := Below.refl w5.heap.size w5
      go_region_held3 (fun w' => w'.cell? ⟨b2, 0, none⟩ = some (.int .i64 p0) ∧ w'.cell? ⟨b2, 1, none⟩ = some (.int .i64 p1) ∧ w'.cell? ⟨b2, 2, none⟩ = some (.int .i64 p2) ∧ w'.cell? ⟨b2, 3, none⟩ = some (.int .i64 p3) ∧ w'.cell? ⟨b2, 4, none⟩ = some (.int .i64 p4) ∧ w'.cell? ⟨b2, 5, none⟩ = some (.int .i64 p5) ∧ w'.cell? ⟨b3, 0, none⟩ = some (.int .i64 q0) ∧ w'.cell? ⟨b3, 1, none⟩ = some (.int .i64 q1) ∧ w'.cell? ⟨b3, 2, none⟩ = some (.int .i64 q2) ∧ w'.cell? ⟨b3, 3, none⟩ = some (.int .i64 q3) ∧ w'.cell? ⟨b3, 4, none⟩ = some (.int .i64 q4) ∧ w'.cell? ⟨b3, 5, none⟩ = some (.int .i64 q5))
        (first | (refine twelve_below hbz ?_; first | assumption | go_keep) | go_keep)
        (first
          | (go_at_call 13; (with_reducible refine (HSQ.out _ HJC.out).mono ?_); rintro e' wa ⟨rfl, hbz⟩; have HBA := Aside0.mk (below_step HBC5.out hbz); have HIA := Aside0.mk (HKI.out _ _ HIC.out hbz))
          | (go_at_call 10; (with_reducible refine (HAP.out _).mono ?_); rintro e' wb ⟨rfl, hbz⟩; have HBB := Aside0.mk (below_step HBA.out hbz); have HIB := Aside0.mk (HKI.out _ _ HIA.out hbz))
          | (go_at_call 13; (with_reducible refine (HSP.out _ HIB.out).mono ?_); rintro e' wc ⟨rfl, hbz⟩; have HBC := Aside0.mk (below_step HBB.out hbz))
          | (go_at_call 10; (with_reducible refine (HAQ.out _).mono ?_); rintro e' wd ⟨rfl, hbz⟩; have HBD := Aside0.mk (below_step HBC.out hbz)))
      all_goals go_wp2
      all_goals go_ret
      all_goals exact ⟨by simp, HBD.out⟩
    · have HB5 := Aside0.mk (below_step HB4.out hb)
      clear hb c0 c1 c2 c3 c4 c5
      go_wp2
      go_ret
      exact ⟨rfl, HB5.out⟩
  · have HB4 := Aside0.mk (below_step HB3.out hb)
    have x3 := blk_below HQ.out hb
    clear hb hr1 c0 c1 c2 c3 c4 c5 HB3 HP HQ
    have c0 := (blk_cell x3 0).trans rfl
    have c1 := (blk_cell x3 1).trans rfl
    have c2 := (blk_cell x3 2).trans rfl
    have c3 := (blk_cell x3 3).trans rfl
    have c4 := (blk_cell x3 4).trans rfl
    have c5 := (blk_cell x3 5).trans rfl
    clear x3
    go_wp2_with fail
    refine (new_q w w4 ⟨q0, q1, q2, q3, q4, q5⟩ HB4.out).mono ?_
    rintro e w5 (⟨hr2, g2, rfl, hg2, hJ, hb⟩ | ⟨hr2, rfl, hb⟩)
    all_goals
      have HB5 := Aside0.mk (below_step HB4.out hb)
      clear hb c0 c1 c2 c3 c4 c5
      go_wp2
      go_ret
      exact ⟨rfl, HB5.out⟩


/-- THE ONE PURE STATEMENT of selvagelaw09_LieBoth: yours. -/
def good23 (x : S23) : Prop := ((Lit.int .i64 x.f0).wf = true ∧ ((Lit.int .i64 x.f1).wf = true ∧ ((Lit.int .i64 x.f2).wf = true ∧ ((Lit.int .i64 x.f3).wf = true ∧ ((Lit.int .i64 x.f4).wf = true ∧ (Lit.int .i64 x.f5).wf = true)))))
def selvagelaw09_LieBoth.Pure : Prop := ∀ (x0 : S23) (x1 : S23), good23 x0 → good23 x1 → selvagelaw09_LieBoth.f x0.f0 x0.f1 x0.f2 x0.f3 x0.f4 x0.f5 x1.f0 x1.f1 x1.f2 x1.f3 x1.f4 x1.f5 = some true
theorem selvagelaw09_LieBoth.walk (P : selvagelaw09_LieBoth.Pure) (x0 : S23) (x1 : S23) (w : World)  (g0 : good23 x0) (g1 : good23 x1)  :
    Calls Try.prog 5 #[.agg #[.int .i64 x0.f0, .int .i64 x0.f1, .int .i64 x0.f2, .int .i64 x0.f3, .int .i64 x0.f4, .int .i64 x0.f5], .agg #[.int .i64 x1.f0, .int .i64 x1.f1, .int .i64 x1.f2, .int .i64 x1.f3, .int .i64 x1.f4, .int .i64 x1.f5]] w fun e w' => e = .returned (.bool true) ∧ Below w.heap.size w w' := by
  have h := P x0 x1 g0 g1
  refine (selvagelaw09_LieBoth.calls x0.f0 x0.f1 x0.f2 x0.f3 x0.f4 x0.f5 x1.f0 x1.f1 x1.f2 x1.f3 x1.f4 x1.f5 true w  h).mono ?_
  rintro e w' ⟨rfl, hd⟩
  exact ⟨rfl, hd⟩

end Go.Proofs.Ytnlfcgnedemhhaa.P
