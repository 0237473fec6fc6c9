/- lie.Accepts: as plain mathematics says. -/
import Derived.Test.YtnlfcgnedemhhaaWalkWire
import Derived.Test.YtnlfcgnedemhhaaPx5
import Derived.Test.YtnlfcgnedemhhaaPx7
import Derived.BigRegion
import Derived.ChangeAlike
import Derived.Laws.EntriesVeiled
set_option linter.unusedVariables false
set_option linter.unusedSimpArgs false
namespace Go.Proofs.Ytnlfcgnedemhhaa.P
open Go Go.RowKit Go.Proofs.YtnlfcgnedemhhaaW.PrintWords Go.Proofs.YtnlfcgnedemhhaaW.PrintLast Go.Proofs.YtnlfcgnedemhhaaW.PrintMore
attribute [local go_sem] max2_int min2_int max_two min_two

abbrev portV (p : L.Port) : Value := .agg #[.int .i64 p.node, .int .i64 p.level, .int .i64 p.pod, .int .i64 p.mtu, .int .i64 p.link, .int .i64 p.hold]

theorem blk_new2 (w : World) (o o' : Obj) : ((w.alloc o).alloc o').heap[w.heap.size + 1]? = some o' := by
  have := blk_new (w.alloc o) o'
  rw [World.size_alloc] at this
  exact this
def lowest (a b : Int) : Int := if b < a then b else a
def highest (a b : Int) : Int := if a < b then b else a

set_option maxRecDepth 100000 in
set_option maxHeartbeats 4000000 in
theorem lie_Accepts1.calls (w : World) (n a b : Int) (g1 g2 : Nat) (h1 : w.cell? ⟨g1, 0, none⟩ = some (.int .i64 a)) (h2 : w.cell? ⟨g2, 0, none⟩ = some (.int .i64 b)) (hab : -9223372036854775808 ≤ a - b ∧ a - b < 9223372036854775808) :
    Calls Try.prog 26 #[.int .i64 n, .pointer (some ⟨g1, 0, none⟩), .pointer (some ⟨g2, 0, none⟩)] w fun e w' => e = .returned (.bool (decide (a - b = n))) ∧ w = w' := by
  obtain ⟨l0, l1⟩ := hab
  go_enter Try.func26, Try.ntmps26
  go_wp2
  go_ret
  exact ⟨by rw [show decide (a - b = n) = (a - b == n) from by by_cases h : a - b = n <;> simp [h]]; rfl, rfl⟩

set_option maxRecDepth 100000 in
set_option maxHeartbeats 4000000 in
theorem lie_Accepts.calls (p : L.Port) (x : L.Say) (w : World) (hp : -9223372036854775808 ≤ p.level ∧ p.level < 9223372036854775808) (hx : -9223372036854775808 ≤ x.level ∧ x.level < 9223372036854775808) :
    Calls Try.prog 10 #[portV p, lieV x] w fun e w' => e = .returned (.bool (L.accepts p x)) ∧ Below w.heap.size w w' := by
  obtain ⟨p0, p1, p2, p3, p4, p5⟩ := p
  obtain ⟨x0, x1, x2, x3, x4, x5, x6, x7, x8, x9, x10, x11⟩ := x
  simp only at hp hx
  unfold portV lieV
  simp only
  have HAC : Aside0 (L.accepts ⟨p0, p1, p2, p3, p4, p5⟩ ⟨x0, x1, x2, x3, x4, x5, x6, x7, x8, x9, x10, x11⟩ = (if x0 = p0 ∨ x3 ≠ p3 ∨ p1 < 0 ∨ x1 < 0 then false
    else if x2 ≠ p2 ∧ x2 ≠ 0 ∧ p2 ≠ 0 then false else if x1 = p1 then decide (0 < x1) else decide (x1 = 0 ∨ p1 = 0 ∨ x1 - p1 = 1 ∨ p1 - x1 = 1))) := ⟨rfl⟩
  generalize L.accepts ⟨p0, p1, p2, p3, p4, p5⟩ ⟨x0, x1, x2, x3, x4, x5, x6, x7, x8, x9, x10, x11⟩ = ac at HAC ⊢
  have HPX := Aside0.mk (And.intro hp hx)
  clear hp hx
  go_enter Try.func10, Try.ntmps10
  go_upto_region 1 with (first | ((with_reducible refine gate_dst (N := 2) rfl ?_); refine box_event ?hg (N := 2) ?hd (cs := #[.int .i64 p0, .int .i64 p1, .int .i64 p2, .int .i64 p3, .int .i64 p4, .int .i64 p5]) (t := 23) ?hr ?_; (case hd => rfl); (case hg => rfl); (case hr => first | (go_simp; done) | (go_simp; rfl)); intro b2 hg w1 hbox hb; have HB1 := Aside0.mk (below_step (Below.refl w.heap.size w) hb); have HX2 := Aside0.mk hbox; clear hg hbox hb) | ((with_reducible refine gate_dst (N := 3) rfl ?_); refine box_event ?hg (N := 3) ?hd (cs := #[.int .i64 x0, .int .i64 x1, .int .i64 x2, .int .i64 x3, .int .i64 x4, .int .i64 x5, .int .i64 x6, .int .i64 x7, .int .i64 x8, .int .i64 x9, .bool x10, .bool x11]) (t := 25) ?hr ?_; (case hd => rfl); (case hg => rfl); (case hr => first | (go_simp; done) | (go_simp; rfl)); intro b3 hg w2 hbox hb; have HB2 := Aside0.mk (below_step HB1.out hb); have HX3 := Aside0.mk hbox; have HX2b := Aside0.mk (blk_below HX2.out hb); clear hg hbox hb))
  have c20 := (blk_cell HX2b.out 0).trans rfl
  have c21 := (blk_cell HX2b.out 1).trans rfl
  have c22 := (blk_cell HX2b.out 2).trans rfl
  have c23 := (blk_cell HX2b.out 3).trans rfl
  have c30 := (blk_cell HX3.out 0).trans rfl
  have c31 := (blk_cell HX3.out 1).trans rfl
  have c32 := (blk_cell HX3.out 2).trans rfl
  have c33 := (blk_cell HX3.out 3).trans rfl
  have l2 := blk_lt HX2b.out
  have l3 := blk_lt HX3.out
  go_cut [5, 6] (fun v5 v6 wc => ∃ (g5 g6 : Nat) (lo hi : Int), v5 = .pointer (some ⟨g5, 0, none⟩) ∧ v6 = .pointer (some ⟨g6, 0, none⟩) ∧ Aside0 (wc.heap[g5]? = some (.cells #[.int .i64 lo] 3 (0, 0))) ∧ Aside0 (wc.heap[g6]? = some (.cells #[.int .i64 hi] 3 (0, 0))) ∧ Aside0 (Below w2.heap.size w2 wc) ∧ Aside0 (lo = lowest p1 x1 ∧ hi = highest p1 x1))
  case first =>
    go_region
    all_goals go_wp2
    all_goals
      go_meet
      case rel => first
        | exact ⟨w2.heap.size, w2.heap.size + 1, _, _, rfl, rfl, ⟨blk_drew (blk_alloc (blk_new w2 _) _)⟩, ⟨blk_drew (blk_new2 w2 _ _)⟩, ⟨below_drew1 (below_alloc (below_alloc (Below.refl _ _) _) _)⟩, ⟨by unfold lowest highest; constructor <;> split <;> omega⟩⟩
        | exact ⟨w2.heap.size + 1, w2.heap.size, _, _, rfl, rfl, ⟨blk_drew (blk_new2 w2 _ _)⟩, ⟨blk_drew (blk_alloc (blk_new w2 _) _)⟩, ⟨below_drew1 (below_alloc (below_alloc (Below.refl _ _) _) _)⟩, ⟨by unfold lowest highest; constructor <;> split <;> omega⟩⟩
  case rest =>
    obtain ⟨g5, g6, lo, hi, rfl, rfl, H5, H6, HB3, HLH⟩ := hcut
    have HB4 := Aside0.mk (below_step HB2.out HB3.out)
    have hx2 := blk_below HX2b.out HB3.out
    have hx3 := blk_below HX3.out HB3.out
    clear c20 c21 c22 c23 c30 c31 c32 c33 l2 l3 HB1 HB2 HX2 HX3 HX2b HB3
    have c20 := (blk_cell hx2 0).trans rfl
    have c22 := (blk_cell hx2 2).trans rfl
    have c23 := (blk_cell hx2 3).trans rfl
    have c30 := (blk_cell hx3 0).trans rfl
    have c32 := (blk_cell hx3 2).trans rfl
    have c33 := (blk_cell hx3 3).trans rfl
    have c5 := (blk_cell H5.out 0).trans rfl
    have c6 := (blk_cell H6.out 0).trans rfl
    clear hx2 hx3
    by_cases h1 : x0 = p0
    · have HV : Aside0 (ac = false) := ⟨by rw [HAC.out, if_pos (.inl h1)]⟩
      have t1 : (x0 == p0) = true := beq_iff_eq.2 h1
      clear h1
      go_wp2
      go_ret
      exact ⟨by rw [HV.out]; rfl, HB4.out⟩
    have t1 : (x0 == p0) = false := beq_eq_false_iff_ne.2 h1
    by_cases h2 : x3 = p3
    case neg =>
      have HV : Aside0 (ac = false) := ⟨by rw [HAC.out, if_pos (.inr (.inl h2))]⟩
      have t2 : (x3 != p3) = true := bne_iff_ne.2 h2
      clear h1 h2
      go_wp2
      go_ret
      exact ⟨by rw [HV.out]; rfl, HB4.out⟩
    have t2 : (x3 != p3) = false := by rw [h2]; simp
    by_cases h3 : lo < 0
    · have HV : Aside0 (ac = false) := ⟨by rw [HAC.out, if_pos (.inr (.inr (by have h := HLH.out.1; unfold lowest at h; split at h <;> omega)))]⟩
      have t3 : decide (lo < 0) = true := decide_eq_true h3
      clear h1 h2 h3
      go_wp2
      go_ret
      exact ⟨by rw [HV.out]; rfl, HB4.out⟩
    have t3 : decide (lo < 0) = false := decide_eq_false h3
    have hlv : 0 ≤ p1 ∧ 0 ≤ x1 := by have h := HLH.out.1; unfold lowest at h; split at h <;> omega
    by_cases h4 : x2 ≠ p2 ∧ x2 ≠ 0 ∧ p2 ≠ 0
    · have HV : Aside0 (ac = false) := ⟨by rw [HAC.out, if_neg (by omega), if_pos h4]⟩
      have t4 : (x2 != p2) = true := bne_iff_ne.2 h4.1
      have t5 : (x2 != 0) = true := bne_iff_ne.2 h4.2.1
      have t6 : (p2 != 0) = true := bne_iff_ne.2 h4.2.2
      clear h1 h2 h3 h4 hlv
      go_wp2
      go_ret
      exact ⟨by rw [HV.out]; rfl, HB4.out⟩
    have HV : Aside0 (ac = (if x1 = p1 then decide (0 < x1) else decide (x1 = 0 ∨ p1 = 0 ∨ x1 - p1 = 1 ∨ p1 - x1 = 1))) := ⟨by rw [HAC.out, if_neg (by omega), if_neg h4]⟩
    have HPOD : Aside0 ((x2 = p2) ∨ (x2 ≠ p2 ∧ x2 = 0) ∨ (x2 ≠ p2 ∧ x2 ≠ 0 ∧ p2 = 0)) := ⟨by omega⟩
    have HLV := Aside0.mk hlv
    clear h1 h2 h3 h4 HAC hlv
    have HD : Aside0 (-9223372036854775808 ≤ hi - lo ∧ hi - lo < 9223372036854775808) := ⟨by
      have h := HLH.out; have hp := HPX.out; have hl := HLV.out
      unfold lowest highest at h; obtain ⟨e1, e2⟩ := h; split at e1 <;> split at e2 <;> omega⟩
    have HEQ : Aside0 (hi - lo = 0 ↔ x1 = p1) := ⟨by
      have h := HLH.out
      unfold lowest highest at h; obtain ⟨e1, e2⟩ := h; split at e1 <;> split at e2 <;> omega⟩
    have HONE : Aside0 ((lo = 0 ∨ hi - lo = 1) ↔ (x1 = 0 ∨ p1 = 0 ∨ x1 - p1 = 1 ∨ p1 - x1 = 1)) := ⟨by
      have h := HLH.out; have hl := HLV.out
      unfold lowest highest at h; obtain ⟨e1, e2⟩ := h; split at e1 <;> split at e2 <;> omega⟩
    have HLO : Aside0 (x1 = p1 → lo = x1) := ⟨by
      have h := HLH.out
      unfold lowest highest at h; obtain ⟨e1, e2⟩ := h; intro e; split at e1 <;> omega⟩
    clear HLH
    -- the way to the closure's first call is one of three
    have hpod := HPOD.out
    rcases hpod with hpod | hpod | hpod
    · have t4 : (x2 != p2) = false := by rw [hpod]; simp
      clear hpod
      go_wp2_with fail
      refine (lie_Accepts1.calls _ 0 hi lo g6 g5 c6 c5 HD.out).mono ?_
      rintro e wq ⟨rfl, rfl⟩
      by_cases heq : hi - lo = 0
      · have HV2 : Aside0 (ac = decide (lo > 0)) := ⟨by have h1 := HEQ.out.1 heq; rw [HV.out, if_pos h1, HLO.out h1]⟩
        have t7 : decide (hi - lo = 0) = true := decide_eq_true heq
        rw [t7]
        clear heq t7
        go_wp2
        go_ret
        exact ⟨by rw [HV2.out]; first | rfl | simp, HB4.out⟩
      · have HV2 : Aside0 (ac = (decide (lo = 0) || decide (hi - lo = 1))) := ⟨by rw [HV.out, if_neg (fun e => heq (HEQ.out.2 e)), ← Bool.decide_or]; exact decide_eq_decide.2 HONE.out.symm⟩
        have t7 : decide (hi - lo = 0) = false := decide_eq_false heq
        rw [t7]
        clear heq t7
        by_cases hz : lo = 0
        · have t8 : (lo == 0) = true := beq_iff_eq.2 hz
          have HV3 : Aside0 (ac = true) := ⟨by rw [HV2.out, decide_eq_true hz]; rfl⟩
          clear hz
          go_wp2
          go_ret
          exact ⟨by rw [HV3.out]; rfl, HB4.out⟩
        · have t8 : (lo == 0) = false := beq_eq_false_iff_ne.2 hz
          have HV3 : Aside0 (ac = decide (hi - lo = 1)) := ⟨by rw [HV2.out, decide_eq_false hz]; rfl⟩
          clear hz
          go_wp2_with fail
          refine (lie_Accepts1.calls _ 1 hi lo g6 g5 c6 c5 HD.out).mono ?_
          rintro e wq ⟨rfl, rfl⟩
          generalize decide (hi - lo = 1) = bq at HV3
          go_wp2
          go_ret
          exact ⟨by rw [HV3.out]; rfl, HB4.out⟩
    · have t4 : (x2 != p2) = true := bne_iff_ne.2 hpod.1
      have t5 : (x2 != 0) = false := by rw [hpod.2]; rfl
      clear hpod
      go_wp2_with fail
      refine (lie_Accepts1.calls _ 0 hi lo g6 g5 c6 c5 HD.out).mono ?_
      rintro e wq ⟨rfl, rfl⟩
      by_cases heq : hi - lo = 0
      · have HV2 : Aside0 (ac = decide (lo > 0)) := ⟨by have h1 := HEQ.out.1 heq; rw [HV.out, if_pos h1, HLO.out h1]⟩
        have t7 : decide (hi - lo = 0) = true := decide_eq_true heq
        rw [t7]
        clear heq t7
        go_wp2
        go_ret
        exact ⟨by rw [HV2.out]; first | rfl | simp, HB4.out⟩
      · have HV2 : Aside0 (ac = (decide (lo = 0) || decide (hi - lo = 1))) := ⟨by rw [HV.out, if_neg (fun e => heq (HEQ.out.2 e)), ← Bool.decide_or]; exact decide_eq_decide.2 HONE.out.symm⟩
        have t7 : decide (hi - lo = 0) = false := decide_eq_false heq
        rw [t7]
        clear heq t7
        by_cases hz : lo = 0
        · have t8 : (lo == 0) = true := beq_iff_eq.2 hz
          have HV3 : Aside0 (ac = true) := ⟨by rw [HV2.out, decide_eq_true hz]; rfl⟩
          clear hz
          go_wp2
          go_ret
          exact ⟨by rw [HV3.out]; rfl, HB4.out⟩
        · have t8 : (lo == 0) = false := beq_eq_false_iff_ne.2 hz
          have HV3 : Aside0 (ac = decide (hi - lo = 1)) := ⟨by rw [HV2.out, decide_eq_false hz]; rfl⟩
          clear hz
          go_wp2_with fail
          refine (lie_Accepts1.calls _ 1 hi lo g6 g5 c6 c5 HD.out).mono ?_
          rintro e wq ⟨rfl, rfl⟩
          generalize decide (hi - lo = 1) = bq at HV3
          go_wp2
          go_ret
          exact ⟨by rw [HV3.out]; rfl, HB4.out⟩
    · have t4 : (x2 != p2) = true := bne_iff_ne.2 hpod.1
      have t5 : (x2 != 0) = true := bne_iff_ne.2 hpod.2.1
      have t6 : (p2 != 0) = false := by rw [hpod.2.2]; rfl
      clear hpod
      go_wp2_with fail
      refine (lie_Accepts1.calls _ 0 hi lo g6 g5 c6 c5 HD.out).mono ?_
      rintro e wq ⟨rfl, rfl⟩
      by_cases heq : hi - lo = 0
      · have HV2 : Aside0 (ac = decide (lo > 0)) := ⟨by have h1 := HEQ.out.1 heq; rw [HV.out, if_pos h1, HLO.out h1]⟩
        have t7 : decide (hi - lo = 0) = true := decide_eq_true heq
        rw [t7]
        clear heq t7
        go_wp2
        go_ret
        exact ⟨by rw [HV2.out]; first | rfl | simp, HB4.out⟩
      · have HV2 : Aside0 (ac = (decide (lo = 0) || decide (hi - lo = 1))) := ⟨by rw [HV.out, if_neg (fun e => heq (HEQ.out.2 e)), ← Bool.decide_or]; exact decide_eq_decide.2 HONE.out.symm⟩
        have t7 : decide (hi - lo = 0) = false := decide_eq_false heq
        rw [t7]
        clear heq t7
        by_cases hz : lo = 0
        · have t8 : (lo == 0) = true := beq_iff_eq.2 hz
          have HV3 : Aside0 (ac = true) := ⟨by rw [HV2.out, decide_eq_true hz]; rfl⟩
          clear hz
          go_wp2
          go_ret
          exact ⟨by rw [HV3.out]; rfl, HB4.out⟩
        · have t8 : (lo == 0) = false := beq_eq_false_iff_ne.2 hz
          have HV3 : Aside0 (ac = decide (hi - lo = 1)) := ⟨by rw [HV2.out, decide_eq_false hz]; rfl⟩
          clear hz
          go_wp2_with fail
          refine (lie_Accepts1.calls _ 1 hi lo g6 g5 c6 c5 HD.out).mono ?_
          rintro e wq ⟨rfl, rfl⟩
          generalize decide (hi - lo = 1) = bq at HV3
          go_wp2
          go_ret
          exact ⟨by rw [HV3.out]; rfl, HB4.out⟩
end Go.Proofs.Ytnlfcgnedemhhaa.P
