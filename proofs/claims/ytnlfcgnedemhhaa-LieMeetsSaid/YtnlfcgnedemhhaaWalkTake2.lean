/- What an end of a link does with what it hears: Take. -/
import Derived.Test.YtnlfcgnedemhhaaWalkTake
set_option linter.unusedVariables false
set_option linter.unusedSimpArgs false
namespace Go.Proofs.Ytnlfcgnedemhhaa.P
open Go Go.RowKit Go.Proofs.YtnlfcgnedemhhaaW.PrintWords Go.Proofs.YtnlfcgnedemhhaaW.PrintLast Go.Proofs.YtnlfcgnedemhhaaW.PrintMore
attribute [local go_sem high] eqA43

theorem saying_bd {x : L.Say} (h : L.rightSay x = true) : (0 ≤ x.hold ∧ x.hold ≤ 65535) ∧ (-1 ≤ x.level ∧ x.level ≤ 24) := by
  unfold L.rightSay L.within at h
  simp only [Bool.and_eq_true, decide_eq_true_eq] at h
  omega
theorem moment_bd {n : Int} (h : L.moment n = true) : 0 ≤ n ∧ n ≤ 1099511627776 := by
  unfold L.moment L.within at h
  simp only [Bool.and_eq_true, decide_eq_true_eq] at h
  omega

set_option maxRecDepth 100000 in
set_option maxHeartbeats 8000000 in
theorem take_q (w0 w : World) (g : Nat) (s : L.St) (x : L.Say) (now : Int) (hI : IsL w0 w g s) (hB : Below w0.heap.size w0 w) (hp : -9223372036854775808 ≤ s.port.level ∧ s.port.level < 9223372036854775808) :
    Calls Try.prog 17 #[.pointer (some ⟨g, 0, none⟩), lieV x, .int .i64 now] w (StPost w0 w g (L.take s x now)) := by
  have HV : Aside0 (L.take s x now = if L.moment now = false then (1, s) else if L.rightSay x = false then (2, s)
    else if L.accepts s.port x = false then (6, if s.other.node = x.node ∧ s.other.link = x.link then L.fall s 0 else s) else if s.state = 3 then (6, s)
    else if L.hears s = true ∧ ¬ (s.other.node = x.node ∧ s.other.link = x.link) then (0, { L.fall s 3 with until_ := now + 4 })
    else (0, { s with other := ⟨x.node, x.link, x.level, x.nonce⟩, until_ := now + x.hold, state := if L.sees s x = true then 2 else 1 })) := ⟨rfl⟩
  generalize L.take s x now = r at HV ⊢
  have HPO : Aside0 (∀ w' a b, r = (a, b) → IsL w0 w' g b → Below w0.heap.size w0 w' → KeepBut w w' g none → StPost w0 w g r (.returned (.int .i64 a)) w') := ⟨fun w' a b e h1 h2 h3 => by subst e; exact ⟨rfl, h1, h2, h3⟩⟩
  generalize StPost w0 w g r = post at HPO ⊢
  have HM := Aside0.mk (fun w => moment_q now w)
  have HMB : Aside0 (L.moment now = true → 0 ≤ now ∧ now ≤ 1099511627776) := ⟨moment_bd⟩
  have HW := Aside0.mk (fun w => wire_Right_lie.calls x w)
  have HWB : Aside0 (L.rightSay x = true → (0 ≤ x.hold ∧ x.hold ≤ 65535) ∧ (-1 ≤ x.level ∧ x.level ≤ 24)) := ⟨saying_bd⟩
  have HA : Aside0 (L.rightSay x = true → ∀ w, Calls Try.prog 10 #[portV s.port, lieV x] w fun e w' => e = .returned (.bool (L.accepts s.port x)) ∧ Below w.heap.size w w') := ⟨fun h w => lie_Accepts.calls s.port x w hp (by have := saying_bd h; omega)⟩
  have HH : Aside0 (∀ w1, IsL w0 w1 g s → Calls Try.prog 32 #[.pointer (some ⟨g, 0, none⟩)] w1 fun e w' => e = .returned (.bool (L.hears s)) ∧ w1 = w') := ⟨fun w1 h => hears_q w0 w1 g s h⟩
  have HS : Aside0 (∀ w1, IsL w0 w1 g { s with other := ⟨x.node, x.link, x.level, x.nonce⟩, until_ := now + x.hold, state := 1 } → Calls Try.prog 33 #[.pointer (some ⟨g, 0, none⟩), lieV x] w1 fun e w' => e = .returned (.bool (L.sees s x)) ∧ Below w1.heap.size w1 w') := ⟨fun w1 h => sees_q w0 w1 g { s with other := ⟨x.node, x.link, x.level, x.nonce⟩, until_ := now + x.hold, state := 1 } x h⟩
  generalize L.moment now = bm at HV HM HMB
  generalize L.rightSay x = br at HV HW HWB HA
  generalize L.accepts s.port x = ba at HV HA
  generalize L.hears s = bh at HV HH
  generalize L.sees s x = bs at HV HS
  obtain ⟨⟨p0, p1, p2, p3, p4, p5⟩, st, no, ⟨o0, o1, o2, o3⟩, un⟩ := s
  obtain ⟨x0, x1, x2, x3, x4, x5, x6, x7, x8, x9, x10, x11⟩ := x
  unfold lieV at HA HS ⊢
  unfold packV at HW
  unfold portV at HA
  simp only at HV HW HWB HA HS ⊢
  have HI := Aside0.mk (show IsS57 w0 w g p0 p1 p2 p3 p4 p5 st no o0 o1 o2 o3 un from hI)
  have HB := Aside0.mk hB
  clear hI hB hp
  go_enter Try.func17, Try.ntmps17
  go_upto_region 1 with (first | ((with_reducible refine gate_dst (N := 4) rfl ?_); refine box_event ?hg (N := 4) ?hd (cs := #[.int .i64 x0, .int .i64 x1, .int .i64 x2, .int .i64 x3, .int .i64 x4, .int .i64 x5, .int .i64 x6, .int .i64 x7, .int .i64 x8, .int .i64 x9, .bool x10, .bool x11]) (t := 25) ?hr ?_; (case hd => rfl); (case hg => rfl); (case hr => first | (go_simp; done) | (go_simp; rfl)); intro b4 hg w1 hbox hb; have HB1 := Aside0.mk (below_step HB.out hb); have HX1 := Aside0.mk hbox; have HI1 := Aside0.mk (HI.out.below hb); have HK1 := Aside0.mk (KeepBut.of_below hb g none); have HG4 := Aside0.mk (show w.heap.size ≤ b4 by omega); have HNE := Aside0.mk (show g ≠ b4 from fun e => by have := HI.out.lt; omega); clear hg hbox hb))
  (try simp only [Act.put, List.setIfInBounds_toArray, List.set_cons_zero, List.set_cons_succ])
  have c8 := cellS57_8 HI1.out.1
  have c9 := cellS57_9 HI1.out.1
  have x0c := (blk_cell HX1.out 0).trans rfl
  have x4c := (blk_cell HX1.out 4).trans rfl
  obtain ⟨sm, hsm⟩ : ∃ b, b = decide (o0 = x0 ∧ o1 = x4) := ⟨_, rfl⟩
  have HSM := Aside0.mk hsm
  clear hsm
  go_cut [7] (fun v7 wc => v7 = .bool sm ∧ Aside0 (∃ nq, wc = w1.drewN nq))
  case first =>
    by_cases h1 : o0 = x0
    · have t1 : (o0 == x0) = true := beq_iff_eq.2 h1
      by_cases h2 : o1 = x4
      · have t2 : (o1 == x4) = true := beq_iff_eq.2 h2
        have HV2 : Aside0 (sm = true) := ⟨by rw [HSM.out]; exact decide_eq_true ⟨h1, h2⟩⟩
        clear h1 h2
        go_quiet (fail)
        go_wp2
        go_meet
        case rel => exact ⟨by rw [HV2.out], ⟨_, rfl⟩⟩
      · have t2 : (o1 == x4) = false := beq_eq_false_iff_ne.2 h2
        have HV2 : Aside0 (sm = false) := ⟨by rw [HSM.out]; exact decide_eq_false (fun e => h2 e.2)⟩
        clear h1 h2
        go_quiet (fail)
        go_wp2
        go_meet
        case rel => exact ⟨by rw [HV2.out], ⟨_, rfl⟩⟩
    · have t1 : (o0 == x0) = false := beq_eq_false_iff_ne.2 h1
      have HV2 : Aside0 (sm = false) := ⟨by rw [HSM.out]; exact decide_eq_false (fun e => h1 e.1)⟩
      clear h1
      go_quiet (fail)
      go_wp2
      go_meet
      case rel => exact ⟨by rw [HV2.out], ⟨_, rfl⟩⟩
  case rest =>
    obtain ⟨rfl, HNQ⟩ := hcut
    have hI2 : IsS57 w0 wc g p0 p1 p2 p3 p4 p5 st no o0 o1 o2 o3 un := by obtain ⟨n, rfl⟩ := HNQ.out; exact HI1.out
    have hB2 : Below w0.heap.size w0 wc := by obtain ⟨n, rfl⟩ := HNQ.out; exact pw_below_drewN HB1.out n
    have hK2 : KeepBut w wc g none := by obtain ⟨n, rfl⟩ := HNQ.out; exact keep_drewN HK1.out n
    have hX2 : wc.heap[b4]? = some (.cells #[.int .i64 x0, .int .i64 x1, .int .i64 x2, .int .i64 x3, .int .i64 x4, .int .i64 x5, .int .i64 x6, .int .i64 x7, .int .i64 x8, .int .i64 x9, .bool x10, .bool x11] 25 (0, 0)) := by obtain ⟨n, rfl⟩ := HNQ.out; exact HX1.out
    have HI2 := Aside0.mk hI2
    have HB2 := Aside0.mk hB2
    have HK2 := Aside0.mk hK2
    have HX2 := Aside0.mk hX2
    clear hI2 hB2 hK2 hX2 HNQ HI1 HB1 HK1 HX1 HI HB c8 c9 x0c x4c
    go_wp2_with fail
    refine (HM.out _).mono ?_
    rintro e w' ⟨rfl, rfl⟩
    cases bm with
    | false =>
      have HV2 : Aside0 (r = (1, ⟨⟨p0, p1, p2, p3, p4, p5⟩, st, no, ⟨o0, o1, o2, o3⟩, un⟩)) := ⟨by rw [HV.out, if_pos rfl]⟩
      go_wp2
      exact HPO.out _ _ _ HV2.out HI2.out HB2.out HK2.out
    | true =>
    have HMB2 : Aside0 (0 ≤ now ∧ now ≤ 1099511627776) := ⟨HMB.out rfl⟩
    go_wp2_with (first | ((with_reducible refine gate_dst (N := 31) rfl ?_); refine wpList_load_row rfl 25 (.tmp 4) rfl b4 rfl 25 _ (0, 0) _ HX2.out Try.underlying25 rfl (by kernel_rfl) ?_) | ((with_reducible refine gate_callee (f := 31) rfl ?_); fail))
    refine (HW.out _).mono ?_
    rintro e w3 ⟨rfl, hb⟩
    have HB3 := Aside0.mk (below_step HB2.out hb)
    have HI3 := Aside0.mk (HI2.out.below hb)
    have HK3 := Aside0.mk (HK2.out.trans (KeepBut.of_below hb g none) (.inl rfl))
    have HX3 := Aside0.mk (blk_below HX2.out hb)
    clear hb HI2 HB2 HK2 HX2 HW HM HMB
    cases br with
    | false =>
      have HV2 : Aside0 (r = (2, ⟨⟨p0, p1, p2, p3, p4, p5⟩, st, no, ⟨o0, o1, o2, o3⟩, un⟩)) := ⟨by rw [HV.out, if_neg (by decide), if_pos rfl]⟩
      go_wp2
      exact HPO.out _ _ _ HV2.out HI3.out HB3.out HK3.out
    | true =>
    have HWB2 := Aside0.mk (HWB.out rfl)
    have HA2 := Aside0.mk (HA.out rfl)
    clear HWB HA
    have c0 := cellS57_0 HI3.out.1
    have c1 := cellS57_1 HI3.out.1
    have c2 := cellS57_2 HI3.out.1
    have c3 := cellS57_3 HI3.out.1
    have c4 := cellS57_4 HI3.out.1
    have c5 := cellS57_5 HI3.out.1
    go_upto_region 6 with (fail)
    have xr := fun (W : World) (h : W.heap[b4]? = w3.heap[b4]?) => h.trans HX3.out
    clear xr
    have y0 := (blk_cell HX3.out 0).trans rfl
    have y1 := (blk_cell HX3.out 1).trans rfl
    have y2 := (blk_cell HX3.out 2).trans rfl
    have y3 := (blk_cell HX3.out 3).trans rfl
    have y4 := (blk_cell HX3.out 4).trans rfl
    have y5 := (blk_cell HX3.out 5).trans rfl
    have y6 := (blk_cell HX3.out 6).trans rfl
    have y7 := (blk_cell HX3.out 7).trans rfl
    have y8 := (blk_cell HX3.out 8).trans rfl
    have y9 := (blk_cell HX3.out 9).trans rfl
    have y10 := (blk_cell HX3.out 10).trans rfl
    have y11 := (blk_cell HX3.out 11).trans rfl
    go_still_tail 5, (by kernel_rfl)
    change wpList _ _ _ _ _ w3.drew
    clear c0 c1 c2 c3 c4 c5 y0 y1 y2 y3 y4 y5 y6 y7 y8 y9 y10 y11
    have hi4 : IsS57 w0 w3.drew g p0 p1 p2 p3 p4 p5 st no o0 o1 o2 o3 un := HI3.out.drew
    have hb4 : Below w0.heap.size w0 w3.drew := below_drew1 HB3.out
    have hk4 : KeepBut w w3.drew g none := keep_drew HK3.out
    have hx4 := blk_drew HX3.out
    clear HI3 HB3 HK3 HX3
    generalize w3.drew = w4 at hi4 hb4 hk4 hx4 ⊢
    have HI4 := Aside0.mk hi4
    have HB4 := Aside0.mk hb4
    have HK4 := Aside0.mk hk4
    have HX4 := Aside0.mk hx4
    clear hi4 hb4 hk4 hx4
    go_wp2_with fail
    refine (HA2.out _).mono ?_
    rintro e w5 ⟨rfl, hb⟩
    have HB5 := Aside0.mk (below_step HB4.out hb)
    have HI5 := Aside0.mk (HI4.out.below hb)
    have HK5 := Aside0.mk (HK4.out.trans (KeepBut.of_below hb g none) (.inl rfl))
    have HX3 := Aside0.mk (blk_below HX4.out hb)
    clear hb HI4 HB4 HK4 HX4 HA2
    cases ba with
    | false =>
      cases sm with
      | false =>
        have HV2 : Aside0 (r = (6, ⟨⟨p0, p1, p2, p3, p4, p5⟩, st, no, ⟨o0, o1, o2, o3⟩, un⟩)) := ⟨by rw [HV.out, if_neg (by decide), if_neg (by decide), if_pos rfl, if_neg (of_decide_eq_false HSM.out.symm)]⟩
        go_wp2
        exact HPO.out _ _ _ HV2.out HI5.out HB5.out HK5.out
      | true =>
        have HV2 : Aside0 (r = (6, ⟨⟨p0, p1, p2, p3, p4, p5⟩, 0, no, ⟨0, 0, 0, 0⟩, un⟩)) := ⟨by rw [HV.out, if_neg (by decide), if_neg (by decide), if_pos rfl, if_pos (of_decide_eq_true HSM.out.symm)]; rfl⟩
        go_wp2_with fail
        refine (lie_End_fall.calls g p0 p1 p2 p3 p4 p5 st no o0 o1 o2 o3 un 0 p0 p1 p2 p3 p4 p5 0 no 0 0 0 0 un w0 _ HI5.out HB5.out rfl).mono ?_
        rintro e w6 ⟨rfl, k1, k2, k3⟩
        have K := Aside0.mk (And.intro k1 (And.intro k2 (HK5.out.trans k3 (.inl rfl))))
        clear k1 k2 k3
        go_wp2
        exact HPO.out _ _ _ HV2.out K.out.1 K.out.2.1 K.out.2.2
    | true =>
    have s6 := cellS57_6 HI5.out.1
    by_cases h3 : st = 3
    · have t3 : (st == 3) = true := beq_iff_eq.2 h3
      have HV2 : Aside0 (r = (6, ⟨⟨p0, p1, p2, p3, p4, p5⟩, st, no, ⟨o0, o1, o2, o3⟩, un⟩)) := ⟨by rw [HV.out, if_neg (by decide), if_neg (by decide), if_neg (by decide), if_pos h3]⟩
      clear h3
      go_wp2
      exact HPO.out _ _ _ HV2.out HI5.out HB5.out HK5.out
    have t3 : (st == 3) = false := beq_eq_false_iff_ne.2 h3
    have HV3 : Aside0 (r = if bh = true ∧ ¬ (o0 = x0 ∧ o1 = x4) then (0, ⟨⟨p0, p1, p2, p3, p4, p5⟩, 3, no, ⟨0, 0, 0, 0⟩, now + 4⟩) else (0, ⟨⟨p0, p1, p2, p3, p4, p5⟩, if bs = true then 2 else 1, no, ⟨x0, x4, x1, x5⟩, now + x9⟩)) := ⟨by rw [HV.out, if_neg (by decide), if_neg (by decide), if_neg (by decide), if_neg h3]; rfl⟩
    clear h3 HV
    have m1 := HMB2.out.1
    have m2 := HMB2.out.2
    have m3 := HWB2.out.1.1
    have m4 := HWB2.out.1.2
    obtain ⟨bq, hbq⟩ : ∃ b, b = (bh && !sm) := ⟨_, rfl⟩
    have HBQ : Aside0 (bq = true ↔ (bh = true ∧ ¬ (o0 = x0 ∧ o1 = x4))) := ⟨by
      rw [hbq, HSM.out]
      by_cases hh : o0 = x0 ∧ o1 = x4
      · rw [decide_eq_true hh]; simp [hh]
      · rw [decide_eq_false hh]; simp only [Bool.not_false, Bool.and_true]; exact ⟨fun e => ⟨e, hh⟩, fun e => e.1⟩⟩
    have HBQ2 := Aside0.mk hbq
    clear hbq HSM
    go_upto_region 12 with (fail)
    (try simp only [Act.put, List.setIfInBounds_toArray, List.set_cons_zero, List.set_cons_succ])
    clear s6
    go_cut [52] (fun v52 w6 => v52 = .bool bq ∧ Aside0 (w6 = w5))
    case first =>
      go_wp2_with fail
      refine (HH.out _ HI5.out).mono ?_
      rintro e w' ⟨rfl, rfl⟩
      cases bh with
      | false =>
        go_wp2
        go_meet
        case rel => exact ⟨by rw [HBQ2.out]; rfl, ⟨rfl⟩⟩
      | true =>
        cases sm with
        | false =>
          go_wp2
          go_meet
          case rel => exact ⟨by rw [HBQ2.out]; rfl, ⟨rfl⟩⟩
        | true =>
          go_wp2
          go_meet
          case rel => exact ⟨by rw [HBQ2.out]; rfl, ⟨rfl⟩⟩
    case rest =>
      obtain ⟨rfl, HW6⟩ := hcut
      have hw6 := HW6.out
      subst hw6
      clear HW6 HBQ2 HH
      cases bq with
      | true =>
        have HV2 : Aside0 (r = (0, ⟨⟨p0, p1, p2, p3, p4, p5⟩, 3, no, ⟨0, 0, 0, 0⟩, now + 4⟩)) := ⟨by rw [HV3.out, if_pos (HBQ.out.1 rfl)]⟩
        clear HBQ
        go_wp2_with fail
        refine (lie_End_fall.calls g p0 p1 p2 p3 p4 p5 st no o0 o1 o2 o3 un 3 p0 p1 p2 p3 p4 p5 3 no 0 0 0 0 un w0 _ HI5.out HB5.out rfl).mono ?_
        rintro e w6 ⟨rfl, k1, k2, k3⟩
        have q12 := cellS57_12 k1.1
        have f12 := blk_frozen k1.1 12
        have K := Aside0.mk (And.intro (k1.set_12 (now + 4)) (And.intro (k2.setCell (p := ⟨g, 12, none⟩) k1.2 (.int .i64 (now + 4))) (KeepBut.set_ (HK5.out.trans k3 (.inl rfl)) 12 (.int .i64 (now + 4)))))
        clear k1 k2 k3
        go_wp2
        exact HPO.out _ _ _ HV2.out K.out.1 K.out.2.1 K.out.2.2
      | false =>
        have HV2 : Aside0 (r = (0, ⟨⟨p0, p1, p2, p3, p4, p5⟩, if bs = true then 2 else 1, no, ⟨x0, x4, x1, x5⟩, now + x9⟩)) := ⟨by rw [HV3.out, if_neg (fun e => by have := HBQ.out.2 e; cases this)]⟩
        clear HBQ HV3
        have c8 := cellS57_8 HI5.out.1
        have c9 := cellS57_9 HI5.out.1
        have c10 := cellS57_10 HI5.out.1
        have c11 := cellS57_11 HI5.out.1
        have f8 := blk_frozen HI5.out.1 8
        have f9 := blk_frozen HI5.out.1 9
        have f10 := blk_frozen HI5.out.1 10
        have f11 := blk_frozen HI5.out.1 11
        have y0 := (blk_cell HX3.out 0).trans rfl
        have y1 := (blk_cell HX3.out 1).trans rfl
        have y4 := (blk_cell HX3.out 4).trans rfl
        have y5 := (blk_cell HX3.out 5).trans rfl
        go_upto_region 17 with (fail)
        clear c8 c9 c10 c11 f8 f9 f10 f11 y0 y1 y4 y5
        obtain ⟨w7, hw7⟩ : ∃ W, W = (((wc.setCell ⟨g, 8, none⟩ (.int .i64 x0)).setCell ⟨g, 9, none⟩ (.int .i64 x4)).setCell ⟨g, 10, none⟩ (.int .i64 x1)).setCell ⟨g, 11, none⟩ (.int .i64 x5) := ⟨_, rfl⟩
        rw [← hw7]
        have hi7 : IsS57 w0 w7 g p0 p1 p2 p3 p4 p5 st no x0 x4 x1 x5 un := by rw [hw7]; exact (((HI5.out.set_8 x0).set_9 x4).set_10 x1).set_11 x5
        have hb7 : Below w0.heap.size w0 w7 := by
          have hg := HI5.out.2
          rw [hw7]; exact (((HB5.out.setCell (p := ⟨g, 8, none⟩) hg _).setCell (p := ⟨g, 9, none⟩) hg _).setCell (p := ⟨g, 10, none⟩) hg _).setCell (p := ⟨g, 11, none⟩) hg _
        have hk7 : KeepBut w w7 g none := by rw [hw7]; exact KeepBut.set_ (KeepBut.set_ (KeepBut.set_ (KeepBut.set_ HK5.out 8 _) 9 _) 10 _) 11 _
        have hne := HNE.out.symm
        have hx7 : w7.heap[b4]? = some (.cells #[.int .i64 x0, .int .i64 x1, .int .i64 x2, .int .i64 x3, .int .i64 x4, .int .i64 x5, .int .i64 x6, .int .i64 x7, .int .i64 x8, .int .i64 x9, .bool x10, .bool x11] 25 (0, 0)) := by
          rw [hw7]; exact blk_far (blk_far (blk_far (blk_far HX3.out (p := ⟨g, 8, none⟩) hne _) (p := ⟨g, 9, none⟩) hne _) (p := ⟨g, 10, none⟩) hne _) (p := ⟨g, 11, none⟩) hne _
        clear hw7 HI5 HB5 HK5 HX3 hne
        have HI7 := Aside0.mk hi7
        have HB7 := Aside0.mk hb7
        have HK7 := Aside0.mk hk7
        have HX7 := Aside0.mk hx7
        clear hi7 hb7 hk7 hx7
        have c6 := cellS57_6 HI7.out.1
        have f6 := blk_frozen HI7.out.1 6
        have c12 := cellS57_12 HI7.out.1
        have f12 := blk_frozen HI7.out.1 12
        have y9 := (blk_cell HX7.out 9).trans rfl
        have hne := HNE.out
        have hne' := HNE.out.symm
        (try simp only [Act.put, List.setIfInBounds_toArray, List.set_cons_zero, List.set_cons_succ])
        go_cut [6] (fun v6 wc => v6 = .int .i64 0 ∧ Aside0 (IsS57 w0 wc g p0 p1 p2 p3 p4 p5 1 no x0 x4 x1 x5 (now + x9)) ∧ Aside0 (Below w0.heap.size w0 wc) ∧ Aside0 (KeepBut w wc g none) ∧ Aside0 (wc.heap[b4]? = some (.cells #[.int .i64 x0, .int .i64 x1, .int .i64 x2, .int .i64 x3, .int .i64 x4, .int .i64 x5, .int .i64 x6, .int .i64 x7, .int .i64 x8, .int .i64 x9, .bool x10, .bool x11] 25 (0, 0))))
        case first =>
          go_region
          all_goals go_wp2
          all_goals
            go_meet
            case rel =>
              have hg := HI7.out.2
              first
              | exact ⟨rfl, ⟨((HI7.out.set_6 1).set_12 (now + x9)).drew⟩, ⟨below_drew1 ((HB7.out.setCell (p := ⟨g, 6, none⟩) hg _).setCell (p := ⟨g, 12, none⟩) hg _)⟩, ⟨keep_drew (KeepBut.set_ (KeepBut.set_ HK7.out 6 _) 12 _)⟩, ⟨blk_drew (blk_far (blk_far HX7.out (p := ⟨g, 6, none⟩) hne' _) (p := ⟨g, 12, none⟩) hne' _)⟩⟩
              | exact ⟨rfl, ⟨((HI7.out.set_12 (now + x9)).set_6 1).drew⟩, ⟨below_drew1 ((HB7.out.setCell (p := ⟨g, 12, none⟩) hg _).setCell (p := ⟨g, 6, none⟩) hg _)⟩, ⟨keep_drew (KeepBut.set_ (KeepBut.set_ HK7.out 12 _) 6 _)⟩, ⟨blk_drew (blk_far (blk_far HX7.out (p := ⟨g, 12, none⟩) hne' _) (p := ⟨g, 6, none⟩) hne' _)⟩⟩
        case rest =>
          obtain ⟨rfl, HI8, HB8, HK8, HX8⟩ := hcut
          clear HI7 HB7 HK7 HX7 c6 f6 c12 f12 y9
          go_wp2_with (first | ((with_reducible refine gate_dst (N := 89) rfl ?_); refine wpList_load_row rfl 25 (.tmp 4) rfl b4 rfl 25 _ (0, 0) _ HX8.out Try.underlying25 rfl (by kernel_rfl) ?_) | fail)
          refine (HS.out _ HI8.out).mono ?_
          rintro e w9 ⟨rfl, hb⟩
          have HI9 := Aside0.mk (HI8.out.below hb)
          have HB9 := Aside0.mk (below_step HB8.out hb)
          have HK9 := Aside0.mk (HK8.out.trans (KeepBut.of_below hb g none) (.inl rfl))
          clear hb HI8 HB8 HK8 HX8
          cases bs with
          | false =>
            go_wp2
            exact HPO.out _ _ _ HV2.out HI9.out HB9.out HK9.out
          | true =>
            have c6 := cellS57_6 HI9.out.1
            have f6 := blk_frozen HI9.out.1 6
            go_wp2
            exact HPO.out _ _ _ HV2.out (HI9.out.set_6 2) (HB9.out.setCell (p := ⟨g, 6, none⟩) HI9.out.2 _) (KeepBut.set_ HK9.out 6 _)
end Go.Proofs.Ytnlfcgnedemhhaa.P
