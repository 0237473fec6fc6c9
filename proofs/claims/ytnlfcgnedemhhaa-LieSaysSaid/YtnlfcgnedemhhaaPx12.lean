-- Printed by a program of this session over the kit's print: all laws of the seat in one namespace, some texts by hand.
import Derived.Test.YtnlfcgnedemhhaaPx0
import Derived.Test.YtnlfcgnedemhhaaPx5
import Derived.Test.YtnlfcgnedemhhaaPx9
import Derived.Test.YtnlfcgnedemhhaaWalkAwake
namespace Go.Proofs.Ytnlfcgnedemhhaa.P
open Go.RowKit Go.Proofs.YtnlfcgnedemhhaaW.PrintWords Go.Proofs.YtnlfcgnedemhhaaW.PrintLast Go.Proofs.YtnlfcgnedemhhaaW.PrintMore
attribute [local go_sem] max2_int min2_int max_two min_two max_three min_three max_four min_four   -- for this text's walks alone
set_option linter.unusedVariables false
set_option linter.unusedSimpArgs false

--HAND Derived.Test.YtnlfcgnedemhhaaWalkAwake
/-! ### selvagelaw09_LieSays: function 6, by hand -/
-- a hand text for the law LieSays
theorem take_nonce (s : L.St) (x : L.Say) (now : Int) : (L.take s x now).2.nonce = s.nonce := by
  unfold L.take
  split; rfl
  split; rfl
  split
  · simp only; split <;> rfl
  split; rfl
  split <;> rfl
theorem next_bd (n : Int) : 1 ≤ L.next n ∧ L.next n ≤ 65535 := by unfold L.next; split <;> omega
theorem tick_nonce (s : L.St) (now : Int) (h : 1 ≤ s.nonce ∧ s.nonce ≤ 65535) : 1 ≤ (L.tick s now).2.nonce ∧ (L.tick s now).2.nonce ≤ 65535 := by
  unfold L.tick; split; exact h; simp only; split <;> exact next_bd _
theorem hears_not {s : L.St} (h : L.hears s = false) : s.other.node = 0 := by
  unfold L.hears at h; simp at h; exact h.1
/-- what holds between the steps -/
structure SaysInv (p0 p1 p2 p3 p4 p5 : Int) (s : L.St) : Prop where
  port : s.port = ⟨p0, p1, p2, p3, p4, p5⟩
  nonce : 1 ≤ s.nonce ∧ s.nonce ≤ 65535

def selvagelaw09_LieSays.f (p0 p1 p2 p3 p4 p5 : Int) (l1 : List S40) : Option Bool := some true

set_option maxRecDepth 100000 in
set_option maxHeartbeats 8000000 in
theorem selvagelaw09_LieSays.calls (p0 p1 p2 p3 p4 p5 : Int) (A1 : Option Addr) (c1 : Nat) (l1 : List S40) (r : Bool) (w : World)
    (hr1 : Kd.C k40 w A1 l1.length l1) (hc1 : l1.length ≤ c1) (h : selvagelaw09_LieSays.f p0 p1 p2 p3 p4 p5 l1 = some r) :
    Calls Try.prog 6 #[.agg #[.int .i64 p0, .int .i64 p1, .int .i64 p2, .int .i64 p3, .int .i64 p4, .int .i64 p5], .slice A1 l1.length c1] w fun e w' => e = .returned (.bool r) ∧ Below w.heap.size w w' := by
  cases h
  have HR1 := Aside0.mk hr1
  have HC1 := Aside0.mk hc1
  have HB := Aside0.mk (Below.refl w.heap.size w)
  clear hr1 hc1
  go_enter Try.func6, Try.ntmps6
  go_wp2_with ((with_reducible refine gate_dst (N := 2) rfl ?_); refine box_event ?hg (N := 2) ?hd (cs := #[.int .i64 p0, .int .i64 p1, .int .i64 p2, .int .i64 p3, .int .i64 p4, .int .i64 p5]) (t := 23) ?hr ?_; (case hd => rfl); (case hg => rfl); (case hr => first | (go_simp; done) | (go_simp; rfl)); intro b2 hg2 w1 hbox hb; have HB1 := Aside0.mk (below_step HB.out hb); have HX2 := Aside0.mk hbox; clear hg2 hbox hb HB)
  refine (awake_q _).mono ?_
  rintro e w3 ⟨rfl, hb⟩
  have HB3 := Aside0.mk (below_step HB1.out hb)
  have x2 := blk_below HX2.out hb
  have HX3 := Aside0.mk x2
  clear hb HB1 HX2
  have c0 := (blk_cell x2 0).trans rfl
  have c1 := (blk_cell x2 1).trans rfl
  have c2 := (blk_cell x2 2).trans rfl
  have c3 := (blk_cell x2 3).trans rfl
  have c4 := (blk_cell x2 4).trans rfl
  have c5 := (blk_cell x2 5).trans rfl
  clear x2
  go_wp2_with fail
  refine (new_q w w3 ⟨p0, p1, p2, p3, p4, p5⟩ HB3.out).mono ?_
  rintro e w4 (⟨hrt, g, rfl, hg, hI, hb⟩ | ⟨hrt, rfl, hb⟩)
  · have HB4 := Aside0.mk (below_step HB3.out hb)
    have HRT := Aside0.mk (show -9223372036854775808 ≤ p1 ∧ p1 < 9223372036854775808 by
      unfold L.rightPort L.within at hrt
      simp only [Bool.and_eq_true, decide_eq_true_eq] at hrt
      omega)
    have HI4 := Aside0.mk hI
    have HX4 := Aside0.mk (blk_below HX3.out hb)
    have HNE := Aside0.mk (show b2 ≠ g from fun e => by have := blk_lt HX3.out; omega)
    have HI0 : Aside0 (SaysInv p0 p1 p2 p3 p4 p5 (L.new ⟨p0, p1, p2, p3, p4, p5⟩)) := ⟨⟨rfl, show (1 : Int) ≤ 1 ∧ (1 : Int) ≤ 65535 by decide⟩⟩
    clear hb hrt hg hI c0 c1 c2 c3 c4 c5 HB3 HX3
    go_wp2_with fail
    go_loopg [8] 152 (fun kq v8 wr => ∃ (i : Nat) (s : L.St), v8 = .int .i64 i ∧ Aside0 (i ≤ 150 ∧ 151 - i < kq) ∧ Aside0 (IsL w wr g s) ∧ Aside0 (SaysInv p0 p1 p2 p3 p4 p5 s) ∧ Aside0 (Below w.heap.size w wr) ∧ Aside0 (wr.heap[b2]? = some (.cells #[.int .i64 p0, .int .i64 p1, .int .i64 p2, .int .i64 p3, .int .i64 p4, .int .i64 p5] 23 (0, 0))))
    case atStart => exact ⟨0, _, rfl, ⟨by omega⟩, HI4, HI0, HB4, HX4⟩
    case round =>
      clear HI4 HI0 HB4 HX4
      obtain ⟨i, s, rfl, HK, HI, HS, HB, HX⟩ := hrel
      cases gk with
      | zero => exact absurd HK.out.2 (by omega)
      | succ k3 =>
      have hi := HK.out.1
      by_cases hlt : i < l1.length
      · have t0 : decide (i < l1.length) = true := decide_eq_true hlt
        have t1 : decide ((i : Int) < (l1.length : Int)) = true := decide_eq_true (by omega)
        have hq0 : (0 : Int) ≤ (i : Int) := by omega
        have hq1 : (i : Int) < (l1.length : Int) := by omega
        by_cases h150 : i < 150
        · have t2 : decide ((i : Int) < 150) = true := decide_eq_true (by omega)
          have t3 : decide (i < 150) = true := decide_eq_true h150
          obtain ⟨ad, ead, y0, y1, y2, y3, y4, y5, y6, y7, y8, y9, y10, y11, y12, y13, y14⟩ := at_T40 (Kd.C_below HR1.out HB.out) (i : Int) hq0 hq1
          rw [Int.toNat_natCast] at y0 y1 y2 y3 y4 y5 y6 y7 y8 y9 y10 y11 y12 y13 y14
          cases ead
          generalize rd_T40 l1 (i : Int) = y at y0 y1 y2 y3 y4 y5 y6 y7 y8 y9 y10 y11 y12 y13 y14
          obtain ⟨d, now, nn, ⟨x0, x1, x2, x3, x4, x5, x6, x7, x8, x9, x10, x11⟩⟩ := y
          simp only at y0 y1 y2 y3 y4 y5 y6 y7 y8 y9 y10 y11 y12 y13 y14
          have HI15 := Aside0.mk (show i < 150 from h150)
          clear hlt h150 hi
          go_upto_block 2 with (fail)
          have hb := below_alloc (Below.refl wr.heap.size wr) (.cells #[.int .i64 d, .int .i64 now, .int .i64 nn, .int .i64 x0, .int .i64 x1, .int .i64 x2, .int .i64 x3, .int .i64 x4, .int .i64 x5, .int .i64 x6, .int .i64 x7, .int .i64 x8, .int .i64 x9, .bool x10, .bool x11] 40)
          have hx := blk_new wr (.cells #[.int .i64 d, .int .i64 now, .int .i64 nn, .int .i64 x0, .int .i64 x1, .int .i64 x2, .int .i64 x3, .int .i64 x4, .int .i64 x5, .int .i64 x6, .int .i64 x7, .int .i64 x8, .int .i64 x9, .bool x10, .bool x11] 40)
          generalize wr.alloc (.cells #[.int .i64 d, .int .i64 now, .int .i64 nn, .int .i64 x0, .int .i64 x1, .int .i64 x2, .int .i64 x3, .int .i64 x4, .int .i64 x5, .int .i64 x6, .int .i64 x7, .int .i64 x8, .int .i64 x9, .bool x10, .bool x11] 40) = w5 at hb hx ⊢
          have HI5 := Aside0.mk (IsS57.below HI.out hb)
          have HB5 := Aside0.mk (below_step HB.out hb)
          have HX5 := Aside0.mk (blk_below HX.out hb)
          clear y0 y1 y2 y3 y4 y5 y6 y7 y8 y9 y10 y11 y12 y13 y14
          have y0 := (blk_cell hx 0).trans rfl
          have y1 := (blk_cell hx 1).trans rfl
          have y2 := (blk_cell hx 2).trans rfl
          have y3 := (blk_cell hx 3).trans rfl
          have y4 := (blk_cell hx 4).trans rfl
          have y5 := (blk_cell hx 5).trans rfl
          have y6 := (blk_cell hx 6).trans rfl
          have y7 := (blk_cell hx 7).trans rfl
          have y8 := (blk_cell hx 8).trans rfl
          have y9 := (blk_cell hx 9).trans rfl
          have y10 := (blk_cell hx 10).trans rfl
          have y11 := (blk_cell hx 11).trans rfl
          have y12 := (blk_cell hx 12).trans rfl
          have y13 := (blk_cell hx 13).trans rfl
          have y14 := (blk_cell hx 14).trans rfl
          clear hb hx
          (try simp only [Act.put, List.setIfInBounds_toArray, List.set_cons_zero, List.set_cons_succ])
          go_cut [57] (fun v57 wc => ∃ s' : L.St, Aside0 (IsL w wc g s') ∧ Aside0 (SaysInv p0 p1 p2 p3 p4 p5 s') ∧ Aside0 (Below w.heap.size w wc) ∧ Aside0 (wc.heap[b2]? = some (.cells #[.int .i64 p0, .int .i64 p1, .int .i64 p2, .int .i64 p3, .int .i64 p4, .int .i64 p5] 23 (0, 0))))
          case first =>
            by_cases h0 : d = 0
            · subst h0
              go_wp2_with fail
              refine (take_q w w5 g s ⟨x0, x1, x2, x3, x4, x5, x6, x7, x8, x9, x10, x11⟩ now HI5.out HB5.out (by rw [HS.out.port]; exact HRT.out)).mono ?_
              rintro e w6 ⟨rfl, k1, k2, k3_⟩
              have H1 := Aside0.mk k1
              have H2 : Aside0 (SaysInv p0 p1 p2 p3 p4 p5 (L.take s ⟨x0, x1, x2, x3, x4, x5, x6, x7, x8, x9, x10, x11⟩ now).2) := ⟨⟨(take_port _ _ _).trans HS.out.port, by rw [take_nonce]; exact HS.out.nonce⟩⟩
              have H3 := Aside0.mk k2
              have H4 := Aside0.mk (k3_.blk HX5.out HNE.out (by simp))
              clear k1 k2 k3_
              go_wp2
              go_meet
              case rel => exact ⟨_, H1, H2, H3, H4⟩
            · have t5 : (d == 0) = false := beq_eq_false_iff_ne.2 h0
              by_cases h1 : d = 1
              · subst h1
                go_wp2_with fail
                refine (tick_q w w5 g s now HI5.out HB5.out).mono ?_
                rintro e w6 ⟨rfl, k1, k2, k3_⟩
                have H1 := Aside0.mk k1
                have H2 : Aside0 (SaysInv p0 p1 p2 p3 p4 p5 (L.tick s now).2) := ⟨⟨(tick_level _ _).trans HS.out.port, tick_nonce _ _ HS.out.nonce⟩⟩
                have H3 := Aside0.mk k2
                have H4 := Aside0.mk (k3_.blk HX5.out HNE.out (by simp))
                clear k1 k2 k3_
                go_wp2
                go_meet
                case rel => exact ⟨_, H1, H2, H3, H4⟩
              · have t6 : (d == 1) = false := beq_eq_false_iff_ne.2 h1
                go_wp2
                go_meet
                case rel => exact ⟨_, HI5, HS, HB5, HX5⟩
          case rest =>
            obtain ⟨s', HI6, HS6, HB6, HX6⟩ := hcut
            clear HI5 HB5 HX5 y0 y1 y2 y3 y4 y5 y6 y7 y8 y9 y10 y11 y12 y13 y14
            obtain ⟨pp, st, no, ⟨o0, o1, o2, o3⟩, un⟩ := s'
            have hp := HS6.out.port
            simp only at hp
            subst hp
            have hno := HS6.out.nonce
            simp only at hno
            have t7 : decide (no < 1) = false := decide_eq_false (by omega)
            have t8 : decide (no > 65535) = false := decide_eq_false (by omega)
            have t9 : decide (65535 < no) = false := decide_eq_false (by omega)
            have HNO := Aside0.mk (show 1 ≤ (⟨⟨p0, p1, p2, p3, p4, p5⟩, st, no, ⟨o0, o1, o2, o3⟩, un⟩ : L.St).nonce ∧ (⟨⟨p0, p1, p2, p3, p4, p5⟩, st, no, ⟨o0, o1, o2, o3⟩, un⟩ : L.St).nonce ≤ 65535 from hno)
            clear hno
            obtain ⟨hh, hhh⟩ : ∃ hh, L.hears (⟨⟨p0, p1, p2, p3, p4, p5⟩, st, no, ⟨o0, o1, o2, o3⟩, un⟩ : L.St) = hh := ⟨_, rfl⟩
            have HHE := Aside0.mk hhh
            have HSAY : Aside0 (∀ W, IsL w W g (⟨⟨p0, p1, p2, p3, p4, p5⟩, st, no, ⟨o0, o1, o2, o3⟩, un⟩ : L.St) → Calls Try.prog 13 #[.pointer (some ⟨g, 0, none⟩)] W fun e w' => e = .returned (.agg #[.int .i64 p0, .int .i64 p1, .int .i64 p2, .int .i64 p3, .int .i64 p4, .int .i64 no, .int .i64 o0, .int .i64 o1, .int .i64 o3, .int .i64 p5, .bool false, .bool false]) ∧ Below W.heap.size W w') := ⟨fun W h => say_q w W g _ h⟩
            have HOTH : Aside0 (∀ W, IsL w W g (⟨⟨p0, p1, p2, p3, p4, p5⟩, st, no, ⟨o0, o1, o2, o3⟩, un⟩ : L.St) → Calls Try.prog 18 #[.pointer (some ⟨g, 0, none⟩)] W fun e w' => e = .returned (.tuple #[.agg #[.int .i64 o0, .int .i64 o1, .int .i64 o2, .int .i64 o3], .bool hh]) ∧ Below W.heap.size W w') := ⟨fun W h => by rw [← hhh]; exact other_q w W g _ h⟩
            clear hhh
            go_wp2_with fail
            refine (HSAY.out _ HI6.out).mono ?_
            rintro e w7 ⟨rfl, hb⟩
            have HI7 := Aside0.mk (IsS57.below HI6.out hb)
            have HB7 := Aside0.mk (below_step HB6.out hb)
            have HX7 := Aside0.mk (blk_below HX6.out hb)
            clear hb HI6 HB6 HX6
            go_wp2_with fail
            have hb := below_alloc (Below.refl w7.heap.size w7) (.cells #[.int .i64 p0, .int .i64 p1, .int .i64 p2, .int .i64 p3, .int .i64 p4, .int .i64 no, .int .i64 o0, .int .i64 o1, .int .i64 o3, .int .i64 p5, .bool false, .bool false] 25)
            have hx := blk_new w7 (.cells #[.int .i64 p0, .int .i64 p1, .int .i64 p2, .int .i64 p3, .int .i64 p4, .int .i64 no, .int .i64 o0, .int .i64 o1, .int .i64 o3, .int .i64 p5, .bool false, .bool false] 25)
            generalize w7.alloc (.cells #[.int .i64 p0, .int .i64 p1, .int .i64 p2, .int .i64 p3, .int .i64 p4, .int .i64 no, .int .i64 o0, .int .i64 o1, .int .i64 o3, .int .i64 p5, .bool false, .bool false] 25) = w8 at hb hx ⊢
            have HI8 := Aside0.mk (IsS57.below HI7.out hb)
            have HB8 := Aside0.mk (below_step HB7.out hb)
            have HX8 := Aside0.mk (blk_below HX7.out hb)
            have HE8 := Aside0.mk hx
            clear hb hx HI7 HB7 HX7
            refine (HOTH.out _ HI8.out).mono ?_
            rintro e w9 ⟨rfl, hb⟩
            have HI9 := Aside0.mk (IsS57.below HI8.out hb)
            have HB9 := Aside0.mk (below_step HB8.out hb)
            have HX9 := Aside0.mk (blk_below HX8.out hb)
            have HE9 := Aside0.mk (blk_below HE8.out hb)
            clear hb HI8 HB8 HX8 HE8
            go_upto_region 16 with (fail)
            have hb := below_alloc (Below.refl w9.heap.size w9) (.cells #[.int .i64 o0, .int .i64 o1, .int .i64 o2, .int .i64 o3] 43)
            have hx := blk_new w9 (.cells #[.int .i64 o0, .int .i64 o1, .int .i64 o2, .int .i64 o3] 43)
            generalize w9.alloc (.cells #[.int .i64 o0, .int .i64 o1, .int .i64 o2, .int .i64 o3] 43) = w10 at hb hx ⊢
            have HI10 := Aside0.mk (IsS57.below HI9.out hb)
            have HB10 := Aside0.mk (below_step HB9.out hb)
            have HX10 := Aside0.mk (blk_below HX9.out hb)
            have he := blk_below HE9.out hb
            have hx2 := HX10.out
            have c0 := (blk_cell hx2 0).trans rfl
            have c1 := (blk_cell hx2 1).trans rfl
            have c2 := (blk_cell hx2 2).trans rfl
            have c3 := (blk_cell hx2 3).trans rfl
            have c4 := (blk_cell hx2 4).trans rfl
            have c5 := (blk_cell hx2 5).trans rfl
            have d0 := (blk_cell he 0).trans rfl
            have d1 := (blk_cell he 1).trans rfl
            have d2 := (blk_cell he 2).trans rfl
            have d3 := (blk_cell he 3).trans rfl
            have d4 := (blk_cell he 4).trans rfl
            have d5 := (blk_cell he 5).trans rfl
            have d6 := (blk_cell he 6).trans rfl
            have d7 := (blk_cell he 7).trans rfl
            have d8 := (blk_cell he 8).trans rfl
            have d9 := (blk_cell he 9).trans rfl
            have d10 := (blk_cell he 10).trans rfl
            have d11 := (blk_cell he 11).trans rfl
            have f0 := (blk_cell hx 0).trans rfl
            have f1 := (blk_cell hx 1).trans rfl
            have f2 := (blk_cell hx 2).trans rfl
            have f3 := (blk_cell hx 3).trans rfl
            clear hb hx he hx2 HI9 HB9 HX9 HE9
            cases hh with
            | true =>
              go_wp2
              go_roundg k3
              case measure => omega
              case rel => exact ⟨i + 1, (⟨⟨p0, p1, p2, p3, p4, p5⟩, st, no, ⟨o0, o1, o2, o3⟩, un⟩ : L.St), congrArg (Value.int .i64) (show wrap64 ((i : Int) + 1) = ((i + 1 : Nat) : Int) by have := HI15.out; unfold wrap64; omega), ⟨by have := HI15.out; have := HK.out; omega⟩, HI10, ⟨⟨rfl, HNO.out⟩⟩, HB10, HX10⟩
            | false =>
              have ho := hears_not HHE.out
              simp only at ho
              subst ho
              go_wp2
              go_roundg k3
              case measure => omega
              case rel => exact ⟨i + 1, (⟨⟨p0, p1, p2, p3, p4, p5⟩, st, no, ⟨0, o1, o2, o3⟩, un⟩ : L.St), congrArg (Value.int .i64) (show wrap64 ((i : Int) + 1) = ((i + 1 : Nat) : Int) by have := HI15.out; unfold wrap64; omega), ⟨by have := HI15.out; have := HK.out; omega⟩, HI10, ⟨⟨rfl, HNO.out⟩⟩, HB10, HX10⟩
        · have t2 : decide ((i : Int) < 150) = false := decide_eq_false (by omega)
          have t3 : decide (i < 150) = false := decide_eq_false h150
          clear hlt h150 hi
          go_wp2
          go_ret
          exact ⟨rfl, HB.out⟩
      · have t0 : decide (i < l1.length) = false := decide_eq_false hlt
        have t1 : decide ((i : Int) < (l1.length : Int)) = false := decide_eq_false (by omega)
        clear hlt hi
        go_wp2
        go_ret
        exact ⟨rfl, HB.out⟩
  · have HB4 := Aside0.mk (below_step HB3.out hb)
    clear hb c0 c1 c2 c3 c4 c5
    go_wp2
    go_ret
    exact ⟨rfl, HB4.out⟩


/-- THE ONE PURE STATEMENT of selvagelaw09_LieSays: yours. -/
def good40 (x : S40) : Prop := ((Lit.int .i64 x.f0).wf = true ∧ ((Lit.int .i64 x.f1).wf = true ∧ ((Lit.int .i64 x.f2).wf = true ∧ good25 x.f3)))
def selvagelaw09_LieSays.Pure : Prop := ∀ (x0 : S23) (x1 : List (S40)), good23 x0 → (x1.length ≤ maxLen ∧ x1.length * 112 ≤ 140737488351232 ∧ ∀ yx1 ∈ x1, good40 yx1) → selvagelaw09_LieSays.f x0.f0 x0.f1 x0.f2 x0.f3 x0.f4 x0.f5 x1 = some true
theorem selvagelaw09_LieSays.walk (P : selvagelaw09_LieSays.Pure) (x0 : S23) (x1 : List (S40)) (w : World) (A1 : Option Addr) (c1 : Nat) (g0 : good23 x0) (g1 : (x1.length ≤ maxLen ∧ x1.length * 112 ≤ 140737488351232 ∧ ∀ yx1 ∈ x1, good40 yx1)) (hr1 : Kd.F k40 w (fun _ => True) A1 x1.length x1) (hc1 : x1.length ≤ c1) :
    Calls Try.prog 6 #[.agg #[.int .i64 x0.f0, .int .i64 x0.f1, .int .i64 x0.f2, .int .i64 x0.f3, .int .i64 x0.f4, .int .i64 x0.f5], .slice A1 x1.length c1] w fun e w' => e = .returned (.bool true) ∧ Below w.heap.size w w' := by
  have h := P x0 x1 g0 g1
  refine (selvagelaw09_LieSays.calls x0.f0 x0.f1 x0.f2 x0.f3 x0.f4 x0.f5 _ _ x1 true w (Kd.F_now hr1) hc1 h).mono ?_
  rintro e w' ⟨rfl, hd⟩
  exact ⟨rfl, hd⟩

end Go.Proofs.Ytnlfcgnedemhhaa.P
