-- Printed by a program of this session over the kit's print: all laws of the seat in one namespace, some texts by hand.
import Derived.Test.YtbbccjoknohfpaaPx0
import Derived.Test.YtbbccjoknohfpaaPx1
namespace Go.Proofs.Ytbbccjoknohfpaa.P
open Go.RowKit Go.Proofs.YtbbccjoknohfpaaW.PrintWords Go.Proofs.YtbbccjoknohfpaaW.PrintLast Go.Proofs.YtbbccjoknohfpaaW.PrintMore
attribute [local go_sem] max2_int min2_int max_two min_two max_three min_three max_four min_four   -- for this text's walks alone
set_option linter.unusedVariables false
set_option linter.unusedSimpArgs false

/-! ### selvagelaw01_VarintBytes: function 4 -/
mutual
def selvagelaw01_VarintBytes.l0 : Nat → Bool → List Int → Int → Int → Option (Bool)
  | 0, _, _, _, _ => none
  | k + 1, x3, x4, x5, x6 => if x6 > 0 then (selvagelaw01_VarintBytes.l0 k x3 x4 (wrap64 (x5 + 1)) (IntKind.u64.wrap (Int.tdiv x6 128))) else (if x3 = true then (selvagelaw01_VarintBytes.j1 k x4 ((x4.length : Int) != x5)) else (selvagelaw01_VarintBytes.j1 k x4 true))
def selvagelaw01_VarintBytes.j1 : Nat → List Int → Bool → Option (Bool)
  | 0, _, _ => none
  | k + 1, x4, x26 => if x26 = true then (some false) else (selvagelaw01_VarintBytes.l1 k x4 0)
def selvagelaw01_VarintBytes.l1 : Nat → List Int → Int → Option (Bool)
  | 0, _, _ => none
  | k + 1, x4, x7 => if x7 < (x4.length : Int) then (if 0 ≤ x7 then (if ((decide ((rd x4 x7) ≥ 128)) != (decide (x7 < (wrap64 ((x4.length : Int) - 1))))) = true then (some false) else (selvagelaw01_VarintBytes.l1 k x4 (wrap64 (x7 + 1)))) else (none)) else (some true)
end
def selvagelaw01_VarintBytes.f (k : Nat) (a0 : Int) : Option (Bool) := (selvagelaw01_awake.f k).bind fun t127 => ((varint_Put.f k a0).bind fun t128 => (selvagelaw01_VarintBytes.l0 k t127 t128 1 (IntKind.u64.wrap (Int.tdiv a0 128))))
theorem selvagelaw01_VarintBytes.mono_l : ∀ k, (∀ y0 y1 y2 y3, LeO (selvagelaw01_VarintBytes.l0 k y0 y1 y2 y3) (selvagelaw01_VarintBytes.l0 (k + 1) y0 y1 y2 y3)) ∧ (∀ y0 y1, LeO (selvagelaw01_VarintBytes.j1 k y0 y1) (selvagelaw01_VarintBytes.j1 (k + 1) y0 y1)) ∧ (∀ y0 y1, LeO (selvagelaw01_VarintBytes.l1 k y0 y1) (selvagelaw01_VarintBytes.l1 (k + 1) y0 y1))
  | 0 => ⟨fun _ _ _ _ r h => by simp [selvagelaw01_VarintBytes.l0] at h, fun _ _ r h => by simp [selvagelaw01_VarintBytes.j1] at h, fun _ _ r h => by simp [selvagelaw01_VarintBytes.l1] at h⟩
  | k + 1 => by
    obtain ⟨ih0, ih1, ih2⟩ := selvagelaw01_VarintBytes.mono_l k
    refine ⟨?_, ?_, ?_⟩
    · intro y0 y1 y2 y3
      unfold selvagelaw01_VarintBytes.l0
      repeat' first
      | (with_reducible exact ih0 _ _ _ _)
      | (with_reducible exact ih1 _ _)
      | (with_reducible exact ih2 _ _)
      | (with_reducible exact selvagelaw01_awake.mono _)
      | (with_reducible exact varint_Put.mono _ _)
      | (with_reducible exact LeO.refl _)
      | (with_reducible exact LeO.none _)
      | (with_reducible refine LeO.ite ?_ ?_)
      | (with_reducible refine LeO.bind ?_ (fun _ => ?_))
      | exact ih0 _ _ _ _
      | exact ih1 _ _
      | exact ih2 _ _
      | exact selvagelaw01_awake.mono _
      | exact varint_Put.mono _ _
      | exact LeO.none _
      | refine LeO.ite ?_ ?_
      | refine LeO.bind ?_ (fun _ => ?_)
    · intro y0 y1
      unfold selvagelaw01_VarintBytes.j1
      repeat' first
      | (with_reducible exact ih0 _ _ _ _)
      | (with_reducible exact ih1 _ _)
      | (with_reducible exact ih2 _ _)
      | (with_reducible exact selvagelaw01_awake.mono _)
      | (with_reducible exact varint_Put.mono _ _)
      | (with_reducible exact LeO.refl _)
      | (with_reducible exact LeO.none _)
      | (with_reducible refine LeO.ite ?_ ?_)
      | (with_reducible refine LeO.bind ?_ (fun _ => ?_))
      | exact ih0 _ _ _ _
      | exact ih1 _ _
      | exact ih2 _ _
      | exact selvagelaw01_awake.mono _
      | exact varint_Put.mono _ _
      | exact LeO.none _
      | refine LeO.ite ?_ ?_
      | refine LeO.bind ?_ (fun _ => ?_)
    · intro y0 y1
      unfold selvagelaw01_VarintBytes.l1
      repeat' first
      | (with_reducible exact ih0 _ _ _ _)
      | (with_reducible exact ih1 _ _)
      | (with_reducible exact ih2 _ _)
      | (with_reducible exact selvagelaw01_awake.mono _)
      | (with_reducible exact varint_Put.mono _ _)
      | (with_reducible exact LeO.refl _)
      | (with_reducible exact LeO.none _)
      | (with_reducible refine LeO.ite ?_ ?_)
      | (with_reducible refine LeO.bind ?_ (fun _ => ?_))
      | exact ih0 _ _ _ _
      | exact ih1 _ _
      | exact ih2 _ _
      | exact selvagelaw01_awake.mono _
      | exact varint_Put.mono _ _
      | exact LeO.none _
      | refine LeO.ite ?_ ?_
      | refine LeO.bind ?_ (fun _ => ?_)
theorem selvagelaw01_VarintBytes.mono : ∀ a0 k, LeO (selvagelaw01_VarintBytes.f k a0) (selvagelaw01_VarintBytes.f (k + 1) a0) := by
  intro a0 k
  obtain ⟨ih0, ih1, ih2⟩ := selvagelaw01_VarintBytes.mono_l k
  unfold selvagelaw01_VarintBytes.f
  repeat' first
      | (with_reducible exact ih0 _ _ _ _)
      | (with_reducible exact ih1 _ _)
      | (with_reducible exact ih2 _ _)
      | (with_reducible exact selvagelaw01_awake.mono _)
      | (with_reducible exact varint_Put.mono _ _)
      | (with_reducible exact LeO.refl _)
      | (with_reducible exact LeO.none _)
      | (with_reducible refine LeO.ite ?_ ?_)
      | (with_reducible refine LeO.bind ?_ (fun _ => ?_))
      | exact ih0 _ _ _ _
      | exact ih1 _ _
      | exact ih2 _ _
      | exact selvagelaw01_awake.mono _
      | exact varint_Put.mono _ _
      | exact LeO.none _
      | refine LeO.ite ?_ ?_
      | refine LeO.bind ?_ (fun _ => ?_)
set_option maxHeartbeats 8000000 in
set_option maxRecDepth 100000 in
theorem selvagelaw01_VarintBytes.calls (k : Nat) (a0 : Int) (r : Bool) (w : World) (h : selvagelaw01_VarintBytes.f k a0 = some r) :
    Calls Try.prog 4 #[.int .u64 a0] w fun e w' => e = .returned (.bool r) ∧ Below w.heap.size w w' := by
  have HB := Aside0.mk (Below.refl w.heap.size w)
  have H : ((selvagelaw01_awake.f k).bind fun t127 => ((varint_Put.f k a0).bind fun t128 => (selvagelaw01_VarintBytes.l0 k t127 t128 1 (IntKind.u64.wrap (Int.tdiv a0 128))))) = some r := h
  clear h
  replace H := Option.bind_eq_some_iff.mp H
  obtain ⟨t127, A20, H⟩ := H
  replace H : ((varint_Put.f k a0).bind fun t128 => (selvagelaw01_VarintBytes.l0 k t127 t128 1 (IntKind.u64.wrap (Int.tdiv a0 128)))) = some r := H
  have A2 := Aside0.mk A20
  clear A20
  replace H := Option.bind_eq_some_iff.mp H
  obtain ⟨t128, A30, H⟩ := H
  replace H : (selvagelaw01_VarintBytes.l0 k t127 t128 1 (IntKind.u64.wrap (Int.tdiv a0 128))) = some r := H
  have A3 := Aside0.mk A30
  clear A30
  have H' := Aside0.mk H
  clear H
  go_enter Try.func4, Try.ntmps4
  go_wp2_with (first | ((with_reducible refine gate_callee (f := 10) rfl ?_); refine goesL_ (some 8) rfl rfl Try.func10 (by kernel_rfl) rfl #[] rfl (by (try simp only [List.map_toArray, List.map_cons, List.map_nil]); first | done | rfl | (simp only [List.length_drop, List.length_take]; rfl)) ?_; (with_reducible refine (selvagelaw01_awake.calls k  t127 _ A2.out).mono ?_); rintro e w4 ⟨rfl, hb⟩; refine ⟨_, rfl, ?_⟩; have n0_ := Aside0.mk (below_step (by repeat (first | (with_reducible first | exact HB.out | apply below_alloc | apply pw_below_drewN | apply below_drew1) | exact HB.out)) hb); clear HB; have HB := n0_; clear n0_; (try clear hb); (try clear hb2); (try clear hk); (try clear hi)) | ((with_reducible refine gate_callee (f := 12) rfl ?_); refine goesL_ (some 10) rfl rfl Try.func12 (by kernel_rfl) rfl #[.int .u64 a0] rfl (by (try simp only [List.map_toArray, List.map_cons, List.map_nil]); first | done | rfl | (simp only [List.length_drop, List.length_take]; rfl)) ?_; (with_reducible refine (varint_Put.calls k a0 t128 _ A3.out).mono ?_); rintro e w5 ⟨v129, rfl, ho0, hb⟩; refine ⟨_, rfl, ?_⟩; have n0_ := Aside0.mk (Kd.R_lower ho0 (below_size (by repeat (first | (with_reducible first | exact HB.out | apply below_alloc | apply pw_below_drewN | apply below_drew1) | exact HB.out)))); have n1_ := Aside0.mk (below_step (by repeat (first | (with_reducible first | exact HB.out | apply below_alloc | apply pw_below_drewN | apply below_drew1) | exact HB.out)) hb); clear HB; have HO130 := n0_; have HB := n1_; clear n0_ n1_; (try clear hb); (try clear hb2); (try clear hk); (try clear hi); (try clear ho0)))
  go_loopg [5, 6] k (fun kq v5 v6 w' => ∃ (x5_1 : Int) (x6_1 : Int), v5 = .int .i64 x5_1 ∧ v6 = .int .u64 x6_1 ∧ Aside0 (selvagelaw01_VarintBytes.l0 kq t127 t128 x5_1 x6_1 = some r) ∧ Aside0 (kq ≤ k) ∧ Aside0 (Kd.R (Kd.int .u8) 5 w' w.heap.size (fun _ => True) v129 t128) ∧ Aside0 (Below w.heap.size w w'))
  case atStart => exact ⟨(1), (IntKind.u64.wrap (Int.tdiv a0 128)), (by first | rfl | (simp; done) | (simp [*]; done)), (by first | rfl | (simp; done) | (simp [*]; done)), H', ⟨Nat.le_refl _⟩, ⟨by (with_reducible repeat (first | apply Kd.R_alloc | apply Kd.R_drewN | apply Kd.R_drew)); exact HO130.out⟩, ⟨by repeat (first | (with_reducible first | exact HB.out | apply below_alloc | apply pw_below_drewN | apply below_drew1) | exact HB.out)⟩⟩
  case round =>
    clear H'
    try clear c1
    try clear p2
    try clear c4
    obtain ⟨x5_1, x6_1, rfl, rfl, HA, HK1, HO_4, HB⟩ := hrel
    cases gk with
    | zero => exact absurd HA.out (by simp [selvagelaw01_VarintBytes.l0])
    | succ k1 =>
      have H := HA.out
      clear HA
      simp only [selvagelaw01_VarintBytes.l0] at H
      by_cases c6 : x6_1 > 0
      · rw [if_pos c6] at H
        have c6b0 : decide (0 < x6_1) = true := decide_eq_true c6
        clear c6
        have H' := Aside0.mk H
        clear H
        go_wp2
        go_roundg k1
        case measure => have := HK1.out; omega
        case rel => exact ⟨(wrap64 (x5_1 + 1)), (IntKind.u64.wrap (Int.tdiv x6_1 128)), (by first | rfl | (simp; done) | (simp [*]; done)), (by first | rfl | (simp; done) | (simp [*]; done)), H', ⟨by have := HK1.out; omega⟩, ⟨by (with_reducible repeat (first | apply Kd.R_alloc | apply Kd.R_drewN | apply Kd.R_drew)); exact HO_4.out⟩, ⟨by repeat (first | (with_reducible first | exact HB.out | apply below_alloc | apply pw_below_drewN | apply below_drew1) | exact HB.out)⟩⟩
      · rw [if_neg c6] at H
        have c6b0 : decide (0 < x6_1) = false := decide_eq_false c6
        clear c6
        have HC7 := Aside0.mk H
        clear H
        go_upto_region 8 with (fail)
        go_cut [26] (fun v26 wc => ∃ (kq : Nat) (x26_6 : Bool), v26 = .bool x26_6 ∧ Aside0 (selvagelaw01_VarintBytes.j1 kq t128 x26_6 = some r) ∧ Aside0 (kq ≤ k1) ∧ Aside0 (Kd.R (Kd.int .u8) 5 wc w.heap.size (fun _ => True) v129 t128) ∧ Aside0 (Below w.heap.size w wc))
        case first =>
          have H := HC7.out
          clear HC7
          by_cases c8 : t127 = true
          · subst c8
            have H1 : (selvagelaw01_VarintBytes.j1 k1 t128 ((t128.length : Int) != x5_1)) = some r := by rw [if_pos rfl] at H; exact H
            clear H
            have H := H1
            clear H1
            have H' := Aside0.mk H
            clear H
            obtain ⟨Ao9, co9, eo9⟩ := Kd.R_slice HO_4.out
            subst eo9
            go_wp2
            go_meet
            case rel => exact ⟨_, (((t128.length : Int) != x5_1)), (by first | rfl | (simp; done) | (simp [*]; done)), H', ⟨by have := HK1.out; first | omega | exact Nat.le_refl _⟩, ⟨by (with_reducible repeat (first | apply Kd.R_alloc | apply Kd.R_drewN | apply Kd.R_drew)); exact HO_4.out⟩, ⟨by repeat (first | (with_reducible first | exact HB.out | apply below_alloc | apply pw_below_drewN | apply below_drew1) | exact HB.out)⟩⟩
          · replace c8 := Bool.eq_false_iff.mpr c8
            subst c8
            have H1 : (selvagelaw01_VarintBytes.j1 k1 t128 true) = some r := by rw [if_neg (show ¬ (false = true) by decide)] at H; exact H
            clear H
            have H := H1
            clear H1
            have H' := Aside0.mk H
            clear H
            go_wp2
            go_meet
            case rel => exact ⟨_, (true), (by first | rfl | (simp; done) | (simp [*]; done)), H', ⟨by have := HK1.out; first | omega | exact Nat.le_refl _⟩, ⟨by (with_reducible repeat (first | apply Kd.R_alloc | apply Kd.R_drewN | apply Kd.R_drew)); exact HO_4.out⟩, ⟨by repeat (first | (with_reducible first | exact HB.out | apply below_alloc | apply pw_below_drewN | apply below_drew1) | exact HB.out)⟩⟩
        case rest =>
          clear HC7
          try clear c1
          try clear p2
          try clear c4
          try clear c6
          try clear c6b0
          try clear p6
          try clear c8
          try clear p2
          obtain ⟨kq, x26_6, rfl, HA, HJ6, HO_4, HB⟩ := hcut
          cases kq with
          | zero => exact absurd HA.out (by simp [selvagelaw01_VarintBytes.j1])
          | succ kj6 =>
            have H := HA.out
            clear HA
            simp only [selvagelaw01_VarintBytes.j1] at H
            by_cases c10 : x26_6 = true
            · subst c10
              have H1 : (some false) = some r := by rw [if_pos rfl] at H; exact H
              clear H
              have H := H1
              clear H1
              obtain rfl := Option.some.inj H
              go_wp2
              go_ret
              exact ⟨by first | rfl | (simp [errW_none, errW_some] <;> rfl) | (simp [*, errW_none, errW_some] <;> rfl), by repeat (first | (with_reducible first | exact HB.out | apply below_alloc | apply pw_below_drewN | apply below_drew1) | exact HB.out)⟩
            · replace c10 := Bool.eq_false_iff.mpr c10
              subst c10
              have H1 : (selvagelaw01_VarintBytes.l1 kj6 t128 0) = some r := by rw [if_neg (show ¬ (false = true) by decide)] at H; exact H
              clear H
              have H := H1
              clear H1
              have H' := Aside0.mk H
              clear H
              go_wp2
              go_loopg [7] kj6 (fun kq v7 w' => ∃ (x7_3 : Int), v7 = .int .i64 x7_3 ∧ Aside0 (selvagelaw01_VarintBytes.l1 kq t128 x7_3 = some r) ∧ Aside0 (kq ≤ kj6) ∧ Aside0 (Kd.R (Kd.int .u8) 5 w' w.heap.size (fun _ => True) v129 t128) ∧ Aside0 (Below w.heap.size w w'))
              case atStart => exact ⟨(0), (by first | rfl | (simp; done) | (simp [*]; done)), H', ⟨Nat.le_refl _⟩, ⟨by (with_reducible repeat (first | apply Kd.R_alloc | apply Kd.R_drewN | apply Kd.R_drew)); exact HO_4.out⟩, ⟨by repeat (first | (with_reducible first | exact HB.out | apply below_alloc | apply pw_below_drewN | apply below_drew1) | exact HB.out)⟩⟩
              case round =>
                clear H'
                try clear c1
                try clear p2
                try clear c4
                try clear c6
                try clear c6b0
                try clear p6
                try clear c8
                try clear c10
                try clear p2
                try clear p6
                obtain ⟨x7_3, rfl, HA, HK3, HO_4, HB⟩ := hrel
                cases gk with
                | zero => exact absurd HA.out (by simp [selvagelaw01_VarintBytes.l1])
                | succ k3 =>
                  have H := HA.out
                  clear HA
                  simp only [selvagelaw01_VarintBytes.l1] at H
                  by_cases c11 : x7_3 < (t128.length : Int)
                  · rw [if_pos c11] at H
                    have c11b0 : decide (x7_3 < (t128.length : Int)) = true := decide_eq_true c11
                    clear c11
                    by_cases c12 : 0 ≤ x7_3
                    · rw [if_pos c12] at H
                      have c12b0 : decide (0 ≤ x7_3) = true := decide_eq_true c12
                      clear c12
                      by_cases c13 : ((decide ((rd t128 x7_3) ≥ 128)) != (decide (x7_3 < (wrap64 ((t128.length : Int) - 1))))) = true
                      · rw [if_pos c13] at H
                        have c13b0 : ((decide ((rd t128 x7_3) ≥ 128)) != (decide (x7_3 < (wrap64 ((t128.length : Int) - 1))))) = true := c13
                        (try (have c13b1 : decide ((decide ((rd t128 x7_3) ≥ 128)) = (decide (x7_3 < (wrap64 ((t128.length : Int) - 1))))) = false := by simpa using c13))
                        (try (have c13b2 : ((decide ((rd t128 x7_3) ≥ 128)) == (decide (x7_3 < (wrap64 ((t128.length : Int) - 1))))) = false := by simpa using c13))
                        (try (have c13b3 : ¬ ((decide ((rd t128 x7_3) ≥ 128)) = (decide (x7_3 < (wrap64 ((t128.length : Int) - 1))))) := by simpa using c13))
                        clear c13
                        obtain rfl := Option.some.inj H
                        obtain ⟨Ao14, co14, eo14⟩ := Kd.R_slice HO_4.out
                        subst eo14
                        have p131 : 0 ≤ (x7_3 : Int) := of_decide_eq_true (by first | (with_reducible assumption) | assumption)
                        have q131 : x7_3 < (t128.length : Int) := of_decide_eq_true (by first | (with_reducible assumption) | assumption)
                        obtain ⟨ad131, e131, hx131_0⟩ := Kd.at_int (Kd.R_reads' HO_4.out).2.2 x7_3 p131 q131
                        cases e131
                        replace p131 := eq_true p131
                        replace q131 := eq_true q131
                        go_wp2
                        go_ret
                        exact ⟨by first | rfl | (simp [errW_none, errW_some] <;> rfl) | (simp [*, errW_none, errW_some] <;> rfl), by repeat (first | (with_reducible first | exact HB.out | apply below_alloc | apply pw_below_drewN | apply below_drew1) | exact HB.out)⟩
                      · rw [if_neg c13] at H
                        have c13b0 : ((decide ((rd t128 x7_3) ≥ 128)) != (decide (x7_3 < (wrap64 ((t128.length : Int) - 1))))) = false := by simpa using c13
                        (try (have c13b1 : decide ((decide ((rd t128 x7_3) ≥ 128)) = (decide (x7_3 < (wrap64 ((t128.length : Int) - 1))))) = true := by simpa using c13))
                        (try (have c13b2 : ((decide ((rd t128 x7_3) ≥ 128)) == (decide (x7_3 < (wrap64 ((t128.length : Int) - 1))))) = true := by simpa using c13))
                        clear c13
                        have H' := Aside0.mk H
                        clear H
                        obtain ⟨Ao15, co15, eo15⟩ := Kd.R_slice HO_4.out
                        subst eo15
                        have p131 : 0 ≤ (x7_3 : Int) := of_decide_eq_true (by first | (with_reducible assumption) | assumption)
                        have q131 : x7_3 < (t128.length : Int) := of_decide_eq_true (by first | (with_reducible assumption) | assumption)
                        obtain ⟨ad131, e131, hx131_0⟩ := Kd.at_int (Kd.R_reads' HO_4.out).2.2 x7_3 p131 q131
                        cases e131
                        replace p131 := eq_true p131
                        replace q131 := eq_true q131
                        go_wp2
                        go_roundg k3
                        case measure => have := HK1.out; have := HJ6.out; have := HK3.out; omega
                        case rel => exact ⟨(wrap64 (x7_3 + 1)), (by first | rfl | (simp; done) | (simp [*]; done)), H', ⟨by have := HK1.out; have := HJ6.out; have := HK3.out; omega⟩, ⟨by (with_reducible repeat (first | apply Kd.R_alloc | apply Kd.R_drewN | apply Kd.R_drew)); exact HO_4.out⟩, ⟨by repeat (first | (with_reducible first | exact HB.out | apply below_alloc | apply pw_below_drewN | apply below_drew1) | exact HB.out)⟩⟩
                    · rw [if_neg c12] at H
                      exact absurd H (by simp)
                  · rw [if_neg c11] at H
                    have c11b0 : decide (x7_3 < (t128.length : Int)) = false := decide_eq_false c11
                    clear c11
                    obtain rfl := Option.some.inj H
                    obtain ⟨Ao16, co16, eo16⟩ := Kd.R_slice HO_4.out
                    subst eo16
                    go_wp2
                    go_ret
                    exact ⟨by first | rfl | (simp [errW_none, errW_some] <;> rfl) | (simp [*, errW_none, errW_some] <;> rfl), by repeat (first | (with_reducible first | exact HB.out | apply below_alloc | apply pw_below_drewN | apply below_drew1) | exact HB.out)⟩

/-- THE ONE PURE STATEMENT of selvagelaw01_VarintBytes: yours. -/
def selvagelaw01_VarintBytes.Pure : Prop := ∀ (a0 : Int), (Lit.int .u64 a0).wf = true → ∃ k, selvagelaw01_VarintBytes.f k a0 = some true
theorem selvagelaw01_VarintBytes.walk (P : selvagelaw01_VarintBytes.Pure) (a0 : Int) (w : World) (w0 : (Lit.int .u64 a0).wf = true) :
    Calls Try.prog 4 #[.int .u64 a0] w fun e w' => e = .returned (.bool true) ∧ Below w.heap.size w w' := by
  obtain ⟨k, h⟩ := P a0 w0
  refine (selvagelaw01_VarintBytes.calls k a0 true w h).mono ?_
  rintro e w' ⟨rfl, hd⟩
  exact ⟨rfl, hd⟩

/-! ### selvageref01_Put: function 13 -/
def selvageref01_Put.f : Nat → Int → Option (List Int)
  | 0, _ => none
  | k + 1, a0 => if a0 < 128 then (some (([(a0) % 256] : List Int))) else ((some (([(IntKind.u64.wrap ((Int.tmod a0 128) + 128)) % 256] : List Int) : List Int)).bind fun y135 => ((selvageref01_Put.f k (IntKind.u64.wrap (Int.tdiv a0 128))).bind fun t138 => (if y135.length + t138.length < 140737488355328 then (some (y135 ++ t138)) else (none))))
theorem selvageref01_Put.mono_l : ∀ k, (∀ y0, LeO (selvageref01_Put.f k y0) (selvageref01_Put.f (k + 1) y0))
  | 0 => fun _ r h => by simp [selvageref01_Put.f] at h
  | k + 1 => by
    have ih0 := selvageref01_Put.mono_l k
    · intro y0
      unfold selvageref01_Put.f
      repeat' first
      | (with_reducible exact ih0 _)
      | (with_reducible exact LeO.refl _)
      | (with_reducible exact LeO.none _)
      | (with_reducible refine LeO.ite ?_ ?_)
      | (with_reducible refine LeO.bind ?_ (fun _ => ?_))
      | exact ih0 _
      | exact LeO.none _
      | refine LeO.ite ?_ ?_
      | refine LeO.bind ?_ (fun _ => ?_)
theorem selvageref01_Put.mono : ∀ a0 k, LeO (selvageref01_Put.f k a0) (selvageref01_Put.f (k + 1) a0) := by
  intro a0 k
  have ih0 := selvageref01_Put.mono_l k
  exact ih0 a0
set_option maxHeartbeats 8000000 in
set_option maxRecDepth 100000 in
theorem selvageref01_Put.calls (k : Nat) : ∀ (a0 : Int) (r : List Int) (w : World) (h : selvageref01_Put.f k a0 = some r),
    Calls Try.prog 13 #[.int .u64 a0] w fun e w' => ∃ v0_ : Value, e = .returned (v0_) ∧ Kd.R (Kd.int .u8) 5 w' w.heap.size (fun _ => True) v0_ r ∧ Below w.heap.size w w' := by
  induction k using Nat.strongRecOn with
  | _ k ih =>
  intro a0 r w h
  cases k with
  | zero => exact absurd h (by simp [selvageref01_Put.f])
  | succ k =>
  simp only [selvageref01_Put.f] at h
  have HB := Aside0.mk (Below.refl w.heap.size w)
  have H : (if a0 < 128 then (some (([(a0) % 256] : List Int))) else ((some (([(IntKind.u64.wrap ((Int.tmod a0 128) + 128)) % 256] : List Int) : List Int)).bind fun y135 => ((selvageref01_Put.f k (IntKind.u64.wrap (Int.tdiv a0 128))).bind fun t138 => (if y135.length + t138.length < 140737488355328 then (some (y135 ++ t138)) else (none))))) = some r := h
  clear h
  by_cases c2 : a0 < 128
  · rw [if_pos c2] at H
    have c2b0 : decide (a0 < 128) = true := decide_eq_true c2
    clear c2
    obtain ⟨y132, hy132⟩ : ∃ y_ : List Int, y_ = (([(a0) % 256] : List Int)) := ⟨_, rfl⟩
    replace H : (some y132) = some r := by first | (rw [hy132]; with_reducible exact H) | (have H2_ := (Option.bind_some _ _).symm.trans H; rw [hy132]; with_reducible exact H2_) | (have H2_ := (Option.bind_some _ _).symm.trans H; with_reducible exact H2_) | with_reducible exact H | (rw [hy132]; exact H) | exact H
    have Ny132 := Aside0.mk hy132
    clear hy132
    obtain rfl := Option.some.inj H
    go_enter Try.func13, Try.ntmps13
    go_wp2_with (first | ((with_reducible refine gate_dst (N := 7) rfl ?_); refine Kd.R_lit (Kd.int .u8) _ 5 ?hg (N := 7) ?hd (xs := ([(a0) % 256] : List Int)) (inner := [.int .u8 ((a0) % 256)]) (ok := fun _ => True) (okp := fun _ => True) ?hr ?hp (fun _ hk => hk) trivial (Below.refl _ _) (Nat.le_refl _) (by simp) ?_; (case hd => rfl); (case hg => rfl); (case hr => first | (go_simp; done) | (go_simp; rfl)); (case hp => exact (Reps.one (show Kd.M (Kd.int .u8) _ _ _ ((a0) % 256) [.int .u8 ((a0) % 256)] from rfl) (Reps.none _ _))); intro v133 w3 ho4 hb hg_ hnew_; clear hg_ hnew_; (first | rw [← Ny132.out] at ho4 | (simp only [Int.reduceToNat] at ho4; rw [← Ny132.out] at ho4)); have n0_ := Aside0.mk (Kd.R_lower ho4 (below_size (by repeat (first | (with_reducible first | exact HB.out | apply below_alloc | apply pw_below_drewN | apply below_drew1) | exact HB.out)))); have n1_ := Aside0.mk (below_step (by repeat (first | (with_reducible first | exact HB.out | apply below_alloc | apply pw_below_drewN | apply below_drew1) | exact HB.out)) hb); clear HB; have HO134 := n0_; have HB := n1_; clear n0_ n1_; clear hb ho4))
    go_ret
    exact ⟨_, by first | rfl | (simp [errW_none, errW_some] <;> rfl) | (simp [*, errW_none, errW_some] <;> rfl), by (with_reducible repeat (first | apply Kd.R_alloc | apply Kd.R_drewN | apply Kd.R_drew)); exact HO134.out, by repeat (first | (with_reducible first | exact HB.out | apply below_alloc | apply pw_below_drewN | apply below_drew1) | exact HB.out)⟩
  · rw [if_neg c2] at H
    have c2b0 : decide (a0 < 128) = false := decide_eq_false c2
    clear c2
    obtain ⟨y135, hy135⟩ : ∃ y_ : List Int, y_ = (([(IntKind.u64.wrap ((Int.tmod a0 128) + 128)) % 256] : List Int)) := ⟨_, rfl⟩
    replace H : ((selvageref01_Put.f k (IntKind.u64.wrap (Int.tdiv a0 128))).bind fun t138 => (if y135.length + t138.length < 140737488355328 then (some (y135 ++ t138)) else (none))) = some r := by first | (rw [hy135]; with_reducible exact H) | (have H2_ := (Option.bind_some _ _).symm.trans H; rw [hy135]; with_reducible exact H2_) | (have H2_ := (Option.bind_some _ _).symm.trans H; with_reducible exact H2_) | with_reducible exact H | (rw [hy135]; exact H) | exact H
    have Ny135 := Aside0.mk hy135
    clear hy135
    replace H := Option.bind_eq_some_iff.mp H
    obtain ⟨t138, A50, H⟩ := H
    replace H : (if y135.length + t138.length < 140737488355328 then (some (y135 ++ t138)) else (none)) = some r := H
    have A5 := Aside0.mk A50
    clear A50
    by_cases c6 : y135.length + t138.length < 140737488355328
    · rw [if_pos c6] at H
      have LMc6 := Aside0.mk c6
      clear c6
      obtain ⟨y141, hy141⟩ : ∃ y_ : List Int, y_ = (y135 ++ t138) := ⟨_, rfl⟩
      replace H : (some y141) = some r := by first | (rw [hy141]; with_reducible exact H) | (have H2_ := (Option.bind_some _ _).symm.trans H; rw [hy141]; with_reducible exact H2_) | (have H2_ := (Option.bind_some _ _).symm.trans H; with_reducible exact H2_) | with_reducible exact H | (rw [hy141]; exact H) | exact H
      have Ny141 := Aside0.mk hy141
      clear hy141
      obtain rfl := Option.some.inj H
      go_enter Try.func13, Try.ntmps13
      go_wp2_with (first | ((with_reducible refine gate_dst (N := 12) rfl ?_); refine Kd.R_lit (Kd.int .u8) _ 5 ?hg (N := 12) ?hd (xs := ([(IntKind.u64.wrap ((Int.tmod a0 128) + 128)) % 256] : List Int)) (inner := [.int .u8 ((IntKind.u64.wrap ((Int.tmod a0 128) + 128)) % 256)]) (ok := fun _ => True) (okp := fun _ => True) ?hr ?hp (fun _ hk => hk) trivial (Below.refl _ _) (Nat.le_refl _) (by simp) ?_; (case hd => rfl); (case hg => rfl); (case hr => first | (go_simp; done) | (go_simp; rfl)); (case hp => exact (Reps.one (show Kd.M (Kd.int .u8) _ _ _ ((IntKind.u64.wrap ((Int.tmod a0 128) + 128)) % 256) [.int .u8 ((IntKind.u64.wrap ((Int.tmod a0 128) + 128)) % 256)] from rfl) (Reps.none _ _))); intro v136 w7 ho8 hb hg_ hnew_; clear hg_ hnew_; (first | rw [← Ny135.out] at ho8 | (simp only [Int.reduceToNat] at ho8; rw [← Ny135.out] at ho8)); have n0_ := Aside0.mk (Kd.R_lower ho8 (below_size (by repeat (first | (with_reducible first | exact HB.out | apply below_alloc | apply pw_below_drewN | apply below_drew1) | exact HB.out)))); have n1_ := Aside0.mk (below_step (by repeat (first | (with_reducible first | exact HB.out | apply below_alloc | apply pw_below_drewN | apply below_drew1) | exact HB.out)) hb); clear HB; have HO137 := n0_; have HB := n1_; clear n0_ n1_; clear hb ho8) | ((with_reducible refine gate_callee (f := 13) rfl ?_); refine goesL_ (some 15) rfl rfl Try.func13 (by kernel_rfl) rfl #[.int .u64 (IntKind.u64.wrap (Int.tdiv a0 128))] rfl (by (try simp only [List.map_toArray, List.map_cons, List.map_nil]); first | done | rfl | (simp only [List.length_drop, List.length_take]; rfl)) ?_; (with_reducible refine (ih k (by omega) (IntKind.u64.wrap (Int.tdiv a0 128)) t138 _ A5.out).mono ?_); rintro e w9 ⟨v139, rfl, ho0, hb⟩; refine ⟨_, rfl, ?_⟩; have n0_ := Aside0.mk (Kd.R_elder' (by (with_reducible repeat (first | apply Kd.R_alloc | apply Kd.R_drewN | apply Kd.R_drew)); exact HO137.out) (Kd.R_base ho0) hb); have n1_ := Aside0.mk (Kd.R_lower (Kd.R_new' ho0 (Kd.R_lt (by (with_reducible repeat (first | apply Kd.R_alloc | apply Kd.R_drewN | apply Kd.R_drew)); exact HO137.out))) (below_size (by repeat (first | (with_reducible first | exact HB.out | apply below_alloc | apply pw_below_drewN | apply below_drew1) | exact HB.out)))); have n2_ := Aside0.mk (below_step (by repeat (first | (with_reducible first | exact HB.out | apply below_alloc | apply pw_below_drewN | apply below_drew1) | exact HB.out)) hb); clear HO137; clear HB; have HO137 := n0_; have HO140 := n1_; have HB := n2_; clear n0_ n1_ n2_; (try clear hb); (try clear hb2); (try clear hk); (try clear hi); (try clear ho0); obtain ⟨Ao11, co11, eo11⟩ := Kd.R_slice HO140.out; subst eo11) | ((with_reducible refine gate_builtin (b := .append) (xs := #[.tmp 12, .tmp 15]) rfl ?_); at_builtin; refine Kd.R_append_rows (Kd.int .u8) (w0 := w) w.heap.size rfl (.tmp 12) (.tmp 15) 25 5 (.int .u8 0) 1 rfl Try.underlying25 info5 rfl (by decide) (by omega) v136 y135 t138 _ _ _ (fun k_ => some k_ ≠ (.slice Ao11 t138.length co11 : Value).ownBlock) (fun _ => False) rfl rfl ?aO ?aR (fun _ _ h => h) (fun _ h => h.elim) ?aF ?aB ?aS ?aL ?_; (case aR => repeat (first | exact (Kd.R_reads' HO140.out).2.2 | (with_reducible refine Kd.C_alloc ?_ _) | (with_reducible refine Kd.C_drewN ?_ _) | (with_reducible refine Kd.C_drew ?_))); (case aB => exact (by repeat (first | (with_reducible first | exact HB.out | apply below_alloc | apply pw_below_drewN | apply below_drew1) | exact HB.out))); (case aF => exact (fun k_ hk => Kd.fresh' (Kd.R_lt (by (with_reducible repeat (first | apply Kd.R_alloc | apply Kd.R_drewN | apply Kd.R_drew)); exact HO140.out)) k_ hk)); (case aO => exact (by (with_reducible repeat (first | apply Kd.R_alloc | apply Kd.R_drewN | apply Kd.R_drew)); exact Kd.R_mono HO137.out (fun _ hk => hk.2))); (case aS => exact (below_size (by repeat (first | (with_reducible first | exact HB.out | apply below_alloc | apply pw_below_drewN | apply below_drew1) | exact HB.out)))); (case aL => have := LMc6.out; omega); intro v142 w10 ho hb hg hat; rw [← Ny141.out] at ho; have n0_ := Aside0.mk (Kd.R_after (ok := (fun _ => True)) (by (with_reducible repeat (first | apply Kd.R_alloc | apply Kd.R_drewN | apply Kd.R_drew)); exact HO140.out) hg hat); have n1_ := Aside0.mk (hb); have n2_ := Aside0.mk (ho); clear HO140; clear HB; clear HO137; have HO140 := n0_; have HB := n1_; have HO143 := n2_; clear n0_ n1_ n2_; clear ho hb hg hat))
      go_ret
      exact ⟨_, by first | rfl | (simp [errW_none, errW_some] <;> rfl) | (simp [*, errW_none, errW_some] <;> rfl), by (with_reducible repeat (first | apply Kd.R_alloc | apply Kd.R_drewN | apply Kd.R_drew)); exact Kd.R_mono HO143.out (fun _ hk => trivial), by repeat (first | (with_reducible first | exact HB.out | apply below_alloc | apply pw_below_drewN | apply below_drew1) | exact HB.out)⟩
    · rw [if_neg c6] at H
      exact absurd H (by simp)

/-! ### selvageref01_Zig: function 14 -/
def selvageref01_Zig.f (a0 : Int) : Option (Int) := if a0 ≥ 0 then (some (IntKind.u64.wrap ((IntKind.u64.wrap (a0)) * 2))) else (some (IntKind.u64.wrap ((IntKind.u64.wrap ((IntKind.u64.wrap (wrap64 (-(wrap64 (a0 + 1))))) * 2)) + 1)))
set_option maxHeartbeats 8000000 in
set_option maxRecDepth 100000 in
theorem selvageref01_Zig.calls (a0 : Int) (r : Int) (w : World) (h : selvageref01_Zig.f a0 = some r) :
    Calls Try.prog 14 #[.int .i64 a0] w fun e w' => e = .returned (.int .u64 r) ∧ Drawn0 w w' := by
  have H : (if a0 ≥ 0 then (some (IntKind.u64.wrap ((IntKind.u64.wrap (a0)) * 2))) else (some (IntKind.u64.wrap ((IntKind.u64.wrap ((IntKind.u64.wrap (wrap64 (-(wrap64 (a0 + 1))))) * 2)) + 1)))) = some r := h
  clear h
  by_cases c2 : a0 ≥ 0
  · rw [if_pos c2] at H
    have c2b0 : decide (0 ≤ a0) = true := decide_eq_true c2
    clear c2
    obtain rfl := Option.some.inj H
    go_enter Try.func14, Try.ntmps14
    go_wp2
    go_ret
    exact ⟨by first | rfl | (simp; done) | (simp [*]; done), by repeat (first | exact Drawn0.refl _ | apply Drawn0.step)⟩
  · rw [if_neg c2] at H
    have c2b0 : decide (0 ≤ a0) = false := decide_eq_false c2
    clear c2
    obtain rfl := Option.some.inj H
    go_enter Try.func14, Try.ntmps14
    go_wp2
    go_ret
    exact ⟨by first | rfl | (simp; done) | (simp [*]; done), by repeat (first | exact Drawn0.refl _ | apply Drawn0.step)⟩

/-! ### varint_Zag: function 15 -/
def varint_Zag.f (a0 : Int) : Option (Int) := some (Go.bits .xor .i64 (wrap64 (a0 / 2)) (wrap64 (-(wrap64 (Go.bits .and .u64 a0 1)))))
set_option maxHeartbeats 8000000 in
set_option maxRecDepth 100000 in
theorem varint_Zag.calls (a0 : Int) (r : Int) (w : World) (h : varint_Zag.f a0 = some r) :
    Calls Try.prog 15 #[.int .u64 a0] w fun e w' => e = .returned (.int .i64 r) ∧ Drawn0 w w' := by
  have H : (some (Go.bits .xor .i64 (wrap64 (a0 / 2)) (wrap64 (-(wrap64 (Go.bits .and .u64 a0 1)))))) = some r := h
  clear h
  obtain rfl := Option.some.inj H
  go_enter Try.func15, Try.ntmps15
  go_wp2
  go_ret
  exact ⟨by first | rfl | (simp; done) | (simp [*]; done), by repeat (first | exact Drawn0.refl _ | apply Drawn0.step)⟩

/-! ### selvageref01_Zag: function 16 -/
def selvageref01_Zag.f (a0 : Int) : Option (Int) := if (Int.tmod a0 2) = 0 then (some (wrap64 (IntKind.u64.wrap (Int.tdiv a0 2)))) else (some (wrap64 ((wrap64 (-(wrap64 (IntKind.u64.wrap (Int.tdiv a0 2))))) - 1)))
set_option maxHeartbeats 8000000 in
set_option maxRecDepth 100000 in
theorem selvageref01_Zag.calls (a0 : Int) (r : Int) (w : World) (h : selvageref01_Zag.f a0 = some r) :
    Calls Try.prog 16 #[.int .u64 a0] w fun e w' => e = .returned (.int .i64 r) ∧ Drawn0 w w' := by
  have H : (if (Int.tmod a0 2) = 0 then (some (wrap64 (IntKind.u64.wrap (Int.tdiv a0 2)))) else (some (wrap64 ((wrap64 (-(wrap64 (IntKind.u64.wrap (Int.tdiv a0 2))))) - 1)))) = some r := h
  clear h
  by_cases c2 : (Int.tmod a0 2) = 0
  · rw [if_pos c2] at H
    have c2b0 : ((Int.tmod a0 2) == 0) = true := beq_iff_eq.mpr c2
    have c2b1 : ((Int.tmod a0 2) != 0) = false := bne_eq_false_iff_eq.mpr c2
    clear c2
    obtain rfl := Option.some.inj H
    go_enter Try.func16, Try.ntmps16
    go_wp2
    go_ret
    exact ⟨by first | rfl | (simp; done) | (simp [*]; done), by repeat (first | exact Drawn0.refl _ | apply Drawn0.step)⟩
  · rw [if_neg c2] at H
    have c2b0 : ((Int.tmod a0 2) == 0) = false := beq_eq_false_iff_ne.mpr c2
    have c2b1 : ((Int.tmod a0 2) != 0) = true := bne_iff_ne.mpr c2
    obtain rfl := Option.some.inj H
    go_enter Try.func16, Try.ntmps16
    go_wp2
    go_ret
    exact ⟨by first | rfl | (simp; done) | (simp [*]; done), by repeat (first | exact Drawn0.refl _ | apply Drawn0.step)⟩

end Go.Proofs.Ytbbccjoknohfpaa.P
