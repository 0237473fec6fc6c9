-- Printed by a program of this session over the kit's print: all laws of the seat in one namespace, some texts by hand.
import Derived.Test.YtmiijakcmbolfaaPx0
import Derived.Test.YtmiijakcmbolfaaPx1
namespace Go.Proofs.Ytmiijakcmbolfaa.P
open Go.RowKit Go.Proofs.YtmiijakcmbolfaaW.PrintWords Go.Proofs.YtmiijakcmbolfaaW.PrintLast Go.Proofs.YtmiijakcmbolfaaW.PrintMore
attribute [local go_sem] max2_int min2_int max_two min_two max_three min_three max_four min_four   -- for this text's walks alone
set_option linter.unusedVariables false
set_option linter.unusedSimpArgs false

/-! ### value_Encode: function 12 -/
def value_Encode.l0 : Nat → List Int → List (S30) → Int → Int → Option (List Int × Int)
  | 0, _, _, _, _ => none
  | k + 1, x4, x10, x11, x12 => if x12 < x11 then (if 0 ≤ x12 then (if x12 < (x10.length : Int) then ((varint_Put.f k (IntKind.u64.wrap (wrap64 ((wrap64 ((wrap64 (((rd_T30 x10 x12).f1) * 4)) + ((rd_T30 x10 x12).f0))) - 1)))).bind fun t116 => (if x4.length + t116.length < 140737488355328 then ((some (x4 ++ t116 : List Int)).bind fun y119 => (if ((rd_T30 x10 x12).f0) = 1 then ((varint_Zig.f ((rd_T30 x10 x12).f2)).bind fun t122 => ((varint_Put.f k t122).bind fun t123 => (if y119.length + t123.length < 140737488355328 then (value_Encode.l0 k (y119 ++ t123) x10 x11 (wrap64 (x12 + 1))) else (none)))) else (if ((rd_T30 x10 x12).f0) = 2 then ((varint_Put.f k (IntKind.u64.wrap ((((rd_T30 x10 x12).f3).length : Int)))).bind fun t129 => (if y119.length + t129.length < 140737488355328 then ((some (y119 ++ t129 : List Int)).bind fun y132 => (if y132.length + ((rd_T30 x10 x12).f3).length < 140737488355328 then (value_Encode.l0 k (y132 ++ ((rd_T30 x10 x12).f3)) x10 x11 (wrap64 (x12 + 1))) else (none))) else (none))) else (value_Encode.l0 k y119 x10 x11 (wrap64 (x12 + 1)))))) else (none))) else (none)) else (none)) else (if (x4.length : Int) > 4096 then (some (([] : List Int), 3)) else (some (x4, 0)))
def value_Encode.f (k : Nat) (l0 : List (S30)) : Option (List Int × Int) := (value_Right.f k l0).bind fun t113 => (if t113 = true then (value_Encode.l0 k ([] : List Int) l0 (l0.length : Int) 0) else (some (([] : List Int), 1)))
theorem value_Encode.mono_l : ∀ k, (∀ y0 y1 y2 y3, LeO (value_Encode.l0 k y0 y1 y2 y3) (value_Encode.l0 (k + 1) y0 y1 y2 y3))
  | 0 => fun _ _ _ _ r h => by simp [value_Encode.l0] at h
  | k + 1 => by
    have ih0 := value_Encode.mono_l k
    · intro y0 y1 y2 y3
      unfold value_Encode.l0
      repeat' first
      | (with_reducible exact ih0 _ _ _ _)
      | (with_reducible exact value_Right.mono _ _)
      | (with_reducible exact varint_Put.mono _ _)
      | (with_reducible exact LeO.refl _)
      | (with_reducible exact LeO.none _)
      | (with_reducible refine LeO.ite ?_ ?_)
      | (with_reducible refine LeO.bind ?_ (fun _ => ?_))
      | exact ih0 _ _ _ _
      | exact value_Right.mono _ _
      | exact varint_Put.mono _ _
      | exact LeO.none _
      | refine LeO.ite ?_ ?_
      | refine LeO.bind ?_ (fun _ => ?_)
theorem value_Encode.mono : ∀ a0 k, LeO (value_Encode.f k a0) (value_Encode.f (k + 1) a0) := by
  intro a0 k
  have ih0 := value_Encode.mono_l k
  unfold value_Encode.f
  repeat' first
      | (with_reducible exact ih0 _ _ _ _)
      | (with_reducible exact value_Right.mono _ _)
      | (with_reducible exact varint_Put.mono _ _)
      | (with_reducible exact LeO.refl _)
      | (with_reducible exact LeO.none _)
      | (with_reducible refine LeO.ite ?_ ?_)
      | (with_reducible refine LeO.bind ?_ (fun _ => ?_))
      | exact ih0 _ _ _ _
      | exact value_Right.mono _ _
      | exact varint_Put.mono _ _
      | exact LeO.none _
      | refine LeO.ite ?_ ?_
      | refine LeO.bind ?_ (fun _ => ?_)
def value_Encode.T12 : Bool × List (List Nat × List Nat) := (true, [([], []), ([], []), ([1], [1]), ([2], [2]), ([3], [3]), ([4], [4]), ([0, 5, 5], [0, 5]), ([], []), ([7], [7]), ([6, 8, 6], [6, 8]), ([9, 9, 0, 1, 2, 3, 4, 5, 6, 7, 8, 9], [0, 9])])
def value_Encode.B12 : List Nat := [0, 0, 2, 6, 14, 30, 63, 0, 128, 511, 1023]
theorem value_Encode.tab12 : rtab .any (opsOf Try.f12 12) = value_Encode.T12 := by kernel_rfl
theorem value_Encode.bits12 : waitsOk value_Encode.T12.2 value_Encode.B12 = true := by kernel_rfl
set_option maxHeartbeats 8000000 in
set_option maxRecDepth 100000 in
theorem value_Encode.calls (k : Nat) (A0 : Option Addr) (c0 : Nat) (l0 : List (S30)) (r1 : List Int) (r2 : Int) (w : World) (hr0 : Kd.C k30 w A0 l0.length l0) (hc0 : l0.length ≤ c0) (h : value_Encode.f k l0 = some (r1, r2)) :
    Calls Try.prog 12 #[.slice A0 l0.length c0] w fun e w' => ∃ v0_ : Value, e = .returned (.tuple #[v0_, .int .i64 r2]) ∧ Kd.R (Kd.int .u8) 5 w' w.heap.size (fun _ => True) v0_ r1 ∧ Below w.heap.size w w' := by
  have hu30 := Try.underlying30
  have HR0 := Aside0.mk hr0
  have HC0 := Aside0.mk hc0
  clear hr0 hc0
  have HB := Aside0.mk (Below.refl w.heap.size w)
  have H : ((value_Right.f k l0).bind fun t113 => (if t113 = true then (value_Encode.l0 k ([] : List Int) l0 (l0.length : Int) 0) else (some (([] : List Int), 1)))) = some (r1, r2) := h
  clear h
  replace H := Option.bind_eq_some_iff.mp H
  obtain ⟨t113, A20, H⟩ := H
  replace H : (if t113 = true then (value_Encode.l0 k ([] : List Int) l0 (l0.length : Int) 0) else (some (([] : List Int), 1))) = some (r1, r2) := H
  have A2 := Aside0.mk A20
  clear A20
  by_cases c3 : t113 = true
  · subst c3
    have H1 : (value_Encode.l0 k ([] : List Int) l0 (l0.length : Int) 0) = some (r1, r2) := by rw [if_pos rfl] at H; exact H
    clear H
    have H := H1
    clear H1
    have H' := Aside0.mk H
    clear H
    go_enter Try.func12, Try.ntmps12
    go_wp2_with (first | ((with_reducible refine gate_callee (f := 14) rfl ?_); refine goesL_ (some 8) rfl rfl Try.func14 (by kernel_rfl) rfl #[.slice A0 l0.length c0] rfl (by (try simp only [List.map_toArray, List.map_cons, List.map_nil]); first | done | rfl | (simp only [List.length_drop, List.length_take]; rfl)) ?_; (with_reducible refine (value_Right.calls k _ _ l0 true _ ?side1 ?side2 A2.out).mono ?_); (case side1 => repeat (first | exact HR0.out | (with_reducible refine Kd.C_alloc ?_ _) | (with_reducible refine Kd.C_drewN ?_ _) | (with_reducible refine Kd.C_drew ?_))); (case side2 => exact HC0.out); rintro e w4 ⟨rfl, hb⟩; refine ⟨_, rfl, ?_⟩; have n0_ := Aside0.mk (below_step (by repeat (first | (with_reducible first | exact HB.out | apply below_alloc | apply pw_below_drewN | apply below_drew1) | exact HB.out)) hb); clear HB; have HB := n0_; clear n0_; (try clear hb); (try clear hb2); (try clear hk); (try clear hi)))
    go_loopg [4, 12] k (fun kq v4 v12 w' => ∃ (x4_1 : List Int) (x12_1 : Int), v12 = .int .i64 x12_1 ∧ Aside0 (value_Encode.l0 kq x4_1 l0 (l0.length : Int) x12_1 = some (r1, r2)) ∧ Aside0 (kq ≤ k) ∧ Aside0 (Kd.R (Kd.int .u8) 5 w' w.heap.size (fun _ => True) v4 x4_1) ∧ Aside0 (Below w.heap.size w w'))
    case atStart => exact ⟨(([] : List Int)), (0), (by first | rfl | (simp; done) | (simp [*]; done)), H', ⟨Nat.le_refl _⟩, ⟨by first | exact Kd.R_nil _ _ _ _ _ | exact Kd.N_nil _ _ _ _ _ | exact Kd.V_nil _ _ _ _ _ | exact Kd.Q_nil _ _ _ _ _ | exact Kd.S_nil _ _ _ _ _⟩, ⟨by repeat (first | (with_reducible first | exact HB.out | apply below_alloc | apply pw_below_drewN | apply below_drew1) | exact HB.out)⟩⟩
    case round =>
      clear H'
      try clear c1
      try clear p2
      try clear c3
      obtain ⟨x4_1, x12_1, rfl, HA, HK1, HO_4, HB⟩ := hrel
      cases gk with
      | zero => exact absurd HA.out (by simp [value_Encode.l0])
      | succ k1 =>
        have H := HA.out
        clear HA
        simp only [value_Encode.l0] at H
        by_cases c5 : x12_1 < (l0.length : Int)
        · rw [if_pos c5] at H
          have c5b0 : decide (x12_1 < (l0.length : Int)) = true := decide_eq_true c5
          clear c5
          by_cases c6 : 0 ≤ x12_1
          · rw [if_pos c6] at H
            have c6b0 : decide (0 ≤ x12_1) = true := decide_eq_true c6
            clear c6
            by_cases c7 : x12_1 < (l0.length : Int)
            · rw [if_pos c7] at H
              have c7b0 : decide (x12_1 < (l0.length : Int)) = true := decide_eq_true c7
              clear c7
              replace H := Option.bind_eq_some_iff.mp H
              obtain ⟨t116, A80, H⟩ := H
              replace H : (if x4_1.length + t116.length < 140737488355328 then ((some (x4_1 ++ t116 : List Int)).bind fun y119 => (if ((rd_T30 l0 x12_1).f0) = 1 then ((varint_Zig.f ((rd_T30 l0 x12_1).f2)).bind fun t122 => ((varint_Put.f k1 t122).bind fun t123 => (if y119.length + t123.length < 140737488355328 then (value_Encode.l0 k1 (y119 ++ t123) l0 (l0.length : Int) (wrap64 (x12_1 + 1))) else (none)))) else (if ((rd_T30 l0 x12_1).f0) = 2 then ((varint_Put.f k1 (IntKind.u64.wrap ((((rd_T30 l0 x12_1).f3).length : Int)))).bind fun t129 => (if y119.length + t129.length < 140737488355328 then ((some (y119 ++ t129 : List Int)).bind fun y132 => (if y132.length + ((rd_T30 l0 x12_1).f3).length < 140737488355328 then (value_Encode.l0 k1 (y132 ++ ((rd_T30 l0 x12_1).f3)) l0 (l0.length : Int) (wrap64 (x12_1 + 1))) else (none))) else (none))) else (value_Encode.l0 k1 y119 l0 (l0.length : Int) (wrap64 (x12_1 + 1)))))) else (none)) = some (r1, r2) := H
              have A8 := Aside0.mk A80
              clear A80
              by_cases c9 : x4_1.length + t116.length < 140737488355328
              · rw [if_pos c9] at H
                have LMc9 := Aside0.mk c9
                clear c9
                obtain ⟨y119, hy119⟩ : ∃ y_ : List Int, y_ = (x4_1 ++ t116) := ⟨_, rfl⟩
                replace H : (if ((rd_T30 l0 x12_1).f0) = 1 then ((varint_Zig.f ((rd_T30 l0 x12_1).f2)).bind fun t122 => ((varint_Put.f k1 t122).bind fun t123 => (if y119.length + t123.length < 140737488355328 then (value_Encode.l0 k1 (y119 ++ t123) l0 (l0.length : Int) (wrap64 (x12_1 + 1))) else (none)))) else (if ((rd_T30 l0 x12_1).f0) = 2 then ((varint_Put.f k1 (IntKind.u64.wrap ((((rd_T30 l0 x12_1).f3).length : Int)))).bind fun t129 => (if y119.length + t129.length < 140737488355328 then ((some (y119 ++ t129 : List Int)).bind fun y132 => (if y132.length + ((rd_T30 l0 x12_1).f3).length < 140737488355328 then (value_Encode.l0 k1 (y132 ++ ((rd_T30 l0 x12_1).f3)) l0 (l0.length : Int) (wrap64 (x12_1 + 1))) else (none))) else (none))) else (value_Encode.l0 k1 y119 l0 (l0.length : Int) (wrap64 (x12_1 + 1))))) = some (r1, r2) := by first | (rw [hy119]; with_reducible exact H) | (have H2_ := (Option.bind_some _ _).symm.trans H; rw [hy119]; with_reducible exact H2_) | (have H2_ := (Option.bind_some _ _).symm.trans H; with_reducible exact H2_) | with_reducible exact H | (rw [hy119]; exact H) | exact H
                have Ny119 := Aside0.mk hy119
                clear hy119
                by_cases c10 : ((rd_T30 l0 x12_1).f0) = 1
                · rw [if_pos c10] at H
                  have c10b0 : (((rd_T30 l0 x12_1).f0) == 1) = true := beq_iff_eq.mpr c10
                  have c10b1 : (((rd_T30 l0 x12_1).f0) != 1) = false := bne_eq_false_iff_eq.mpr c10
                  clear c10
                  replace H := Option.bind_eq_some_iff.mp H
                  obtain ⟨t122, A110, H⟩ := H
                  replace H : ((varint_Put.f k1 t122).bind fun t123 => (if y119.length + t123.length < 140737488355328 then (value_Encode.l0 k1 (y119 ++ t123) l0 (l0.length : Int) (wrap64 (x12_1 + 1))) else (none))) = some (r1, r2) := H
                  have A11 := Aside0.mk A110
                  clear A110
                  replace H := Option.bind_eq_some_iff.mp H
                  obtain ⟨t123, A120, H⟩ := H
                  replace H : (if y119.length + t123.length < 140737488355328 then (value_Encode.l0 k1 (y119 ++ t123) l0 (l0.length : Int) (wrap64 (x12_1 + 1))) else (none)) = some (r1, r2) := H
                  have A12 := Aside0.mk A120
                  clear A120
                  by_cases c13 : y119.length + t123.length < 140737488355328
                  · rw [if_pos c13] at H
                    have LMc13 := Aside0.mk c13
                    clear c13
                    obtain ⟨y126, hy126⟩ : ∃ y_ : List Int, y_ = (y119 ++ t123) := ⟨_, rfl⟩
                    replace H : (value_Encode.l0 k1 y126 l0 (l0.length : Int) (wrap64 (x12_1 + 1))) = some (r1, r2) := by first | (rw [hy126]; with_reducible exact H) | (have H2_ := (Option.bind_some _ _).symm.trans H; rw [hy126]; with_reducible exact H2_) | (have H2_ := (Option.bind_some _ _).symm.trans H; with_reducible exact H2_) | with_reducible exact H | (rw [hy126]; exact H) | exact H
                    have Ny126 := Aside0.mk hy126
                    clear hy126
                    have H' := Aside0.mk H
                    clear H
                    have p114 : 0 ≤ (x12_1 : Int) := of_decide_eq_true (by first | (with_reducible assumption) | assumption)
                    have q114 : x12_1 < (l0.length : Int) := of_decide_eq_true (by first | (with_reducible assumption) | assumption)
                    obtain ⟨ad114, A114_3, c114_3, e114, hx114_0, hx114_1, hx114_2, hx114_3, hl114_3, hi114_3⟩ := at_T30 HR0.out x12_1 p114 q114
                    cases e114
                    replace hx114_0 := (HB.out.cell (World.block_lt_of_cell? w _ hx114_0)).trans hx114_0
                    replace hx114_1 := (HB.out.cell (World.block_lt_of_cell? w _ hx114_1)).trans hx114_1
                    replace hx114_2 := (HB.out.cell (World.block_lt_of_cell? w _ hx114_2)).trans hx114_2
                    replace hx114_3 := (HB.out.cell (World.block_lt_of_cell? w _ hx114_3)).trans hx114_3
                    have HR114_3 := Aside0.mk hi114_3
                    have HC114_3 := Aside0.mk hl114_3
                    clear hi114_3 hl114_3
                    replace p114 := eq_true p114
                    replace q114 := eq_true q114
                    go_wp2_with (first | ((with_reducible refine gate_dst (N := 6) rfl ?_); refine box_event ?hg (N := 6) ?hd (cs := #[.int .i64 0, .int .i64 0, .int .i64 0, .slice none 0 0]) (t := 30) ?hr ?_; (case hd => rfl); (case hg => rfl); (case hr => first | (go_simp; done) | (go_simp; rfl)); intro gb115 hg w14 hbox hb; have n0_ := Aside0.mk (Kd.R_below (by (with_reducible repeat (first | apply Kd.R_alloc | apply Kd.R_drewN | apply Kd.R_drew)); exact HO_4.out) hb); have n1_ := Aside0.mk (below_step (by repeat (first | (with_reducible first | exact HB.out | apply below_alloc | apply pw_below_drewN | apply below_drew1) | exact HB.out)) hb); have n2_ := Aside0.mk (hbox); have n3_ := Aside0.mk ((by rw [hg]; exact (below_size (by repeat (first | (with_reducible first | exact HB.out | apply below_alloc | apply pw_below_drewN | apply below_drew1) | exact HB.out))) : w.heap.size ≤ gb115)); have n4_ := Aside0.mk ((by rw [hg]; exact (below_size (by repeat (first | (with_reducible first | exact HB.out | apply below_alloc | apply pw_below_drewN | apply below_drew1) | exact HB.out))) : w.heap.size ≤ gb115)); clear HO_4; clear HB; have HO_4 := n0_; have HB := n1_; have BK115 := n2_; have GW115 := n3_; have GE115 := n4_; clear n0_ n1_ n2_ n3_ n4_; clear hb hbox hg; have hcz15_0 : w14.cell? ⟨gb115, 0, none⟩ = some (.int .i64 0) := (blk_cell BK115.out 0).trans rfl; have hcz15_1 : w14.cell? ⟨gb115, 1, none⟩ = some (.int .i64 0) := (blk_cell BK115.out 1).trans rfl; have hcz15_2 : w14.cell? ⟨gb115, 2, none⟩ = some (.int .i64 0) := (blk_cell BK115.out 2).trans rfl; have hcz15_3 : w14.cell? ⟨gb115, 3, none⟩ = some (.slice none 0 0) := (blk_cell BK115.out 3).trans rfl; have hfz15_0 := blk_frozen BK115.out 0; have hfz15_1 := blk_frozen BK115.out 1; have hfz15_2 := blk_frozen BK115.out 2; have hfz15_3 := blk_frozen BK115.out 3) | ((with_reducible refine gate_callee (f := 23) rfl ?_); refine goesL_ (some 25) rfl rfl Try.func23 (by kernel_rfl) rfl #[.int .u64 (IntKind.u64.wrap (wrap64 ((wrap64 ((wrap64 (((rd_T30 l0 x12_1).f1) * 4)) + ((rd_T30 l0 x12_1).f0))) - 1)))] rfl (by (try simp only [List.map_toArray, List.map_cons, List.map_nil]); first | done | rfl | (simp only [List.length_drop, List.length_take]; rfl)) ?_; (with_reducible refine (varint_Put.calls k1 (IntKind.u64.wrap (wrap64 ((wrap64 ((wrap64 (((rd_T30 l0 x12_1).f1) * 4)) + ((rd_T30 l0 x12_1).f0))) - 1))) t116 _ A8.out).mono ?_); rintro e w16 ⟨v117, rfl, ho0, hb⟩; refine ⟨_, rfl, ?_⟩; have n0_ := Aside0.mk (Kd.R_elder' (by (with_reducible repeat (first | apply Kd.R_alloc | apply Kd.R_drewN | apply Kd.R_drew)); exact (Kd.R_mono (Kd.R_far (p := ⟨gb115, 3, none⟩) (Kd.R_far (p := ⟨gb115, 2, none⟩) (Kd.R_far (p := ⟨gb115, 1, none⟩) (Kd.R_far (p := ⟨gb115, 0, none⟩) (Kd.R_types HO_4.out BK115.out (by decide)) (fun _ hk => hk.2) (.int .i64 ((rd_T30 l0 x12_1).f0))) (fun _ hk => hk.2) (.int .i64 ((rd_T30 l0 x12_1).f1))) (fun _ hk => hk.2) (.int .i64 ((rd_T30 l0 x12_1).f2))) (fun _ hk => hk.2) (.slice A114_3 ((rd_T30 l0 x12_1).f3).length c114_3)) (fun _ h_ => h_.1))) (Kd.R_base ho0) hb); have n1_ := Aside0.mk (Kd.R_lower (Kd.R_new' ho0 (Kd.R_lt (by (with_reducible repeat (first | apply Kd.R_alloc | apply Kd.R_drewN | apply Kd.R_drew)); exact (Kd.R_mono (Kd.R_far (p := ⟨gb115, 3, none⟩) (Kd.R_far (p := ⟨gb115, 2, none⟩) (Kd.R_far (p := ⟨gb115, 1, none⟩) (Kd.R_far (p := ⟨gb115, 0, none⟩) (Kd.R_types HO_4.out BK115.out (by decide)) (fun _ hk => hk.2) (.int .i64 ((rd_T30 l0 x12_1).f0))) (fun _ hk => hk.2) (.int .i64 ((rd_T30 l0 x12_1).f1))) (fun _ hk => hk.2) (.int .i64 ((rd_T30 l0 x12_1).f2))) (fun _ hk => hk.2) (.slice A114_3 ((rd_T30 l0 x12_1).f3).length c114_3)) (fun _ h_ => h_.1))))) (below_size (by repeat (first | (with_reducible first | exact HB.out | apply below_alloc | apply pw_below_drewN | apply below_drew1 | refine below_set ?_ GE115.out) | exact HB.out)))); have n2_ := Aside0.mk (blk_below (g := gb115) (o := .cells #[.int .i64 ((rd_T30 l0 x12_1).f0), .int .i64 ((rd_T30 l0 x12_1).f1), .int .i64 ((rd_T30 l0 x12_1).f2), .slice A114_3 ((rd_T30 l0 x12_1).f3).length c114_3] 30 (0, 0)) (by (with_reducible repeat (first | refine blk_drewN ?_ _ | refine blk_drew ?_ | refine blk_alloc ?_ _)); refine blk_put (cs := #[.int .i64 ((rd_T30 l0 x12_1).f0), .int .i64 ((rd_T30 l0 x12_1).f1), .int .i64 ((rd_T30 l0 x12_1).f2), .slice none 0 0]) ?_ 3 _ rfl; (with_reducible repeat (first | refine blk_drewN ?_ _ | refine blk_drew ?_ | refine blk_alloc ?_ _)); refine blk_put (cs := #[.int .i64 ((rd_T30 l0 x12_1).f0), .int .i64 ((rd_T30 l0 x12_1).f1), .int .i64 0, .slice none 0 0]) ?_ 2 _ rfl; (with_reducible repeat (first | refine blk_drewN ?_ _ | refine blk_drew ?_ | refine blk_alloc ?_ _)); refine blk_put (cs := #[.int .i64 ((rd_T30 l0 x12_1).f0), .int .i64 0, .int .i64 0, .slice none 0 0]) ?_ 1 _ rfl; (with_reducible repeat (first | refine blk_drewN ?_ _ | refine blk_drew ?_ | refine blk_alloc ?_ _)); refine blk_put (cs := #[.int .i64 0, .int .i64 0, .int .i64 0, .slice none 0 0]) ?_ 0 _ rfl; (with_reducible repeat (first | refine blk_drewN ?_ _ | refine blk_drew ?_ | refine blk_alloc ?_ _)); exact BK115.out) hb); have n3_ := Aside0.mk (below_step (by repeat (first | (with_reducible first | exact HB.out | apply below_alloc | apply pw_below_drewN | apply below_drew1 | refine below_set ?_ GE115.out) | exact HB.out)) hb); clear HO_4; clear BK115; clear HB; have HO_4 := n0_; have HO118 := n1_; have BK115 := n2_; have HB := n3_; clear n0_ n1_ n2_ n3_; (try clear hb); (try clear hb2); (try clear hk); (try clear hi); (try clear ho0); obtain ⟨Ao18, co18, eo18⟩ := Kd.R_slice HO118.out; subst eo18) | ((with_reducible refine gate_builtin (b := .append) (xs := #[.tmp 16, .tmp 25]) rfl ?_); at_builtin; refine Kd.R_append_rows (Kd.int .u8) (w0 := w) w.heap.size rfl (.tmp 16) (.tmp 25) 25 5 (.int .u8 0) 1 rfl Try.underlying25 info5 rfl (by decide) (by omega) u4 x4_1 t116 _ _ _ (fun k_ => some k_ ≠ (.slice Ao18 t116.length co18 : Value).ownBlock) (fun _ => False) rfl rfl ?aO ?aR (fun _ _ h => h) (fun _ h => h.elim) ?aF ?aB ?aS ?aL ?_; (case aR => repeat (first | exact (Kd.R_reads' HO118.out).2.2 | (with_reducible refine Kd.C_alloc ?_ _) | (with_reducible refine Kd.C_drewN ?_ _) | (with_reducible refine Kd.C_drew ?_))); (case aB => exact (by repeat (first | (with_reducible first | exact HB.out | apply below_alloc | apply pw_below_drewN | apply below_drew1 | refine below_set ?_ GE115.out) | exact HB.out))); (case aF => exact (fun k_ hk => Kd.fresh' (Kd.R_lt (by (with_reducible repeat (first | apply Kd.R_alloc | apply Kd.R_drewN | apply Kd.R_drew)); exact HO118.out)) k_ hk)); (case aO => exact (by (with_reducible repeat (first | apply Kd.R_alloc | apply Kd.R_drewN | apply Kd.R_drew)); exact Kd.R_mono HO_4.out (fun _ hk => hk.2))); (case aS => exact (below_size (by repeat (first | (with_reducible first | exact HB.out | apply below_alloc | apply pw_below_drewN | apply below_drew1 | refine below_set ?_ GE115.out) | exact HB.out)))); (case aL => have := LMc9.out; omega); intro v120 w17 ho hb hg hat; rw [← Ny119.out] at ho; have n0_ := Aside0.mk (blk_grown (g := gb115) (o := .cells #[.int .i64 ((rd_T30 l0 x12_1).f0), .int .i64 ((rd_T30 l0 x12_1).f1), .int .i64 ((rd_T30 l0 x12_1).f2), .slice A114_3 ((rd_T30 l0 x12_1).f3).length c114_3] 30 (0, 0)) (by (with_reducible repeat (first | refine blk_drewN ?_ _ | refine blk_drew ?_ | refine blk_alloc ?_ _)); exact BK115.out) hg (Kd.R_ne HO_4.out BK115.out (by decide))); have n1_ := Aside0.mk (Kd.R_after (ok := (fun _ => True)) (by (with_reducible repeat (first | apply Kd.R_alloc | apply Kd.R_drewN | apply Kd.R_drew)); exact HO118.out) hg hat); have n2_ := Aside0.mk (hb); have n3_ := Aside0.mk (ho); clear BK115; clear HO118; clear HB; clear HO_4; have BK115 := n0_; have HO118 := n1_; have HB := n2_; have HO121 := n3_; clear n0_ n1_ n2_ n3_; clear ho hb hg hat; have hcz19_0 : w17.cell? ⟨gb115, 0, none⟩ = some (.int .i64 ((rd_T30 l0 x12_1).f0)) := (blk_cell BK115.out 0).trans rfl; have hcz19_1 : w17.cell? ⟨gb115, 1, none⟩ = some (.int .i64 ((rd_T30 l0 x12_1).f1)) := (blk_cell BK115.out 1).trans rfl; have hcz19_2 : w17.cell? ⟨gb115, 2, none⟩ = some (.int .i64 ((rd_T30 l0 x12_1).f2)) := (blk_cell BK115.out 2).trans rfl; have hcz19_3 : w17.cell? ⟨gb115, 3, none⟩ = some (.slice A114_3 ((rd_T30 l0 x12_1).f3).length c114_3) := (blk_cell BK115.out 3).trans rfl; have hfz19_0 := blk_frozen BK115.out 0; have hfz19_1 := blk_frozen BK115.out 1; have hfz19_2 := blk_frozen BK115.out 2; have hfz19_3 := blk_frozen BK115.out 3) | ((with_reducible refine gate_callee (f := 24) rfl ?_); refine goesL_ (some 34) rfl rfl Try.func24 (by kernel_rfl) rfl #[.int .i64 ((rd_T30 l0 x12_1).f2)] rfl (by (try simp only [List.map_toArray, List.map_cons, List.map_nil]); first | done | rfl | (simp only [List.length_drop, List.length_take]; rfl)) ?_; (with_reducible refine (varint_Zig.calls ((rd_T30 l0 x12_1).f2) t122 _ A11.out).mono ?_); rintro e w' ⟨rfl, ⟨nd, rfl⟩⟩; refine ⟨_, rfl, ?_⟩) | ((with_reducible refine gate_callee (f := 23) rfl ?_); refine goesL_ (some 35) rfl rfl Try.func23 (by kernel_rfl) rfl #[.int .u64 t122] rfl (by (try simp only [List.map_toArray, List.map_cons, List.map_nil]); first | done | rfl | (simp only [List.length_drop, List.length_take]; rfl)) ?_; (with_reducible refine (varint_Put.calls k1 t122 t123 _ A12.out).mono ?_); rintro e w20 ⟨v124, rfl, ho0, hb⟩; refine ⟨_, rfl, ?_⟩; have n0_ := Aside0.mk (Kd.R_elder' (by (with_reducible repeat (first | apply Kd.R_alloc | apply Kd.R_drewN | apply Kd.R_drew)); exact HO118.out) (Kd.R_base ho0) hb); have n1_ := Aside0.mk (Kd.R_elder' (by (with_reducible repeat (first | apply Kd.R_alloc | apply Kd.R_drewN | apply Kd.R_drew)); exact HO121.out) (Kd.R_base ho0) hb); have n2_ := Aside0.mk (Kd.R_lower (Kd.R_new' (Kd.R_new' ho0 (Kd.R_lt (by (with_reducible repeat (first | apply Kd.R_alloc | apply Kd.R_drewN | apply Kd.R_drew)); exact HO118.out))) (Kd.R_lt (by (with_reducible repeat (first | apply Kd.R_alloc | apply Kd.R_drewN | apply Kd.R_drew)); exact HO121.out))) (below_size (by repeat (first | (with_reducible first | exact HB.out | apply below_alloc | apply pw_below_drewN | apply below_drew1 | refine below_set ?_ GE115.out) | exact HB.out)))); have n3_ := Aside0.mk (blk_below (g := gb115) (o := .cells #[.int .i64 ((rd_T30 l0 x12_1).f0), .int .i64 ((rd_T30 l0 x12_1).f1), .int .i64 ((rd_T30 l0 x12_1).f2), .slice A114_3 ((rd_T30 l0 x12_1).f3).length c114_3] 30 (0, 0)) (by (with_reducible repeat (first | refine blk_drewN ?_ _ | refine blk_drew ?_ | refine blk_alloc ?_ _)); exact BK115.out) hb); have n4_ := Aside0.mk (below_step (by repeat (first | (with_reducible first | exact HB.out | apply below_alloc | apply pw_below_drewN | apply below_drew1 | refine below_set ?_ GE115.out) | exact HB.out)) hb); clear HO118; clear HO121; clear BK115; clear HB; have HO118 := n0_; have HO121 := n1_; have HO125 := n2_; have BK115 := n3_; have HB := n4_; clear n0_ n1_ n2_ n3_ n4_; (try clear hb); (try clear hb2); (try clear hk); (try clear hi); (try clear ho0); obtain ⟨Ao22, co22, eo22⟩ := Kd.R_slice HO125.out; subst eo22) | ((with_reducible refine gate_builtin (b := .append) (xs := #[.tmp 31, .tmp 35]) rfl ?_); at_builtin; refine Kd.R_append_rows (Kd.int .u8) (w0 := w) w.heap.size rfl (.tmp 31) (.tmp 35) 25 5 (.int .u8 0) 1 rfl Try.underlying25 info5 rfl (by decide) (by omega) v120 y119 t123 _ _ _ (fun k_ => some k_ ≠ (.slice Ao18 t116.length co18 : Value).ownBlock ∧ some k_ ≠ (.slice Ao22 t123.length co22 : Value).ownBlock) (fun _ => False) rfl rfl ?aO ?aR (fun _ _ h => h) (fun _ h => h.elim) ?aF ?aB ?aS ?aL ?_; (case aR => repeat (first | exact (Kd.R_reads' HO125.out).2.2 | (with_reducible refine Kd.C_alloc ?_ _) | (with_reducible refine Kd.C_drewN ?_ _) | (with_reducible refine Kd.C_drew ?_))); (case aB => exact (by repeat (first | (with_reducible first | exact HB.out | apply below_alloc | apply pw_below_drewN | apply below_drew1 | refine below_set ?_ GE115.out) | exact HB.out))); (case aF => exact (fun k_ hk => ⟨Kd.fresh' (Kd.R_lt (by (with_reducible repeat (first | apply Kd.R_alloc | apply Kd.R_drewN | apply Kd.R_drew)); exact HO118.out)) k_ hk, Kd.fresh' (Kd.R_lt (by (with_reducible repeat (first | apply Kd.R_alloc | apply Kd.R_drewN | apply Kd.R_drew)); exact HO125.out)) k_ hk⟩)); (case aO => exact (by (with_reducible repeat (first | apply Kd.R_alloc | apply Kd.R_drewN | apply Kd.R_drew)); exact HO121.out)); (case aS => exact (below_size (by repeat (first | (with_reducible first | exact HB.out | apply below_alloc | apply pw_below_drewN | apply below_drew1 | refine below_set ?_ GE115.out) | exact HB.out)))); (case aL => have := LMc13.out; omega); intro v127 w21 ho hb hg hat; rw [← Ny126.out] at ho; have n0_ := Aside0.mk (blk_grown (g := gb115) (o := .cells #[.int .i64 ((rd_T30 l0 x12_1).f0), .int .i64 ((rd_T30 l0 x12_1).f1), .int .i64 ((rd_T30 l0 x12_1).f2), .slice A114_3 ((rd_T30 l0 x12_1).f3).length c114_3] 30 (0, 0)) (by (with_reducible repeat (first | refine blk_drewN ?_ _ | refine blk_drew ?_ | refine blk_alloc ?_ _)); exact BK115.out) hg (Kd.R_ne HO121.out BK115.out (by decide))); have n1_ := Aside0.mk (Kd.R_after (ok := (fun k_ => some k_ ≠ (.slice Ao22 t123.length co22 : Value).ownBlock)) (by (with_reducible repeat (first | apply Kd.R_alloc | apply Kd.R_drewN | apply Kd.R_drew)); exact Kd.R_mono HO118.out (fun _ hk => ⟨hk.2, hk.1.2⟩)) hg hat); have n2_ := Aside0.mk (Kd.R_after (ok := (fun k_ => some k_ ≠ (.slice Ao18 t116.length co18 : Value).ownBlock)) (by (with_reducible repeat (first | apply Kd.R_alloc | apply Kd.R_drewN | apply Kd.R_drew)); exact Kd.R_mono HO125.out (fun _ hk => ⟨hk.1.2, hk.2⟩)) hg hat); have n3_ := Aside0.mk (hb); have n4_ := Aside0.mk (ho); clear BK115; clear HO118; clear HO125; clear HB; clear HO121; have BK115 := n0_; have HO118 := n1_; have HO125 := n2_; have HB := n3_; have HO128 := n4_; clear n0_ n1_ n2_ n3_ n4_; clear ho hb hg hat))
                    go_roundg k1
                    case measure => have := HK1.out; omega
                    case rel => exact ⟨(y126), (wrap64 (x12_1 + 1)), (by first | rfl | (simp; done) | (simp [*]; done)), H', ⟨by have := HK1.out; omega⟩, ⟨by (with_reducible repeat (first | apply Kd.R_alloc | apply Kd.R_drewN | apply Kd.R_drew)); exact Kd.R_mono HO128.out (fun _ hk => trivial)⟩, ⟨by repeat (first | (with_reducible first | exact HB.out | apply below_alloc | apply pw_below_drewN | apply below_drew1 | refine below_set ?_ GE115.out) | exact HB.out)⟩⟩
                  · rw [if_neg c13] at H
                    exact absurd H (by simp)
                · rw [if_neg c10] at H
                  have c10b0 : (((rd_T30 l0 x12_1).f0) == 1) = false := beq_eq_false_iff_ne.mpr c10
                  have c10b1 : (((rd_T30 l0 x12_1).f0) != 1) = true := bne_iff_ne.mpr c10
                  by_cases c23 : ((rd_T30 l0 x12_1).f0) = 2
                  · rw [if_pos c23] at H
                    have c23b0 : (((rd_T30 l0 x12_1).f0) == 2) = true := beq_iff_eq.mpr c23
                    have c23b1 : (((rd_T30 l0 x12_1).f0) != 2) = false := bne_eq_false_iff_eq.mpr c23
                    clear c23
                    replace H := Option.bind_eq_some_iff.mp H
                    obtain ⟨t129, A240, H⟩ := H
                    replace H : (if y119.length + t129.length < 140737488355328 then ((some (y119 ++ t129 : List Int)).bind fun y132 => (if y132.length + ((rd_T30 l0 x12_1).f3).length < 140737488355328 then (value_Encode.l0 k1 (y132 ++ ((rd_T30 l0 x12_1).f3)) l0 (l0.length : Int) (wrap64 (x12_1 + 1))) else (none))) else (none)) = some (r1, r2) := H
                    have A24 := Aside0.mk A240
                    clear A240
                    by_cases c25 : y119.length + t129.length < 140737488355328
                    · rw [if_pos c25] at H
                      have LMc25 := Aside0.mk c25
                      clear c25
                      obtain ⟨y132, hy132⟩ : ∃ y_ : List Int, y_ = (y119 ++ t129) := ⟨_, rfl⟩
                      replace H : (if y132.length + ((rd_T30 l0 x12_1).f3).length < 140737488355328 then (value_Encode.l0 k1 (y132 ++ ((rd_T30 l0 x12_1).f3)) l0 (l0.length : Int) (wrap64 (x12_1 + 1))) else (none)) = some (r1, r2) := by first | (rw [hy132]; with_reducible exact H) | (have H2_ := (Option.bind_some _ _).symm.trans H; rw [hy132]; with_reducible exact H2_) | (have H2_ := (Option.bind_some _ _).symm.trans H; with_reducible exact H2_) | with_reducible exact H | (rw [hy132]; exact H) | exact H
                      have Ny132 := Aside0.mk hy132
                      clear hy132
                      by_cases c26 : y132.length + ((rd_T30 l0 x12_1).f3).length < 140737488355328
                      · rw [if_pos c26] at H
                        have LMc26 := Aside0.mk c26
                        clear c26
                        obtain ⟨y135, hy135⟩ : ∃ y_ : List Int, y_ = (y132 ++ ((rd_T30 l0 x12_1).f3)) := ⟨_, rfl⟩
                        replace H : (value_Encode.l0 k1 y135 l0 (l0.length : Int) (wrap64 (x12_1 + 1))) = some (r1, r2) := by first | (rw [hy135]; with_reducible exact H) | (have H2_ := (Option.bind_some _ _).symm.trans H; rw [hy135]; with_reducible exact H2_) | (have H2_ := (Option.bind_some _ _).symm.trans H; with_reducible exact H2_) | with_reducible exact H | (rw [hy135]; exact H) | exact H
                        have Ny135 := Aside0.mk hy135
                        clear hy135
                        have H' := Aside0.mk H
                        clear H
                        have p114 : 0 ≤ (x12_1 : Int) := of_decide_eq_true (by first | (with_reducible assumption) | assumption)
                        have q114 : x12_1 < (l0.length : Int) := of_decide_eq_true (by first | (with_reducible assumption) | assumption)
                        obtain ⟨ad114, A114_3, c114_3, e114, hx114_0, hx114_1, hx114_2, hx114_3, hl114_3, hi114_3⟩ := at_T30 HR0.out x12_1 p114 q114
                        cases e114
                        replace hx114_0 := (HB.out.cell (World.block_lt_of_cell? w _ hx114_0)).trans hx114_0
                        replace hx114_1 := (HB.out.cell (World.block_lt_of_cell? w _ hx114_1)).trans hx114_1
                        replace hx114_2 := (HB.out.cell (World.block_lt_of_cell? w _ hx114_2)).trans hx114_2
                        replace hx114_3 := (HB.out.cell (World.block_lt_of_cell? w _ hx114_3)).trans hx114_3
                        have HR114_3 := Aside0.mk hi114_3
                        have HC114_3 := Aside0.mk hl114_3
                        clear hi114_3 hl114_3
                        replace p114 := eq_true p114
                        replace q114 := eq_true q114
                        try go_wp2_with (first | ((with_reducible refine gate_dst (N := 6) rfl ?_); refine box_event ?hg (N := 6) ?hd (cs := #[.int .i64 0, .int .i64 0, .int .i64 0, .slice none 0 0]) (t := 30) ?hr ?_; (case hd => rfl); (case hg => rfl); (case hr => first | (go_simp; done) | (go_simp; rfl)); intro gb115 hg w27 hbox hb; have n0_ := Aside0.mk (Kd.R_below (by (with_reducible repeat (first | apply Kd.R_alloc | apply Kd.R_drewN | apply Kd.R_drew)); exact HO_4.out) hb); have n1_ := Aside0.mk (below_step (by repeat (first | (with_reducible first | exact HB.out | apply below_alloc | apply pw_below_drewN | apply below_drew1) | exact HB.out)) hb); have n2_ := Aside0.mk (hbox); have n3_ := Aside0.mk ((by rw [hg]; exact (below_size (by repeat (first | (with_reducible first | exact HB.out | apply below_alloc | apply pw_below_drewN | apply below_drew1) | exact HB.out))) : w.heap.size ≤ gb115)); have n4_ := Aside0.mk ((by rw [hg]; exact (below_size (by repeat (first | (with_reducible first | exact HB.out | apply below_alloc | apply pw_below_drewN | apply below_drew1) | exact HB.out))) : w.heap.size ≤ gb115)); clear HO_4; clear HB; have HO_4 := n0_; have HB := n1_; have BK115 := n2_; have GW115 := n3_; have GE115 := n4_; clear n0_ n1_ n2_ n3_ n4_; clear hb hbox hg; have hcz28_0 : w27.cell? ⟨gb115, 0, none⟩ = some (.int .i64 0) := (blk_cell BK115.out 0).trans rfl; have hcz28_1 : w27.cell? ⟨gb115, 1, none⟩ = some (.int .i64 0) := (blk_cell BK115.out 1).trans rfl; have hcz28_2 : w27.cell? ⟨gb115, 2, none⟩ = some (.int .i64 0) := (blk_cell BK115.out 2).trans rfl; have hcz28_3 : w27.cell? ⟨gb115, 3, none⟩ = some (.slice none 0 0) := (blk_cell BK115.out 3).trans rfl; have hfz28_0 := blk_frozen BK115.out 0; have hfz28_1 := blk_frozen BK115.out 1; have hfz28_2 := blk_frozen BK115.out 2; have hfz28_3 := blk_frozen BK115.out 3) | ((with_reducible refine gate_callee (f := 23) rfl ?_); refine goesL_ (some 25) rfl rfl Try.func23 (by kernel_rfl) rfl #[.int .u64 (IntKind.u64.wrap (wrap64 ((wrap64 ((wrap64 (((rd_T30 l0 x12_1).f1) * 4)) + ((rd_T30 l0 x12_1).f0))) - 1)))] rfl (by (try simp only [List.map_toArray, List.map_cons, List.map_nil]); first | done | rfl | (simp only [List.length_drop, List.length_take]; rfl)) ?_; (with_reducible refine (varint_Put.calls k1 (IntKind.u64.wrap (wrap64 ((wrap64 ((wrap64 (((rd_T30 l0 x12_1).f1) * 4)) + ((rd_T30 l0 x12_1).f0))) - 1))) t116 _ A8.out).mono ?_); rintro e w29 ⟨v117, rfl, ho0, hb⟩; refine ⟨_, rfl, ?_⟩; have n0_ := Aside0.mk (Kd.R_elder' (by (with_reducible repeat (first | apply Kd.R_alloc | apply Kd.R_drewN | apply Kd.R_drew)); exact (Kd.R_mono (Kd.R_far (p := ⟨gb115, 3, none⟩) (Kd.R_far (p := ⟨gb115, 2, none⟩) (Kd.R_far (p := ⟨gb115, 1, none⟩) (Kd.R_far (p := ⟨gb115, 0, none⟩) (Kd.R_types HO_4.out BK115.out (by decide)) (fun _ hk => hk.2) (.int .i64 ((rd_T30 l0 x12_1).f0))) (fun _ hk => hk.2) (.int .i64 ((rd_T30 l0 x12_1).f1))) (fun _ hk => hk.2) (.int .i64 ((rd_T30 l0 x12_1).f2))) (fun _ hk => hk.2) (.slice A114_3 ((rd_T30 l0 x12_1).f3).length c114_3)) (fun _ h_ => h_.1))) (Kd.R_base ho0) hb); have n1_ := Aside0.mk (Kd.R_lower (Kd.R_new' ho0 (Kd.R_lt (by (with_reducible repeat (first | apply Kd.R_alloc | apply Kd.R_drewN | apply Kd.R_drew)); exact (Kd.R_mono (Kd.R_far (p := ⟨gb115, 3, none⟩) (Kd.R_far (p := ⟨gb115, 2, none⟩) (Kd.R_far (p := ⟨gb115, 1, none⟩) (Kd.R_far (p := ⟨gb115, 0, none⟩) (Kd.R_types HO_4.out BK115.out (by decide)) (fun _ hk => hk.2) (.int .i64 ((rd_T30 l0 x12_1).f0))) (fun _ hk => hk.2) (.int .i64 ((rd_T30 l0 x12_1).f1))) (fun _ hk => hk.2) (.int .i64 ((rd_T30 l0 x12_1).f2))) (fun _ hk => hk.2) (.slice A114_3 ((rd_T30 l0 x12_1).f3).length c114_3)) (fun _ h_ => h_.1))))) (below_size (by repeat (first | (with_reducible first | exact HB.out | apply below_alloc | apply pw_below_drewN | apply below_drew1 | refine below_set ?_ GE115.out) | exact HB.out)))); have n2_ := Aside0.mk (blk_below (g := gb115) (o := .cells #[.int .i64 ((rd_T30 l0 x12_1).f0), .int .i64 ((rd_T30 l0 x12_1).f1), .int .i64 ((rd_T30 l0 x12_1).f2), .slice A114_3 ((rd_T30 l0 x12_1).f3).length c114_3] 30 (0, 0)) (by (with_reducible repeat (first | refine blk_drewN ?_ _ | refine blk_drew ?_ | refine blk_alloc ?_ _)); refine blk_put (cs := #[.int .i64 ((rd_T30 l0 x12_1).f0), .int .i64 ((rd_T30 l0 x12_1).f1), .int .i64 ((rd_T30 l0 x12_1).f2), .slice none 0 0]) ?_ 3 _ rfl; (with_reducible repeat (first | refine blk_drewN ?_ _ | refine blk_drew ?_ | refine blk_alloc ?_ _)); refine blk_put (cs := #[.int .i64 ((rd_T30 l0 x12_1).f0), .int .i64 ((rd_T30 l0 x12_1).f1), .int .i64 0, .slice none 0 0]) ?_ 2 _ rfl; (with_reducible repeat (first | refine blk_drewN ?_ _ | refine blk_drew ?_ | refine blk_alloc ?_ _)); refine blk_put (cs := #[.int .i64 ((rd_T30 l0 x12_1).f0), .int .i64 0, .int .i64 0, .slice none 0 0]) ?_ 1 _ rfl; (with_reducible repeat (first | refine blk_drewN ?_ _ | refine blk_drew ?_ | refine blk_alloc ?_ _)); refine blk_put (cs := #[.int .i64 0, .int .i64 0, .int .i64 0, .slice none 0 0]) ?_ 0 _ rfl; (with_reducible repeat (first | refine blk_drewN ?_ _ | refine blk_drew ?_ | refine blk_alloc ?_ _)); exact BK115.out) hb); have n3_ := Aside0.mk (below_step (by repeat (first | (with_reducible first | exact HB.out | apply below_alloc | apply pw_below_drewN | apply below_drew1 | refine below_set ?_ GE115.out) | exact HB.out)) hb); clear HO_4; clear BK115; clear HB; have HO_4 := n0_; have HO118 := n1_; have BK115 := n2_; have HB := n3_; clear n0_ n1_ n2_ n3_; (try clear hb); (try clear hb2); (try clear hk); (try clear hi); (try clear ho0); obtain ⟨Ao31, co31, eo31⟩ := Kd.R_slice HO118.out; subst eo31) | ((with_reducible refine gate_builtin (b := .append) (xs := #[.tmp 16, .tmp 25]) rfl ?_); at_builtin; refine Kd.R_append_rows (Kd.int .u8) (w0 := w) w.heap.size rfl (.tmp 16) (.tmp 25) 25 5 (.int .u8 0) 1 rfl Try.underlying25 info5 rfl (by decide) (by omega) u4 x4_1 t116 _ _ _ (fun k_ => some k_ ≠ (.slice Ao31 t116.length co31 : Value).ownBlock) (fun _ => False) rfl rfl ?aO ?aR (fun _ _ h => h) (fun _ h => h.elim) ?aF ?aB ?aS ?aL ?_; (case aR => repeat (first | exact (Kd.R_reads' HO118.out).2.2 | (with_reducible refine Kd.C_alloc ?_ _) | (with_reducible refine Kd.C_drewN ?_ _) | (with_reducible refine Kd.C_drew ?_))); (case aB => exact (by repeat (first | (with_reducible first | exact HB.out | apply below_alloc | apply pw_below_drewN | apply below_drew1 | refine below_set ?_ GE115.out) | exact HB.out))); (case aF => exact (fun k_ hk => Kd.fresh' (Kd.R_lt (by (with_reducible repeat (first | apply Kd.R_alloc | apply Kd.R_drewN | apply Kd.R_drew)); exact HO118.out)) k_ hk)); (case aO => exact (by (with_reducible repeat (first | apply Kd.R_alloc | apply Kd.R_drewN | apply Kd.R_drew)); exact Kd.R_mono HO_4.out (fun _ hk => hk.2))); (case aS => exact (below_size (by repeat (first | (with_reducible first | exact HB.out | apply below_alloc | apply pw_below_drewN | apply below_drew1 | refine below_set ?_ GE115.out) | exact HB.out)))); (case aL => have := LMc9.out; omega); intro v120 w30 ho hb hg hat; rw [← Ny119.out] at ho; have n0_ := Aside0.mk (blk_grown (g := gb115) (o := .cells #[.int .i64 ((rd_T30 l0 x12_1).f0), .int .i64 ((rd_T30 l0 x12_1).f1), .int .i64 ((rd_T30 l0 x12_1).f2), .slice A114_3 ((rd_T30 l0 x12_1).f3).length c114_3] 30 (0, 0)) (by (with_reducible repeat (first | refine blk_drewN ?_ _ | refine blk_drew ?_ | refine blk_alloc ?_ _)); exact BK115.out) hg (Kd.R_ne HO_4.out BK115.out (by decide))); have n1_ := Aside0.mk (Kd.R_after (ok := (fun _ => True)) (by (with_reducible repeat (first | apply Kd.R_alloc | apply Kd.R_drewN | apply Kd.R_drew)); exact HO118.out) hg hat); have n2_ := Aside0.mk (hb); have n3_ := Aside0.mk (ho); clear BK115; clear HO118; clear HB; clear HO_4; have BK115 := n0_; have HO118 := n1_; have HB := n2_; have HO121 := n3_; clear n0_ n1_ n2_ n3_; clear ho hb hg hat; have hcz32_0 : w30.cell? ⟨gb115, 0, none⟩ = some (.int .i64 ((rd_T30 l0 x12_1).f0)) := (blk_cell BK115.out 0).trans rfl; have hcz32_1 : w30.cell? ⟨gb115, 1, none⟩ = some (.int .i64 ((rd_T30 l0 x12_1).f1)) := (blk_cell BK115.out 1).trans rfl; have hcz32_2 : w30.cell? ⟨gb115, 2, none⟩ = some (.int .i64 ((rd_T30 l0 x12_1).f2)) := (blk_cell BK115.out 2).trans rfl; have hcz32_3 : w30.cell? ⟨gb115, 3, none⟩ = some (.slice A114_3 ((rd_T30 l0 x12_1).f3).length c114_3) := (blk_cell BK115.out 3).trans rfl; have hfz32_0 := blk_frozen BK115.out 0; have hfz32_1 := blk_frozen BK115.out 1; have hfz32_2 := blk_frozen BK115.out 2; have hfz32_3 := blk_frozen BK115.out 3))
                        have n0_ := Aside0.mk (Kd.R_drew HO118.out)
                        have n1_ := Aside0.mk (Kd.R_drew HO121.out)
                        have n2_ := Aside0.mk (blk_drew BK115.out)
                        have n3_ := Aside0.mk (below_drew1 HB.out)
                        clear HO118
                        clear HO121
                        clear BK115
                        clear HB
                        have HO118 := n0_
                        have HO121 := n1_
                        have BK115 := n2_
                        have HB := n3_
                        clear n0_ n1_ n2_ n3_
                        refine start_ (n := 11) (S := fun w' => w'.cell? ⟨gb115, 0, none⟩ = some (.int .i64 ((rd_T30 l0 x12_1).f0)) ∧ w'.cell? ⟨gb115, 1, none⟩ = some (.int .i64 ((rd_T30 l0 x12_1).f1)) ∧ w'.cell? ⟨gb115, 2, none⟩ = some (.int .i64 ((rd_T30 l0 x12_1).f2)) ∧ w'.cell? ⟨gb115, 3, none⟩ = some (.slice A114_3 ((rd_T30 l0 x12_1).f3).length c114_3)) (ds := []) #[false, false, false, false, false, false, false, false, false, false, false] (by kernel_rfl) rfl rfl ⟨(blk_cell BK115.out 0).trans rfl, (blk_cell BK115.out 1).trans rfl, (blk_cell BK115.out 2).trans rfl, (blk_cell BK115.out 3).trans rfl⟩ (fun hHeld => ?_); refine with_tabW value_Encode.tab12 value_Encode.bits12 (fun HT_ HW_ => ?_)
                        generalize w30.drew = w33 at HO118 HO121 BK115 HB hHeld ⊢
                        refine pure_ (i := 0) (N := some 39) (v := ?_) (a' := ?_) #[true, false, false, false, false, false, false, false, false, false, false] rfl rfl (any_of HT_.out (by kernel_rfl)) (fun _ _ _ h => h) (Or.inl ⟨by rfl, ?_⟩) ?_ ?_
                        rotate_left
                        · intro w'
                          go_simp
                          with_reducible rfl
                        rotate_left
                        · simp only [Act.put, List.setIfInBounds_toArray, List.set_cons_zero, List.set_cons_succ, i64_w, i32_w]
                          rfl
                        refine pure_ (i := 1) (N := some 40) (v := ?_) (a' := ?_) #[true, true, false, false, false, false, false, false, false, false, false] rfl rfl (any_of HT_.out (by kernel_rfl)) (fun _ _ _ h => h) (Or.inl ⟨by rfl, ?_⟩) ?_ ?_
                        rotate_left
                        · intro w'
                          go_simp
                          with_reducible rfl
                        rotate_left
                        · simp only [Act.put, List.setIfInBounds_toArray, List.set_cons_zero, List.set_cons_succ, i64_w, i32_w]
                          rfl
                        refine pure_ (i := 7) (N := some 46) (v := ?_) (a' := ?_) #[true, true, false, false, false, false, false, true, false, false, false] rfl rfl (any_of HT_.out (by kernel_rfl)) (fun _ _ _ h => h) (Or.inl ⟨by rfl, ?_⟩) ?_ ?_
                        rotate_left
                        · intro w'
                          go_simp
                          with_reducible rfl
                        rotate_left
                        · simp only [Act.put, List.setIfInBounds_toArray, List.set_cons_zero, List.set_cons_succ, i64_w, i32_w]
                          rfl
                        refine take_ (i := 2) (N := some 41) (v := ?_) (a' := ?_) #[true, true, true, false, false, false, false, true, false, false, false] rfl rfl (take_ofW HT_.out HW_.out (by kernel_rfl)) (fun _ _ _ h => h) (Or.inl ⟨by rfl, ?_⟩) hHeld ?_ ?_
                        rotate_left
                        · rintro w' ⟨s0, s1, s2, s3⟩
                          go_simp
                          with_reducible rfl
                        rotate_left
                        · simp only [Act.put, List.setIfInBounds_toArray, List.set_cons_zero, List.set_cons_succ, i64_w, i32_w]
                          rfl
                        refine pure_ (i := 3) (N := some 42) (v := ?_) (a' := ?_) #[true, true, true, true, false, false, false, true, false, false, false] rfl rfl (any_of HT_.out (by kernel_rfl)) (fun _ _ _ h => h) (Or.inl ⟨by rfl, ?_⟩) ?_ ?_
                        rotate_left
                        · intro w'
                          go_simp
                          with_reducible rfl
                        rotate_left
                        · simp only [Act.put, List.setIfInBounds_toArray, List.set_cons_zero, List.set_cons_succ, i64_w, i32_w]
                          rfl
                        refine pure_ (i := 4) (N := some 43) (v := ?_) (a' := ?_) #[true, true, true, true, true, false, false, true, false, false, false] rfl rfl (any_of HT_.out (by kernel_rfl)) (fun _ _ _ h => h) (Or.inl ⟨by rfl, ?_⟩) ?_ ?_
                        rotate_left
                        · intro w'
                          go_simp
                          with_reducible rfl
                        rotate_left
                        · simp only [Act.put, List.setIfInBounds_toArray, List.set_cons_zero, List.set_cons_succ, i64_w, i32_w]
                          rfl
                        refine take_ (i := 8) (N := some 47) (v := ?_) (a' := ?_) #[true, true, true, true, true, false, false, true, true, false, false] rfl rfl (take_ofW HT_.out HW_.out (by kernel_rfl)) (fun _ _ _ h => h) (Or.inl ⟨by rfl, ?_⟩) hHeld ?_ ?_
                        rotate_left
                        · rintro w' ⟨s0, s1, s2, s3⟩
                          go_simp
                          with_reducible rfl
                        rotate_left
                        · simp only [Act.put, List.setIfInBounds_toArray, List.set_cons_zero, List.set_cons_succ, i64_w, i32_w]
                          rfl
                        refine one_ (i := 5) (N := some 44) #[true, true, true, true, true, true, false, true, true, false, false] rfl rfl (one_of HT_.out (by kernel_rfl)) (by decide) (fun K hK => ?_)
                        refine goes_ Try.func23 (by kernel_rfl) rfl #[.int .u64 (IntKind.u64.wrap ((((rd_T30 l0 x12_1).f3).length : Int)))] (by rfl) rfl rfl (by (try simp only [List.map_toArray, List.map_cons, List.map_nil]); first | done | rfl | (simp only [List.length_drop, List.length_take]; rfl)) ?_
                        with_reducible refine (varint_Put.calls k1 (IntKind.u64.wrap ((((rd_T30 l0 x12_1).f3).length : Int))) t129 _ A24.out).mono ?_
                        rintro e w34 ⟨v130, rfl, ho0, hb⟩
                        refine ⟨_, rfl, ?_⟩
                        have n0_ := Aside0.mk (Kd.R_elder' (by (with_reducible repeat (first | apply Kd.R_alloc | apply Kd.R_drewN | apply Kd.R_drew)); exact HO118.out) (Kd.R_base ho0) hb)
                        have n1_ := Aside0.mk (Kd.R_elder' (by (with_reducible repeat (first | apply Kd.R_alloc | apply Kd.R_drewN | apply Kd.R_drew)); exact HO121.out) (Kd.R_base ho0) hb)
                        have n2_ := Aside0.mk (Kd.R_lower (Kd.R_new' (Kd.R_new' ho0 (Kd.R_lt (by (with_reducible repeat (first | apply Kd.R_alloc | apply Kd.R_drewN | apply Kd.R_drew)); exact HO118.out))) (Kd.R_lt (by (with_reducible repeat (first | apply Kd.R_alloc | apply Kd.R_drewN | apply Kd.R_drew)); exact HO121.out))) (below_size (by repeat (first | (with_reducible first | exact HB.out | apply below_alloc | apply pw_below_drewN | apply below_drew1 | refine below_set ?_ GE115.out) | exact HB.out))))
                        have n3_ := Aside0.mk (blk_below (g := gb115) (o := .cells #[.int .i64 ((rd_T30 l0 x12_1).f0), .int .i64 ((rd_T30 l0 x12_1).f1), .int .i64 ((rd_T30 l0 x12_1).f2), .slice A114_3 ((rd_T30 l0 x12_1).f3).length c114_3] 30 (0, 0)) (by (with_reducible repeat (first | refine blk_drewN ?_ _ | refine blk_drew ?_ | refine blk_alloc ?_ _)); exact BK115.out) hb)
                        have n4_ := Aside0.mk (below_step (by repeat (first | (with_reducible first | exact HB.out | apply below_alloc | apply pw_below_drewN | apply below_drew1 | refine below_set ?_ GE115.out) | exact HB.out)) hb)
                        clear HO118
                        clear HO121
                        clear BK115
                        clear HB
                        have HO118 := n0_
                        have HO121 := n1_
                        have HO131 := n2_
                        have BK115 := n3_
                        have HB := n4_
                        clear n0_ n1_ n2_ n3_ n4_
                        (try clear hb)
                        (try clear hb2)
                        (try clear hk)
                        (try clear hi)
                        (try clear ho0)
                        obtain ⟨Ao36, co36, eo36⟩ := Kd.R_slice HO131.out
                        (first | subst eo36 | (injection eo36 with f1_ f2_ f3_; have f4_ := f1_.symm; have f5_ := f3_.symm; clear f1_ f2_ f3_; subst f4_; subst f5_))
                        refine hK.out _ _ ⟨(blk_cell BK115.out 0).trans rfl, (blk_cell BK115.out 1).trans rfl, (blk_cell BK115.out 2).trans rfl, (blk_cell BK115.out 3).trans rfl⟩ (fun hHeld => ?_)
                        clear hK K
                        refine norm_ (a' := ?_) ?_ ?_
                        rotate_left
                        · show Act.put _ (some 44) _ = _
                          simp only [Act.put, List.setIfInBounds_toArray, List.set_cons_zero, List.set_cons_succ, i64_w, i32_w]
                          rfl
                        refine one_ (i := 6) (N := some 45) #[true, true, true, true, true, true, true, true, true, false, false] rfl rfl (one_of HT_.out (by kernel_rfl)) (by decide) (fun K hK => ?_)
                        refine Kd.R_append_rows_step (Kd.int .u8) (w0 := w) w.heap.size (by rfl) (.tmp 39) (.tmp 44) 25 5 (.int .u8 0) 1 rfl Try.underlying25 info5 rfl (by decide) (by omega) v120 y119 t129 _ _ _ (fun k_ => some k_ ≠ (.slice Ao31 t116.length co31 : Value).ownBlock ∧ some k_ ≠ (.slice Ao36 t129.length co36 : Value).ownBlock) (fun _ => False) rfl rfl ?aO ?aR (fun _ _ h => h) (fun _ h => h.elim) ?aF ?aB ?aS ?aL ?_
                        (case aR => repeat (first | exact (Kd.R_reads' HO131.out).2.2 | (with_reducible refine Kd.C_alloc ?_ _) | (with_reducible refine Kd.C_drewN ?_ _) | (with_reducible refine Kd.C_drew ?_)))
                        (case aB => exact (by repeat (first | (with_reducible first | exact HB.out | apply below_alloc | apply pw_below_drewN | apply below_drew1 | refine below_set ?_ GE115.out) | exact HB.out)))
                        (case aF => exact (fun k_ hk => ⟨Kd.fresh' (Kd.R_lt (by (with_reducible repeat (first | apply Kd.R_alloc | apply Kd.R_drewN | apply Kd.R_drew)); exact HO118.out)) k_ hk, Kd.fresh' (Kd.R_lt (by (with_reducible repeat (first | apply Kd.R_alloc | apply Kd.R_drewN | apply Kd.R_drew)); exact HO131.out)) k_ hk⟩))
                        (case aO => exact (by (with_reducible repeat (first | apply Kd.R_alloc | apply Kd.R_drewN | apply Kd.R_drew)); exact HO121.out))
                        (case aS => exact (below_size (by repeat (first | (with_reducible first | exact HB.out | apply below_alloc | apply pw_below_drewN | apply below_drew1 | refine below_set ?_ GE115.out) | exact HB.out))))
                        (case aL => have := LMc25.out; omega)
                        intro v133 w35 ho hb hg hat
                        rw [← Ny132.out] at ho
                        have n0_ := Aside0.mk (blk_grown (g := gb115) (o := .cells #[.int .i64 ((rd_T30 l0 x12_1).f0), .int .i64 ((rd_T30 l0 x12_1).f1), .int .i64 ((rd_T30 l0 x12_1).f2), .slice A114_3 ((rd_T30 l0 x12_1).f3).length c114_3] 30 (0, 0)) (by (with_reducible repeat (first | refine blk_drewN ?_ _ | refine blk_drew ?_ | refine blk_alloc ?_ _)); exact BK115.out) hg (Kd.R_ne HO121.out BK115.out (by decide)))
                        have n1_ := Aside0.mk (Kd.R_after (ok := (fun k_ => some k_ ≠ (.slice Ao36 t129.length co36 : Value).ownBlock)) (by (with_reducible repeat (first | apply Kd.R_alloc | apply Kd.R_drewN | apply Kd.R_drew)); exact Kd.R_mono HO118.out (fun _ hk => ⟨hk.2, hk.1.2⟩)) hg hat)
                        have n2_ := Aside0.mk (Kd.R_after (ok := (fun k_ => some k_ ≠ (.slice Ao31 t116.length co31 : Value).ownBlock)) (by (with_reducible repeat (first | apply Kd.R_alloc | apply Kd.R_drewN | apply Kd.R_drew)); exact Kd.R_mono HO131.out (fun _ hk => ⟨hk.1.2, hk.2⟩)) hg hat)
                        have n3_ := Aside0.mk (hb)
                        have n4_ := Aside0.mk (ho)
                        clear BK115
                        clear HO118
                        clear HO131
                        clear HB
                        clear HO121
                        have BK115 := n0_
                        have HO118 := n1_
                        have HO131 := n2_
                        have HB := n3_
                        have HO134 := n4_
                        clear n0_ n1_ n2_ n3_ n4_
                        clear ho hb hg hat
                        refine hK.out _ _ ⟨(blk_cell BK115.out 0).trans rfl, (blk_cell BK115.out 1).trans rfl, (blk_cell BK115.out 2).trans rfl, (blk_cell BK115.out 3).trans rfl⟩ (fun hHeld => ?_)
                        clear hK K
                        refine norm_ (a' := ?_) ?_ ?_
                        rotate_left
                        · show Act.put _ (some 45) _ = _
                          simp only [Act.put, List.setIfInBounds_toArray, List.set_cons_zero, List.set_cons_succ, i64_w, i32_w]
                          rfl
                        refine one_ (i := 9) (N := some 48) #[true, true, true, true, true, true, true, true, true, true, false] rfl rfl (one_of HT_.out (by kernel_rfl)) (by decide) (fun K hK => ?_)
                        refine Kd.R_append_rows_step (Kd.int .u8) (w0 := w) w.heap.size (by rfl) (.tmp 45) (.tmp 47) 25 5 (.int .u8 0) 1 rfl Try.underlying25 info5 rfl (by decide) (by omega) v133 y132 ((rd_T30 l0 x12_1).f3) _ _ _ (fun k_ => some k_ ≠ (.slice Ao31 t116.length co31 : Value).ownBlock ∧ some k_ ≠ (.slice Ao36 t129.length co36 : Value).ownBlock) (fun _ => False) rfl rfl ?aO ?aR (fun _ _ h => h) (fun _ h => h.elim) ?aF ?aB ?aS ?aL ?_
                        (case aR => repeat (first | exact (Kd.C_below HR114_3.out HB.out) | (with_reducible refine Kd.C_alloc ?_ _) | (with_reducible refine Kd.C_drewN ?_ _) | (with_reducible refine Kd.C_drew ?_)))
                        (case aB => exact (by repeat (first | (with_reducible first | exact HB.out | apply below_alloc | apply pw_below_drewN | apply below_drew1 | refine below_set ?_ GE115.out) | exact HB.out)))
                        (case aF => exact (fun k_ hk => ⟨Kd.fresh' (Kd.R_lt (by (with_reducible repeat (first | apply Kd.R_alloc | apply Kd.R_drewN | apply Kd.R_drew)); exact HO118.out)) k_ hk, Kd.fresh' (Kd.R_lt (by (with_reducible repeat (first | apply Kd.R_alloc | apply Kd.R_drewN | apply Kd.R_drew)); exact HO131.out)) k_ hk⟩))
                        (case aO => exact (by (with_reducible repeat (first | apply Kd.R_alloc | apply Kd.R_drewN | apply Kd.R_drew)); exact HO134.out))
                        (case aS => exact (below_size (by repeat (first | (with_reducible first | exact HB.out | apply below_alloc | apply pw_below_drewN | apply below_drew1 | refine below_set ?_ GE115.out) | exact HB.out))))
                        (case aL => have := LMc26.out; omega)
                        intro v136 w37 ho hb hg hat
                        rw [← Ny135.out] at ho
                        have n0_ := Aside0.mk (blk_grown (g := gb115) (o := .cells #[.int .i64 ((rd_T30 l0 x12_1).f0), .int .i64 ((rd_T30 l0 x12_1).f1), .int .i64 ((rd_T30 l0 x12_1).f2), .slice A114_3 ((rd_T30 l0 x12_1).f3).length c114_3] 30 (0, 0)) (by (with_reducible repeat (first | refine blk_drewN ?_ _ | refine blk_drew ?_ | refine blk_alloc ?_ _)); exact BK115.out) hg (Kd.R_ne HO134.out BK115.out (by decide)))
                        have n1_ := Aside0.mk (Kd.R_after (ok := (fun k_ => some k_ ≠ (.slice Ao36 t129.length co36 : Value).ownBlock)) (by (with_reducible repeat (first | apply Kd.R_alloc | apply Kd.R_drewN | apply Kd.R_drew)); exact HO118.out) hg hat)
                        have n2_ := Aside0.mk (Kd.R_after (ok := (fun k_ => some k_ ≠ (.slice Ao31 t116.length co31 : Value).ownBlock)) (by (with_reducible repeat (first | apply Kd.R_alloc | apply Kd.R_drewN | apply Kd.R_drew)); exact HO131.out) hg hat)
                        have n3_ := Aside0.mk (hb)
                        have n4_ := Aside0.mk (ho)
                        clear BK115
                        clear HO118
                        clear HO131
                        clear HB
                        clear HO134
                        have BK115 := n0_
                        have HO118 := n1_
                        have HO131 := n2_
                        have HB := n3_
                        have HO137 := n4_
                        clear n0_ n1_ n2_ n3_ n4_
                        clear ho hb hg hat
                        refine hK.out _ _ ⟨(blk_cell BK115.out 0).trans rfl, (blk_cell BK115.out 1).trans rfl, (blk_cell BK115.out 2).trans rfl, (blk_cell BK115.out 3).trans rfl⟩ (fun hHeld => ?_)
                        clear hK K
                        refine norm_ (a' := ?_) ?_ ?_
                        rotate_left
                        · show Act.put _ (some 48) _ = _
                          simp only [Act.put, List.setIfInBounds_toArray, List.set_cons_zero, List.set_cons_succ, i64_w, i32_w]
                          rfl
                        refine pure_ (i := 10) (N := some 4) (v := ?_) (a' := ?_) #[true, true, true, true, true, true, true, true, true, true, true] rfl rfl (any_of HT_.out (by kernel_rfl)) (fun _ _ _ h => h) (Or.inl ⟨by rfl, ?_⟩) ?_ ?_
                        rotate_left
                        · intro w'
                          go_simp
                          with_reducible rfl
                        rotate_left
                        · simp only [Act.put, List.setIfInBounds_toArray, List.set_cons_zero, List.set_cons_succ, i64_w, i32_w]
                          rfl
                        refine done_ (done_of HT_.out (by kernel_rfl)) ?_
                        try go_wp2
                        go_roundg k1
                        case measure => have := HK1.out; omega
                        case rel => exact ⟨(y135), (wrap64 (x12_1 + 1)), (by first | rfl | (simp; done) | (simp [*]; done)), H', ⟨by have := HK1.out; omega⟩, ⟨by (with_reducible repeat (first | apply Kd.R_alloc | apply Kd.R_drewN | apply Kd.R_drew)); exact Kd.R_mono HO137.out (fun _ hk => trivial)⟩, ⟨by repeat (first | (with_reducible first | exact HB.out | apply below_alloc | apply pw_below_drewN | apply below_drew1 | refine below_set ?_ GE115.out) | exact HB.out)⟩⟩
                      · rw [if_neg c26] at H
                        exact absurd H (by simp)
                    · rw [if_neg c25] at H
                      exact absurd H (by simp)
                  · rw [if_neg c23] at H
                    have c23b0 : (((rd_T30 l0 x12_1).f0) == 2) = false := beq_eq_false_iff_ne.mpr c23
                    have c23b1 : (((rd_T30 l0 x12_1).f0) != 2) = true := bne_iff_ne.mpr c23
                    have H' := Aside0.mk H
                    clear H
                    have p114 : 0 ≤ (x12_1 : Int) := of_decide_eq_true (by first | (with_reducible assumption) | assumption)
                    have q114 : x12_1 < (l0.length : Int) := of_decide_eq_true (by first | (with_reducible assumption) | assumption)
                    obtain ⟨ad114, A114_3, c114_3, e114, hx114_0, hx114_1, hx114_2, hx114_3, hl114_3, hi114_3⟩ := at_T30 HR0.out x12_1 p114 q114
                    cases e114
                    replace hx114_0 := (HB.out.cell (World.block_lt_of_cell? w _ hx114_0)).trans hx114_0
                    replace hx114_1 := (HB.out.cell (World.block_lt_of_cell? w _ hx114_1)).trans hx114_1
                    replace hx114_2 := (HB.out.cell (World.block_lt_of_cell? w _ hx114_2)).trans hx114_2
                    replace hx114_3 := (HB.out.cell (World.block_lt_of_cell? w _ hx114_3)).trans hx114_3
                    have HR114_3 := Aside0.mk hi114_3
                    have HC114_3 := Aside0.mk hl114_3
                    clear hi114_3 hl114_3
                    replace p114 := eq_true p114
                    replace q114 := eq_true q114
                    go_wp2_with (first | ((with_reducible refine gate_dst (N := 6) rfl ?_); refine box_event ?hg (N := 6) ?hd (cs := #[.int .i64 0, .int .i64 0, .int .i64 0, .slice none 0 0]) (t := 30) ?hr ?_; (case hd => rfl); (case hg => rfl); (case hr => first | (go_simp; done) | (go_simp; rfl)); intro gb115 hg w38 hbox hb; have n0_ := Aside0.mk (Kd.R_below (by (with_reducible repeat (first | apply Kd.R_alloc | apply Kd.R_drewN | apply Kd.R_drew)); exact HO_4.out) hb); have n1_ := Aside0.mk (below_step (by repeat (first | (with_reducible first | exact HB.out | apply below_alloc | apply pw_below_drewN | apply below_drew1) | exact HB.out)) hb); have n2_ := Aside0.mk (hbox); have n3_ := Aside0.mk ((by rw [hg]; exact (below_size (by repeat (first | (with_reducible first | exact HB.out | apply below_alloc | apply pw_below_drewN | apply below_drew1) | exact HB.out))) : w.heap.size ≤ gb115)); have n4_ := Aside0.mk ((by rw [hg]; exact (below_size (by repeat (first | (with_reducible first | exact HB.out | apply below_alloc | apply pw_below_drewN | apply below_drew1) | exact HB.out))) : w.heap.size ≤ gb115)); clear HO_4; clear HB; have HO_4 := n0_; have HB := n1_; have BK115 := n2_; have GW115 := n3_; have GE115 := n4_; clear n0_ n1_ n2_ n3_ n4_; clear hb hbox hg; have hcz39_0 : w38.cell? ⟨gb115, 0, none⟩ = some (.int .i64 0) := (blk_cell BK115.out 0).trans rfl; have hcz39_1 : w38.cell? ⟨gb115, 1, none⟩ = some (.int .i64 0) := (blk_cell BK115.out 1).trans rfl; have hcz39_2 : w38.cell? ⟨gb115, 2, none⟩ = some (.int .i64 0) := (blk_cell BK115.out 2).trans rfl; have hcz39_3 : w38.cell? ⟨gb115, 3, none⟩ = some (.slice none 0 0) := (blk_cell BK115.out 3).trans rfl; have hfz39_0 := blk_frozen BK115.out 0; have hfz39_1 := blk_frozen BK115.out 1; have hfz39_2 := blk_frozen BK115.out 2; have hfz39_3 := blk_frozen BK115.out 3) | ((with_reducible refine gate_callee (f := 23) rfl ?_); refine goesL_ (some 25) rfl rfl Try.func23 (by kernel_rfl) rfl #[.int .u64 (IntKind.u64.wrap (wrap64 ((wrap64 ((wrap64 (((rd_T30 l0 x12_1).f1) * 4)) + ((rd_T30 l0 x12_1).f0))) - 1)))] rfl (by (try simp only [List.map_toArray, List.map_cons, List.map_nil]); first | done | rfl | (simp only [List.length_drop, List.length_take]; rfl)) ?_; (with_reducible refine (varint_Put.calls k1 (IntKind.u64.wrap (wrap64 ((wrap64 ((wrap64 (((rd_T30 l0 x12_1).f1) * 4)) + ((rd_T30 l0 x12_1).f0))) - 1))) t116 _ A8.out).mono ?_); rintro e w40 ⟨v117, rfl, ho0, hb⟩; refine ⟨_, rfl, ?_⟩; have n0_ := Aside0.mk (Kd.R_elder' (by (with_reducible repeat (first | apply Kd.R_alloc | apply Kd.R_drewN | apply Kd.R_drew)); exact (Kd.R_mono (Kd.R_far (p := ⟨gb115, 3, none⟩) (Kd.R_far (p := ⟨gb115, 2, none⟩) (Kd.R_far (p := ⟨gb115, 1, none⟩) (Kd.R_far (p := ⟨gb115, 0, none⟩) (Kd.R_types HO_4.out BK115.out (by decide)) (fun _ hk => hk.2) (.int .i64 ((rd_T30 l0 x12_1).f0))) (fun _ hk => hk.2) (.int .i64 ((rd_T30 l0 x12_1).f1))) (fun _ hk => hk.2) (.int .i64 ((rd_T30 l0 x12_1).f2))) (fun _ hk => hk.2) (.slice A114_3 ((rd_T30 l0 x12_1).f3).length c114_3)) (fun _ h_ => h_.1))) (Kd.R_base ho0) hb); have n1_ := Aside0.mk (Kd.R_lower (Kd.R_new' ho0 (Kd.R_lt (by (with_reducible repeat (first | apply Kd.R_alloc | apply Kd.R_drewN | apply Kd.R_drew)); exact (Kd.R_mono (Kd.R_far (p := ⟨gb115, 3, none⟩) (Kd.R_far (p := ⟨gb115, 2, none⟩) (Kd.R_far (p := ⟨gb115, 1, none⟩) (Kd.R_far (p := ⟨gb115, 0, none⟩) (Kd.R_types HO_4.out BK115.out (by decide)) (fun _ hk => hk.2) (.int .i64 ((rd_T30 l0 x12_1).f0))) (fun _ hk => hk.2) (.int .i64 ((rd_T30 l0 x12_1).f1))) (fun _ hk => hk.2) (.int .i64 ((rd_T30 l0 x12_1).f2))) (fun _ hk => hk.2) (.slice A114_3 ((rd_T30 l0 x12_1).f3).length c114_3)) (fun _ h_ => h_.1))))) (below_size (by repeat (first | (with_reducible first | exact HB.out | apply below_alloc | apply pw_below_drewN | apply below_drew1 | refine below_set ?_ GE115.out) | exact HB.out)))); have n2_ := Aside0.mk (blk_below (g := gb115) (o := .cells #[.int .i64 ((rd_T30 l0 x12_1).f0), .int .i64 ((rd_T30 l0 x12_1).f1), .int .i64 ((rd_T30 l0 x12_1).f2), .slice A114_3 ((rd_T30 l0 x12_1).f3).length c114_3] 30 (0, 0)) (by (with_reducible repeat (first | refine blk_drewN ?_ _ | refine blk_drew ?_ | refine blk_alloc ?_ _)); refine blk_put (cs := #[.int .i64 ((rd_T30 l0 x12_1).f0), .int .i64 ((rd_T30 l0 x12_1).f1), .int .i64 ((rd_T30 l0 x12_1).f2), .slice none 0 0]) ?_ 3 _ rfl; (with_reducible repeat (first | refine blk_drewN ?_ _ | refine blk_drew ?_ | refine blk_alloc ?_ _)); refine blk_put (cs := #[.int .i64 ((rd_T30 l0 x12_1).f0), .int .i64 ((rd_T30 l0 x12_1).f1), .int .i64 0, .slice none 0 0]) ?_ 2 _ rfl; (with_reducible repeat (first | refine blk_drewN ?_ _ | refine blk_drew ?_ | refine blk_alloc ?_ _)); refine blk_put (cs := #[.int .i64 ((rd_T30 l0 x12_1).f0), .int .i64 0, .int .i64 0, .slice none 0 0]) ?_ 1 _ rfl; (with_reducible repeat (first | refine blk_drewN ?_ _ | refine blk_drew ?_ | refine blk_alloc ?_ _)); refine blk_put (cs := #[.int .i64 0, .int .i64 0, .int .i64 0, .slice none 0 0]) ?_ 0 _ rfl; (with_reducible repeat (first | refine blk_drewN ?_ _ | refine blk_drew ?_ | refine blk_alloc ?_ _)); exact BK115.out) hb); have n3_ := Aside0.mk (below_step (by repeat (first | (with_reducible first | exact HB.out | apply below_alloc | apply pw_below_drewN | apply below_drew1 | refine below_set ?_ GE115.out) | exact HB.out)) hb); clear HO_4; clear BK115; clear HB; have HO_4 := n0_; have HO118 := n1_; have BK115 := n2_; have HB := n3_; clear n0_ n1_ n2_ n3_; (try clear hb); (try clear hb2); (try clear hk); (try clear hi); (try clear ho0); obtain ⟨Ao42, co42, eo42⟩ := Kd.R_slice HO118.out; subst eo42) | ((with_reducible refine gate_builtin (b := .append) (xs := #[.tmp 16, .tmp 25]) rfl ?_); at_builtin; refine Kd.R_append_rows (Kd.int .u8) (w0 := w) w.heap.size rfl (.tmp 16) (.tmp 25) 25 5 (.int .u8 0) 1 rfl Try.underlying25 info5 rfl (by decide) (by omega) u4 x4_1 t116 _ _ _ (fun k_ => some k_ ≠ (.slice Ao42 t116.length co42 : Value).ownBlock) (fun _ => False) rfl rfl ?aO ?aR (fun _ _ h => h) (fun _ h => h.elim) ?aF ?aB ?aS ?aL ?_; (case aR => repeat (first | exact (Kd.R_reads' HO118.out).2.2 | (with_reducible refine Kd.C_alloc ?_ _) | (with_reducible refine Kd.C_drewN ?_ _) | (with_reducible refine Kd.C_drew ?_))); (case aB => exact (by repeat (first | (with_reducible first | exact HB.out | apply below_alloc | apply pw_below_drewN | apply below_drew1 | refine below_set ?_ GE115.out) | exact HB.out))); (case aF => exact (fun k_ hk => Kd.fresh' (Kd.R_lt (by (with_reducible repeat (first | apply Kd.R_alloc | apply Kd.R_drewN | apply Kd.R_drew)); exact HO118.out)) k_ hk)); (case aO => exact (by (with_reducible repeat (first | apply Kd.R_alloc | apply Kd.R_drewN | apply Kd.R_drew)); exact Kd.R_mono HO_4.out (fun _ hk => hk.2))); (case aS => exact (below_size (by repeat (first | (with_reducible first | exact HB.out | apply below_alloc | apply pw_below_drewN | apply below_drew1 | refine below_set ?_ GE115.out) | exact HB.out)))); (case aL => have := LMc9.out; omega); intro v120 w41 ho hb hg hat; rw [← Ny119.out] at ho; have n0_ := Aside0.mk (blk_grown (g := gb115) (o := .cells #[.int .i64 ((rd_T30 l0 x12_1).f0), .int .i64 ((rd_T30 l0 x12_1).f1), .int .i64 ((rd_T30 l0 x12_1).f2), .slice A114_3 ((rd_T30 l0 x12_1).f3).length c114_3] 30 (0, 0)) (by (with_reducible repeat (first | refine blk_drewN ?_ _ | refine blk_drew ?_ | refine blk_alloc ?_ _)); exact BK115.out) hg (Kd.R_ne HO_4.out BK115.out (by decide))); have n1_ := Aside0.mk (Kd.R_after (ok := (fun _ => True)) (by (with_reducible repeat (first | apply Kd.R_alloc | apply Kd.R_drewN | apply Kd.R_drew)); exact HO118.out) hg hat); have n2_ := Aside0.mk (hb); have n3_ := Aside0.mk (ho); clear BK115; clear HO118; clear HB; clear HO_4; have BK115 := n0_; have HO118 := n1_; have HB := n2_; have HO121 := n3_; clear n0_ n1_ n2_ n3_; clear ho hb hg hat; have hcz43_0 : w41.cell? ⟨gb115, 0, none⟩ = some (.int .i64 ((rd_T30 l0 x12_1).f0)) := (blk_cell BK115.out 0).trans rfl; have hcz43_1 : w41.cell? ⟨gb115, 1, none⟩ = some (.int .i64 ((rd_T30 l0 x12_1).f1)) := (blk_cell BK115.out 1).trans rfl; have hcz43_2 : w41.cell? ⟨gb115, 2, none⟩ = some (.int .i64 ((rd_T30 l0 x12_1).f2)) := (blk_cell BK115.out 2).trans rfl; have hcz43_3 : w41.cell? ⟨gb115, 3, none⟩ = some (.slice A114_3 ((rd_T30 l0 x12_1).f3).length c114_3) := (blk_cell BK115.out 3).trans rfl; have hfz43_0 := blk_frozen BK115.out 0; have hfz43_1 := blk_frozen BK115.out 1; have hfz43_2 := blk_frozen BK115.out 2; have hfz43_3 := blk_frozen BK115.out 3))
                    go_roundg k1
                    case measure => have := HK1.out; omega
                    case rel => exact ⟨(y119), (wrap64 (x12_1 + 1)), (by first | rfl | (simp; done) | (simp [*]; done)), H', ⟨by have := HK1.out; omega⟩, ⟨by (with_reducible repeat (first | apply Kd.R_alloc | apply Kd.R_drewN | apply Kd.R_drew)); exact Kd.R_mono HO121.out (fun _ hk => trivial)⟩, ⟨by repeat (first | (with_reducible first | exact HB.out | apply below_alloc | apply pw_below_drewN | apply below_drew1 | refine below_set ?_ GE115.out) | exact HB.out)⟩⟩
              · rw [if_neg c9] at H
                exact absurd H (by simp)
            · rw [if_neg c7] at H
              exact absurd H (by simp)
          · rw [if_neg c6] at H
            exact absurd H (by simp)
        · rw [if_neg c5] at H
          have c5b0 : decide (x12_1 < (l0.length : Int)) = false := decide_eq_false c5
          clear c5
          by_cases c44 : (x4_1.length : Int) > 4096
          · rw [if_pos c44] at H
            have c44b0 : decide (4096 < (x4_1.length : Int)) = true := decide_eq_true c44
            have c44b1 : decide (4096 < x4_1.length) = true := decide_eq_true (by omega)
            clear c44
            simp only [Option.some.injEq, Prod.mk.injEq] at H
            obtain ⟨rfl, rfl⟩ := H
            obtain ⟨Ao45, co45, eo45⟩ := Kd.R_slice HO_4.out
            subst eo45
            go_wp2
            go_ret2
            exact ⟨_, by first | rfl | (simp [errW_none, errW_some] <;> rfl) | (simp [*, errW_none, errW_some] <;> rfl), by first | exact Kd.R_nil _ _ _ _ _ | exact Kd.N_nil _ _ _ _ _ | exact Kd.V_nil _ _ _ _ _ | exact Kd.Q_nil _ _ _ _ _ | exact Kd.S_nil _ _ _ _ _, by repeat (first | (with_reducible first | exact HB.out | apply below_alloc | apply pw_below_drewN | apply below_drew1) | exact HB.out)⟩
          · rw [if_neg c44] at H
            have c44b0 : decide (4096 < (x4_1.length : Int)) = false := decide_eq_false c44
            have c44b1 : decide (4096 < x4_1.length) = false := decide_eq_false (by omega)
            clear c44
            simp only [Option.some.injEq, Prod.mk.injEq] at H
            obtain ⟨rfl, rfl⟩ := H
            obtain ⟨Ao46, co46, eo46⟩ := Kd.R_slice HO_4.out
            subst eo46
            go_wp2
            go_ret2
            exact ⟨_, by first | rfl | (simp [errW_none, errW_some] <;> rfl) | (simp [*, errW_none, errW_some] <;> rfl), by (with_reducible repeat (first | apply Kd.R_alloc | apply Kd.R_drewN | apply Kd.R_drew)); exact HO_4.out, by repeat (first | (with_reducible first | exact HB.out | apply below_alloc | apply pw_below_drewN | apply below_drew1) | exact HB.out)⟩
  · replace c3 := Bool.eq_false_iff.mpr c3
    subst c3
    have H1 : (some (([] : List Int), 1)) = some (r1, r2) := by rw [if_neg (show ¬ (false = true) by decide)] at H; exact H
    clear H
    have H := H1
    clear H1
    simp only [Option.some.injEq, Prod.mk.injEq] at H
    obtain ⟨rfl, rfl⟩ := H
    go_enter Try.func12, Try.ntmps12
    go_wp2_with (first | ((with_reducible refine gate_callee (f := 14) rfl ?_); refine goesL_ (some 8) rfl rfl Try.func14 (by kernel_rfl) rfl #[.slice A0 l0.length c0] rfl (by (try simp only [List.map_toArray, List.map_cons, List.map_nil]); first | done | rfl | (simp only [List.length_drop, List.length_take]; rfl)) ?_; (with_reducible refine (value_Right.calls k _ _ l0 false _ ?side1 ?side2 A2.out).mono ?_); (case side1 => repeat (first | exact HR0.out | (with_reducible refine Kd.C_alloc ?_ _) | (with_reducible refine Kd.C_drewN ?_ _) | (with_reducible refine Kd.C_drew ?_))); (case side2 => exact HC0.out); rintro e w47 ⟨rfl, hb⟩; refine ⟨_, rfl, ?_⟩; have n0_ := Aside0.mk (below_step (by repeat (first | (with_reducible first | exact HB.out | apply below_alloc | apply pw_below_drewN | apply below_drew1) | exact HB.out)) hb); clear HB; have HB := n0_; clear n0_; (try clear hb); (try clear hb2); (try clear hk); (try clear hi)))
    go_ret2
    exact ⟨_, by first | rfl | (simp [errW_none, errW_some] <;> rfl) | (simp [*, errW_none, errW_some] <;> rfl), by first | exact Kd.R_nil _ _ _ _ _ | exact Kd.N_nil _ _ _ _ _ | exact Kd.V_nil _ _ _ _ _ | exact Kd.Q_nil _ _ _ _ _ | exact Kd.S_nil _ _ _ _ _, by repeat (first | (with_reducible first | exact HB.out | apply below_alloc | apply pw_below_drewN | apply below_drew1) | exact HB.out)⟩

/-! ### selvagelaw02_awake: function 10 -/
def selvagelaw02_awake.f (k : Nat)  : Option (Bool) := (value_Encode.f k (([(⟨1, 1, 5, ([] : List Int)⟩ : S30)] : List (S30)))).bind fun bt141 => (if bt141.2 = 0 then (if (strOfNums bt141.1).toList = ([4, 10] : List UInt8) then ((value_Right.f k (([(⟨3, 2, 0, ([] : List Int)⟩ : S30), (⟨4, 0, 0, ([] : List Int)⟩ : S30)] : List (S30)))).bind fun t148 => (some t148)) else (some false)) else (some false))
theorem selvagelaw02_awake.mono : ∀ k, LeO (selvagelaw02_awake.f k ) (selvagelaw02_awake.f (k + 1) ) := by
  intro  k
  unfold selvagelaw02_awake.f
  repeat' first
      | (with_reducible exact value_Encode.mono _ _)
      | (with_reducible exact value_Right.mono _ _)
      | (with_reducible exact LeO.refl _)
      | (with_reducible exact LeO.none _)
      | (with_reducible refine LeO.ite ?_ ?_)
      | (with_reducible refine LeO.bind ?_ (fun _ => ?_))
      | exact value_Encode.mono _ _
      | exact value_Right.mono _ _
      | exact LeO.none _
      | refine LeO.ite ?_ ?_
      | refine LeO.bind ?_ (fun _ => ?_)
set_option maxHeartbeats 8000000 in
set_option maxRecDepth 100000 in
theorem selvagelaw02_awake.calls (k : Nat)  (r : Bool) (w : World) (h : selvagelaw02_awake.f k  = some r) :
    Calls Try.prog 10 #[] w fun e w' => e = .returned (.bool r) ∧ Below w.heap.size w w' := by
  have hu30 := Try.underlying30
  have HB := Aside0.mk (Below.refl w.heap.size w)
  have H : ((value_Encode.f k (([(⟨1, 1, 5, ([] : List Int)⟩ : S30)] : List (S30)))).bind fun bt141 => (if bt141.2 = 0 then (if (strOfNums bt141.1).toList = ([4, 10] : List UInt8) then ((value_Right.f k (([(⟨3, 2, 0, ([] : List Int)⟩ : S30), (⟨4, 0, 0, ([] : List Int)⟩ : S30)] : List (S30)))).bind fun t148 => (some t148)) else (some false)) else (some false))) = some r := h
  clear h
  obtain ⟨y138, hy138⟩ : ∃ y_ : List (S30), y_ = (([(⟨1, 1, 5, ([] : List Int)⟩ : S30)] : List (S30))) := ⟨_, rfl⟩
  replace H : ((value_Encode.f k y138).bind fun bt141 => (if bt141.2 = 0 then (if (strOfNums bt141.1).toList = ([4, 10] : List UInt8) then ((value_Right.f k (([(⟨3, 2, 0, ([] : List Int)⟩ : S30), (⟨4, 0, 0, ([] : List Int)⟩ : S30)] : List (S30)))).bind fun t148 => (some t148)) else (some false)) else (some false))) = some r := by first | (rw [hy138]; with_reducible exact H) | (have H2_ := (Option.bind_some _ _).symm.trans H; rw [hy138]; with_reducible exact H2_) | (have H2_ := (Option.bind_some _ _).symm.trans H; with_reducible exact H2_) | with_reducible exact H | (rw [hy138]; exact H) | exact H
  have Ny138 := Aside0.mk hy138
  clear hy138
  replace H := Option.bind_eq_some_iff.mp H
  obtain ⟨⟨t141, t142⟩, A10, H⟩ := H
  replace H : (if t142 = 0 then (if (strOfNums t141).toList = ([4, 10] : List UInt8) then ((value_Right.f k (([(⟨3, 2, 0, ([] : List Int)⟩ : S30), (⟨4, 0, 0, ([] : List Int)⟩ : S30)] : List (S30)))).bind fun t148 => (some t148)) else (some false)) else (some false)) = some r := H
  have A1 := Aside0.mk A10
  clear A10
  by_cases c2 : t142 = 0
  · rw [if_pos c2] at H
    have c2b0 : (t142 == 0) = true := beq_iff_eq.mpr c2
    have c2b1 : (t142 != 0) = false := bne_eq_false_iff_eq.mpr c2
    clear c2
    by_cases c3 : (strOfNums t141).toList = ([4, 10] : List UInt8)
    · rw [if_pos c3] at H
      have c3b0 : ((strOfNums t141).toList == ([4, 10] : List UInt8)) = true := beq_iff_eq.mpr c3
      have c3b1 : ((strOfNums t141).toList != ([4, 10] : List UInt8)) = false := bne_eq_false_iff_eq.mpr c3
      clear c3
      obtain ⟨y145, hy145⟩ : ∃ y_ : List (S30), y_ = (([(⟨3, 2, 0, ([] : List Int)⟩ : S30), (⟨4, 0, 0, ([] : List Int)⟩ : S30)] : List (S30))) := ⟨_, rfl⟩
      replace H : ((value_Right.f k y145).bind fun t148 => (some t148)) = some r := by first | (rw [hy145]; with_reducible exact H) | (have H2_ := (Option.bind_some _ _).symm.trans H; rw [hy145]; with_reducible exact H2_) | (have H2_ := (Option.bind_some _ _).symm.trans H; with_reducible exact H2_) | with_reducible exact H | (rw [hy145]; exact H) | exact H
      have Ny145 := Aside0.mk hy145
      clear hy145
      replace H := Option.bind_eq_some_iff.mp H
      obtain ⟨t148, A40, H⟩ := H
      replace H : (some t148) = some r := H
      have A4 := Aside0.mk A40
      clear A40
      obtain rfl := Option.some.inj H
      go_enter Try.func10, Try.ntmps10
      go_wp2_with (first | ((with_reducible refine gate_dst (N := 5) rfl ?_); (try (refine gate_guard (by rfl) ?_; dsimp only)); refine Kd.S_lit k30 _ 30 ?hg (N := 5) ?hd (xs := ([(⟨1, 1, 5, ([] : List Int)⟩ : S30)] : List (S30))) (inner := [.int .i64 1, .int .i64 1, .int .i64 5, .slice none 0 0]) (ok := fun _ => True) (okp := fun _ => True) ?hr ?hp (fun _ hk => hk) trivial (Below.refl _ _) (Nat.le_refl _) (by simp) ?_; (case hd => rfl); (case hg => rfl); (case hr => first | (go_simp; done) | (go_simp; rfl)); (case hp => exact (Reps.c4 (show Kd.M k30 _ _ _ (⟨1, 1, 5, ([] : List Int)⟩ : S30) [.int .i64 1, .int .i64 1, .int .i64 5, .slice none 0 0] from (k30_mkM _ _ _ (⟨1, 1, 5, ([] : List Int)⟩ : S30) (Kd.R_nil _ _ _ _ _))) (Reps.none _ _))); intro v139 w5 ho6 hb hg_ hnew_; clear hg_ hnew_; (first | rw [← Ny138.out] at ho6 | (simp only [Int.reduceToNat] at ho6; rw [← Ny138.out] at ho6)); have n0_ := Aside0.mk (Kd.S_lower ho6 (below_size (by repeat (first | (with_reducible first | exact HB.out | apply below_alloc | apply pw_below_drewN | apply below_drew1) | exact HB.out)))); have n1_ := Aside0.mk (below_step (by repeat (first | (with_reducible first | exact HB.out | apply below_alloc | apply pw_below_drewN | apply below_drew1) | exact HB.out)) hb); clear HB; have HO140 := n0_; have HB := n1_; clear n0_ n1_; clear hb ho6; obtain ⟨Ao7, co7, eo7⟩ := Kd.S_slice HO140.out; subst eo7) | ((with_reducible refine gate_callee (f := 12) rfl ?_); refine goesL_ (some 6) rfl rfl Try.func12 (by kernel_rfl) rfl #[.slice Ao7 y138.length co7] rfl (by (try simp only [List.map_toArray, List.map_cons, List.map_nil]); first | done | rfl | (simp only [List.length_drop, List.length_take]; rfl)) ?_; (with_reducible refine (value_Encode.calls k _ _ y138 t141 t142 _ ?side1 ?side2 A1.out).mono ?_); (case side1 => repeat (first | exact (Kd.S_reads' HO140.out).2.2 | (with_reducible refine Kd.C_alloc ?_ _) | (with_reducible refine Kd.C_drewN ?_ _) | (with_reducible refine Kd.C_drew ?_))); (case side2 => exact (Kd.S_reads' HO140.out).2.1); rintro e w8 ⟨v143, rfl, ho0, hb⟩; refine ⟨_, rfl, ?_⟩; have n0_ := Aside0.mk (Kd.S_elder' (by (with_reducible repeat (first | apply Kd.S_alloc | apply Kd.S_drewN | apply Kd.S_drew)); exact HO140.out) (Kd.R_base ho0) hb); have n1_ := Aside0.mk (Kd.R_lower ho0 (below_size (by repeat (first | (with_reducible first | exact HB.out | apply below_alloc | apply pw_below_drewN | apply below_drew1) | exact HB.out)))); have n2_ := Aside0.mk (below_step (by repeat (first | (with_reducible first | exact HB.out | apply below_alloc | apply pw_below_drewN | apply below_drew1) | exact HB.out)) hb); clear HO140; clear HB; have HO140 := n0_; have HO144 := n1_; have HB := n2_; clear n0_ n1_ n2_; (try clear hb); (try clear hb2); (try clear hk); (try clear hi); (try clear ho0); have hcv9 := own_string (P := Try.prog) Try.underlying25 Try.underlying5 Try.underlying9 (Kd.own_of_R HO144.out)) | ((with_reducible refine gate_dst (N := 19) rfl ?_); (try (refine gate_guard (by rfl) ?_; dsimp only)); refine Kd.S_lit k30 _ 30 ?hg (N := 19) ?hd (xs := ([(⟨3, 2, 0, ([] : List Int)⟩ : S30), (⟨4, 0, 0, ([] : List Int)⟩ : S30)] : List (S30))) (inner := [.int .i64 3, .int .i64 2, .int .i64 0, .slice none 0 0, .int .i64 4, .int .i64 0, .int .i64 0, .slice none 0 0]) (ok := fun _ => True) (okp := fun _ => True) ?hr ?hp (fun _ hk => hk) trivial (Below.refl _ _) (Nat.le_refl _) (by simp) ?_; (case hd => rfl); (case hg => rfl); (case hr => first | (go_simp; done) | (go_simp; rfl)); (case hp => exact (Reps.c4 (show Kd.M k30 _ _ _ (⟨3, 2, 0, ([] : List Int)⟩ : S30) [.int .i64 3, .int .i64 2, .int .i64 0, .slice none 0 0] from (k30_mkM _ _ _ (⟨3, 2, 0, ([] : List Int)⟩ : S30) (Kd.R_nil _ _ _ _ _))) (Reps.c4 (show Kd.M k30 _ _ _ (⟨4, 0, 0, ([] : List Int)⟩ : S30) [.int .i64 4, .int .i64 0, .int .i64 0, .slice none 0 0] from (k30_mkM _ _ _ (⟨4, 0, 0, ([] : List Int)⟩ : S30) (Kd.R_nil _ _ _ _ _))) (Reps.none _ _)))); intro v146 w10 ho11 hb hg_ hnew_; clear hg_ hnew_; (first | rw [← Ny145.out] at ho11 | (simp only [Int.reduceToNat] at ho11; rw [← Ny145.out] at ho11)); have n0_ := Aside0.mk (Kd.S_elder' (by (with_reducible repeat (first | apply Kd.S_alloc | apply Kd.S_drewN | apply Kd.S_drew)); exact HO140.out) (Kd.S_base ho11) hb); have n1_ := Aside0.mk (Kd.R_below (by (with_reducible repeat (first | apply Kd.R_alloc | apply Kd.R_drewN | apply Kd.R_drew)); exact HO144.out) hb); have n2_ := Aside0.mk (Kd.S_lower (Kd.S_new' (Kd.S_new' ho11 (Kd.S_lt (by (with_reducible repeat (first | apply Kd.S_alloc | apply Kd.S_drewN | apply Kd.S_drew)); exact HO140.out))) (Kd.R_lt (by (with_reducible repeat (first | apply Kd.R_alloc | apply Kd.R_drewN | apply Kd.R_drew)); exact HO144.out))) (below_size (by repeat (first | (with_reducible first | exact HB.out | apply below_alloc | apply pw_below_drewN | apply below_drew1) | exact HB.out)))); have n3_ := Aside0.mk (below_step (by repeat (first | (with_reducible first | exact HB.out | apply below_alloc | apply pw_below_drewN | apply below_drew1) | exact HB.out)) hb); clear HO140; clear HO144; clear HB; have HO140 := n0_; have HO144 := n1_; have HO147 := n2_; have HB := n3_; clear n0_ n1_ n2_ n3_; clear hb ho11; obtain ⟨Ao12, co12, eo12⟩ := Kd.S_slice HO147.out; subst eo12) | (go_at_call 14; (with_reducible refine (value_Right.calls k _ _ y145 t148 _ ?side1 ?side2 A4.out).mono ?_); (case side1 => repeat (first | exact (Kd.S_reads' HO147.out).2.2 | (with_reducible refine Kd.C_alloc ?_ _) | (with_reducible refine Kd.C_drewN ?_ _) | (with_reducible refine Kd.C_drew ?_))); (case side2 => exact (Kd.S_reads' HO147.out).2.1); rintro e w13 ⟨rfl, hb⟩; have n0_ := Aside0.mk (Kd.S_below (by (with_reducible repeat (first | apply Kd.S_alloc | apply Kd.S_drewN | apply Kd.S_drew)); exact HO140.out) hb); have n1_ := Aside0.mk (Kd.R_below (by (with_reducible repeat (first | apply Kd.R_alloc | apply Kd.R_drewN | apply Kd.R_drew)); exact HO144.out) hb); have n2_ := Aside0.mk (Kd.S_below (by (with_reducible repeat (first | apply Kd.S_alloc | apply Kd.S_drewN | apply Kd.S_drew)); exact HO147.out) hb); have n3_ := Aside0.mk (below_step (by repeat (first | (with_reducible first | exact HB.out | apply below_alloc | apply pw_below_drewN | apply below_drew1) | exact HB.out)) hb); clear HO140; clear HO144; clear HO147; clear HB; have HO140 := n0_; have HO144 := n1_; have HO147 := n2_; have HB := n3_; clear n0_ n1_ n2_ n3_; (try clear hb); (try clear hb2); (try clear hk); (try clear hi)))
      go_ret
      exact ⟨by first | rfl | (simp [errW_none, errW_some] <;> rfl) | (simp [*, errW_none, errW_some] <;> rfl), by repeat (first | (with_reducible first | exact HB.out | apply below_alloc | apply pw_below_drewN | apply below_drew1) | exact HB.out)⟩
    · rw [if_neg c3] at H
      have c3b0 : ((strOfNums t141).toList == ([4, 10] : List UInt8)) = false := beq_eq_false_iff_ne.mpr c3
      have c3b1 : ((strOfNums t141).toList != ([4, 10] : List UInt8)) = true := bne_iff_ne.mpr c3
      obtain rfl := Option.some.inj H
      go_enter Try.func10, Try.ntmps10
      go_wp2_with (first | ((with_reducible refine gate_dst (N := 5) rfl ?_); (try (refine gate_guard (by rfl) ?_; dsimp only)); refine Kd.S_lit k30 _ 30 ?hg (N := 5) ?hd (xs := ([(⟨1, 1, 5, ([] : List Int)⟩ : S30)] : List (S30))) (inner := [.int .i64 1, .int .i64 1, .int .i64 5, .slice none 0 0]) (ok := fun _ => True) (okp := fun _ => True) ?hr ?hp (fun _ hk => hk) trivial (Below.refl _ _) (Nat.le_refl _) (by simp) ?_; (case hd => rfl); (case hg => rfl); (case hr => first | (go_simp; done) | (go_simp; rfl)); (case hp => exact (Reps.c4 (show Kd.M k30 _ _ _ (⟨1, 1, 5, ([] : List Int)⟩ : S30) [.int .i64 1, .int .i64 1, .int .i64 5, .slice none 0 0] from (k30_mkM _ _ _ (⟨1, 1, 5, ([] : List Int)⟩ : S30) (Kd.R_nil _ _ _ _ _))) (Reps.none _ _))); intro v139 w14 ho15 hb hg_ hnew_; clear hg_ hnew_; (first | rw [← Ny138.out] at ho15 | (simp only [Int.reduceToNat] at ho15; rw [← Ny138.out] at ho15)); have n0_ := Aside0.mk (Kd.S_lower ho15 (below_size (by repeat (first | (with_reducible first | exact HB.out | apply below_alloc | apply pw_below_drewN | apply below_drew1) | exact HB.out)))); have n1_ := Aside0.mk (below_step (by repeat (first | (with_reducible first | exact HB.out | apply below_alloc | apply pw_below_drewN | apply below_drew1) | exact HB.out)) hb); clear HB; have HO140 := n0_; have HB := n1_; clear n0_ n1_; clear hb ho15; obtain ⟨Ao16, co16, eo16⟩ := Kd.S_slice HO140.out; subst eo16) | ((with_reducible refine gate_callee (f := 12) rfl ?_); refine goesL_ (some 6) rfl rfl Try.func12 (by kernel_rfl) rfl #[.slice Ao16 y138.length co16] rfl (by (try simp only [List.map_toArray, List.map_cons, List.map_nil]); first | done | rfl | (simp only [List.length_drop, List.length_take]; rfl)) ?_; (with_reducible refine (value_Encode.calls k _ _ y138 t141 t142 _ ?side1 ?side2 A1.out).mono ?_); (case side1 => repeat (first | exact (Kd.S_reads' HO140.out).2.2 | (with_reducible refine Kd.C_alloc ?_ _) | (with_reducible refine Kd.C_drewN ?_ _) | (with_reducible refine Kd.C_drew ?_))); (case side2 => exact (Kd.S_reads' HO140.out).2.1); rintro e w17 ⟨v143, rfl, ho0, hb⟩; refine ⟨_, rfl, ?_⟩; have n0_ := Aside0.mk (Kd.S_elder' (by (with_reducible repeat (first | apply Kd.S_alloc | apply Kd.S_drewN | apply Kd.S_drew)); exact HO140.out) (Kd.R_base ho0) hb); have n1_ := Aside0.mk (Kd.R_lower ho0 (below_size (by repeat (first | (with_reducible first | exact HB.out | apply below_alloc | apply pw_below_drewN | apply below_drew1) | exact HB.out)))); have n2_ := Aside0.mk (below_step (by repeat (first | (with_reducible first | exact HB.out | apply below_alloc | apply pw_below_drewN | apply below_drew1) | exact HB.out)) hb); clear HO140; clear HB; have HO140 := n0_; have HO144 := n1_; have HB := n2_; clear n0_ n1_ n2_; (try clear hb); (try clear hb2); (try clear hk); (try clear hi); (try clear ho0); have hcv18 := own_string (P := Try.prog) Try.underlying25 Try.underlying5 Try.underlying9 (Kd.own_of_R HO144.out)))
      go_ret
      exact ⟨by first | rfl | (simp [errW_none, errW_some] <;> rfl) | (simp [*, errW_none, errW_some] <;> rfl), by repeat (first | (with_reducible first | exact HB.out | apply below_alloc | apply pw_below_drewN | apply below_drew1) | exact HB.out)⟩
  · rw [if_neg c2] at H
    have c2b0 : (t142 == 0) = false := beq_eq_false_iff_ne.mpr c2
    have c2b1 : (t142 != 0) = true := bne_iff_ne.mpr c2
    obtain rfl := Option.some.inj H
    go_enter Try.func10, Try.ntmps10
    go_wp2_with (first | ((with_reducible refine gate_dst (N := 5) rfl ?_); (try (refine gate_guard (by rfl) ?_; dsimp only)); refine Kd.S_lit k30 _ 30 ?hg (N := 5) ?hd (xs := ([(⟨1, 1, 5, ([] : List Int)⟩ : S30)] : List (S30))) (inner := [.int .i64 1, .int .i64 1, .int .i64 5, .slice none 0 0]) (ok := fun _ => True) (okp := fun _ => True) ?hr ?hp (fun _ hk => hk) trivial (Below.refl _ _) (Nat.le_refl _) (by simp) ?_; (case hd => rfl); (case hg => rfl); (case hr => first | (go_simp; done) | (go_simp; rfl)); (case hp => exact (Reps.c4 (show Kd.M k30 _ _ _ (⟨1, 1, 5, ([] : List Int)⟩ : S30) [.int .i64 1, .int .i64 1, .int .i64 5, .slice none 0 0] from (k30_mkM _ _ _ (⟨1, 1, 5, ([] : List Int)⟩ : S30) (Kd.R_nil _ _ _ _ _))) (Reps.none _ _))); intro v139 w19 ho20 hb hg_ hnew_; clear hg_ hnew_; (first | rw [← Ny138.out] at ho20 | (simp only [Int.reduceToNat] at ho20; rw [← Ny138.out] at ho20)); have n0_ := Aside0.mk (Kd.S_lower ho20 (below_size (by repeat (first | (with_reducible first | exact HB.out | apply below_alloc | apply pw_below_drewN | apply below_drew1) | exact HB.out)))); have n1_ := Aside0.mk (below_step (by repeat (first | (with_reducible first | exact HB.out | apply below_alloc | apply pw_below_drewN | apply below_drew1) | exact HB.out)) hb); clear HB; have HO140 := n0_; have HB := n1_; clear n0_ n1_; clear hb ho20; obtain ⟨Ao21, co21, eo21⟩ := Kd.S_slice HO140.out; subst eo21) | ((with_reducible refine gate_callee (f := 12) rfl ?_); refine goesL_ (some 6) rfl rfl Try.func12 (by kernel_rfl) rfl #[.slice Ao21 y138.length co21] rfl (by (try simp only [List.map_toArray, List.map_cons, List.map_nil]); first | done | rfl | (simp only [List.length_drop, List.length_take]; rfl)) ?_; (with_reducible refine (value_Encode.calls k _ _ y138 t141 t142 _ ?side1 ?side2 A1.out).mono ?_); (case side1 => repeat (first | exact (Kd.S_reads' HO140.out).2.2 | (with_reducible refine Kd.C_alloc ?_ _) | (with_reducible refine Kd.C_drewN ?_ _) | (with_reducible refine Kd.C_drew ?_))); (case side2 => exact (Kd.S_reads' HO140.out).2.1); rintro e w22 ⟨v143, rfl, ho0, hb⟩; refine ⟨_, rfl, ?_⟩; have n0_ := Aside0.mk (Kd.S_elder' (by (with_reducible repeat (first | apply Kd.S_alloc | apply Kd.S_drewN | apply Kd.S_drew)); exact HO140.out) (Kd.R_base ho0) hb); have n1_ := Aside0.mk (Kd.R_lower ho0 (below_size (by repeat (first | (with_reducible first | exact HB.out | apply below_alloc | apply pw_below_drewN | apply below_drew1) | exact HB.out)))); have n2_ := Aside0.mk (below_step (by repeat (first | (with_reducible first | exact HB.out | apply below_alloc | apply pw_below_drewN | apply below_drew1) | exact HB.out)) hb); clear HO140; clear HB; have HO140 := n0_; have HO144 := n1_; have HB := n2_; clear n0_ n1_ n2_; (try clear hb); (try clear hb2); (try clear hk); (try clear hi); (try clear ho0)))
    go_ret
    exact ⟨by first | rfl | (simp [errW_none, errW_some] <;> rfl) | (simp [*, errW_none, errW_some] <;> rfl), by repeat (first | (with_reducible first | exact HB.out | apply below_alloc | apply pw_below_drewN | apply below_drew1) | exact HB.out)⟩

/-! ### selvageref02_Few: function 11 -/
def selvageref02_Few.l0 : Nat → List (S30) → Int → Int → Option (Bool)
  | 0, _, _, _ => none
  | k + 1, x0, x3, x4 => if x4 < (x0.length : Int) then (if 0 ≤ x4 then (if (wrap64 (x3 + (((rd_T30 x0 x4).f3).length : Int))) > 10000 then (some false) else (selvageref02_Few.l0 k x0 (wrap64 (x3 + (((rd_T30 x0 x4).f3).length : Int))) (wrap64 (x4 + 1)))) else (none)) else (some true)
def selvageref02_Few.f (k : Nat) (l0 : List (S30)) : Option (Bool) := if (l0.length : Int) > 200 then (some false) else (selvageref02_Few.l0 k l0 0 0)
theorem selvageref02_Few.mono_l : ∀ k, (∀ y0 y1 y2, LeO (selvageref02_Few.l0 k y0 y1 y2) (selvageref02_Few.l0 (k + 1) y0 y1 y2))
  | 0 => fun _ _ _ r h => by simp [selvageref02_Few.l0] at h
  | k + 1 => by
    have ih0 := selvageref02_Few.mono_l k
    · intro y0 y1 y2
      unfold selvageref02_Few.l0
      repeat' first
      | (with_reducible exact ih0 _ _ _)
      | (with_reducible exact LeO.refl _)
      | (with_reducible exact LeO.none _)
      | (with_reducible refine LeO.ite ?_ ?_)
      | (with_reducible refine LeO.bind ?_ (fun _ => ?_))
      | exact ih0 _ _ _
      | exact LeO.none _
      | refine LeO.ite ?_ ?_
      | refine LeO.bind ?_ (fun _ => ?_)
theorem selvageref02_Few.mono : ∀ a0 k, LeO (selvageref02_Few.f k a0) (selvageref02_Few.f (k + 1) a0) := by
  intro a0 k
  have ih0 := selvageref02_Few.mono_l k
  unfold selvageref02_Few.f
  repeat' first
      | (with_reducible exact ih0 _ _ _)
      | (with_reducible exact LeO.refl _)
      | (with_reducible exact LeO.none _)
      | (with_reducible refine LeO.ite ?_ ?_)
      | (with_reducible refine LeO.bind ?_ (fun _ => ?_))
      | exact ih0 _ _ _
      | exact LeO.none _
      | refine LeO.ite ?_ ?_
      | refine LeO.bind ?_ (fun _ => ?_)
set_option maxHeartbeats 8000000 in
set_option maxRecDepth 100000 in
theorem selvageref02_Few.calls (k : Nat) (A0 : Option Addr) (c0 : Nat) (l0 : List (S30)) (r : Bool) (w : World) (hr0 : Kd.C k30 w A0 l0.length l0) (hc0 : l0.length ≤ c0) (h : selvageref02_Few.f k l0 = some r) :
    Calls Try.prog 11 #[.slice A0 l0.length c0] w fun e w' => e = .returned (.bool r) ∧ Drawn0 w w' := by
  have HR0 := Aside0.mk hr0
  have HC0 := Aside0.mk hc0
  clear hr0 hc0
  have H : (if (l0.length : Int) > 200 then (some false) else (selvageref02_Few.l0 k l0 0 0)) = some r := h
  clear h
  by_cases c2 : (l0.length : Int) > 200
  · rw [if_pos c2] at H
    have c2b0 : decide (200 < (l0.length : Int)) = true := decide_eq_true c2
    have c2b1 : decide (200 < l0.length) = true := decide_eq_true (by omega)
    clear c2
    obtain rfl := Option.some.inj H
    go_enter Try.func11, Try.ntmps11
    go_wp2
    go_ret
    exact ⟨by first | rfl | (simp; done) | (simp [*]; done), by repeat (first | exact Drawn0.refl _ | apply Drawn0.step)⟩
  · rw [if_neg c2] at H
    have c2b0 : decide (200 < (l0.length : Int)) = false := decide_eq_false c2
    have c2b1 : decide (200 < l0.length) = false := decide_eq_false (by omega)
    clear c2
    have H' := Aside0.mk H
    clear H
    go_enter Try.func11, Try.ntmps11
    go_wp2
    go_loopg [3, 4] k (fun kq v3 v4 w' => ∃ (x3_1 : Int) (x4_1 : Int), v3 = .int .i64 x3_1 ∧ v4 = .int .i64 x4_1 ∧ Aside0 (selvageref02_Few.l0 kq l0 x3_1 x4_1 = some r) ∧ Aside0 (kq ≤ k) ∧ Drawn0 w w')
    case atStart => exact ⟨(0), (0), (by first | rfl | (simp; done) | (simp [*]; done)), (by first | rfl | (simp; done) | (simp [*]; done)), H', ⟨Nat.le_refl _⟩, by repeat (first | exact Drawn0.refl _ | apply Drawn0.step)⟩
    case round =>
      clear H'
      try clear c1
      try clear c2
      try clear c2b0
      try clear c2b1
      try clear p2
      obtain ⟨x3_1, x4_1, rfl, rfl, HA, HK1, ⟨m1, rfl⟩⟩ := hrel
      cases gk with
      | zero => exact absurd HA.out (by simp [selvageref02_Few.l0])
      | succ k1 =>
        have H := HA.out
        clear HA
        simp only [selvageref02_Few.l0] at H
        by_cases c3 : x4_1 < (l0.length : Int)
        · rw [if_pos c3] at H
          have c3b0 : decide (x4_1 < (l0.length : Int)) = true := decide_eq_true c3
          clear c3
          by_cases c4 : 0 ≤ x4_1
          · rw [if_pos c4] at H
            have c4b0 : decide (0 ≤ x4_1) = true := decide_eq_true c4
            clear c4
            by_cases c5 : (wrap64 (x3_1 + (((rd_T30 l0 x4_1).f3).length : Int))) > 10000
            · rw [if_pos c5] at H
              have c5b0 : decide (10000 < (wrap64 (x3_1 + (((rd_T30 l0 x4_1).f3).length : Int)))) = true := decide_eq_true c5
              clear c5
              obtain rfl := Option.some.inj H
              have p149 : 0 ≤ (x4_1 : Int) := of_decide_eq_true (by first | (with_reducible assumption) | assumption)
              have q149 : x4_1 < (l0.length : Int) := of_decide_eq_true (by first | (with_reducible assumption) | assumption)
              obtain ⟨ad149, A149_3, c149_3, e149, hx149_0, hx149_1, hx149_2, hx149_3, hl149_3, hi149_3⟩ := at_T30 HR0.out x4_1 p149 q149
              cases e149
              have HR149_3 := Aside0.mk hi149_3
              have HC149_3 := Aside0.mk hl149_3
              clear hi149_3 hl149_3
              replace p149 := eq_true p149
              replace q149 := eq_true q149
              go_wp2
              go_ret
              exact ⟨by first | rfl | (simp; done) | (simp [*]; done), by repeat (first | exact Drawn0.refl _ | apply Drawn0.step)⟩
            · rw [if_neg c5] at H
              have c5b0 : decide (10000 < (wrap64 (x3_1 + (((rd_T30 l0 x4_1).f3).length : Int)))) = false := decide_eq_false c5
              clear c5
              have H' := Aside0.mk H
              clear H
              have p149 : 0 ≤ (x4_1 : Int) := of_decide_eq_true (by first | (with_reducible assumption) | assumption)
              have q149 : x4_1 < (l0.length : Int) := of_decide_eq_true (by first | (with_reducible assumption) | assumption)
              obtain ⟨ad149, A149_3, c149_3, e149, hx149_0, hx149_1, hx149_2, hx149_3, hl149_3, hi149_3⟩ := at_T30 HR0.out x4_1 p149 q149
              cases e149
              have HR149_3 := Aside0.mk hi149_3
              have HC149_3 := Aside0.mk hl149_3
              clear hi149_3 hl149_3
              replace p149 := eq_true p149
              replace q149 := eq_true q149
              go_wp2
              go_roundg k1
              case measure => have := HK1.out; omega
              case rel => exact ⟨(wrap64 (x3_1 + (((rd_T30 l0 x4_1).f3).length : Int))), (wrap64 (x4_1 + 1)), (by first | rfl | (simp; done) | (simp [*]; done)), (by first | rfl | (simp; done) | (simp [*]; done)), H', ⟨by have := HK1.out; omega⟩, by repeat (first | exact Drawn0.refl _ | apply Drawn0.step)⟩
          · rw [if_neg c4] at H
            exact absurd H (by simp)
        · rw [if_neg c3] at H
          have c3b0 : decide (x4_1 < (l0.length : Int)) = false := decide_eq_false c3
          clear c3
          obtain rfl := Option.some.inj H
          go_wp2
          go_ret
          exact ⟨by first | rfl | (simp; done) | (simp [*]; done), by repeat (first | exact Drawn0.refl _ | apply Drawn0.step)⟩

end Go.Proofs.Ytmiijakcmbolfaa.P
