-- Printed by a program of this session over the kit's print: all laws of the seat in one namespace, some texts by hand.
import Derived.Test.YtmiijakcmbolfaaPx0
import Derived.Test.YtmiijakcmbolfaaPx1
import Derived.Test.YtmiijakcmbolfaaPx2
import Derived.Test.YtmiijakcmbolfaaPx3
namespace Go.Proofs.Ytmiijakcmbolfaa.P
open Go.RowKit Go.Proofs.YtmiijakcmbolfaaW.PrintWords Go.Proofs.YtmiijakcmbolfaaW.PrintLast Go.Proofs.YtmiijakcmbolfaaW.PrintMore
attribute [local go_sem] max2_int min2_int max_two min_two max_three min_three max_four min_four   -- for this text's walks alone
set_option linter.unusedVariables false
set_option linter.unusedSimpArgs false

/-! ### selvageref02_Encode: function 13 -/
mutual
def selvageref02_Encode.l0 : Nat → List (S30) → List Int → Int → Option (List Int × Int)
  | 0, _, _, _ => none
  | k + 1, x0, x5, x6 => if x6 < (x0.length : Int) then (if 0 ≤ x6 then ((selvageref01_Put.f k (IntKind.u64.wrap (wrap64 ((wrap64 ((wrap64 (((rd_T30 x0 x6).f1) * 4)) + ((rd_T30 x0 x6).f0))) - 1)))).bind fun t170 => (if x5.length + t170.length < 140737488355328 then ((some (x5 ++ t170 : List Int)).bind fun y173 => (if ((rd_T30 x0 x6).f0) = 1 then ((selvageref01_Zig.f ((rd_T30 x0 x6).f2)).bind fun t176 => ((selvageref01_Put.f k t176).bind fun t177 => (if y173.length + t177.length < 140737488355328 then (selvageref02_Encode.j1 k x0 (y173 ++ t177) x6 ((rd_T30 x0 x6).f0) ((rd_T30 x0 x6).f1) ((rd_T30 x0 x6).f2) ((rd_T30 x0 x6).f3)) else (none)))) else (selvageref02_Encode.j1 k x0 y173 x6 ((rd_T30 x0 x6).f0) ((rd_T30 x0 x6).f1) ((rd_T30 x0 x6).f2) ((rd_T30 x0 x6).f3)))) else (none))) else (none)) else (some (x5, 0))
def selvageref02_Encode.j1 : Nat → List (S30) → List Int → Int → Int → Int → Int → List Int → Option (List Int × Int)
  | 0, _, _, _, _, _, _, _ => none
  | k + 1, x0, x5, x6, x170000, x170001, x170002, x170003 => if x170000 = 2 then ((selvageref01_Put.f k (IntKind.u64.wrap ((x170003.length : Int)))).bind fun t183 => (if x5.length + t183.length < 140737488355328 then ((some (x5 ++ t183 : List Int)).bind fun y186 => (if y186.length + x170003.length < 140737488355328 then ((some (y186 ++ x170003 : List Int)).bind fun y189 => (if (y189.length : Int) > 4096 then (some (([] : List Int), 3)) else (selvageref02_Encode.l0 k x0 y189 (wrap64 (x6 + 1))))) else (none))) else (none))) else (if (x5.length : Int) > 4096 then (some (([] : List Int), 3)) else (selvageref02_Encode.l0 k x0 x5 (wrap64 (x6 + 1))))
end
def selvageref02_Encode.f (k : Nat) (l0 : List (S30)) : Option (List Int × Int) := (selvageref02_Right.f k l0).bind fun t167 => (if t167 = true then (selvageref02_Encode.l0 k l0 ([] : List Int) 0) else (some (([] : List Int), 1)))
theorem selvageref02_Encode.mono_l : ∀ k, (∀ y0 y1 y2, LeO (selvageref02_Encode.l0 k y0 y1 y2) (selvageref02_Encode.l0 (k + 1) y0 y1 y2)) ∧ (∀ y0 y1 y2 y3 y4 y5 y6, LeO (selvageref02_Encode.j1 k y0 y1 y2 y3 y4 y5 y6) (selvageref02_Encode.j1 (k + 1) y0 y1 y2 y3 y4 y5 y6))
  | 0 => ⟨fun _ _ _ r h => by simp [selvageref02_Encode.l0] at h, fun _ _ _ _ _ _ _ r h => by simp [selvageref02_Encode.j1] at h⟩
  | k + 1 => by
    obtain ⟨ih0, ih1⟩ := selvageref02_Encode.mono_l k
    refine ⟨?_, ?_⟩
    · intro y0 y1 y2
      unfold selvageref02_Encode.l0
      repeat' first
      | (with_reducible exact ih0 _ _ _)
      | (with_reducible exact ih1 _ _ _ _ _ _ _)
      | (with_reducible exact selvageref01_Put.mono _ _)
      | (with_reducible exact selvageref02_Right.mono _ _)
      | (with_reducible exact LeO.refl _)
      | (with_reducible exact LeO.none _)
      | (with_reducible refine LeO.ite ?_ ?_)
      | (with_reducible refine LeO.bind ?_ (fun _ => ?_))
      | exact ih0 _ _ _
      | exact ih1 _ _ _ _ _ _ _
      | exact selvageref01_Put.mono _ _
      | exact selvageref02_Right.mono _ _
      | exact LeO.none _
      | refine LeO.ite ?_ ?_
      | refine LeO.bind ?_ (fun _ => ?_)
    · intro y0 y1 y2 y3 y4 y5 y6
      unfold selvageref02_Encode.j1
      repeat' first
      | (with_reducible exact ih0 _ _ _)
      | (with_reducible exact ih1 _ _ _ _ _ _ _)
      | (with_reducible exact selvageref01_Put.mono _ _)
      | (with_reducible exact selvageref02_Right.mono _ _)
      | (with_reducible exact LeO.refl _)
      | (with_reducible exact LeO.none _)
      | (with_reducible refine LeO.ite ?_ ?_)
      | (with_reducible refine LeO.bind ?_ (fun _ => ?_))
      | exact ih0 _ _ _
      | exact ih1 _ _ _ _ _ _ _
      | exact selvageref01_Put.mono _ _
      | exact selvageref02_Right.mono _ _
      | exact LeO.none _
      | refine LeO.ite ?_ ?_
      | refine LeO.bind ?_ (fun _ => ?_)
theorem selvageref02_Encode.mono : ∀ a0 k, LeO (selvageref02_Encode.f k a0) (selvageref02_Encode.f (k + 1) a0) := by
  intro a0 k
  obtain ⟨ih0, ih1⟩ := selvageref02_Encode.mono_l k
  unfold selvageref02_Encode.f
  repeat' first
      | (with_reducible exact ih0 _ _ _)
      | (with_reducible exact ih1 _ _ _ _ _ _ _)
      | (with_reducible exact selvageref01_Put.mono _ _)
      | (with_reducible exact selvageref02_Right.mono _ _)
      | (with_reducible exact LeO.refl _)
      | (with_reducible exact LeO.none _)
      | (with_reducible refine LeO.ite ?_ ?_)
      | (with_reducible refine LeO.bind ?_ (fun _ => ?_))
      | exact ih0 _ _ _
      | exact ih1 _ _ _ _ _ _ _
      | exact selvageref01_Put.mono _ _
      | exact selvageref02_Right.mono _ _
      | exact LeO.none _
      | refine LeO.ite ?_ ?_
      | refine LeO.bind ?_ (fun _ => ?_)
set_option maxHeartbeats 8000000 in
set_option maxRecDepth 100000 in
theorem selvageref02_Encode.calls (k : Nat) (A0 : Option Addr) (c0 : Nat) (l0 : List (S30)) (r1 : List Int) (r2 : Int) (w : World) (hr0 : Kd.C k30 w A0 l0.length l0) (hc0 : l0.length ≤ c0) (h : selvageref02_Encode.f k l0 = some (r1, r2)) :
    Calls Try.prog 13 #[.slice A0 l0.length c0] w fun e w' => ∃ v0_ : Value, e = .returned (.tuple #[v0_, .int .i64 r2]) ∧ Kd.R (Kd.int .u8) 5 w' w.heap.size (fun _ => True) v0_ r1 ∧ Below w.heap.size w w' := by
  have hu30 := Try.underlying30
  have HR0 := Aside0.mk hr0
  have HC0 := Aside0.mk hc0
  clear hr0 hc0
  have HB := Aside0.mk (Below.refl w.heap.size w)
  have H : ((selvageref02_Right.f k l0).bind fun t167 => (if t167 = true then (selvageref02_Encode.l0 k l0 ([] : List Int) 0) else (some (([] : List Int), 1)))) = some (r1, r2) := h
  clear h
  replace H := Option.bind_eq_some_iff.mp H
  obtain ⟨t167, A20, H⟩ := H
  replace H : (if t167 = true then (selvageref02_Encode.l0 k l0 ([] : List Int) 0) else (some (([] : List Int), 1))) = some (r1, r2) := H
  have A2 := Aside0.mk A20
  clear A20
  by_cases c3 : t167 = true
  · subst c3
    have H1 : (selvageref02_Encode.l0 k l0 ([] : List Int) 0) = some (r1, r2) := by rw [if_pos rfl] at H; exact H
    clear H
    have H := H1
    clear H1
    have H' := Aside0.mk H
    clear H
    go_enter Try.func13, Try.ntmps13
    go_wp2_with (first | ((with_reducible refine gate_callee (f := 15) rfl ?_); refine goesL_ (some 9) rfl rfl Try.func15 (by kernel_rfl) rfl #[.slice A0 l0.length c0] rfl (by (try simp only [List.map_toArray, List.map_cons, List.map_nil]); first | done | rfl | (simp only [List.length_drop, List.length_take]; rfl)) ?_; (with_reducible refine (selvageref02_Right.calls k _ _ l0 true _ ?side1 ?side2 A2.out).mono ?_); (case side1 => repeat (first | exact HR0.out | (with_reducible refine Kd.C_alloc ?_ _) | (with_reducible refine Kd.C_drewN ?_ _) | (with_reducible refine Kd.C_drew ?_))); (case side2 => exact HC0.out); rintro e w4 ⟨rfl, hb⟩; refine ⟨_, rfl, ?_⟩; have n0_ := Aside0.mk (below_step (by repeat (first | (with_reducible first | exact HB.out | apply below_alloc | apply pw_below_drewN | apply below_drew1) | exact HB.out)) hb); clear HB; have HB := n0_; clear n0_; (try clear hb); (try clear hb2); (try clear hk); (try clear hi)))
    go_loopg [5, 6] k (fun kq v5 v6 w' => ∃ (x5_1 : List Int) (x6_1 : Int), v6 = .int .i64 x6_1 ∧ Aside0 (selvageref02_Encode.l0 kq l0 x5_1 x6_1 = some (r1, r2)) ∧ Aside0 (kq ≤ k) ∧ Aside0 (Kd.R (Kd.int .u8) 5 w' w.heap.size (fun _ => True) v5 x5_1) ∧ Aside0 (Below w.heap.size w w'))
    case atStart => exact ⟨(([] : List Int)), (0), (by first | rfl | (simp; done) | (simp [*]; done)), H', ⟨Nat.le_refl _⟩, ⟨by first | exact Kd.R_nil _ _ _ _ _ | exact Kd.N_nil _ _ _ _ _ | exact Kd.V_nil _ _ _ _ _ | exact Kd.Q_nil _ _ _ _ _ | exact Kd.S_nil _ _ _ _ _⟩, ⟨by repeat (first | (with_reducible first | exact HB.out | apply below_alloc | apply pw_below_drewN | apply below_drew1) | exact HB.out)⟩⟩
    case round =>
      clear H'
      try clear c1
      try clear p2
      try clear c3
      obtain ⟨x5_1, x6_1, rfl, HA, HK1, HO_5, HB⟩ := hrel
      cases gk with
      | zero => exact absurd HA.out (by simp [selvageref02_Encode.l0])
      | succ k1 =>
        have H := HA.out
        clear HA
        simp only [selvageref02_Encode.l0] at H
        by_cases c5 : x6_1 < (l0.length : Int)
        · rw [if_pos c5] at H
          have c5b0 : decide (x6_1 < (l0.length : Int)) = true := decide_eq_true c5
          clear c5
          by_cases c6 : 0 ≤ x6_1
          · rw [if_pos c6] at H
            have c6b0 : decide (0 ≤ x6_1) = true := decide_eq_true c6
            clear c6
            replace H := Option.bind_eq_some_iff.mp H
            obtain ⟨t170, A70, H⟩ := H
            replace H : (if x5_1.length + t170.length < 140737488355328 then ((some (x5_1 ++ t170 : List Int)).bind fun y173 => (if ((rd_T30 l0 x6_1).f0) = 1 then ((selvageref01_Zig.f ((rd_T30 l0 x6_1).f2)).bind fun t176 => ((selvageref01_Put.f k1 t176).bind fun t177 => (if y173.length + t177.length < 140737488355328 then (selvageref02_Encode.j1 k1 l0 (y173 ++ t177) x6_1 ((rd_T30 l0 x6_1).f0) ((rd_T30 l0 x6_1).f1) ((rd_T30 l0 x6_1).f2) ((rd_T30 l0 x6_1).f3)) else (none)))) else (selvageref02_Encode.j1 k1 l0 y173 x6_1 ((rd_T30 l0 x6_1).f0) ((rd_T30 l0 x6_1).f1) ((rd_T30 l0 x6_1).f2) ((rd_T30 l0 x6_1).f3)))) else (none)) = some (r1, r2) := H
            have A7 := Aside0.mk A70
            clear A70
            by_cases c8 : x5_1.length + t170.length < 140737488355328
            · rw [if_pos c8] at H
              have LMc8 := Aside0.mk c8
              clear c8
              obtain ⟨y173, hy173⟩ : ∃ y_ : List Int, y_ = (x5_1 ++ t170) := ⟨_, rfl⟩
              replace H : (if ((rd_T30 l0 x6_1).f0) = 1 then ((selvageref01_Zig.f ((rd_T30 l0 x6_1).f2)).bind fun t176 => ((selvageref01_Put.f k1 t176).bind fun t177 => (if y173.length + t177.length < 140737488355328 then (selvageref02_Encode.j1 k1 l0 (y173 ++ t177) x6_1 ((rd_T30 l0 x6_1).f0) ((rd_T30 l0 x6_1).f1) ((rd_T30 l0 x6_1).f2) ((rd_T30 l0 x6_1).f3)) else (none)))) else (selvageref02_Encode.j1 k1 l0 y173 x6_1 ((rd_T30 l0 x6_1).f0) ((rd_T30 l0 x6_1).f1) ((rd_T30 l0 x6_1).f2) ((rd_T30 l0 x6_1).f3))) = some (r1, r2) := by first | (rw [hy173]; with_reducible exact H) | (have H2_ := (Option.bind_some _ _).symm.trans H; rw [hy173]; with_reducible exact H2_) | (have H2_ := (Option.bind_some _ _).symm.trans H; with_reducible exact H2_) | with_reducible exact H | (rw [hy173]; exact H) | exact H
              have Ny173 := Aside0.mk hy173
              clear hy173
              have HC9 := Aside0.mk H
              clear H
              have p168 : 0 ≤ (x6_1 : Int) := of_decide_eq_true (by first | (with_reducible assumption) | assumption)
              have q168 : x6_1 < (l0.length : Int) := of_decide_eq_true (by first | (with_reducible assumption) | assumption)
              obtain ⟨ad168, A168_3, c168_3, e168, hx168_0, hx168_1, hx168_2, hx168_3, hl168_3, hi168_3⟩ := at_T30 HR0.out x6_1 p168 q168
              cases e168
              replace hx168_0 := (HB.out.cell (World.block_lt_of_cell? w _ hx168_0)).trans hx168_0
              replace hx168_1 := (HB.out.cell (World.block_lt_of_cell? w _ hx168_1)).trans hx168_1
              replace hx168_2 := (HB.out.cell (World.block_lt_of_cell? w _ hx168_2)).trans hx168_2
              replace hx168_3 := (HB.out.cell (World.block_lt_of_cell? w _ hx168_3)).trans hx168_3
              have HR168_3 := Aside0.mk hi168_3
              have HC168_3 := Aside0.mk hl168_3
              clear hi168_3 hl168_3
              replace p168 := eq_true p168
              replace q168 := eq_true q168
              go_upto_if 35 with (first | ((with_reducible refine gate_dst (N := 7) rfl ?_); refine box_event ?hg (N := 7) ?hd (cs := #[.int .i64 0, .int .i64 0, .int .i64 0, .slice none 0 0]) (t := 30) ?hr ?_; (case hd => rfl); (case hg => rfl); (case hr => first | (go_simp; done) | (go_simp; rfl)); intro gb169 hg w10 hbox hb; have n0_ := Aside0.mk (Kd.R_below (by (with_reducible repeat (first | apply Kd.R_alloc | apply Kd.R_drewN | apply Kd.R_drew)); exact HO_5.out) hb); have n1_ := Aside0.mk (below_step (by repeat (first | (with_reducible first | exact HB.out | apply below_alloc | apply pw_below_drewN | apply below_drew1) | exact HB.out)) hb); have n2_ := Aside0.mk (hbox); have n3_ := Aside0.mk ((by rw [hg]; exact (below_size (by repeat (first | (with_reducible first | exact HB.out | apply below_alloc | apply pw_below_drewN | apply below_drew1) | exact HB.out))) : w.heap.size ≤ gb169)); have n4_ := Aside0.mk ((by rw [hg]; exact (below_size (by repeat (first | (with_reducible first | exact HB.out | apply below_alloc | apply pw_below_drewN | apply below_drew1) | exact HB.out))) : w.heap.size ≤ gb169)); clear HO_5; clear HB; have HO_5 := n0_; have HB := n1_; have BK169 := n2_; have GW169 := n3_; have GE169 := n4_; clear n0_ n1_ n2_ n3_ n4_; clear hb hbox hg; have hcz11_0 : w10.cell? ⟨gb169, 0, none⟩ = some (.int .i64 0) := (blk_cell BK169.out 0).trans rfl; have hcz11_1 : w10.cell? ⟨gb169, 1, none⟩ = some (.int .i64 0) := (blk_cell BK169.out 1).trans rfl; have hcz11_2 : w10.cell? ⟨gb169, 2, none⟩ = some (.int .i64 0) := (blk_cell BK169.out 2).trans rfl; have hcz11_3 : w10.cell? ⟨gb169, 3, none⟩ = some (.slice none 0 0) := (blk_cell BK169.out 3).trans rfl; have hfz11_0 := blk_frozen BK169.out 0; have hfz11_1 := blk_frozen BK169.out 1; have hfz11_2 := blk_frozen BK169.out 2; have hfz11_3 := blk_frozen BK169.out 3) | ((with_reducible refine gate_callee (f := 25) rfl ?_); refine goesL_ (some 31) rfl rfl Try.func25 (by kernel_rfl) rfl #[.int .u64 (IntKind.u64.wrap (wrap64 ((wrap64 ((wrap64 (((rd_T30 l0 x6_1).f1) * 4)) + ((rd_T30 l0 x6_1).f0))) - 1)))] rfl (by (try simp only [List.map_toArray, List.map_cons, List.map_nil]); first | done | rfl | (simp only [List.length_drop, List.length_take]; rfl)) ?_; (with_reducible refine (selvageref01_Put.calls k1 (IntKind.u64.wrap (wrap64 ((wrap64 ((wrap64 (((rd_T30 l0 x6_1).f1) * 4)) + ((rd_T30 l0 x6_1).f0))) - 1))) t170 _ A7.out).mono ?_); rintro e w12 ⟨v171, rfl, ho0, hb⟩; refine ⟨_, rfl, ?_⟩; have n0_ := Aside0.mk (Kd.R_elder' (by (with_reducible repeat (first | apply Kd.R_alloc | apply Kd.R_drewN | apply Kd.R_drew)); exact (Kd.R_mono (Kd.R_far (p := ⟨gb169, 3, none⟩) (Kd.R_far (p := ⟨gb169, 2, none⟩) (Kd.R_far (p := ⟨gb169, 1, none⟩) (Kd.R_far (p := ⟨gb169, 0, none⟩) (Kd.R_types HO_5.out BK169.out (by decide)) (fun _ hk => hk.2) (.int .i64 ((rd_T30 l0 x6_1).f0))) (fun _ hk => hk.2) (.int .i64 ((rd_T30 l0 x6_1).f1))) (fun _ hk => hk.2) (.int .i64 ((rd_T30 l0 x6_1).f2))) (fun _ hk => hk.2) (.slice A168_3 ((rd_T30 l0 x6_1).f3).length c168_3)) (fun _ h_ => h_.1))) (Kd.R_base ho0) hb); have n1_ := Aside0.mk (Kd.R_lower (Kd.R_new' ho0 (Kd.R_lt (by (with_reducible repeat (first | apply Kd.R_alloc | apply Kd.R_drewN | apply Kd.R_drew)); exact (Kd.R_mono (Kd.R_far (p := ⟨gb169, 3, none⟩) (Kd.R_far (p := ⟨gb169, 2, none⟩) (Kd.R_far (p := ⟨gb169, 1, none⟩) (Kd.R_far (p := ⟨gb169, 0, none⟩) (Kd.R_types HO_5.out BK169.out (by decide)) (fun _ hk => hk.2) (.int .i64 ((rd_T30 l0 x6_1).f0))) (fun _ hk => hk.2) (.int .i64 ((rd_T30 l0 x6_1).f1))) (fun _ hk => hk.2) (.int .i64 ((rd_T30 l0 x6_1).f2))) (fun _ hk => hk.2) (.slice A168_3 ((rd_T30 l0 x6_1).f3).length c168_3)) (fun _ h_ => h_.1))))) (below_size (by repeat (first | (with_reducible first | exact HB.out | apply below_alloc | apply pw_below_drewN | apply below_drew1 | refine below_set ?_ GE169.out) | exact HB.out)))); have n2_ := Aside0.mk (blk_below (g := gb169) (o := .cells #[.int .i64 ((rd_T30 l0 x6_1).f0), .int .i64 ((rd_T30 l0 x6_1).f1), .int .i64 ((rd_T30 l0 x6_1).f2), .slice A168_3 ((rd_T30 l0 x6_1).f3).length c168_3] 30 (0, 0)) (by (with_reducible repeat (first | refine blk_drewN ?_ _ | refine blk_drew ?_ | refine blk_alloc ?_ _)); refine blk_put (cs := #[.int .i64 ((rd_T30 l0 x6_1).f0), .int .i64 ((rd_T30 l0 x6_1).f1), .int .i64 ((rd_T30 l0 x6_1).f2), .slice none 0 0]) ?_ 3 _ rfl; (with_reducible repeat (first | refine blk_drewN ?_ _ | refine blk_drew ?_ | refine blk_alloc ?_ _)); refine blk_put (cs := #[.int .i64 ((rd_T30 l0 x6_1).f0), .int .i64 ((rd_T30 l0 x6_1).f1), .int .i64 0, .slice none 0 0]) ?_ 2 _ rfl; (with_reducible repeat (first | refine blk_drewN ?_ _ | refine blk_drew ?_ | refine blk_alloc ?_ _)); refine blk_put (cs := #[.int .i64 ((rd_T30 l0 x6_1).f0), .int .i64 0, .int .i64 0, .slice none 0 0]) ?_ 1 _ rfl; (with_reducible repeat (first | refine blk_drewN ?_ _ | refine blk_drew ?_ | refine blk_alloc ?_ _)); refine blk_put (cs := #[.int .i64 0, .int .i64 0, .int .i64 0, .slice none 0 0]) ?_ 0 _ rfl; (with_reducible repeat (first | refine blk_drewN ?_ _ | refine blk_drew ?_ | refine blk_alloc ?_ _)); exact BK169.out) hb); have n3_ := Aside0.mk (below_step (by repeat (first | (with_reducible first | exact HB.out | apply below_alloc | apply pw_below_drewN | apply below_drew1 | refine below_set ?_ GE169.out) | exact HB.out)) hb); clear HO_5; clear BK169; clear HB; have HO_5 := n0_; have HO172 := n1_; have BK169 := n2_; have HB := n3_; clear n0_ n1_ n2_ n3_; (try clear hb); (try clear hb2); (try clear hk); (try clear hi); (try clear ho0); obtain ⟨Ao14, co14, eo14⟩ := Kd.R_slice HO172.out; subst eo14) | ((with_reducible refine gate_builtin (b := .append) (xs := #[.tmp 22, .tmp 31]) rfl ?_); at_builtin; refine Kd.R_append_rows (Kd.int .u8) (w0 := w) w.heap.size rfl (.tmp 22) (.tmp 31) 25 5 (.int .u8 0) 1 rfl Try.underlying25 info5 rfl (by decide) (by omega) u5 x5_1 t170 _ _ _ (fun k_ => some k_ ≠ (.slice Ao14 t170.length co14 : Value).ownBlock) (fun _ => False) rfl rfl ?aO ?aR (fun _ _ h => h) (fun _ h => h.elim) ?aF ?aB ?aS ?aL ?_; (case aR => repeat (first | exact (Kd.R_reads' HO172.out).2.2 | (with_reducible refine Kd.C_alloc ?_ _) | (with_reducible refine Kd.C_drewN ?_ _) | (with_reducible refine Kd.C_drew ?_))); (case aB => exact (by repeat (first | (with_reducible first | exact HB.out | apply below_alloc | apply pw_below_drewN | apply below_drew1 | refine below_set ?_ GE169.out) | exact HB.out))); (case aF => exact (fun k_ hk => Kd.fresh' (Kd.R_lt (by (with_reducible repeat (first | apply Kd.R_alloc | apply Kd.R_drewN | apply Kd.R_drew)); exact HO172.out)) k_ hk)); (case aO => exact (by (with_reducible repeat (first | apply Kd.R_alloc | apply Kd.R_drewN | apply Kd.R_drew)); exact Kd.R_mono HO_5.out (fun _ hk => hk.2))); (case aS => exact (below_size (by repeat (first | (with_reducible first | exact HB.out | apply below_alloc | apply pw_below_drewN | apply below_drew1 | refine below_set ?_ GE169.out) | exact HB.out)))); (case aL => have := LMc8.out; omega); intro v174 w13 ho hb hg hat; rw [← Ny173.out] at ho; have n0_ := Aside0.mk (blk_grown (g := gb169) (o := .cells #[.int .i64 ((rd_T30 l0 x6_1).f0), .int .i64 ((rd_T30 l0 x6_1).f1), .int .i64 ((rd_T30 l0 x6_1).f2), .slice A168_3 ((rd_T30 l0 x6_1).f3).length c168_3] 30 (0, 0)) (by (with_reducible repeat (first | refine blk_drewN ?_ _ | refine blk_drew ?_ | refine blk_alloc ?_ _)); exact BK169.out) hg (Kd.R_ne HO_5.out BK169.out (by decide))); have n1_ := Aside0.mk (Kd.R_after (ok := (fun _ => True)) (by (with_reducible repeat (first | apply Kd.R_alloc | apply Kd.R_drewN | apply Kd.R_drew)); exact HO172.out) hg hat); have n2_ := Aside0.mk (hb); have n3_ := Aside0.mk (ho); clear BK169; clear HO172; clear HB; clear HO_5; have BK169 := n0_; have HO172 := n1_; have HB := n2_; have HO175 := n3_; clear n0_ n1_ n2_ n3_; clear ho hb hg hat; have hcz15_0 : w13.cell? ⟨gb169, 0, none⟩ = some (.int .i64 ((rd_T30 l0 x6_1).f0)) := (blk_cell BK169.out 0).trans rfl; have hcz15_1 : w13.cell? ⟨gb169, 1, none⟩ = some (.int .i64 ((rd_T30 l0 x6_1).f1)) := (blk_cell BK169.out 1).trans rfl; have hcz15_2 : w13.cell? ⟨gb169, 2, none⟩ = some (.int .i64 ((rd_T30 l0 x6_1).f2)) := (blk_cell BK169.out 2).trans rfl; have hcz15_3 : w13.cell? ⟨gb169, 3, none⟩ = some (.slice A168_3 ((rd_T30 l0 x6_1).f3).length c168_3) := (blk_cell BK169.out 3).trans rfl; have hfz15_0 := blk_frozen BK169.out 0; have hfz15_1 := blk_frozen BK169.out 1; have hfz15_2 := blk_frozen BK169.out 2; have hfz15_3 := blk_frozen BK169.out 3))
              (try simp only [Act.put, List.setIfInBounds_toArray, List.set_cons_zero, List.set_cons_succ])
              go_cut [5] (fun v5 wc => ∃ (kq : Nat) (x5_8 : List Int), Aside0 (selvageref02_Encode.j1 kq l0 x5_8 x6_1 ((rd_T30 l0 x6_1).f0) ((rd_T30 l0 x6_1).f1) ((rd_T30 l0 x6_1).f2) ((rd_T30 l0 x6_1).f3) = some (r1, r2)) ∧ Aside0 (kq ≤ k1) ∧ Aside0 (Kd.R (Kd.int .u8) 5 wc w.heap.size (fun _ => True) v5 x5_8) ∧ Aside0 (wc.heap[gb169]? = some (.cells #[.int .i64 ((rd_T30 l0 x6_1).f0), .int .i64 ((rd_T30 l0 x6_1).f1), .int .i64 ((rd_T30 l0 x6_1).f2), (.slice A168_3 ((rd_T30 l0 x6_1).f3).length c168_3)] 30 (0, 0))) ∧ Aside0 (Below w.heap.size w wc))
              case first =>
                have H := HC9.out
                clear HC9
                by_cases c16 : ((rd_T30 l0 x6_1).f0) = 1
                · rw [if_pos c16] at H
                  have c16b0 : (((rd_T30 l0 x6_1).f0) == 1) = true := beq_iff_eq.mpr c16
                  have c16b1 : (((rd_T30 l0 x6_1).f0) != 1) = false := bne_eq_false_iff_eq.mpr c16
                  clear c16
                  (first | rw [c16b0] | (simp only [i64_w, i32_w]; rw [c16b0]) | skip)
                  replace H := Option.bind_eq_some_iff.mp H
                  obtain ⟨t176, A170, H⟩ := H
                  replace H : ((selvageref01_Put.f k1 t176).bind fun t177 => (if y173.length + t177.length < 140737488355328 then (selvageref02_Encode.j1 k1 l0 (y173 ++ t177) x6_1 ((rd_T30 l0 x6_1).f0) ((rd_T30 l0 x6_1).f1) ((rd_T30 l0 x6_1).f2) ((rd_T30 l0 x6_1).f3)) else (none))) = some (r1, r2) := H
                  have A17 := Aside0.mk A170
                  clear A170
                  replace H := Option.bind_eq_some_iff.mp H
                  obtain ⟨t177, A180, H⟩ := H
                  replace H : (if y173.length + t177.length < 140737488355328 then (selvageref02_Encode.j1 k1 l0 (y173 ++ t177) x6_1 ((rd_T30 l0 x6_1).f0) ((rd_T30 l0 x6_1).f1) ((rd_T30 l0 x6_1).f2) ((rd_T30 l0 x6_1).f3)) else (none)) = some (r1, r2) := H
                  have A18 := Aside0.mk A180
                  clear A180
                  by_cases c19 : y173.length + t177.length < 140737488355328
                  · rw [if_pos c19] at H
                    have LMc19 := Aside0.mk c19
                    clear c19
                    obtain ⟨y180, hy180⟩ : ∃ y_ : List Int, y_ = (y173 ++ t177) := ⟨_, rfl⟩
                    replace H : (selvageref02_Encode.j1 k1 l0 y180 x6_1 ((rd_T30 l0 x6_1).f0) ((rd_T30 l0 x6_1).f1) ((rd_T30 l0 x6_1).f2) ((rd_T30 l0 x6_1).f3)) = some (r1, r2) := by first | (rw [hy180]; with_reducible exact H) | (have H2_ := (Option.bind_some _ _).symm.trans H; rw [hy180]; with_reducible exact H2_) | (have H2_ := (Option.bind_some _ _).symm.trans H; with_reducible exact H2_) | with_reducible exact H | (rw [hy180]; exact H) | exact H
                    have Ny180 := Aside0.mk hy180
                    clear hy180
                    have H' := Aside0.mk H
                    clear H
                    have hcz20_0 : w13.cell? ⟨gb169, 0, none⟩ = some (.int .i64 ((rd_T30 l0 x6_1).f0)) := (blk_cell BK169.out 0).trans rfl
                    have hcz20_1 : w13.cell? ⟨gb169, 1, none⟩ = some (.int .i64 ((rd_T30 l0 x6_1).f1)) := (blk_cell BK169.out 1).trans rfl
                    have hcz20_2 : w13.cell? ⟨gb169, 2, none⟩ = some (.int .i64 ((rd_T30 l0 x6_1).f2)) := (blk_cell BK169.out 2).trans rfl
                    have hcz20_3 : w13.cell? ⟨gb169, 3, none⟩ = some (.slice A168_3 ((rd_T30 l0 x6_1).f3).length c168_3) := (blk_cell BK169.out 3).trans rfl
                    have hfz20_0 := blk_frozen BK169.out 0
                    have hfz20_1 := blk_frozen BK169.out 1
                    have hfz20_2 := blk_frozen BK169.out 2
                    have hfz20_3 := blk_frozen BK169.out 3
                    go_wp2_with (first | ((with_reducible refine gate_callee (f := 26) rfl ?_); refine goesL_ (some 39) rfl rfl Try.func26 (by kernel_rfl) rfl #[.int .i64 ((rd_T30 l0 x6_1).f2)] rfl (by (try simp only [List.map_toArray, List.map_cons, List.map_nil]); first | done | rfl | (simp only [List.length_drop, List.length_take]; rfl)) ?_; (with_reducible refine (selvageref01_Zig.calls ((rd_T30 l0 x6_1).f2) t176 _ A17.out).mono ?_); rintro e w' ⟨rfl, ⟨nd, rfl⟩⟩; refine ⟨_, rfl, ?_⟩) | ((with_reducible refine gate_callee (f := 25) rfl ?_); refine goesL_ (some 40) rfl rfl Try.func25 (by kernel_rfl) rfl #[.int .u64 t176] rfl (by (try simp only [List.map_toArray, List.map_cons, List.map_nil]); first | done | rfl | (simp only [List.length_drop, List.length_take]; rfl)) ?_; (with_reducible refine (selvageref01_Put.calls k1 t176 t177 _ A18.out).mono ?_); rintro e w21 ⟨v178, rfl, ho0, hb⟩; refine ⟨_, rfl, ?_⟩; have n0_ := Aside0.mk (Kd.R_elder' (by (with_reducible repeat (first | apply Kd.R_alloc | apply Kd.R_drewN | apply Kd.R_drew)); exact HO172.out) (Kd.R_base ho0) hb); have n1_ := Aside0.mk (Kd.R_elder' (by (with_reducible repeat (first | apply Kd.R_alloc | apply Kd.R_drewN | apply Kd.R_drew)); exact HO175.out) (Kd.R_base ho0) hb); have n2_ := Aside0.mk (Kd.R_lower (Kd.R_new' (Kd.R_new' ho0 (Kd.R_lt (by (with_reducible repeat (first | apply Kd.R_alloc | apply Kd.R_drewN | apply Kd.R_drew)); exact HO172.out))) (Kd.R_lt (by (with_reducible repeat (first | apply Kd.R_alloc | apply Kd.R_drewN | apply Kd.R_drew)); exact HO175.out))) (below_size (by repeat (first | (with_reducible first | exact HB.out | apply below_alloc | apply pw_below_drewN | apply below_drew1 | refine below_set ?_ GE169.out) | exact HB.out)))); have n3_ := Aside0.mk (blk_below (g := gb169) (o := .cells #[.int .i64 ((rd_T30 l0 x6_1).f0), .int .i64 ((rd_T30 l0 x6_1).f1), .int .i64 ((rd_T30 l0 x6_1).f2), .slice A168_3 ((rd_T30 l0 x6_1).f3).length c168_3] 30 (0, 0)) (by (with_reducible repeat (first | refine blk_drewN ?_ _ | refine blk_drew ?_ | refine blk_alloc ?_ _)); exact BK169.out) hb); have n4_ := Aside0.mk (below_step (by repeat (first | (with_reducible first | exact HB.out | apply below_alloc | apply pw_below_drewN | apply below_drew1 | refine below_set ?_ GE169.out) | exact HB.out)) hb); clear HO172; clear HO175; clear BK169; clear HB; have HO172 := n0_; have HO175 := n1_; have HO179 := n2_; have BK169 := n3_; have HB := n4_; clear n0_ n1_ n2_ n3_ n4_; (try clear hb); (try clear hb2); (try clear hk); (try clear hi); (try clear ho0); obtain ⟨Ao23, co23, eo23⟩ := Kd.R_slice HO179.out; subst eo23) | ((with_reducible refine gate_builtin (b := .append) (xs := #[.tmp 36, .tmp 40]) rfl ?_); at_builtin; refine Kd.R_append_rows (Kd.int .u8) (w0 := w) w.heap.size rfl (.tmp 36) (.tmp 40) 25 5 (.int .u8 0) 1 rfl Try.underlying25 info5 rfl (by decide) (by omega) v174 y173 t177 _ _ _ (fun k_ => some k_ ≠ (.slice Ao14 t170.length co14 : Value).ownBlock ∧ some k_ ≠ (.slice Ao23 t177.length co23 : Value).ownBlock) (fun _ => False) rfl rfl ?aO ?aR (fun _ _ h => h) (fun _ h => h.elim) ?aF ?aB ?aS ?aL ?_; (case aR => repeat (first | exact (Kd.R_reads' HO179.out).2.2 | (with_reducible refine Kd.C_alloc ?_ _) | (with_reducible refine Kd.C_drewN ?_ _) | (with_reducible refine Kd.C_drew ?_))); (case aB => exact (by repeat (first | (with_reducible first | exact HB.out | apply below_alloc | apply pw_below_drewN | apply below_drew1 | refine below_set ?_ GE169.out) | exact HB.out))); (case aF => exact (fun k_ hk => ⟨Kd.fresh' (Kd.R_lt (by (with_reducible repeat (first | apply Kd.R_alloc | apply Kd.R_drewN | apply Kd.R_drew)); exact HO172.out)) k_ hk, Kd.fresh' (Kd.R_lt (by (with_reducible repeat (first | apply Kd.R_alloc | apply Kd.R_drewN | apply Kd.R_drew)); exact HO179.out)) k_ hk⟩)); (case aO => exact (by (with_reducible repeat (first | apply Kd.R_alloc | apply Kd.R_drewN | apply Kd.R_drew)); exact HO175.out)); (case aS => exact (below_size (by repeat (first | (with_reducible first | exact HB.out | apply below_alloc | apply pw_below_drewN | apply below_drew1 | refine below_set ?_ GE169.out) | exact HB.out)))); (case aL => have := LMc19.out; omega); intro v181 w22 ho hb hg hat; rw [← Ny180.out] at ho; have n0_ := Aside0.mk (blk_grown (g := gb169) (o := .cells #[.int .i64 ((rd_T30 l0 x6_1).f0), .int .i64 ((rd_T30 l0 x6_1).f1), .int .i64 ((rd_T30 l0 x6_1).f2), .slice A168_3 ((rd_T30 l0 x6_1).f3).length c168_3] 30 (0, 0)) (by (with_reducible repeat (first | refine blk_drewN ?_ _ | refine blk_drew ?_ | refine blk_alloc ?_ _)); exact BK169.out) hg (Kd.R_ne HO175.out BK169.out (by decide))); have n1_ := Aside0.mk (Kd.R_after (ok := (fun k_ => some k_ ≠ (.slice Ao23 t177.length co23 : Value).ownBlock)) (by (with_reducible repeat (first | apply Kd.R_alloc | apply Kd.R_drewN | apply Kd.R_drew)); exact Kd.R_mono HO172.out (fun _ hk => ⟨hk.2, hk.1.2⟩)) hg hat); have n2_ := Aside0.mk (Kd.R_after (ok := (fun k_ => some k_ ≠ (.slice Ao14 t170.length co14 : Value).ownBlock)) (by (with_reducible repeat (first | apply Kd.R_alloc | apply Kd.R_drewN | apply Kd.R_drew)); exact Kd.R_mono HO179.out (fun _ hk => ⟨hk.1.2, hk.2⟩)) hg hat); have n3_ := Aside0.mk (hb); have n4_ := Aside0.mk (ho); clear BK169; clear HO172; clear HO179; clear HB; clear HO175; have BK169 := n0_; have HO172 := n1_; have HO179 := n2_; have HB := n3_; have HO182 := n4_; clear n0_ n1_ n2_ n3_ n4_; clear ho hb hg hat))
                    go_meet
                    case rel => exact ⟨_, (y180), H', ⟨by have := HK1.out; first | omega | exact Nat.le_refl _⟩, ⟨by (with_reducible repeat (first | apply Kd.R_alloc | apply Kd.R_drewN | apply Kd.R_drew)); exact Kd.R_mono HO182.out (fun _ hk => trivial)⟩, ⟨by (with_reducible repeat (first | refine blk_drewN ?_ _ | refine blk_drew ?_ | refine blk_alloc ?_ _)); exact BK169.out⟩, ⟨by repeat (first | (with_reducible first | exact HB.out | apply below_alloc | apply pw_below_drewN | apply below_drew1 | refine below_set ?_ GE169.out) | exact HB.out)⟩⟩
                  · rw [if_neg c19] at H
                    exact absurd H (by simp)
                · rw [if_neg c16] at H
                  have c16b0 : (((rd_T30 l0 x6_1).f0) == 1) = false := beq_eq_false_iff_ne.mpr c16
                  have c16b1 : (((rd_T30 l0 x6_1).f0) != 1) = true := bne_iff_ne.mpr c16
                  (first | rw [c16b0] | (simp only [i64_w, i32_w]; rw [c16b0]) | skip)
                  have H' := Aside0.mk H
                  clear H
                  go_wp2
                  go_meet
                  case rel => exact ⟨_, (y173), H', ⟨by have := HK1.out; first | omega | exact Nat.le_refl _⟩, ⟨by (with_reducible repeat (first | apply Kd.R_alloc | apply Kd.R_drewN | apply Kd.R_drew)); exact Kd.R_mono HO175.out (fun _ hk => trivial)⟩, ⟨by (with_reducible repeat (first | refine blk_drewN ?_ _ | refine blk_drew ?_ | refine blk_alloc ?_ _)); exact BK169.out⟩, ⟨by repeat (first | (with_reducible first | exact HB.out | apply below_alloc | apply pw_below_drewN | apply below_drew1 | refine below_set ?_ GE169.out) | exact HB.out)⟩⟩
              case rest =>
                clear HC9
                try clear c1
                try clear p1
                try clear q1
                try clear hx1
                try clear c2
                try clear p2
                try clear c3
                try clear c5
                try clear c5b0
                try clear c6
                try clear c6b0
                try clear p6
                try clear c8
                try clear c13
                try clear c15
                try clear c16
                try clear c16b0
                try clear c16b1
                try clear p16
                try clear q16
                try clear hx16
                try clear c19
                try clear hcz11_0
                try clear hcz11_1
                try clear hcz11_2
                try clear hcz11_3
                try clear hcz15_0
                try clear hcz15_1
                try clear hcz15_2
                try clear hcz15_3
                try clear hcz20_0
                try clear hcz20_1
                try clear hcz20_2
                try clear hcz20_3
                try clear hfz11_0
                try clear hfz11_1
                try clear hfz11_2
                try clear hfz11_3
                try clear hfz15_0
                try clear hfz15_1
                try clear hfz15_2
                try clear hfz15_3
                try clear hfz20_0
                try clear hfz20_1
                try clear hfz20_2
                try clear hfz20_3
                try clear hx168_0
                try clear hx168_1
                try clear hx168_2
                try clear hx168_3
                try clear p168
                try clear p2
                try clear q168
                obtain ⟨kq, x5_8, HA, HJ8, HO_5, BK169, HB⟩ := hcut
                cases kq with
                | zero => exact absurd HA.out (by simp [selvageref02_Encode.j1])
                | succ kj8 =>
                  have H := HA.out
                  clear HA
                  simp only [selvageref02_Encode.j1] at H
                  by_cases c24 : ((rd_T30 l0 x6_1).f0) = 2
                  · rw [if_pos c24] at H
                    have c24b0 : (((rd_T30 l0 x6_1).f0) == 2) = true := beq_iff_eq.mpr c24
                    have c24b1 : (((rd_T30 l0 x6_1).f0) != 2) = false := bne_eq_false_iff_eq.mpr c24
                    clear c24
                    replace H := Option.bind_eq_some_iff.mp H
                    obtain ⟨t183, A250, H⟩ := H
                    replace H : (if x5_8.length + t183.length < 140737488355328 then ((some (x5_8 ++ t183 : List Int)).bind fun y186 => (if y186.length + ((rd_T30 l0 x6_1).f3).length < 140737488355328 then ((some (y186 ++ ((rd_T30 l0 x6_1).f3) : List Int)).bind fun y189 => (if (y189.length : Int) > 4096 then (some (([] : List Int), 3)) else (selvageref02_Encode.l0 kj8 l0 y189 (wrap64 (x6_1 + 1))))) else (none))) else (none)) = some (r1, r2) := H
                    have A25 := Aside0.mk A250
                    clear A250
                    by_cases c26 : x5_8.length + t183.length < 140737488355328
                    · rw [if_pos c26] at H
                      have LMc26 := Aside0.mk c26
                      clear c26
                      obtain ⟨y186, hy186⟩ : ∃ y_ : List Int, y_ = (x5_8 ++ t183) := ⟨_, rfl⟩
                      replace H : (if y186.length + ((rd_T30 l0 x6_1).f3).length < 140737488355328 then ((some (y186 ++ ((rd_T30 l0 x6_1).f3) : List Int)).bind fun y189 => (if (y189.length : Int) > 4096 then (some (([] : List Int), 3)) else (selvageref02_Encode.l0 kj8 l0 y189 (wrap64 (x6_1 + 1))))) else (none)) = some (r1, r2) := by first | (rw [hy186]; with_reducible exact H) | (have H2_ := (Option.bind_some _ _).symm.trans H; rw [hy186]; with_reducible exact H2_) | (have H2_ := (Option.bind_some _ _).symm.trans H; with_reducible exact H2_) | with_reducible exact H | (rw [hy186]; exact H) | exact H
                      have Ny186 := Aside0.mk hy186
                      clear hy186
                      by_cases c27 : y186.length + ((rd_T30 l0 x6_1).f3).length < 140737488355328
                      · rw [if_pos c27] at H
                        have LMc27 := Aside0.mk c27
                        clear c27
                        obtain ⟨y189, hy189⟩ : ∃ y_ : List Int, y_ = (y186 ++ ((rd_T30 l0 x6_1).f3)) := ⟨_, rfl⟩
                        replace H : (if (y189.length : Int) > 4096 then (some (([] : List Int), 3)) else (selvageref02_Encode.l0 kj8 l0 y189 (wrap64 (x6_1 + 1)))) = some (r1, r2) := by first | (rw [hy189]; with_reducible exact H) | (have H2_ := (Option.bind_some _ _).symm.trans H; rw [hy189]; with_reducible exact H2_) | (have H2_ := (Option.bind_some _ _).symm.trans H; with_reducible exact H2_) | with_reducible exact H | (rw [hy189]; exact H) | exact H
                        have Ny189 := Aside0.mk hy189
                        clear hy189
                        by_cases c28 : (y189.length : Int) > 4096
                        · rw [if_pos c28] at H
                          have c28b0 : decide (4096 < (y189.length : Int)) = true := decide_eq_true c28
                          have c28b1 : decide (4096 < y189.length) = true := decide_eq_true (by omega)
                          clear c28
                          simp only [Option.some.injEq, Prod.mk.injEq] at H
                          obtain ⟨rfl, rfl⟩ := H
                          have hcz29_0 : wc.cell? ⟨gb169, 0, none⟩ = some (.int .i64 ((rd_T30 l0 x6_1).f0)) := (blk_cell BK169.out 0).trans rfl
                          have hcz29_1 : wc.cell? ⟨gb169, 1, none⟩ = some (.int .i64 ((rd_T30 l0 x6_1).f1)) := (blk_cell BK169.out 1).trans rfl
                          have hcz29_2 : wc.cell? ⟨gb169, 2, none⟩ = some (.int .i64 ((rd_T30 l0 x6_1).f2)) := (blk_cell BK169.out 2).trans rfl
                          have hcz29_3 : wc.cell? ⟨gb169, 3, none⟩ = some (.slice A168_3 ((rd_T30 l0 x6_1).f3).length c168_3) := (blk_cell BK169.out 3).trans rfl
                          have hfz29_0 := blk_frozen BK169.out 0
                          have hfz29_1 := blk_frozen BK169.out 1
                          have hfz29_2 := blk_frozen BK169.out 2
                          have hfz29_3 := blk_frozen BK169.out 3
                          go_wp2_with (first | ((with_reducible refine gate_callee (f := 25) rfl ?_); refine goesL_ (some 50) rfl rfl Try.func25 (by kernel_rfl) rfl #[.int .u64 (IntKind.u64.wrap ((((rd_T30 l0 x6_1).f3).length : Int)))] rfl (by (try simp only [List.map_toArray, List.map_cons, List.map_nil]); first | done | rfl | (simp only [List.length_drop, List.length_take]; rfl)) ?_; (with_reducible refine (selvageref01_Put.calls kj8 (IntKind.u64.wrap ((((rd_T30 l0 x6_1).f3).length : Int))) t183 _ A25.out).mono ?_); rintro e w30 ⟨v184, rfl, ho0, hb⟩; refine ⟨_, rfl, ?_⟩; have n0_ := Aside0.mk (Kd.R_elder' (by (with_reducible repeat (first | apply Kd.R_alloc | apply Kd.R_drewN | apply Kd.R_drew)); exact HO_5.out) (Kd.R_base ho0) hb); have n1_ := Aside0.mk (Kd.R_lower (Kd.R_new' ho0 (Kd.R_lt (by (with_reducible repeat (first | apply Kd.R_alloc | apply Kd.R_drewN | apply Kd.R_drew)); exact HO_5.out))) (below_size (by repeat (first | (with_reducible first | exact HB.out | apply below_alloc | apply pw_below_drewN | apply below_drew1 | refine below_set ?_ GE169.out) | exact HB.out)))); have n2_ := Aside0.mk (blk_below (g := gb169) (o := .cells #[.int .i64 ((rd_T30 l0 x6_1).f0), .int .i64 ((rd_T30 l0 x6_1).f1), .int .i64 ((rd_T30 l0 x6_1).f2), .slice A168_3 ((rd_T30 l0 x6_1).f3).length c168_3] 30 (0, 0)) (by (with_reducible repeat (first | refine blk_drewN ?_ _ | refine blk_drew ?_ | refine blk_alloc ?_ _)); exact BK169.out) hb); have n3_ := Aside0.mk (below_step (by repeat (first | (with_reducible first | exact HB.out | apply below_alloc | apply pw_below_drewN | apply below_drew1 | refine below_set ?_ GE169.out) | exact HB.out)) hb); clear HO_5; clear BK169; clear HB; have HO_5 := n0_; have HO185 := n1_; have BK169 := n2_; have HB := n3_; clear n0_ n1_ n2_ n3_; (try clear hb); (try clear hb2); (try clear hk); (try clear hi); (try clear ho0); obtain ⟨Ao32, co32, eo32⟩ := Kd.R_slice HO185.out; subst eo32) | ((with_reducible refine gate_builtin (b := .append) (xs := #[.tmp 45, .tmp 50]) rfl ?_); at_builtin; refine Kd.R_append_rows (Kd.int .u8) (w0 := w) w.heap.size rfl (.tmp 45) (.tmp 50) 25 5 (.int .u8 0) 1 rfl Try.underlying25 info5 rfl (by decide) (by omega) u5 x5_8 t183 _ _ _ (fun k_ => some k_ ≠ (.slice Ao32 t183.length co32 : Value).ownBlock) (fun _ => False) rfl rfl ?aO ?aR (fun _ _ h => h) (fun _ h => h.elim) ?aF ?aB ?aS ?aL ?_; (case aR => repeat (first | exact (Kd.R_reads' HO185.out).2.2 | (with_reducible refine Kd.C_alloc ?_ _) | (with_reducible refine Kd.C_drewN ?_ _) | (with_reducible refine Kd.C_drew ?_))); (case aB => exact (by repeat (first | (with_reducible first | exact HB.out | apply below_alloc | apply pw_below_drewN | apply below_drew1 | refine below_set ?_ GE169.out) | exact HB.out))); (case aF => exact (fun k_ hk => Kd.fresh' (Kd.R_lt (by (with_reducible repeat (first | apply Kd.R_alloc | apply Kd.R_drewN | apply Kd.R_drew)); exact HO185.out)) k_ hk)); (case aO => exact (by (with_reducible repeat (first | apply Kd.R_alloc | apply Kd.R_drewN | apply Kd.R_drew)); exact Kd.R_mono HO_5.out (fun _ hk => hk.2))); (case aS => exact (below_size (by repeat (first | (with_reducible first | exact HB.out | apply below_alloc | apply pw_below_drewN | apply below_drew1 | refine below_set ?_ GE169.out) | exact HB.out)))); (case aL => have := LMc26.out; omega); intro v187 w31 ho hb hg hat; rw [← Ny186.out] at ho; have n0_ := Aside0.mk (blk_grown (g := gb169) (o := .cells #[.int .i64 ((rd_T30 l0 x6_1).f0), .int .i64 ((rd_T30 l0 x6_1).f1), .int .i64 ((rd_T30 l0 x6_1).f2), .slice A168_3 ((rd_T30 l0 x6_1).f3).length c168_3] 30 (0, 0)) (by (with_reducible repeat (first | refine blk_drewN ?_ _ | refine blk_drew ?_ | refine blk_alloc ?_ _)); exact BK169.out) hg (Kd.R_ne HO_5.out BK169.out (by decide))); have n1_ := Aside0.mk (Kd.R_after (ok := (fun _ => True)) (by (with_reducible repeat (first | apply Kd.R_alloc | apply Kd.R_drewN | apply Kd.R_drew)); exact HO185.out) hg hat); have n2_ := Aside0.mk (hb); have n3_ := Aside0.mk (ho); clear BK169; clear HO185; clear HB; clear HO_5; have BK169 := n0_; have HO185 := n1_; have HB := n2_; have HO188 := n3_; clear n0_ n1_ n2_ n3_; clear ho hb hg hat; have hcz33_0 : w31.cell? ⟨gb169, 0, none⟩ = some (.int .i64 ((rd_T30 l0 x6_1).f0)) := (blk_cell BK169.out 0).trans rfl; have hcz33_1 : w31.cell? ⟨gb169, 1, none⟩ = some (.int .i64 ((rd_T30 l0 x6_1).f1)) := (blk_cell BK169.out 1).trans rfl; have hcz33_2 : w31.cell? ⟨gb169, 2, none⟩ = some (.int .i64 ((rd_T30 l0 x6_1).f2)) := (blk_cell BK169.out 2).trans rfl; have hcz33_3 : w31.cell? ⟨gb169, 3, none⟩ = some (.slice A168_3 ((rd_T30 l0 x6_1).f3).length c168_3) := (blk_cell BK169.out 3).trans rfl; have hfz33_0 := blk_frozen BK169.out 0; have hfz33_1 := blk_frozen BK169.out 1; have hfz33_2 := blk_frozen BK169.out 2; have hfz33_3 := blk_frozen BK169.out 3) | ((with_reducible refine gate_builtin (b := .append) (xs := #[.tmp 52, .tmp 54]) rfl ?_); at_builtin; refine Kd.R_append_rows (Kd.int .u8) (w0 := w) w.heap.size rfl (.tmp 52) (.tmp 54) 25 5 (.int .u8 0) 1 rfl Try.underlying25 info5 rfl (by decide) (by omega) v187 y186 ((rd_T30 l0 x6_1).f3) _ _ _ (fun k_ => some k_ ≠ (.slice Ao32 t183.length co32 : Value).ownBlock) (fun _ => False) rfl rfl ?aO ?aR (fun _ _ h => h) (fun _ h => h.elim) ?aF ?aB ?aS ?aL ?_; (case aR => repeat (first | exact (Kd.C_below HR168_3.out HB.out) | (with_reducible refine Kd.C_alloc ?_ _) | (with_reducible refine Kd.C_drewN ?_ _) | (with_reducible refine Kd.C_drew ?_))); (case aB => exact (by repeat (first | (with_reducible first | exact HB.out | apply below_alloc | apply pw_below_drewN | apply below_drew1 | refine below_set ?_ GE169.out) | exact HB.out))); (case aF => exact (fun k_ hk => Kd.fresh' (Kd.R_lt (by (with_reducible repeat (first | apply Kd.R_alloc | apply Kd.R_drewN | apply Kd.R_drew)); exact HO185.out)) k_ hk)); (case aO => exact (by (with_reducible repeat (first | apply Kd.R_alloc | apply Kd.R_drewN | apply Kd.R_drew)); exact HO188.out)); (case aS => exact (below_size (by repeat (first | (with_reducible first | exact HB.out | apply below_alloc | apply pw_below_drewN | apply below_drew1 | refine below_set ?_ GE169.out) | exact HB.out)))); (case aL => have := LMc27.out; omega); intro v190 w34 ho hb hg hat; rw [← Ny189.out] at ho; have n0_ := Aside0.mk (blk_grown (g := gb169) (o := .cells #[.int .i64 ((rd_T30 l0 x6_1).f0), .int .i64 ((rd_T30 l0 x6_1).f1), .int .i64 ((rd_T30 l0 x6_1).f2), .slice A168_3 ((rd_T30 l0 x6_1).f3).length c168_3] 30 (0, 0)) (by (with_reducible repeat (first | refine blk_drewN ?_ _ | refine blk_drew ?_ | refine blk_alloc ?_ _)); exact BK169.out) hg (Kd.R_ne HO188.out BK169.out (by decide))); have n1_ := Aside0.mk (Kd.R_after (ok := (fun _ => True)) (by (with_reducible repeat (first | apply Kd.R_alloc | apply Kd.R_drewN | apply Kd.R_drew)); exact HO185.out) hg hat); have n2_ := Aside0.mk (hb); have n3_ := Aside0.mk (ho); clear BK169; clear HO185; clear HB; clear HO188; have BK169 := n0_; have HO185 := n1_; have HB := n2_; have HO191 := n3_; clear n0_ n1_ n2_ n3_; clear ho hb hg hat; obtain ⟨Ao35, co35, eo35⟩ := Kd.R_slice HO191.out; subst eo35))
                          go_ret2
                          exact ⟨_, by first | rfl | (simp [errW_none, errW_some] <;> rfl) | (simp [*, errW_none, errW_some] <;> rfl), by first | exact Kd.R_nil _ _ _ _ _ | exact Kd.N_nil _ _ _ _ _ | exact Kd.V_nil _ _ _ _ _ | exact Kd.Q_nil _ _ _ _ _ | exact Kd.S_nil _ _ _ _ _, by repeat (first | (with_reducible first | exact HB.out | apply below_alloc | apply pw_below_drewN | apply below_drew1 | refine below_set ?_ GE169.out) | exact HB.out)⟩
                        · rw [if_neg c28] at H
                          have c28b0 : decide (4096 < (y189.length : Int)) = false := decide_eq_false c28
                          have c28b1 : decide (4096 < y189.length) = false := decide_eq_false (by omega)
                          clear c28
                          have H' := Aside0.mk H
                          clear H
                          have hcz36_0 : wc.cell? ⟨gb169, 0, none⟩ = some (.int .i64 ((rd_T30 l0 x6_1).f0)) := (blk_cell BK169.out 0).trans rfl
                          have hcz36_1 : wc.cell? ⟨gb169, 1, none⟩ = some (.int .i64 ((rd_T30 l0 x6_1).f1)) := (blk_cell BK169.out 1).trans rfl
                          have hcz36_2 : wc.cell? ⟨gb169, 2, none⟩ = some (.int .i64 ((rd_T30 l0 x6_1).f2)) := (blk_cell BK169.out 2).trans rfl
                          have hcz36_3 : wc.cell? ⟨gb169, 3, none⟩ = some (.slice A168_3 ((rd_T30 l0 x6_1).f3).length c168_3) := (blk_cell BK169.out 3).trans rfl
                          have hfz36_0 := blk_frozen BK169.out 0
                          have hfz36_1 := blk_frozen BK169.out 1
                          have hfz36_2 := blk_frozen BK169.out 2
                          have hfz36_3 := blk_frozen BK169.out 3
                          go_wp2_with (first | ((with_reducible refine gate_callee (f := 25) rfl ?_); refine goesL_ (some 50) rfl rfl Try.func25 (by kernel_rfl) rfl #[.int .u64 (IntKind.u64.wrap ((((rd_T30 l0 x6_1).f3).length : Int)))] rfl (by (try simp only [List.map_toArray, List.map_cons, List.map_nil]); first | done | rfl | (simp only [List.length_drop, List.length_take]; rfl)) ?_; (with_reducible refine (selvageref01_Put.calls kj8 (IntKind.u64.wrap ((((rd_T30 l0 x6_1).f3).length : Int))) t183 _ A25.out).mono ?_); rintro e w37 ⟨v184, rfl, ho0, hb⟩; refine ⟨_, rfl, ?_⟩; have n0_ := Aside0.mk (Kd.R_elder' (by (with_reducible repeat (first | apply Kd.R_alloc | apply Kd.R_drewN | apply Kd.R_drew)); exact HO_5.out) (Kd.R_base ho0) hb); have n1_ := Aside0.mk (Kd.R_lower (Kd.R_new' ho0 (Kd.R_lt (by (with_reducible repeat (first | apply Kd.R_alloc | apply Kd.R_drewN | apply Kd.R_drew)); exact HO_5.out))) (below_size (by repeat (first | (with_reducible first | exact HB.out | apply below_alloc | apply pw_below_drewN | apply below_drew1 | refine below_set ?_ GE169.out) | exact HB.out)))); have n2_ := Aside0.mk (blk_below (g := gb169) (o := .cells #[.int .i64 ((rd_T30 l0 x6_1).f0), .int .i64 ((rd_T30 l0 x6_1).f1), .int .i64 ((rd_T30 l0 x6_1).f2), .slice A168_3 ((rd_T30 l0 x6_1).f3).length c168_3] 30 (0, 0)) (by (with_reducible repeat (first | refine blk_drewN ?_ _ | refine blk_drew ?_ | refine blk_alloc ?_ _)); exact BK169.out) hb); have n3_ := Aside0.mk (below_step (by repeat (first | (with_reducible first | exact HB.out | apply below_alloc | apply pw_below_drewN | apply below_drew1 | refine below_set ?_ GE169.out) | exact HB.out)) hb); clear HO_5; clear BK169; clear HB; have HO_5 := n0_; have HO185 := n1_; have BK169 := n2_; have HB := n3_; clear n0_ n1_ n2_ n3_; (try clear hb); (try clear hb2); (try clear hk); (try clear hi); (try clear ho0); obtain ⟨Ao39, co39, eo39⟩ := Kd.R_slice HO185.out; subst eo39) | ((with_reducible refine gate_builtin (b := .append) (xs := #[.tmp 45, .tmp 50]) rfl ?_); at_builtin; refine Kd.R_append_rows (Kd.int .u8) (w0 := w) w.heap.size rfl (.tmp 45) (.tmp 50) 25 5 (.int .u8 0) 1 rfl Try.underlying25 info5 rfl (by decide) (by omega) u5 x5_8 t183 _ _ _ (fun k_ => some k_ ≠ (.slice Ao39 t183.length co39 : Value).ownBlock) (fun _ => False) rfl rfl ?aO ?aR (fun _ _ h => h) (fun _ h => h.elim) ?aF ?aB ?aS ?aL ?_; (case aR => repeat (first | exact (Kd.R_reads' HO185.out).2.2 | (with_reducible refine Kd.C_alloc ?_ _) | (with_reducible refine Kd.C_drewN ?_ _) | (with_reducible refine Kd.C_drew ?_))); (case aB => exact (by repeat (first | (with_reducible first | exact HB.out | apply below_alloc | apply pw_below_drewN | apply below_drew1 | refine below_set ?_ GE169.out) | exact HB.out))); (case aF => exact (fun k_ hk => Kd.fresh' (Kd.R_lt (by (with_reducible repeat (first | apply Kd.R_alloc | apply Kd.R_drewN | apply Kd.R_drew)); exact HO185.out)) k_ hk)); (case aO => exact (by (with_reducible repeat (first | apply Kd.R_alloc | apply Kd.R_drewN | apply Kd.R_drew)); exact Kd.R_mono HO_5.out (fun _ hk => hk.2))); (case aS => exact (below_size (by repeat (first | (with_reducible first | exact HB.out | apply below_alloc | apply pw_below_drewN | apply below_drew1 | refine below_set ?_ GE169.out) | exact HB.out)))); (case aL => have := LMc26.out; omega); intro v187 w38 ho hb hg hat; rw [← Ny186.out] at ho; have n0_ := Aside0.mk (blk_grown (g := gb169) (o := .cells #[.int .i64 ((rd_T30 l0 x6_1).f0), .int .i64 ((rd_T30 l0 x6_1).f1), .int .i64 ((rd_T30 l0 x6_1).f2), .slice A168_3 ((rd_T30 l0 x6_1).f3).length c168_3] 30 (0, 0)) (by (with_reducible repeat (first | refine blk_drewN ?_ _ | refine blk_drew ?_ | refine blk_alloc ?_ _)); exact BK169.out) hg (Kd.R_ne HO_5.out BK169.out (by decide))); have n1_ := Aside0.mk (Kd.R_after (ok := (fun _ => True)) (by (with_reducible repeat (first | apply Kd.R_alloc | apply Kd.R_drewN | apply Kd.R_drew)); exact HO185.out) hg hat); have n2_ := Aside0.mk (hb); have n3_ := Aside0.mk (ho); clear BK169; clear HO185; clear HB; clear HO_5; have BK169 := n0_; have HO185 := n1_; have HB := n2_; have HO188 := n3_; clear n0_ n1_ n2_ n3_; clear ho hb hg hat; have hcz40_0 : w38.cell? ⟨gb169, 0, none⟩ = some (.int .i64 ((rd_T30 l0 x6_1).f0)) := (blk_cell BK169.out 0).trans rfl; have hcz40_1 : w38.cell? ⟨gb169, 1, none⟩ = some (.int .i64 ((rd_T30 l0 x6_1).f1)) := (blk_cell BK169.out 1).trans rfl; have hcz40_2 : w38.cell? ⟨gb169, 2, none⟩ = some (.int .i64 ((rd_T30 l0 x6_1).f2)) := (blk_cell BK169.out 2).trans rfl; have hcz40_3 : w38.cell? ⟨gb169, 3, none⟩ = some (.slice A168_3 ((rd_T30 l0 x6_1).f3).length c168_3) := (blk_cell BK169.out 3).trans rfl; have hfz40_0 := blk_frozen BK169.out 0; have hfz40_1 := blk_frozen BK169.out 1; have hfz40_2 := blk_frozen BK169.out 2; have hfz40_3 := blk_frozen BK169.out 3) | ((with_reducible refine gate_builtin (b := .append) (xs := #[.tmp 52, .tmp 54]) rfl ?_); at_builtin; refine Kd.R_append_rows (Kd.int .u8) (w0 := w) w.heap.size rfl (.tmp 52) (.tmp 54) 25 5 (.int .u8 0) 1 rfl Try.underlying25 info5 rfl (by decide) (by omega) v187 y186 ((rd_T30 l0 x6_1).f3) _ _ _ (fun k_ => some k_ ≠ (.slice Ao39 t183.length co39 : Value).ownBlock) (fun _ => False) rfl rfl ?aO ?aR (fun _ _ h => h) (fun _ h => h.elim) ?aF ?aB ?aS ?aL ?_; (case aR => repeat (first | exact (Kd.C_below HR168_3.out HB.out) | (with_reducible refine Kd.C_alloc ?_ _) | (with_reducible refine Kd.C_drewN ?_ _) | (with_reducible refine Kd.C_drew ?_))); (case aB => exact (by repeat (first | (with_reducible first | exact HB.out | apply below_alloc | apply pw_below_drewN | apply below_drew1 | refine below_set ?_ GE169.out) | exact HB.out))); (case aF => exact (fun k_ hk => Kd.fresh' (Kd.R_lt (by (with_reducible repeat (first | apply Kd.R_alloc | apply Kd.R_drewN | apply Kd.R_drew)); exact HO185.out)) k_ hk)); (case aO => exact (by (with_reducible repeat (first | apply Kd.R_alloc | apply Kd.R_drewN | apply Kd.R_drew)); exact HO188.out)); (case aS => exact (below_size (by repeat (first | (with_reducible first | exact HB.out | apply below_alloc | apply pw_below_drewN | apply below_drew1 | refine below_set ?_ GE169.out) | exact HB.out)))); (case aL => have := LMc27.out; omega); intro v190 w41 ho hb hg hat; rw [← Ny189.out] at ho; have n0_ := Aside0.mk (blk_grown (g := gb169) (o := .cells #[.int .i64 ((rd_T30 l0 x6_1).f0), .int .i64 ((rd_T30 l0 x6_1).f1), .int .i64 ((rd_T30 l0 x6_1).f2), .slice A168_3 ((rd_T30 l0 x6_1).f3).length c168_3] 30 (0, 0)) (by (with_reducible repeat (first | refine blk_drewN ?_ _ | refine blk_drew ?_ | refine blk_alloc ?_ _)); exact BK169.out) hg (Kd.R_ne HO188.out BK169.out (by decide))); have n1_ := Aside0.mk (Kd.R_after (ok := (fun _ => True)) (by (with_reducible repeat (first | apply Kd.R_alloc | apply Kd.R_drewN | apply Kd.R_drew)); exact HO185.out) hg hat); have n2_ := Aside0.mk (hb); have n3_ := Aside0.mk (ho); clear BK169; clear HO185; clear HB; clear HO188; have BK169 := n0_; have HO185 := n1_; have HB := n2_; have HO191 := n3_; clear n0_ n1_ n2_ n3_; clear ho hb hg hat; obtain ⟨Ao42, co42, eo42⟩ := Kd.R_slice HO191.out; subst eo42))
                          go_roundg kj8
                          case measure => have := HK1.out; have := HJ8.out; omega
                          case rel => exact ⟨(y189), (wrap64 (x6_1 + 1)), (by first | rfl | (simp; done) | (simp [*]; done)), H', ⟨by have := HK1.out; have := HJ8.out; omega⟩, ⟨by (with_reducible repeat (first | apply Kd.R_alloc | apply Kd.R_drewN | apply Kd.R_drew)); exact Kd.R_mono HO191.out (fun _ hk => trivial)⟩, ⟨by repeat (first | (with_reducible first | exact HB.out | apply below_alloc | apply pw_below_drewN | apply below_drew1 | refine below_set ?_ GE169.out) | exact HB.out)⟩⟩
                      · rw [if_neg c27] at H
                        exact absurd H (by simp)
                    · rw [if_neg c26] at H
                      exact absurd H (by simp)
                  · rw [if_neg c24] at H
                    have c24b0 : (((rd_T30 l0 x6_1).f0) == 2) = false := beq_eq_false_iff_ne.mpr c24
                    have c24b1 : (((rd_T30 l0 x6_1).f0) != 2) = true := bne_iff_ne.mpr c24
                    by_cases c43 : (x5_8.length : Int) > 4096
                    · rw [if_pos c43] at H
                      have c43b0 : decide (4096 < (x5_8.length : Int)) = true := decide_eq_true c43
                      have c43b1 : decide (4096 < x5_8.length) = true := decide_eq_true (by omega)
                      clear c43
                      simp only [Option.some.injEq, Prod.mk.injEq] at H
                      obtain ⟨rfl, rfl⟩ := H
                      have hcz44_0 : wc.cell? ⟨gb169, 0, none⟩ = some (.int .i64 ((rd_T30 l0 x6_1).f0)) := (blk_cell BK169.out 0).trans rfl
                      have hcz44_1 : wc.cell? ⟨gb169, 1, none⟩ = some (.int .i64 ((rd_T30 l0 x6_1).f1)) := (blk_cell BK169.out 1).trans rfl
                      have hcz44_2 : wc.cell? ⟨gb169, 2, none⟩ = some (.int .i64 ((rd_T30 l0 x6_1).f2)) := (blk_cell BK169.out 2).trans rfl
                      have hcz44_3 : wc.cell? ⟨gb169, 3, none⟩ = some (.slice A168_3 ((rd_T30 l0 x6_1).f3).length c168_3) := (blk_cell BK169.out 3).trans rfl
                      have hfz44_0 := blk_frozen BK169.out 0
                      have hfz44_1 := blk_frozen BK169.out 1
                      have hfz44_2 := blk_frozen BK169.out 2
                      have hfz44_3 := blk_frozen BK169.out 3
                      obtain ⟨Ao45, co45, eo45⟩ := Kd.R_slice HO_5.out
                      subst eo45
                      go_wp2
                      go_ret2
                      exact ⟨_, by first | rfl | (simp [errW_none, errW_some] <;> rfl) | (simp [*, errW_none, errW_some] <;> rfl), by first | exact Kd.R_nil _ _ _ _ _ | exact Kd.N_nil _ _ _ _ _ | exact Kd.V_nil _ _ _ _ _ | exact Kd.Q_nil _ _ _ _ _ | exact Kd.S_nil _ _ _ _ _, by repeat (first | (with_reducible first | exact HB.out | apply below_alloc | apply pw_below_drewN | apply below_drew1 | refine below_set ?_ GE169.out) | exact HB.out)⟩
                    · rw [if_neg c43] at H
                      have c43b0 : decide (4096 < (x5_8.length : Int)) = false := decide_eq_false c43
                      have c43b1 : decide (4096 < x5_8.length) = false := decide_eq_false (by omega)
                      clear c43
                      have H' := Aside0.mk H
                      clear H
                      have hcz46_0 : wc.cell? ⟨gb169, 0, none⟩ = some (.int .i64 ((rd_T30 l0 x6_1).f0)) := (blk_cell BK169.out 0).trans rfl
                      have hcz46_1 : wc.cell? ⟨gb169, 1, none⟩ = some (.int .i64 ((rd_T30 l0 x6_1).f1)) := (blk_cell BK169.out 1).trans rfl
                      have hcz46_2 : wc.cell? ⟨gb169, 2, none⟩ = some (.int .i64 ((rd_T30 l0 x6_1).f2)) := (blk_cell BK169.out 2).trans rfl
                      have hcz46_3 : wc.cell? ⟨gb169, 3, none⟩ = some (.slice A168_3 ((rd_T30 l0 x6_1).f3).length c168_3) := (blk_cell BK169.out 3).trans rfl
                      have hfz46_0 := blk_frozen BK169.out 0
                      have hfz46_1 := blk_frozen BK169.out 1
                      have hfz46_2 := blk_frozen BK169.out 2
                      have hfz46_3 := blk_frozen BK169.out 3
                      obtain ⟨Ao47, co47, eo47⟩ := Kd.R_slice HO_5.out
                      subst eo47
                      go_wp2
                      go_roundg kj8
                      case measure => have := HK1.out; have := HJ8.out; omega
                      case rel => exact ⟨(x5_8), (wrap64 (x6_1 + 1)), (by first | rfl | (simp; done) | (simp [*]; done)), H', ⟨by have := HK1.out; have := HJ8.out; omega⟩, ⟨by (with_reducible repeat (first | apply Kd.R_alloc | apply Kd.R_drewN | apply Kd.R_drew)); exact HO_5.out⟩, ⟨by repeat (first | (with_reducible first | exact HB.out | apply below_alloc | apply pw_below_drewN | apply below_drew1 | refine below_set ?_ GE169.out) | exact HB.out)⟩⟩
            · rw [if_neg c8] at H
              exact absurd H (by simp)
          · rw [if_neg c6] at H
            exact absurd H (by simp)
        · rw [if_neg c5] at H
          have c5b0 : decide (x6_1 < (l0.length : Int)) = false := decide_eq_false c5
          clear c5
          simp only [Option.some.injEq, Prod.mk.injEq] at H
          obtain ⟨rfl, rfl⟩ := H
          go_wp2
          go_ret2
          exact ⟨_, by first | rfl | (simp [errW_none, errW_some] <;> rfl) | (simp [*, errW_none, errW_some] <;> rfl), by (with_reducible repeat (first | apply Kd.R_alloc | apply Kd.R_drewN | apply Kd.R_drew)); exact HO_5.out, by repeat (first | (with_reducible first | exact HB.out | apply below_alloc | apply pw_below_drewN | apply below_drew1) | exact HB.out)⟩
  · replace c3 := Bool.eq_false_iff.mpr c3
    subst c3
    have H1 : (some (([] : List Int), 1)) = some (r1, r2) := by rw [if_neg (show ¬ (false = true) by decide)] at H; exact H
    clear H
    have H := H1
    clear H1
    simp only [Option.some.injEq, Prod.mk.injEq] at H
    obtain ⟨rfl, rfl⟩ := H
    go_enter Try.func13, Try.ntmps13
    go_wp2_with (first | ((with_reducible refine gate_callee (f := 15) rfl ?_); refine goesL_ (some 9) rfl rfl Try.func15 (by kernel_rfl) rfl #[.slice A0 l0.length c0] rfl (by (try simp only [List.map_toArray, List.map_cons, List.map_nil]); first | done | rfl | (simp only [List.length_drop, List.length_take]; rfl)) ?_; (with_reducible refine (selvageref02_Right.calls k _ _ l0 false _ ?side1 ?side2 A2.out).mono ?_); (case side1 => repeat (first | exact HR0.out | (with_reducible refine Kd.C_alloc ?_ _) | (with_reducible refine Kd.C_drewN ?_ _) | (with_reducible refine Kd.C_drew ?_))); (case side2 => exact HC0.out); rintro e w48 ⟨rfl, hb⟩; refine ⟨_, rfl, ?_⟩; have n0_ := Aside0.mk (below_step (by repeat (first | (with_reducible first | exact HB.out | apply below_alloc | apply pw_below_drewN | apply below_drew1) | exact HB.out)) hb); clear HB; have HB := n0_; clear n0_; (try clear hb); (try clear hb2); (try clear hk); (try clear hi)))
    go_ret2
    exact ⟨_, by first | rfl | (simp [errW_none, errW_some] <;> rfl) | (simp [*, errW_none, errW_some] <;> rfl), by first | exact Kd.R_nil _ _ _ _ _ | exact Kd.N_nil _ _ _ _ _ | exact Kd.V_nil _ _ _ _ _ | exact Kd.Q_nil _ _ _ _ _ | exact Kd.S_nil _ _ _ _ _, by repeat (first | (with_reducible first | exact HB.out | apply below_alloc | apply pw_below_drewN | apply below_drew1) | exact HB.out)⟩

/-! ### selvagelaw02_ValueEncodes: function 3 -/
def selvagelaw02_ValueEncodes.j0 : Nat → List (S30) → Bool → Bool → Option (Bool)
  | 0, _, _, _ => none
  | k + 1, x0, x3, x17 => if x17 = true then (some x3) else ((value_Encode.f k x0).bind fun bt194 => ((selvageref02_Encode.f k x0).bind fun bt198 => (if (strOfNums bt194.1).toList = (strOfNums bt198.1).toList then (if bt194.2 = bt198.2 then ((value_Right.f k x0).bind fun t202 => ((selvageref02_Right.f k x0).bind fun t203 => (some (t202 == t203)))) else (some false)) else (some false))))
def selvagelaw02_ValueEncodes.f (k : Nat) (l0 : List (S30)) : Option (Bool) := (selvagelaw02_awake.f k).bind fun t192 => ((selvageref02_Few.f k l0).bind fun t193 => (if t192 = true then (selvagelaw02_ValueEncodes.j0 k l0 t192 (!t193)) else (selvagelaw02_ValueEncodes.j0 k l0 t192 true)))
theorem selvagelaw02_ValueEncodes.mono_l : ∀ k, (∀ y0 y1 y2, LeO (selvagelaw02_ValueEncodes.j0 k y0 y1 y2) (selvagelaw02_ValueEncodes.j0 (k + 1) y0 y1 y2))
  | 0 => fun _ _ _ r h => by simp [selvagelaw02_ValueEncodes.j0] at h
  | k + 1 => by
    have ih0 := selvagelaw02_ValueEncodes.mono_l k
    · intro y0 y1 y2
      unfold selvagelaw02_ValueEncodes.j0
      repeat' first
      | (with_reducible exact ih0 _ _ _)
      | (with_reducible exact selvagelaw02_awake.mono _)
      | (with_reducible exact selvageref02_Encode.mono _ _)
      | (with_reducible exact selvageref02_Few.mono _ _)
      | (with_reducible exact selvageref02_Right.mono _ _)
      | (with_reducible exact value_Encode.mono _ _)
      | (with_reducible exact value_Right.mono _ _)
      | (with_reducible exact LeO.refl _)
      | (with_reducible exact LeO.none _)
      | (with_reducible refine LeO.ite ?_ ?_)
      | (with_reducible refine LeO.bind ?_ (fun _ => ?_))
      | exact ih0 _ _ _
      | exact selvagelaw02_awake.mono _
      | exact selvageref02_Encode.mono _ _
      | exact selvageref02_Few.mono _ _
      | exact selvageref02_Right.mono _ _
      | exact value_Encode.mono _ _
      | exact value_Right.mono _ _
      | exact LeO.none _
      | refine LeO.ite ?_ ?_
      | refine LeO.bind ?_ (fun _ => ?_)
theorem selvagelaw02_ValueEncodes.mono : ∀ a0 k, LeO (selvagelaw02_ValueEncodes.f k a0) (selvagelaw02_ValueEncodes.f (k + 1) a0) := by
  intro a0 k
  have ih0 := selvagelaw02_ValueEncodes.mono_l k
  unfold selvagelaw02_ValueEncodes.f
  repeat' first
      | (with_reducible exact ih0 _ _ _)
      | (with_reducible exact selvagelaw02_awake.mono _)
      | (with_reducible exact selvageref02_Encode.mono _ _)
      | (with_reducible exact selvageref02_Few.mono _ _)
      | (with_reducible exact selvageref02_Right.mono _ _)
      | (with_reducible exact value_Encode.mono _ _)
      | (with_reducible exact value_Right.mono _ _)
      | (with_reducible exact LeO.refl _)
      | (with_reducible exact LeO.none _)
      | (with_reducible refine LeO.ite ?_ ?_)
      | (with_reducible refine LeO.bind ?_ (fun _ => ?_))
      | exact ih0 _ _ _
      | exact selvagelaw02_awake.mono _
      | exact selvageref02_Encode.mono _ _
      | exact selvageref02_Few.mono _ _
      | exact selvageref02_Right.mono _ _
      | exact value_Encode.mono _ _
      | exact value_Right.mono _ _
      | exact LeO.none _
      | refine LeO.ite ?_ ?_
      | refine LeO.bind ?_ (fun _ => ?_)
set_option maxHeartbeats 8000000 in
set_option maxRecDepth 100000 in
theorem selvagelaw02_ValueEncodes.calls (k : Nat) (A0 : Option Addr) (c0 : Nat) (l0 : List (S30)) (r : Bool) (w : World) (hr0 : Kd.C k30 w A0 l0.length l0) (hc0 : l0.length ≤ c0) (h : selvagelaw02_ValueEncodes.f k l0 = some r) :
    Calls Try.prog 3 #[.slice A0 l0.length c0] w fun e w' => e = .returned (.bool r) ∧ Below w.heap.size w w' := by
  have HR0 := Aside0.mk hr0
  have HC0 := Aside0.mk hc0
  clear hr0 hc0
  have HB := Aside0.mk (Below.refl w.heap.size w)
  have H : ((selvagelaw02_awake.f k).bind fun t192 => ((selvageref02_Few.f k l0).bind fun t193 => (if t192 = true then (selvagelaw02_ValueEncodes.j0 k l0 t192 (!t193)) else (selvagelaw02_ValueEncodes.j0 k l0 t192 true)))) = some r := h
  clear h
  replace H := Option.bind_eq_some_iff.mp H
  obtain ⟨t192, A20, H⟩ := H
  replace H : ((selvageref02_Few.f k l0).bind fun t193 => (if t192 = true then (selvagelaw02_ValueEncodes.j0 k l0 t192 (!t193)) else (selvagelaw02_ValueEncodes.j0 k l0 t192 true))) = some r := H
  have A2 := Aside0.mk A20
  clear A20
  replace H := Option.bind_eq_some_iff.mp H
  obtain ⟨t193, A30, H⟩ := H
  replace H : (if t192 = true then (selvagelaw02_ValueEncodes.j0 k l0 t192 (!t193)) else (selvagelaw02_ValueEncodes.j0 k l0 t192 true)) = some r := H
  have A3 := Aside0.mk A30
  clear A30
  have HC4 := Aside0.mk H
  clear H
  go_enter Try.func3, Try.ntmps3
  go_upto_region 3 with (first | ((with_reducible refine gate_callee (f := 10) rfl ?_); refine goesL_ (some 9) rfl rfl Try.func10 (by kernel_rfl) rfl #[] rfl (by (try simp only [List.map_toArray, List.map_cons, List.map_nil]); first | done | rfl | (simp only [List.length_drop, List.length_take]; rfl)) ?_; (with_reducible refine (selvagelaw02_awake.calls k  t192 _ A2.out).mono ?_); rintro e w5 ⟨rfl, hb⟩; refine ⟨_, rfl, ?_⟩; have n0_ := Aside0.mk (below_step (by repeat (first | (with_reducible first | exact HB.out | apply below_alloc | apply pw_below_drewN | apply below_drew1) | exact HB.out)) hb); clear HB; have HB := n0_; clear n0_; (try clear hb); (try clear hb2); (try clear hk); (try clear hi)) | ((with_reducible refine gate_callee (f := 11) rfl ?_); refine goesL_ (some 11) rfl rfl Try.func11 (by kernel_rfl) rfl #[.slice A0 l0.length c0] rfl (by (try simp only [List.map_toArray, List.map_cons, List.map_nil]); first | done | rfl | (simp only [List.length_drop, List.length_take]; rfl)) ?_; (with_reducible refine (selvageref02_Few.calls k _ _ l0 t193 _ ?side1 ?side2 A3.out).mono ?_); (case side1 => repeat (first | exact (Kd.C_below HR0.out HB.out) | (with_reducible refine Kd.C_alloc ?_ _) | (with_reducible refine Kd.C_drewN ?_ _) | (with_reducible refine Kd.C_drew ?_))); (case side2 => exact HC0.out); rintro e w' ⟨rfl, ⟨nd, rfl⟩⟩; refine ⟨_, rfl, ?_⟩))
  (try simp only [Act.put, List.setIfInBounds_toArray, List.set_cons_zero, List.set_cons_succ])
  go_cut [17] (fun v17 wc => ∃ (kq : Nat) (x17_3 : Bool), v17 = .bool x17_3 ∧ Aside0 (selvagelaw02_ValueEncodes.j0 kq l0 t192 x17_3 = some r) ∧ Aside0 (kq ≤ k) ∧ Aside0 (Below w.heap.size w wc))
  case first =>
    have H := HC4.out
    clear HC4
    by_cases c6 : t192 = true
    · subst c6
      have H1 : (selvagelaw02_ValueEncodes.j0 k l0 true (!t193)) = some r := by rw [if_pos rfl] at H; exact H
      clear H
      have H := H1
      clear H1
      have H' := Aside0.mk H
      clear H
      go_wp2
      go_meet
      case rel => exact ⟨_, (!t193), (by first | rfl | (simp; done) | (simp [*]; done)), H', ⟨by first | omega | exact Nat.le_refl _⟩, ⟨by repeat (first | (with_reducible first | exact HB.out | apply below_alloc | apply pw_below_drewN | apply below_drew1) | exact HB.out)⟩⟩
    · replace c6 := Bool.eq_false_iff.mpr c6
      subst c6
      have H1 : (selvagelaw02_ValueEncodes.j0 k l0 false true) = some r := by rw [if_neg (show ¬ (false = true) by decide)] at H; exact H
      clear H
      have H := H1
      clear H1
      have H' := Aside0.mk H
      clear H
      go_wp2
      go_meet
      case rel => exact ⟨_, (true), (by first | rfl | (simp; done) | (simp [*]; done)), H', ⟨by first | omega | exact Nat.le_refl _⟩, ⟨by repeat (first | (with_reducible first | exact HB.out | apply below_alloc | apply pw_below_drewN | apply below_drew1) | exact HB.out)⟩⟩
  case rest =>
    clear HC4
    try clear c1
    try clear p2
    try clear c3
    try clear c6
    obtain ⟨kq, x17_3, rfl, HA, HJ3, HB⟩ := hcut
    cases kq with
    | zero => exact absurd HA.out (by simp [selvagelaw02_ValueEncodes.j0])
    | succ kj3 =>
      have H := HA.out
      clear HA
      simp only [selvagelaw02_ValueEncodes.j0] at H
      by_cases c7 : x17_3 = true
      · subst c7
        have H1 : (some t192) = some r := by rw [if_pos rfl] at H; exact H
        clear H
        have H := H1
        clear H1
        obtain rfl := Option.some.inj H
        go_wp2
        go_ret
        exact ⟨by first | rfl | (simp [errW_none, errW_some] <;> rfl) | (simp [*, errW_none, errW_some] <;> rfl), by repeat (first | (with_reducible first | exact HB.out | apply below_alloc | apply pw_below_drewN | apply below_drew1) | exact HB.out)⟩
      · replace c7 := Bool.eq_false_iff.mpr c7
        subst c7
        have H1 : ((value_Encode.f kj3 l0).bind fun bt194 => ((selvageref02_Encode.f kj3 l0).bind fun bt198 => (if (strOfNums bt194.1).toList = (strOfNums bt198.1).toList then (if bt194.2 = bt198.2 then ((value_Right.f kj3 l0).bind fun t202 => ((selvageref02_Right.f kj3 l0).bind fun t203 => (some (t202 == t203)))) else (some false)) else (some false)))) = some r := by rw [if_neg (show ¬ (false = true) by decide)] at H; exact H
        clear H
        have H := H1
        clear H1
        replace H := Option.bind_eq_some_iff.mp H
        obtain ⟨⟨t194, t195⟩, A80, H⟩ := H
        replace H : ((selvageref02_Encode.f kj3 l0).bind fun bt198 => (if (strOfNums t194).toList = (strOfNums bt198.1).toList then (if t195 = bt198.2 then ((value_Right.f kj3 l0).bind fun t202 => ((selvageref02_Right.f kj3 l0).bind fun t203 => (some (t202 == t203)))) else (some false)) else (some false))) = some r := H
        have A8 := Aside0.mk A80
        clear A80
        replace H := Option.bind_eq_some_iff.mp H
        obtain ⟨⟨t198, t199⟩, A90, H⟩ := H
        replace H : (if (strOfNums t194).toList = (strOfNums t198).toList then (if t195 = t199 then ((value_Right.f kj3 l0).bind fun t202 => ((selvageref02_Right.f kj3 l0).bind fun t203 => (some (t202 == t203)))) else (some false)) else (some false)) = some r := H
        have A9 := Aside0.mk A90
        clear A90
        by_cases c10 : (strOfNums t194).toList = (strOfNums t198).toList
        · rw [if_pos c10] at H
          have c10b0 : ((strOfNums t194).toList == (strOfNums t198).toList) = true := beq_iff_eq.mpr c10
          have c10b1 : ((strOfNums t194).toList != (strOfNums t198).toList) = false := bne_eq_false_iff_eq.mpr c10
          clear c10
          by_cases c11 : t195 = t199
          · rw [if_pos c11] at H
            have c11b0 : (t195 == t199) = true := beq_iff_eq.mpr c11
            have c11b1 : (t195 != t199) = false := bne_eq_false_iff_eq.mpr c11
            clear c11
            replace H := Option.bind_eq_some_iff.mp H
            obtain ⟨t202, A120, H⟩ := H
            replace H : ((selvageref02_Right.f kj3 l0).bind fun t203 => (some (t202 == t203))) = some r := H
            have A12 := Aside0.mk A120
            clear A120
            replace H := Option.bind_eq_some_iff.mp H
            obtain ⟨t203, A130, H⟩ := H
            replace H : (some (t202 == t203)) = some r := H
            have A13 := Aside0.mk A130
            clear A130
            obtain rfl := Option.some.inj H
            go_wp2_with (first | ((with_reducible refine gate_callee (f := 12) rfl ?_); refine goesL_ (some 21) rfl rfl Try.func12 (by kernel_rfl) rfl #[.slice A0 l0.length c0] rfl (by (try simp only [List.map_toArray, List.map_cons, List.map_nil]); first | done | rfl | (simp only [List.length_drop, List.length_take]; rfl)) ?_; (with_reducible refine (value_Encode.calls kj3 _ _ l0 t194 t195 _ ?side1 ?side2 A8.out).mono ?_); (case side1 => repeat (first | exact (Kd.C_below HR0.out HB.out) | (with_reducible refine Kd.C_alloc ?_ _) | (with_reducible refine Kd.C_drewN ?_ _) | (with_reducible refine Kd.C_drew ?_))); (case side2 => exact HC0.out); rintro e w14 ⟨v196, rfl, ho0, hb⟩; refine ⟨_, rfl, ?_⟩; have n0_ := Aside0.mk (Kd.R_lower ho0 (below_size (by repeat (first | (with_reducible first | exact HB.out | apply below_alloc | apply pw_below_drewN | apply below_drew1) | exact HB.out)))); have n1_ := Aside0.mk (below_step (by repeat (first | (with_reducible first | exact HB.out | apply below_alloc | apply pw_below_drewN | apply below_drew1) | exact HB.out)) hb); clear HB; have HO197 := n0_; have HB := n1_; clear n0_ n1_; (try clear hb); (try clear hb2); (try clear hk); (try clear hi); (try clear ho0)) | ((with_reducible refine gate_callee (f := 13) rfl ?_); refine goesL_ (some 26) rfl rfl Try.func13 (by kernel_rfl) rfl #[.slice A0 l0.length c0] rfl (by (try simp only [List.map_toArray, List.map_cons, List.map_nil]); first | done | rfl | (simp only [List.length_drop, List.length_take]; rfl)) ?_; (with_reducible refine (selvageref02_Encode.calls kj3 _ _ l0 t198 t199 _ ?side1 ?side2 A9.out).mono ?_); (case side1 => repeat (first | exact (Kd.C_below HR0.out HB.out) | (with_reducible refine Kd.C_alloc ?_ _) | (with_reducible refine Kd.C_drewN ?_ _) | (with_reducible refine Kd.C_drew ?_))); (case side2 => exact HC0.out); rintro e w15 ⟨v200, rfl, ho0, hb⟩; refine ⟨_, rfl, ?_⟩; have n0_ := Aside0.mk (Kd.R_elder' (by (with_reducible repeat (first | apply Kd.R_alloc | apply Kd.R_drewN | apply Kd.R_drew)); exact HO197.out) (Kd.R_base ho0) hb); have n1_ := Aside0.mk (Kd.R_lower (Kd.R_new' ho0 (Kd.R_lt (by (with_reducible repeat (first | apply Kd.R_alloc | apply Kd.R_drewN | apply Kd.R_drew)); exact HO197.out))) (below_size (by repeat (first | (with_reducible first | exact HB.out | apply below_alloc | apply pw_below_drewN | apply below_drew1) | exact HB.out)))); have n2_ := Aside0.mk (below_step (by repeat (first | (with_reducible first | exact HB.out | apply below_alloc | apply pw_below_drewN | apply below_drew1) | exact HB.out)) hb); clear HO197; clear HB; have HO197 := n0_; have HO201 := n1_; have HB := n2_; clear n0_ n1_ n2_; (try clear hb); (try clear hb2); (try clear hk); (try clear hi); (try clear ho0); have hcv16 := own_string (P := Try.prog) Try.underlying25 Try.underlying5 Try.underlying9 (Kd.own_of_R HO197.out); have hcv17 := own_string (P := Try.prog) Try.underlying25 Try.underlying5 Try.underlying9 (Kd.own_of_R HO201.out)) | (go_at_call 14; (with_reducible refine (value_Right.calls kj3 _ _ l0 t202 _ ?side1 ?side2 A12.out).mono ?_); (case side1 => repeat (first | exact (Kd.C_below HR0.out HB.out) | (with_reducible refine Kd.C_alloc ?_ _) | (with_reducible refine Kd.C_drewN ?_ _) | (with_reducible refine Kd.C_drew ?_))); (case side2 => exact HC0.out); rintro e w18 ⟨rfl, hb⟩; have n0_ := Aside0.mk (Kd.R_below (by (with_reducible repeat (first | apply Kd.R_alloc | apply Kd.R_drewN | apply Kd.R_drew)); exact HO197.out) hb); have n1_ := Aside0.mk (Kd.R_below (by (with_reducible repeat (first | apply Kd.R_alloc | apply Kd.R_drewN | apply Kd.R_drew)); exact HO201.out) hb); have n2_ := Aside0.mk (below_step (by repeat (first | (with_reducible first | exact HB.out | apply below_alloc | apply pw_below_drewN | apply below_drew1) | exact HB.out)) hb); clear HO197; clear HO201; clear HB; have HO197 := n0_; have HO201 := n1_; have HB := n2_; clear n0_ n1_ n2_; (try clear hb); (try clear hb2); (try clear hk); (try clear hi)) | (go_at_call 15; (with_reducible refine (selvageref02_Right.calls kj3 _ _ l0 t203 _ ?side1 ?side2 A13.out).mono ?_); (case side1 => repeat (first | exact (Kd.C_below HR0.out HB.out) | (with_reducible refine Kd.C_alloc ?_ _) | (with_reducible refine Kd.C_drewN ?_ _) | (with_reducible refine Kd.C_drew ?_))); (case side2 => exact HC0.out); rintro e w19 ⟨rfl, hb⟩; have n0_ := Aside0.mk (Kd.R_below (by (with_reducible repeat (first | apply Kd.R_alloc | apply Kd.R_drewN | apply Kd.R_drew)); exact HO197.out) hb); have n1_ := Aside0.mk (Kd.R_below (by (with_reducible repeat (first | apply Kd.R_alloc | apply Kd.R_drewN | apply Kd.R_drew)); exact HO201.out) hb); have n2_ := Aside0.mk (below_step (by repeat (first | (with_reducible first | exact HB.out | apply below_alloc | apply pw_below_drewN | apply below_drew1) | exact HB.out)) hb); clear HO197; clear HO201; clear HB; have HO197 := n0_; have HO201 := n1_; have HB := n2_; clear n0_ n1_ n2_; (try clear hb); (try clear hb2); (try clear hk); (try clear hi)))
            go_ret
            exact ⟨by first | rfl | (simp [errW_none, errW_some] <;> rfl) | (simp [*, errW_none, errW_some] <;> rfl), by repeat (first | (with_reducible first | exact HB.out | apply below_alloc | apply pw_below_drewN | apply below_drew1) | exact HB.out)⟩
          · rw [if_neg c11] at H
            have c11b0 : (t195 == t199) = false := beq_eq_false_iff_ne.mpr c11
            have c11b1 : (t195 != t199) = true := bne_iff_ne.mpr c11
            obtain rfl := Option.some.inj H
            go_wp2_with (first | ((with_reducible refine gate_callee (f := 12) rfl ?_); refine goesL_ (some 21) rfl rfl Try.func12 (by kernel_rfl) rfl #[.slice A0 l0.length c0] rfl (by (try simp only [List.map_toArray, List.map_cons, List.map_nil]); first | done | rfl | (simp only [List.length_drop, List.length_take]; rfl)) ?_; (with_reducible refine (value_Encode.calls kj3 _ _ l0 t194 t195 _ ?side1 ?side2 A8.out).mono ?_); (case side1 => repeat (first | exact (Kd.C_below HR0.out HB.out) | (with_reducible refine Kd.C_alloc ?_ _) | (with_reducible refine Kd.C_drewN ?_ _) | (with_reducible refine Kd.C_drew ?_))); (case side2 => exact HC0.out); rintro e w20 ⟨v196, rfl, ho0, hb⟩; refine ⟨_, rfl, ?_⟩; have n0_ := Aside0.mk (Kd.R_lower ho0 (below_size (by repeat (first | (with_reducible first | exact HB.out | apply below_alloc | apply pw_below_drewN | apply below_drew1) | exact HB.out)))); have n1_ := Aside0.mk (below_step (by repeat (first | (with_reducible first | exact HB.out | apply below_alloc | apply pw_below_drewN | apply below_drew1) | exact HB.out)) hb); clear HB; have HO197 := n0_; have HB := n1_; clear n0_ n1_; (try clear hb); (try clear hb2); (try clear hk); (try clear hi); (try clear ho0)) | ((with_reducible refine gate_callee (f := 13) rfl ?_); refine goesL_ (some 26) rfl rfl Try.func13 (by kernel_rfl) rfl #[.slice A0 l0.length c0] rfl (by (try simp only [List.map_toArray, List.map_cons, List.map_nil]); first | done | rfl | (simp only [List.length_drop, List.length_take]; rfl)) ?_; (with_reducible refine (selvageref02_Encode.calls kj3 _ _ l0 t198 t199 _ ?side1 ?side2 A9.out).mono ?_); (case side1 => repeat (first | exact (Kd.C_below HR0.out HB.out) | (with_reducible refine Kd.C_alloc ?_ _) | (with_reducible refine Kd.C_drewN ?_ _) | (with_reducible refine Kd.C_drew ?_))); (case side2 => exact HC0.out); rintro e w21 ⟨v200, rfl, ho0, hb⟩; refine ⟨_, rfl, ?_⟩; have n0_ := Aside0.mk (Kd.R_elder' (by (with_reducible repeat (first | apply Kd.R_alloc | apply Kd.R_drewN | apply Kd.R_drew)); exact HO197.out) (Kd.R_base ho0) hb); have n1_ := Aside0.mk (Kd.R_lower (Kd.R_new' ho0 (Kd.R_lt (by (with_reducible repeat (first | apply Kd.R_alloc | apply Kd.R_drewN | apply Kd.R_drew)); exact HO197.out))) (below_size (by repeat (first | (with_reducible first | exact HB.out | apply below_alloc | apply pw_below_drewN | apply below_drew1) | exact HB.out)))); have n2_ := Aside0.mk (below_step (by repeat (first | (with_reducible first | exact HB.out | apply below_alloc | apply pw_below_drewN | apply below_drew1) | exact HB.out)) hb); clear HO197; clear HB; have HO197 := n0_; have HO201 := n1_; have HB := n2_; clear n0_ n1_ n2_; (try clear hb); (try clear hb2); (try clear hk); (try clear hi); (try clear ho0); have hcv22 := own_string (P := Try.prog) Try.underlying25 Try.underlying5 Try.underlying9 (Kd.own_of_R HO197.out); have hcv23 := own_string (P := Try.prog) Try.underlying25 Try.underlying5 Try.underlying9 (Kd.own_of_R HO201.out)))
            go_ret
            exact ⟨by first | rfl | (simp [errW_none, errW_some] <;> rfl) | (simp [*, errW_none, errW_some] <;> rfl), by repeat (first | (with_reducible first | exact HB.out | apply below_alloc | apply pw_below_drewN | apply below_drew1) | exact HB.out)⟩
        · rw [if_neg c10] at H
          have c10b0 : ((strOfNums t194).toList == (strOfNums t198).toList) = false := beq_eq_false_iff_ne.mpr c10
          have c10b1 : ((strOfNums t194).toList != (strOfNums t198).toList) = true := bne_iff_ne.mpr c10
          obtain rfl := Option.some.inj H
          go_wp2_with (first | ((with_reducible refine gate_callee (f := 12) rfl ?_); refine goesL_ (some 21) rfl rfl Try.func12 (by kernel_rfl) rfl #[.slice A0 l0.length c0] rfl (by (try simp only [List.map_toArray, List.map_cons, List.map_nil]); first | done | rfl | (simp only [List.length_drop, List.length_take]; rfl)) ?_; (with_reducible refine (value_Encode.calls kj3 _ _ l0 t194 t195 _ ?side1 ?side2 A8.out).mono ?_); (case side1 => repeat (first | exact (Kd.C_below HR0.out HB.out) | (with_reducible refine Kd.C_alloc ?_ _) | (with_reducible refine Kd.C_drewN ?_ _) | (with_reducible refine Kd.C_drew ?_))); (case side2 => exact HC0.out); rintro e w24 ⟨v196, rfl, ho0, hb⟩; refine ⟨_, rfl, ?_⟩; have n0_ := Aside0.mk (Kd.R_lower ho0 (below_size (by repeat (first | (with_reducible first | exact HB.out | apply below_alloc | apply pw_below_drewN | apply below_drew1) | exact HB.out)))); have n1_ := Aside0.mk (below_step (by repeat (first | (with_reducible first | exact HB.out | apply below_alloc | apply pw_below_drewN | apply below_drew1) | exact HB.out)) hb); clear HB; have HO197 := n0_; have HB := n1_; clear n0_ n1_; (try clear hb); (try clear hb2); (try clear hk); (try clear hi); (try clear ho0)) | ((with_reducible refine gate_callee (f := 13) rfl ?_); refine goesL_ (some 26) rfl rfl Try.func13 (by kernel_rfl) rfl #[.slice A0 l0.length c0] rfl (by (try simp only [List.map_toArray, List.map_cons, List.map_nil]); first | done | rfl | (simp only [List.length_drop, List.length_take]; rfl)) ?_; (with_reducible refine (selvageref02_Encode.calls kj3 _ _ l0 t198 t199 _ ?side1 ?side2 A9.out).mono ?_); (case side1 => repeat (first | exact (Kd.C_below HR0.out HB.out) | (with_reducible refine Kd.C_alloc ?_ _) | (with_reducible refine Kd.C_drewN ?_ _) | (with_reducible refine Kd.C_drew ?_))); (case side2 => exact HC0.out); rintro e w25 ⟨v200, rfl, ho0, hb⟩; refine ⟨_, rfl, ?_⟩; have n0_ := Aside0.mk (Kd.R_elder' (by (with_reducible repeat (first | apply Kd.R_alloc | apply Kd.R_drewN | apply Kd.R_drew)); exact HO197.out) (Kd.R_base ho0) hb); have n1_ := Aside0.mk (Kd.R_lower (Kd.R_new' ho0 (Kd.R_lt (by (with_reducible repeat (first | apply Kd.R_alloc | apply Kd.R_drewN | apply Kd.R_drew)); exact HO197.out))) (below_size (by repeat (first | (with_reducible first | exact HB.out | apply below_alloc | apply pw_below_drewN | apply below_drew1) | exact HB.out)))); have n2_ := Aside0.mk (below_step (by repeat (first | (with_reducible first | exact HB.out | apply below_alloc | apply pw_below_drewN | apply below_drew1) | exact HB.out)) hb); clear HO197; clear HB; have HO197 := n0_; have HO201 := n1_; have HB := n2_; clear n0_ n1_ n2_; (try clear hb); (try clear hb2); (try clear hk); (try clear hi); (try clear ho0); have hcv26 := own_string (P := Try.prog) Try.underlying25 Try.underlying5 Try.underlying9 (Kd.own_of_R HO197.out); have hcv27 := own_string (P := Try.prog) Try.underlying25 Try.underlying5 Try.underlying9 (Kd.own_of_R HO201.out)))
          go_ret
          exact ⟨by first | rfl | (simp [errW_none, errW_some] <;> rfl) | (simp [*, errW_none, errW_some] <;> rfl), by repeat (first | (with_reducible first | exact HB.out | apply below_alloc | apply pw_below_drewN | apply below_drew1) | exact HB.out)⟩

/-- THE ONE PURE STATEMENT of selvagelaw02_ValueEncodes: yours. -/
def good30 (x : S30) : Prop := ((Lit.int .i64 x.f0).wf = true ∧ ((Lit.int .i64 x.f1).wf = true ∧ ((Lit.int .i64 x.f2).wf = true ∧ (x.f3.length ≤ maxLen ∧ x.f3.length * 1 ≤ 140737488351232 ∧ ∀ yxf3 ∈ x.f3, (Lit.int .u8 yxf3).wf = true))))
def selvagelaw02_ValueEncodes.Pure : Prop := ∀ (x0 : List (S30)), (x0.length ≤ maxLen ∧ x0.length * 48 ≤ 140737488351232 ∧ ∀ yx0 ∈ x0, good30 yx0) → ∃ k, selvagelaw02_ValueEncodes.f k x0 = some true
theorem selvagelaw02_ValueEncodes.walk (P : selvagelaw02_ValueEncodes.Pure) (x0 : List (S30)) (w : World) (A0 : Option Addr) (c0 : Nat) (g0 : (x0.length ≤ maxLen ∧ x0.length * 48 ≤ 140737488351232 ∧ ∀ yx0 ∈ x0, good30 yx0)) (hr0 : Kd.F k30 w (fun _ => True) A0 x0.length x0) (hc0 : x0.length ≤ c0) :
    Calls Try.prog 3 #[.slice A0 x0.length c0] w fun e w' => e = .returned (.bool true) ∧ Below w.heap.size w w' := by
  obtain ⟨k, h⟩ := P x0 g0
  refine (selvagelaw02_ValueEncodes.calls k _ _ x0 true w (Kd.F_now hr0) hc0 h).mono ?_
  rintro e w' ⟨rfl, hd⟩
  exact ⟨rfl, hd⟩

end Go.Proofs.Ytmiijakcmbolfaa.P
