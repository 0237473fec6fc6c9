-- Printed by a program of this session over the kit's print: all laws of the seat in one namespace, some texts by hand.
import Derived.Test.YtnlfcgnedemhhaaPx0
namespace Go.Proofs.Ytnlfcgnedemhhaa.P
open Go.RowKit Go.Proofs.YtnlfcgnedemhhaaW.PrintWords Go.Proofs.YtnlfcgnedemhhaaW.PrintLast Go.Proofs.YtnlfcgnedemhhaaW.PrintMore
attribute [local go_sem] max2_int min2_int max_two min_two max_three min_three max_four min_four   -- for this text's walks alone
set_option linter.unusedVariables false
set_option linter.unusedSimpArgs false

/-! ### selvageref09_Accepts: function 11 -/
def selvageref09_Accepts.j0 : Nat → Bool → Int → Int → Int → Int → Int → Int → Int → Int → Int → Int → Int → Int → Int → Int → Int → Int → Bool → Bool → Option (Bool)
  | 0, _, _, _, _, _, _, _, _, _, _, _, _, _, _, _, _, _, _, _ => none
  | k + 1, x43, x188000, x188001, x188002, x188003, x188004, x188005, x189000, x189001, x189002, x189003, x189004, x189005, x189006, x189007, x189008, x189009, x189010, x189011 => if x43 = true then (some false) else (if x189001 = x188001 then (some (x189001 != 0)) else (if x189001 = 0 then (some true) else (if x188001 = 0 then (some true) else (if (wrap64 (x189001 - x188001)) = 1 then (some true) else (some ((wrap64 (x188001 - x189001)) == 1))))))
def selvageref09_Accepts.f (k : Nat) (a0_0 : Int) (a0_1 : Int) (a0_2 : Int) (a0_3 : Int) (a0_4 : Int) (a0_5 : Int) (a1_0 : Int) (a1_1 : Int) (a1_2 : Int) (a1_3 : Int) (a1_4 : Int) (a1_5 : Int) (a1_6 : Int) (a1_7 : Int) (a1_8 : Int) (a1_9 : Int) (a1_10 : Bool) (a1_11 : Bool) : Option (Bool) := if a1_0 = a0_0 then (selvageref09_Accepts.j0 k true a0_0 a0_1 a0_2 a0_3 a0_4 a0_5 a1_0 a1_1 a1_2 a1_3 a1_4 a1_5 a1_6 a1_7 a1_8 a1_9 a1_10 a1_11) else (if a1_3 = a0_3 then (if a1_2 = a0_2 then (if a1_1 < 0 then (selvageref09_Accepts.j0 k true a0_0 a0_1 a0_2 a0_3 a0_4 a0_5 a1_0 a1_1 a1_2 a1_3 a1_4 a1_5 a1_6 a1_7 a1_8 a1_9 a1_10 a1_11) else (selvageref09_Accepts.j0 k (decide (a0_1 < 0)) a0_0 a0_1 a0_2 a0_3 a0_4 a0_5 a1_0 a1_1 a1_2 a1_3 a1_4 a1_5 a1_6 a1_7 a1_8 a1_9 a1_10 a1_11)) else (if a1_2 = 0 then (if a1_1 < 0 then (selvageref09_Accepts.j0 k true a0_0 a0_1 a0_2 a0_3 a0_4 a0_5 a1_0 a1_1 a1_2 a1_3 a1_4 a1_5 a1_6 a1_7 a1_8 a1_9 a1_10 a1_11) else (selvageref09_Accepts.j0 k (decide (a0_1 < 0)) a0_0 a0_1 a0_2 a0_3 a0_4 a0_5 a1_0 a1_1 a1_2 a1_3 a1_4 a1_5 a1_6 a1_7 a1_8 a1_9 a1_10 a1_11)) else (if a0_2 = 0 then (if a1_1 < 0 then (selvageref09_Accepts.j0 k true a0_0 a0_1 a0_2 a0_3 a0_4 a0_5 a1_0 a1_1 a1_2 a1_3 a1_4 a1_5 a1_6 a1_7 a1_8 a1_9 a1_10 a1_11) else (selvageref09_Accepts.j0 k (decide (a0_1 < 0)) a0_0 a0_1 a0_2 a0_3 a0_4 a0_5 a1_0 a1_1 a1_2 a1_3 a1_4 a1_5 a1_6 a1_7 a1_8 a1_9 a1_10 a1_11)) else (selvageref09_Accepts.j0 k true a0_0 a0_1 a0_2 a0_3 a0_4 a0_5 a1_0 a1_1 a1_2 a1_3 a1_4 a1_5 a1_6 a1_7 a1_8 a1_9 a1_10 a1_11)))) else (selvageref09_Accepts.j0 k true a0_0 a0_1 a0_2 a0_3 a0_4 a0_5 a1_0 a1_1 a1_2 a1_3 a1_4 a1_5 a1_6 a1_7 a1_8 a1_9 a1_10 a1_11))
theorem selvageref09_Accepts.mono_l : ∀ k, (∀ y0 y1 y2 y3 y4 y5 y6 y7 y8 y9 y10 y11 y12 y13 y14 y15 y16 y17 y18, LeO (selvageref09_Accepts.j0 k y0 y1 y2 y3 y4 y5 y6 y7 y8 y9 y10 y11 y12 y13 y14 y15 y16 y17 y18) (selvageref09_Accepts.j0 (k + 1) y0 y1 y2 y3 y4 y5 y6 y7 y8 y9 y10 y11 y12 y13 y14 y15 y16 y17 y18))
  | 0 => fun _ _ _ _ _ _ _ _ _ _ _ _ _ _ _ _ _ _ _ r h => by simp [selvageref09_Accepts.j0] at h
  | k + 1 => by
    have ih0 := selvageref09_Accepts.mono_l k
    · intro y0 y1 y2 y3 y4 y5 y6 y7 y8 y9 y10 y11 y12 y13 y14 y15 y16 y17 y18
      unfold selvageref09_Accepts.j0
      repeat' first
      | (with_reducible exact ih0 _ _ _ _ _ _ _ _ _ _ _ _ _ _ _ _ _ _ _)
      | (with_reducible exact LeO.refl _)
      | (with_reducible exact LeO.none _)
      | (with_reducible refine LeO.ite ?_ ?_)
      | (with_reducible refine LeO.bind ?_ (fun _ => ?_))
      | exact ih0 _ _ _ _ _ _ _ _ _ _ _ _ _ _ _ _ _ _ _
      | exact LeO.none _
      | refine LeO.ite ?_ ?_
      | refine LeO.bind ?_ (fun _ => ?_)
theorem selvageref09_Accepts.mono : ∀ a0 a1 a2 a3 a4 a5 a6 a7 a8 a9 a10 a11 a12 a13 a14 a15 a16 a17 k, LeO (selvageref09_Accepts.f k a0 a1 a2 a3 a4 a5 a6 a7 a8 a9 a10 a11 a12 a13 a14 a15 a16 a17) (selvageref09_Accepts.f (k + 1) a0 a1 a2 a3 a4 a5 a6 a7 a8 a9 a10 a11 a12 a13 a14 a15 a16 a17) := by
  intro a0 a1 a2 a3 a4 a5 a6 a7 a8 a9 a10 a11 a12 a13 a14 a15 a16 a17 k
  have ih0 := selvageref09_Accepts.mono_l k
  unfold selvageref09_Accepts.f
  repeat' first
      | (with_reducible exact ih0 _ _ _ _ _ _ _ _ _ _ _ _ _ _ _ _ _ _ _)
      | (with_reducible exact LeO.refl _)
      | (with_reducible exact LeO.none _)
      | (with_reducible refine LeO.ite ?_ ?_)
      | (with_reducible refine LeO.bind ?_ (fun _ => ?_))
      | exact ih0 _ _ _ _ _ _ _ _ _ _ _ _ _ _ _ _ _ _ _
      | exact LeO.none _
      | refine LeO.ite ?_ ?_
      | refine LeO.bind ?_ (fun _ => ?_)
set_option maxHeartbeats 8000000 in
set_option maxRecDepth 100000 in
theorem selvageref09_Accepts.calls (k : Nat) (a0_0 : Int) (a0_1 : Int) (a0_2 : Int) (a0_3 : Int) (a0_4 : Int) (a0_5 : Int) (a1_0 : Int) (a1_1 : Int) (a1_2 : Int) (a1_3 : Int) (a1_4 : Int) (a1_5 : Int) (a1_6 : Int) (a1_7 : Int) (a1_8 : Int) (a1_9 : Int) (a1_10 : Bool) (a1_11 : Bool) (r : Bool) (w : World) (h : selvageref09_Accepts.f k a0_0 a0_1 a0_2 a0_3 a0_4 a0_5 a1_0 a1_1 a1_2 a1_3 a1_4 a1_5 a1_6 a1_7 a1_8 a1_9 a1_10 a1_11 = some r) :
    Calls Try.prog 11 #[.agg #[.int .i64 a0_0, .int .i64 a0_1, .int .i64 a0_2, .int .i64 a0_3, .int .i64 a0_4, .int .i64 a0_5], .agg #[.int .i64 a1_0, .int .i64 a1_1, .int .i64 a1_2, .int .i64 a1_3, .int .i64 a1_4, .int .i64 a1_5, .int .i64 a1_6, .int .i64 a1_7, .int .i64 a1_8, .int .i64 a1_9, .bool a1_10, .bool a1_11]] w fun e w' => e = .returned (.bool r) ∧ Below w.heap.size w w' := by
  have hu23 := Try.underlying23
  have hu25 := Try.underlying25
  have HB := Aside0.mk (Below.refl w.heap.size w)
  have H : (if a1_0 = a0_0 then (selvageref09_Accepts.j0 k true a0_0 a0_1 a0_2 a0_3 a0_4 a0_5 a1_0 a1_1 a1_2 a1_3 a1_4 a1_5 a1_6 a1_7 a1_8 a1_9 a1_10 a1_11) else (if a1_3 = a0_3 then (if a1_2 = a0_2 then (if a1_1 < 0 then (selvageref09_Accepts.j0 k true a0_0 a0_1 a0_2 a0_3 a0_4 a0_5 a1_0 a1_1 a1_2 a1_3 a1_4 a1_5 a1_6 a1_7 a1_8 a1_9 a1_10 a1_11) else (selvageref09_Accepts.j0 k (decide (a0_1 < 0)) a0_0 a0_1 a0_2 a0_3 a0_4 a0_5 a1_0 a1_1 a1_2 a1_3 a1_4 a1_5 a1_6 a1_7 a1_8 a1_9 a1_10 a1_11)) else (if a1_2 = 0 then (if a1_1 < 0 then (selvageref09_Accepts.j0 k true a0_0 a0_1 a0_2 a0_3 a0_4 a0_5 a1_0 a1_1 a1_2 a1_3 a1_4 a1_5 a1_6 a1_7 a1_8 a1_9 a1_10 a1_11) else (selvageref09_Accepts.j0 k (decide (a0_1 < 0)) a0_0 a0_1 a0_2 a0_3 a0_4 a0_5 a1_0 a1_1 a1_2 a1_3 a1_4 a1_5 a1_6 a1_7 a1_8 a1_9 a1_10 a1_11)) else (if a0_2 = 0 then (if a1_1 < 0 then (selvageref09_Accepts.j0 k true a0_0 a0_1 a0_2 a0_3 a0_4 a0_5 a1_0 a1_1 a1_2 a1_3 a1_4 a1_5 a1_6 a1_7 a1_8 a1_9 a1_10 a1_11) else (selvageref09_Accepts.j0 k (decide (a0_1 < 0)) a0_0 a0_1 a0_2 a0_3 a0_4 a0_5 a1_0 a1_1 a1_2 a1_3 a1_4 a1_5 a1_6 a1_7 a1_8 a1_9 a1_10 a1_11)) else (selvageref09_Accepts.j0 k true a0_0 a0_1 a0_2 a0_3 a0_4 a0_5 a1_0 a1_1 a1_2 a1_3 a1_4 a1_5 a1_6 a1_7 a1_8 a1_9 a1_10 a1_11)))) else (selvageref09_Accepts.j0 k true a0_0 a0_1 a0_2 a0_3 a0_4 a0_5 a1_0 a1_1 a1_2 a1_3 a1_4 a1_5 a1_6 a1_7 a1_8 a1_9 a1_10 a1_11))) = some r := h
  clear h
  have HC3 := Aside0.mk H
  clear H
  go_enter Try.func11, Try.ntmps11
  go_upto_region 1 with (first | ((with_reducible refine gate_dst (N := 2) rfl ?_); refine box_event ?hg (N := 2) ?hd (cs := #[.int .i64 a0_0, .int .i64 a0_1, .int .i64 a0_2, .int .i64 a0_3, .int .i64 a0_4, .int .i64 a0_5]) (t := 23) ?hr ?_; (case hd => rfl); (case hg => rfl); (case hr => first | (go_simp; done) | (go_simp; rfl)); intro gb187 hg w4 hbox hb; have n0_ := Aside0.mk (below_step (by repeat (first | (with_reducible first | exact HB.out | apply below_alloc | apply pw_below_drewN | apply below_drew1) | exact HB.out)) hb); have n1_ := Aside0.mk (hbox); have n2_ := Aside0.mk ((by rw [hg]; exact (below_size (by repeat (first | (with_reducible first | exact HB.out | apply below_alloc | apply pw_below_drewN | apply below_drew1) | exact HB.out))) : w.heap.size ≤ gb187)); have n3_ := Aside0.mk ((by rw [hg]; exact (below_size (by repeat (first | (with_reducible first | exact HB.out | apply below_alloc | apply pw_below_drewN | apply below_drew1) | exact HB.out))) : w.heap.size ≤ gb187)); clear HB; have HB := n0_; have BK187 := n1_; have GW187 := n2_; have GE187 := n3_; clear n0_ n1_ n2_ n3_; clear hb hbox hg) | ((with_reducible refine gate_dst (N := 3) rfl ?_); refine box_event ?hg (N := 3) ?hd (cs := #[.int .i64 a1_0, .int .i64 a1_1, .int .i64 a1_2, .int .i64 a1_3, .int .i64 a1_4, .int .i64 a1_5, .int .i64 a1_6, .int .i64 a1_7, .int .i64 a1_8, .int .i64 a1_9, .bool a1_10, .bool a1_11]) (t := 25) ?hr ?_; (case hd => rfl); (case hg => rfl); (case hr => first | (go_simp; done) | (go_simp; rfl)); intro gb188 hg w5 hbox hb; have n0_ := Aside0.mk (blk_below (g := gb187) (o := .cells #[.int .i64 a0_0, .int .i64 a0_1, .int .i64 a0_2, .int .i64 a0_3, .int .i64 a0_4, .int .i64 a0_5] 23 (0, 0)) (by (with_reducible repeat (first | refine blk_drewN ?_ _ | refine blk_drew ?_ | refine blk_alloc ?_ _)); exact BK187.out) hb); have n1_ := Aside0.mk (below_step (by repeat (first | (with_reducible first | exact HB.out | apply below_alloc | apply pw_below_drewN | apply below_drew1 | refine below_set ?_ GE187.out) | exact HB.out)) hb); have n2_ := Aside0.mk (hbox); have n3_ := Aside0.mk ((by rw [hg]; exact (below_size (by repeat (first | (with_reducible first | exact HB.out | apply below_alloc | apply pw_below_drewN | apply below_drew1 | refine below_set ?_ GE187.out) | exact HB.out))) : w.heap.size ≤ gb188)); have n4_ := Aside0.mk ((by rw [hg]; exact (below_size (by repeat (first | (with_reducible first | exact HB.out | apply below_alloc | apply pw_below_drewN | apply below_drew1 | refine below_set ?_ GE187.out) | exact HB.out))) : w.heap.size ≤ gb188)); have n5_ := Aside0.mk ((by rw [hg]; exact Nat.ne_of_lt (blk_lt (g := gb187) (o := .cells #[.int .i64 a0_0, .int .i64 a0_1, .int .i64 a0_2, .int .i64 a0_3, .int .i64 a0_4, .int .i64 a0_5] 23 (0, 0)) (by (with_reducible repeat (first | refine blk_drewN ?_ _ | refine blk_drew ?_ | refine blk_alloc ?_ _)); exact BK187.out)) : gb187 ≠ gb188)); have n6_ := Aside0.mk ((by rw [hg]; exact Nat.ne_of_gt (blk_lt (g := gb187) (o := .cells #[.int .i64 a0_0, .int .i64 a0_1, .int .i64 a0_2, .int .i64 a0_3, .int .i64 a0_4, .int .i64 a0_5] 23 (0, 0)) (by (with_reducible repeat (first | refine blk_drewN ?_ _ | refine blk_drew ?_ | refine blk_alloc ?_ _)); exact BK187.out)) : gb188 ≠ gb187)); clear BK187; clear HB; have BK187 := n0_; have HB := n1_; have BK188 := n2_; have GW188 := n3_; have GE188 := n4_; have NB187_188 := n5_; have NB188_187 := n6_; clear n0_ n1_ n2_ n3_ n4_ n5_ n6_; clear hb hbox hg))
  (try simp only [Act.put, List.setIfInBounds_toArray, List.set_cons_zero, List.set_cons_succ])
  go_cut [43] (fun v43 wc => ∃ (kq : Nat) (x43_2 : Bool), v43 = .bool x43_2 ∧ Aside0 (selvageref09_Accepts.j0 kq x43_2 a0_0 a0_1 a0_2 a0_3 a0_4 a0_5 a1_0 a1_1 a1_2 a1_3 a1_4 a1_5 a1_6 a1_7 a1_8 a1_9 a1_10 a1_11 = some r) ∧ Aside0 (kq ≤ k) ∧ Aside0 (wc.heap[gb187]? = some (.cells #[.int .i64 a0_0, .int .i64 a0_1, .int .i64 a0_2, .int .i64 a0_3, .int .i64 a0_4, .int .i64 a0_5] 23 (0, 0))) ∧ Aside0 (wc.heap[gb188]? = some (.cells #[.int .i64 a1_0, .int .i64 a1_1, .int .i64 a1_2, .int .i64 a1_3, .int .i64 a1_4, .int .i64 a1_5, .int .i64 a1_6, .int .i64 a1_7, .int .i64 a1_8, .int .i64 a1_9, .bool a1_10, .bool a1_11] 25 (0, 0))) ∧ Aside0 (Below w.heap.size w wc))
  case first =>
    have H := HC3.out
    clear HC3
    by_cases c6 : a1_0 = a0_0
    · rw [if_pos c6] at H
      have c6b0 : (a1_0 == a0_0) = true := beq_iff_eq.mpr c6
      have c6b1 : (a1_0 != a0_0) = false := bne_eq_false_iff_eq.mpr c6
      clear c6
      (first | rw [c6b0] | (simp only [i64_w, i32_w]; rw [c6b0]) | skip)
      have H' := Aside0.mk H
      clear H
      have hnb7 := NB188_187.out
      have hnc7 := NB187_188.out
      have hcz8_0 : w5.cell? ⟨gb188, 0, none⟩ = some (.int .i64 a1_0) := (blk_cell BK188.out 0).trans rfl
      have hcz8_1 : w5.cell? ⟨gb188, 1, none⟩ = some (.int .i64 a1_1) := (blk_cell BK188.out 1).trans rfl
      have hcz8_2 : w5.cell? ⟨gb188, 2, none⟩ = some (.int .i64 a1_2) := (blk_cell BK188.out 2).trans rfl
      have hcz8_3 : w5.cell? ⟨gb188, 3, none⟩ = some (.int .i64 a1_3) := (blk_cell BK188.out 3).trans rfl
      have hcz8_4 : w5.cell? ⟨gb188, 4, none⟩ = some (.int .i64 a1_4) := (blk_cell BK188.out 4).trans rfl
      have hcz8_5 : w5.cell? ⟨gb188, 5, none⟩ = some (.int .i64 a1_5) := (blk_cell BK188.out 5).trans rfl
      have hcz8_6 : w5.cell? ⟨gb188, 6, none⟩ = some (.int .i64 a1_6) := (blk_cell BK188.out 6).trans rfl
      have hcz8_7 : w5.cell? ⟨gb188, 7, none⟩ = some (.int .i64 a1_7) := (blk_cell BK188.out 7).trans rfl
      have hcz8_8 : w5.cell? ⟨gb188, 8, none⟩ = some (.int .i64 a1_8) := (blk_cell BK188.out 8).trans rfl
      have hcz8_9 : w5.cell? ⟨gb188, 9, none⟩ = some (.int .i64 a1_9) := (blk_cell BK188.out 9).trans rfl
      have hcz8_10 : w5.cell? ⟨gb188, 10, none⟩ = some (.bool a1_10) := (blk_cell BK188.out 10).trans rfl
      have hcz8_11 : w5.cell? ⟨gb188, 11, none⟩ = some (.bool a1_11) := (blk_cell BK188.out 11).trans rfl
      have hfz8_0 := blk_frozen BK188.out 0
      have hfz8_1 := blk_frozen BK188.out 1
      have hfz8_2 := blk_frozen BK188.out 2
      have hfz8_3 := blk_frozen BK188.out 3
      have hfz8_4 := blk_frozen BK188.out 4
      have hfz8_5 := blk_frozen BK188.out 5
      have hfz8_6 := blk_frozen BK188.out 6
      have hfz8_7 := blk_frozen BK188.out 7
      have hfz8_8 := blk_frozen BK188.out 8
      have hfz8_9 := blk_frozen BK188.out 9
      have hfz8_10 := blk_frozen BK188.out 10
      have hfz8_11 := blk_frozen BK188.out 11
      have hcz9_0 : w5.cell? ⟨gb187, 0, none⟩ = some (.int .i64 a0_0) := (blk_cell BK187.out 0).trans rfl
      have hcz9_1 : w5.cell? ⟨gb187, 1, none⟩ = some (.int .i64 a0_1) := (blk_cell BK187.out 1).trans rfl
      have hcz9_2 : w5.cell? ⟨gb187, 2, none⟩ = some (.int .i64 a0_2) := (blk_cell BK187.out 2).trans rfl
      have hcz9_3 : w5.cell? ⟨gb187, 3, none⟩ = some (.int .i64 a0_3) := (blk_cell BK187.out 3).trans rfl
      have hcz9_4 : w5.cell? ⟨gb187, 4, none⟩ = some (.int .i64 a0_4) := (blk_cell BK187.out 4).trans rfl
      have hcz9_5 : w5.cell? ⟨gb187, 5, none⟩ = some (.int .i64 a0_5) := (blk_cell BK187.out 5).trans rfl
      have hfz9_0 := blk_frozen BK187.out 0
      have hfz9_1 := blk_frozen BK187.out 1
      have hfz9_2 := blk_frozen BK187.out 2
      have hfz9_3 := blk_frozen BK187.out 3
      have hfz9_4 := blk_frozen BK187.out 4
      have hfz9_5 := blk_frozen BK187.out 5
      go_wp2
      go_meet
      case rel => exact ⟨_, (true), (by first | rfl | (simp; done) | (simp [*]; done)), H', ⟨by first | omega | exact Nat.le_refl _⟩, ⟨by (with_reducible repeat (first | refine blk_drewN ?_ _ | refine blk_drew ?_ | refine blk_alloc ?_ _)); exact BK187.out⟩, ⟨by (with_reducible repeat (first | refine blk_drewN ?_ _ | refine blk_drew ?_ | refine blk_alloc ?_ _)); exact BK188.out⟩, ⟨by repeat (first | (with_reducible first | exact HB.out | apply below_alloc | apply pw_below_drewN | apply below_drew1 | refine below_set ?_ GE187.out | refine below_set ?_ GE188.out) | exact HB.out)⟩⟩
    · rw [if_neg c6] at H
      have c6b0 : (a1_0 == a0_0) = false := beq_eq_false_iff_ne.mpr c6
      have c6b1 : (a1_0 != a0_0) = true := bne_iff_ne.mpr c6
      (first | rw [c6b0] | (simp only [i64_w, i32_w]; rw [c6b0]) | skip)
      by_cases c10 : a1_3 = a0_3
      · rw [if_pos c10] at H
        have c10b0 : (a1_3 == a0_3) = true := beq_iff_eq.mpr c10
        have c10b1 : (a1_3 != a0_3) = false := bne_eq_false_iff_eq.mpr c10
        clear c10
        by_cases c11 : a1_2 = a0_2
        · rw [if_pos c11] at H
          have c11b0 : (a1_2 == a0_2) = true := beq_iff_eq.mpr c11
          have c11b1 : (a1_2 != a0_2) = false := bne_eq_false_iff_eq.mpr c11
          clear c11
          by_cases c12 : a1_1 < 0
          · rw [if_pos c12] at H
            have c12b0 : decide (a1_1 < 0) = true := decide_eq_true c12
            clear c12
            have H' := Aside0.mk H
            clear H
            have hnb13 := NB188_187.out
            have hnc13 := NB187_188.out
            have hcz14_0 : w5.cell? ⟨gb188, 0, none⟩ = some (.int .i64 a1_0) := (blk_cell BK188.out 0).trans rfl
            have hcz14_1 : w5.cell? ⟨gb188, 1, none⟩ = some (.int .i64 a1_1) := (blk_cell BK188.out 1).trans rfl
            have hcz14_2 : w5.cell? ⟨gb188, 2, none⟩ = some (.int .i64 a1_2) := (blk_cell BK188.out 2).trans rfl
            have hcz14_3 : w5.cell? ⟨gb188, 3, none⟩ = some (.int .i64 a1_3) := (blk_cell BK188.out 3).trans rfl
            have hcz14_4 : w5.cell? ⟨gb188, 4, none⟩ = some (.int .i64 a1_4) := (blk_cell BK188.out 4).trans rfl
            have hcz14_5 : w5.cell? ⟨gb188, 5, none⟩ = some (.int .i64 a1_5) := (blk_cell BK188.out 5).trans rfl
            have hcz14_6 : w5.cell? ⟨gb188, 6, none⟩ = some (.int .i64 a1_6) := (blk_cell BK188.out 6).trans rfl
            have hcz14_7 : w5.cell? ⟨gb188, 7, none⟩ = some (.int .i64 a1_7) := (blk_cell BK188.out 7).trans rfl
            have hcz14_8 : w5.cell? ⟨gb188, 8, none⟩ = some (.int .i64 a1_8) := (blk_cell BK188.out 8).trans rfl
            have hcz14_9 : w5.cell? ⟨gb188, 9, none⟩ = some (.int .i64 a1_9) := (blk_cell BK188.out 9).trans rfl
            have hcz14_10 : w5.cell? ⟨gb188, 10, none⟩ = some (.bool a1_10) := (blk_cell BK188.out 10).trans rfl
            have hcz14_11 : w5.cell? ⟨gb188, 11, none⟩ = some (.bool a1_11) := (blk_cell BK188.out 11).trans rfl
            have hfz14_0 := blk_frozen BK188.out 0
            have hfz14_1 := blk_frozen BK188.out 1
            have hfz14_2 := blk_frozen BK188.out 2
            have hfz14_3 := blk_frozen BK188.out 3
            have hfz14_4 := blk_frozen BK188.out 4
            have hfz14_5 := blk_frozen BK188.out 5
            have hfz14_6 := blk_frozen BK188.out 6
            have hfz14_7 := blk_frozen BK188.out 7
            have hfz14_8 := blk_frozen BK188.out 8
            have hfz14_9 := blk_frozen BK188.out 9
            have hfz14_10 := blk_frozen BK188.out 10
            have hfz14_11 := blk_frozen BK188.out 11
            have hcz15_0 : w5.cell? ⟨gb187, 0, none⟩ = some (.int .i64 a0_0) := (blk_cell BK187.out 0).trans rfl
            have hcz15_1 : w5.cell? ⟨gb187, 1, none⟩ = some (.int .i64 a0_1) := (blk_cell BK187.out 1).trans rfl
            have hcz15_2 : w5.cell? ⟨gb187, 2, none⟩ = some (.int .i64 a0_2) := (blk_cell BK187.out 2).trans rfl
            have hcz15_3 : w5.cell? ⟨gb187, 3, none⟩ = some (.int .i64 a0_3) := (blk_cell BK187.out 3).trans rfl
            have hcz15_4 : w5.cell? ⟨gb187, 4, none⟩ = some (.int .i64 a0_4) := (blk_cell BK187.out 4).trans rfl
            have hcz15_5 : w5.cell? ⟨gb187, 5, none⟩ = some (.int .i64 a0_5) := (blk_cell BK187.out 5).trans rfl
            have hfz15_0 := blk_frozen BK187.out 0
            have hfz15_1 := blk_frozen BK187.out 1
            have hfz15_2 := blk_frozen BK187.out 2
            have hfz15_3 := blk_frozen BK187.out 3
            have hfz15_4 := blk_frozen BK187.out 4
            have hfz15_5 := blk_frozen BK187.out 5
            go_wp2
            go_meet
            case rel => exact ⟨_, (true), (by first | rfl | (simp; done) | (simp [*]; done)), H', ⟨by first | omega | exact Nat.le_refl _⟩, ⟨by (with_reducible repeat (first | refine blk_drewN ?_ _ | refine blk_drew ?_ | refine blk_alloc ?_ _)); exact BK187.out⟩, ⟨by (with_reducible repeat (first | refine blk_drewN ?_ _ | refine blk_drew ?_ | refine blk_alloc ?_ _)); exact BK188.out⟩, ⟨by repeat (first | (with_reducible first | exact HB.out | apply below_alloc | apply pw_below_drewN | apply below_drew1 | refine below_set ?_ GE187.out | refine below_set ?_ GE188.out) | exact HB.out)⟩⟩
          · rw [if_neg c12] at H
            have c12b0 : decide (a1_1 < 0) = false := decide_eq_false c12
            clear c12
            have H' := Aside0.mk H
            clear H
            have hnb16 := NB188_187.out
            have hnc16 := NB187_188.out
            have hcz17_0 : w5.cell? ⟨gb188, 0, none⟩ = some (.int .i64 a1_0) := (blk_cell BK188.out 0).trans rfl
            have hcz17_1 : w5.cell? ⟨gb188, 1, none⟩ = some (.int .i64 a1_1) := (blk_cell BK188.out 1).trans rfl
            have hcz17_2 : w5.cell? ⟨gb188, 2, none⟩ = some (.int .i64 a1_2) := (blk_cell BK188.out 2).trans rfl
            have hcz17_3 : w5.cell? ⟨gb188, 3, none⟩ = some (.int .i64 a1_3) := (blk_cell BK188.out 3).trans rfl
            have hcz17_4 : w5.cell? ⟨gb188, 4, none⟩ = some (.int .i64 a1_4) := (blk_cell BK188.out 4).trans rfl
            have hcz17_5 : w5.cell? ⟨gb188, 5, none⟩ = some (.int .i64 a1_5) := (blk_cell BK188.out 5).trans rfl
            have hcz17_6 : w5.cell? ⟨gb188, 6, none⟩ = some (.int .i64 a1_6) := (blk_cell BK188.out 6).trans rfl
            have hcz17_7 : w5.cell? ⟨gb188, 7, none⟩ = some (.int .i64 a1_7) := (blk_cell BK188.out 7).trans rfl
            have hcz17_8 : w5.cell? ⟨gb188, 8, none⟩ = some (.int .i64 a1_8) := (blk_cell BK188.out 8).trans rfl
            have hcz17_9 : w5.cell? ⟨gb188, 9, none⟩ = some (.int .i64 a1_9) := (blk_cell BK188.out 9).trans rfl
            have hcz17_10 : w5.cell? ⟨gb188, 10, none⟩ = some (.bool a1_10) := (blk_cell BK188.out 10).trans rfl
            have hcz17_11 : w5.cell? ⟨gb188, 11, none⟩ = some (.bool a1_11) := (blk_cell BK188.out 11).trans rfl
            have hfz17_0 := blk_frozen BK188.out 0
            have hfz17_1 := blk_frozen BK188.out 1
            have hfz17_2 := blk_frozen BK188.out 2
            have hfz17_3 := blk_frozen BK188.out 3
            have hfz17_4 := blk_frozen BK188.out 4
            have hfz17_5 := blk_frozen BK188.out 5
            have hfz17_6 := blk_frozen BK188.out 6
            have hfz17_7 := blk_frozen BK188.out 7
            have hfz17_8 := blk_frozen BK188.out 8
            have hfz17_9 := blk_frozen BK188.out 9
            have hfz17_10 := blk_frozen BK188.out 10
            have hfz17_11 := blk_frozen BK188.out 11
            have hcz18_0 : w5.cell? ⟨gb187, 0, none⟩ = some (.int .i64 a0_0) := (blk_cell BK187.out 0).trans rfl
            have hcz18_1 : w5.cell? ⟨gb187, 1, none⟩ = some (.int .i64 a0_1) := (blk_cell BK187.out 1).trans rfl
            have hcz18_2 : w5.cell? ⟨gb187, 2, none⟩ = some (.int .i64 a0_2) := (blk_cell BK187.out 2).trans rfl
            have hcz18_3 : w5.cell? ⟨gb187, 3, none⟩ = some (.int .i64 a0_3) := (blk_cell BK187.out 3).trans rfl
            have hcz18_4 : w5.cell? ⟨gb187, 4, none⟩ = some (.int .i64 a0_4) := (blk_cell BK187.out 4).trans rfl
            have hcz18_5 : w5.cell? ⟨gb187, 5, none⟩ = some (.int .i64 a0_5) := (blk_cell BK187.out 5).trans rfl
            have hfz18_0 := blk_frozen BK187.out 0
            have hfz18_1 := blk_frozen BK187.out 1
            have hfz18_2 := blk_frozen BK187.out 2
            have hfz18_3 := blk_frozen BK187.out 3
            have hfz18_4 := blk_frozen BK187.out 4
            have hfz18_5 := blk_frozen BK187.out 5
            go_wp2
            go_meet
            case rel => exact ⟨_, (decide (a0_1 < 0)), (by first | rfl | (simp; done) | (simp [*]; done)), H', ⟨by first | omega | exact Nat.le_refl _⟩, ⟨by (with_reducible repeat (first | refine blk_drewN ?_ _ | refine blk_drew ?_ | refine blk_alloc ?_ _)); exact BK187.out⟩, ⟨by (with_reducible repeat (first | refine blk_drewN ?_ _ | refine blk_drew ?_ | refine blk_alloc ?_ _)); exact BK188.out⟩, ⟨by repeat (first | (with_reducible first | exact HB.out | apply below_alloc | apply pw_below_drewN | apply below_drew1 | refine below_set ?_ GE187.out | refine below_set ?_ GE188.out) | exact HB.out)⟩⟩
        · rw [if_neg c11] at H
          have c11b0 : (a1_2 == a0_2) = false := beq_eq_false_iff_ne.mpr c11
          have c11b1 : (a1_2 != a0_2) = true := bne_iff_ne.mpr c11
          by_cases c19 : a1_2 = 0
          · rw [if_pos c19] at H
            have c19b0 : (a1_2 == 0) = true := beq_iff_eq.mpr c19
            have c19b1 : (a1_2 != 0) = false := bne_eq_false_iff_eq.mpr c19
            clear c19
            by_cases c20 : a1_1 < 0
            · rw [if_pos c20] at H
              have c20b0 : decide (a1_1 < 0) = true := decide_eq_true c20
              clear c20
              have H' := Aside0.mk H
              clear H
              have hnb21 := NB188_187.out
              have hnc21 := NB187_188.out
              have hcz22_0 : w5.cell? ⟨gb188, 0, none⟩ = some (.int .i64 a1_0) := (blk_cell BK188.out 0).trans rfl
              have hcz22_1 : w5.cell? ⟨gb188, 1, none⟩ = some (.int .i64 a1_1) := (blk_cell BK188.out 1).trans rfl
              have hcz22_2 : w5.cell? ⟨gb188, 2, none⟩ = some (.int .i64 a1_2) := (blk_cell BK188.out 2).trans rfl
              have hcz22_3 : w5.cell? ⟨gb188, 3, none⟩ = some (.int .i64 a1_3) := (blk_cell BK188.out 3).trans rfl
              have hcz22_4 : w5.cell? ⟨gb188, 4, none⟩ = some (.int .i64 a1_4) := (blk_cell BK188.out 4).trans rfl
              have hcz22_5 : w5.cell? ⟨gb188, 5, none⟩ = some (.int .i64 a1_5) := (blk_cell BK188.out 5).trans rfl
              have hcz22_6 : w5.cell? ⟨gb188, 6, none⟩ = some (.int .i64 a1_6) := (blk_cell BK188.out 6).trans rfl
              have hcz22_7 : w5.cell? ⟨gb188, 7, none⟩ = some (.int .i64 a1_7) := (blk_cell BK188.out 7).trans rfl
              have hcz22_8 : w5.cell? ⟨gb188, 8, none⟩ = some (.int .i64 a1_8) := (blk_cell BK188.out 8).trans rfl
              have hcz22_9 : w5.cell? ⟨gb188, 9, none⟩ = some (.int .i64 a1_9) := (blk_cell BK188.out 9).trans rfl
              have hcz22_10 : w5.cell? ⟨gb188, 10, none⟩ = some (.bool a1_10) := (blk_cell BK188.out 10).trans rfl
              have hcz22_11 : w5.cell? ⟨gb188, 11, none⟩ = some (.bool a1_11) := (blk_cell BK188.out 11).trans rfl
              have hfz22_0 := blk_frozen BK188.out 0
              have hfz22_1 := blk_frozen BK188.out 1
              have hfz22_2 := blk_frozen BK188.out 2
              have hfz22_3 := blk_frozen BK188.out 3
              have hfz22_4 := blk_frozen BK188.out 4
              have hfz22_5 := blk_frozen BK188.out 5
              have hfz22_6 := blk_frozen BK188.out 6
              have hfz22_7 := blk_frozen BK188.out 7
              have hfz22_8 := blk_frozen BK188.out 8
              have hfz22_9 := blk_frozen BK188.out 9
              have hfz22_10 := blk_frozen BK188.out 10
              have hfz22_11 := blk_frozen BK188.out 11
              have hcz23_0 : w5.cell? ⟨gb187, 0, none⟩ = some (.int .i64 a0_0) := (blk_cell BK187.out 0).trans rfl
              have hcz23_1 : w5.cell? ⟨gb187, 1, none⟩ = some (.int .i64 a0_1) := (blk_cell BK187.out 1).trans rfl
              have hcz23_2 : w5.cell? ⟨gb187, 2, none⟩ = some (.int .i64 a0_2) := (blk_cell BK187.out 2).trans rfl
              have hcz23_3 : w5.cell? ⟨gb187, 3, none⟩ = some (.int .i64 a0_3) := (blk_cell BK187.out 3).trans rfl
              have hcz23_4 : w5.cell? ⟨gb187, 4, none⟩ = some (.int .i64 a0_4) := (blk_cell BK187.out 4).trans rfl
              have hcz23_5 : w5.cell? ⟨gb187, 5, none⟩ = some (.int .i64 a0_5) := (blk_cell BK187.out 5).trans rfl
              have hfz23_0 := blk_frozen BK187.out 0
              have hfz23_1 := blk_frozen BK187.out 1
              have hfz23_2 := blk_frozen BK187.out 2
              have hfz23_3 := blk_frozen BK187.out 3
              have hfz23_4 := blk_frozen BK187.out 4
              have hfz23_5 := blk_frozen BK187.out 5
              go_wp2
              go_meet
              case rel => exact ⟨_, (true), (by first | rfl | (simp; done) | (simp [*]; done)), H', ⟨by first | omega | exact Nat.le_refl _⟩, ⟨by (with_reducible repeat (first | refine blk_drewN ?_ _ | refine blk_drew ?_ | refine blk_alloc ?_ _)); exact BK187.out⟩, ⟨by (with_reducible repeat (first | refine blk_drewN ?_ _ | refine blk_drew ?_ | refine blk_alloc ?_ _)); exact BK188.out⟩, ⟨by repeat (first | (with_reducible first | exact HB.out | apply below_alloc | apply pw_below_drewN | apply below_drew1 | refine below_set ?_ GE187.out | refine below_set ?_ GE188.out) | exact HB.out)⟩⟩
            · rw [if_neg c20] at H
              have c20b0 : decide (a1_1 < 0) = false := decide_eq_false c20
              clear c20
              have H' := Aside0.mk H
              clear H
              have hnb24 := NB188_187.out
              have hnc24 := NB187_188.out
              have hcz25_0 : w5.cell? ⟨gb188, 0, none⟩ = some (.int .i64 a1_0) := (blk_cell BK188.out 0).trans rfl
              have hcz25_1 : w5.cell? ⟨gb188, 1, none⟩ = some (.int .i64 a1_1) := (blk_cell BK188.out 1).trans rfl
              have hcz25_2 : w5.cell? ⟨gb188, 2, none⟩ = some (.int .i64 a1_2) := (blk_cell BK188.out 2).trans rfl
              have hcz25_3 : w5.cell? ⟨gb188, 3, none⟩ = some (.int .i64 a1_3) := (blk_cell BK188.out 3).trans rfl
              have hcz25_4 : w5.cell? ⟨gb188, 4, none⟩ = some (.int .i64 a1_4) := (blk_cell BK188.out 4).trans rfl
              have hcz25_5 : w5.cell? ⟨gb188, 5, none⟩ = some (.int .i64 a1_5) := (blk_cell BK188.out 5).trans rfl
              have hcz25_6 : w5.cell? ⟨gb188, 6, none⟩ = some (.int .i64 a1_6) := (blk_cell BK188.out 6).trans rfl
              have hcz25_7 : w5.cell? ⟨gb188, 7, none⟩ = some (.int .i64 a1_7) := (blk_cell BK188.out 7).trans rfl
              have hcz25_8 : w5.cell? ⟨gb188, 8, none⟩ = some (.int .i64 a1_8) := (blk_cell BK188.out 8).trans rfl
              have hcz25_9 : w5.cell? ⟨gb188, 9, none⟩ = some (.int .i64 a1_9) := (blk_cell BK188.out 9).trans rfl
              have hcz25_10 : w5.cell? ⟨gb188, 10, none⟩ = some (.bool a1_10) := (blk_cell BK188.out 10).trans rfl
              have hcz25_11 : w5.cell? ⟨gb188, 11, none⟩ = some (.bool a1_11) := (blk_cell BK188.out 11).trans rfl
              have hfz25_0 := blk_frozen BK188.out 0
              have hfz25_1 := blk_frozen BK188.out 1
              have hfz25_2 := blk_frozen BK188.out 2
              have hfz25_3 := blk_frozen BK188.out 3
              have hfz25_4 := blk_frozen BK188.out 4
              have hfz25_5 := blk_frozen BK188.out 5
              have hfz25_6 := blk_frozen BK188.out 6
              have hfz25_7 := blk_frozen BK188.out 7
              have hfz25_8 := blk_frozen BK188.out 8
              have hfz25_9 := blk_frozen BK188.out 9
              have hfz25_10 := blk_frozen BK188.out 10
              have hfz25_11 := blk_frozen BK188.out 11
              have hcz26_0 : w5.cell? ⟨gb187, 0, none⟩ = some (.int .i64 a0_0) := (blk_cell BK187.out 0).trans rfl
              have hcz26_1 : w5.cell? ⟨gb187, 1, none⟩ = some (.int .i64 a0_1) := (blk_cell BK187.out 1).trans rfl
              have hcz26_2 : w5.cell? ⟨gb187, 2, none⟩ = some (.int .i64 a0_2) := (blk_cell BK187.out 2).trans rfl
              have hcz26_3 : w5.cell? ⟨gb187, 3, none⟩ = some (.int .i64 a0_3) := (blk_cell BK187.out 3).trans rfl
              have hcz26_4 : w5.cell? ⟨gb187, 4, none⟩ = some (.int .i64 a0_4) := (blk_cell BK187.out 4).trans rfl
              have hcz26_5 : w5.cell? ⟨gb187, 5, none⟩ = some (.int .i64 a0_5) := (blk_cell BK187.out 5).trans rfl
              have hfz26_0 := blk_frozen BK187.out 0
              have hfz26_1 := blk_frozen BK187.out 1
              have hfz26_2 := blk_frozen BK187.out 2
              have hfz26_3 := blk_frozen BK187.out 3
              have hfz26_4 := blk_frozen BK187.out 4
              have hfz26_5 := blk_frozen BK187.out 5
              go_wp2
              go_meet
              case rel => exact ⟨_, (decide (a0_1 < 0)), (by first | rfl | (simp; done) | (simp [*]; done)), H', ⟨by first | omega | exact Nat.le_refl _⟩, ⟨by (with_reducible repeat (first | refine blk_drewN ?_ _ | refine blk_drew ?_ | refine blk_alloc ?_ _)); exact BK187.out⟩, ⟨by (with_reducible repeat (first | refine blk_drewN ?_ _ | refine blk_drew ?_ | refine blk_alloc ?_ _)); exact BK188.out⟩, ⟨by repeat (first | (with_reducible first | exact HB.out | apply below_alloc | apply pw_below_drewN | apply below_drew1 | refine below_set ?_ GE187.out | refine below_set ?_ GE188.out) | exact HB.out)⟩⟩
          · rw [if_neg c19] at H
            have c19b0 : (a1_2 == 0) = false := beq_eq_false_iff_ne.mpr c19
            have c19b1 : (a1_2 != 0) = true := bne_iff_ne.mpr c19
            by_cases c27 : a0_2 = 0
            · rw [if_pos c27] at H
              have c27b0 : (a0_2 == 0) = true := beq_iff_eq.mpr c27
              have c27b1 : (a0_2 != 0) = false := bne_eq_false_iff_eq.mpr c27
              clear c27
              by_cases c28 : a1_1 < 0
              · rw [if_pos c28] at H
                have c28b0 : decide (a1_1 < 0) = true := decide_eq_true c28
                clear c28
                have H' := Aside0.mk H
                clear H
                have hnb29 := NB188_187.out
                have hnc29 := NB187_188.out
                have hcz30_0 : w5.cell? ⟨gb188, 0, none⟩ = some (.int .i64 a1_0) := (blk_cell BK188.out 0).trans rfl
                have hcz30_1 : w5.cell? ⟨gb188, 1, none⟩ = some (.int .i64 a1_1) := (blk_cell BK188.out 1).trans rfl
                have hcz30_2 : w5.cell? ⟨gb188, 2, none⟩ = some (.int .i64 a1_2) := (blk_cell BK188.out 2).trans rfl
                have hcz30_3 : w5.cell? ⟨gb188, 3, none⟩ = some (.int .i64 a1_3) := (blk_cell BK188.out 3).trans rfl
                have hcz30_4 : w5.cell? ⟨gb188, 4, none⟩ = some (.int .i64 a1_4) := (blk_cell BK188.out 4).trans rfl
                have hcz30_5 : w5.cell? ⟨gb188, 5, none⟩ = some (.int .i64 a1_5) := (blk_cell BK188.out 5).trans rfl
                have hcz30_6 : w5.cell? ⟨gb188, 6, none⟩ = some (.int .i64 a1_6) := (blk_cell BK188.out 6).trans rfl
                have hcz30_7 : w5.cell? ⟨gb188, 7, none⟩ = some (.int .i64 a1_7) := (blk_cell BK188.out 7).trans rfl
                have hcz30_8 : w5.cell? ⟨gb188, 8, none⟩ = some (.int .i64 a1_8) := (blk_cell BK188.out 8).trans rfl
                have hcz30_9 : w5.cell? ⟨gb188, 9, none⟩ = some (.int .i64 a1_9) := (blk_cell BK188.out 9).trans rfl
                have hcz30_10 : w5.cell? ⟨gb188, 10, none⟩ = some (.bool a1_10) := (blk_cell BK188.out 10).trans rfl
                have hcz30_11 : w5.cell? ⟨gb188, 11, none⟩ = some (.bool a1_11) := (blk_cell BK188.out 11).trans rfl
                have hfz30_0 := blk_frozen BK188.out 0
                have hfz30_1 := blk_frozen BK188.out 1
                have hfz30_2 := blk_frozen BK188.out 2
                have hfz30_3 := blk_frozen BK188.out 3
                have hfz30_4 := blk_frozen BK188.out 4
                have hfz30_5 := blk_frozen BK188.out 5
                have hfz30_6 := blk_frozen BK188.out 6
                have hfz30_7 := blk_frozen BK188.out 7
                have hfz30_8 := blk_frozen BK188.out 8
                have hfz30_9 := blk_frozen BK188.out 9
                have hfz30_10 := blk_frozen BK188.out 10
                have hfz30_11 := blk_frozen BK188.out 11
                have hcz31_0 : w5.cell? ⟨gb187, 0, none⟩ = some (.int .i64 a0_0) := (blk_cell BK187.out 0).trans rfl
                have hcz31_1 : w5.cell? ⟨gb187, 1, none⟩ = some (.int .i64 a0_1) := (blk_cell BK187.out 1).trans rfl
                have hcz31_2 : w5.cell? ⟨gb187, 2, none⟩ = some (.int .i64 a0_2) := (blk_cell BK187.out 2).trans rfl
                have hcz31_3 : w5.cell? ⟨gb187, 3, none⟩ = some (.int .i64 a0_3) := (blk_cell BK187.out 3).trans rfl
                have hcz31_4 : w5.cell? ⟨gb187, 4, none⟩ = some (.int .i64 a0_4) := (blk_cell BK187.out 4).trans rfl
                have hcz31_5 : w5.cell? ⟨gb187, 5, none⟩ = some (.int .i64 a0_5) := (blk_cell BK187.out 5).trans rfl
                have hfz31_0 := blk_frozen BK187.out 0
                have hfz31_1 := blk_frozen BK187.out 1
                have hfz31_2 := blk_frozen BK187.out 2
                have hfz31_3 := blk_frozen BK187.out 3
                have hfz31_4 := blk_frozen BK187.out 4
                have hfz31_5 := blk_frozen BK187.out 5
                go_wp2
                go_meet
                case rel => exact ⟨_, (true), (by first | rfl | (simp; done) | (simp [*]; done)), H', ⟨by first | omega | exact Nat.le_refl _⟩, ⟨by (with_reducible repeat (first | refine blk_drewN ?_ _ | refine blk_drew ?_ | refine blk_alloc ?_ _)); exact BK187.out⟩, ⟨by (with_reducible repeat (first | refine blk_drewN ?_ _ | refine blk_drew ?_ | refine blk_alloc ?_ _)); exact BK188.out⟩, ⟨by repeat (first | (with_reducible first | exact HB.out | apply below_alloc | apply pw_below_drewN | apply below_drew1 | refine below_set ?_ GE187.out | refine below_set ?_ GE188.out) | exact HB.out)⟩⟩
              · rw [if_neg c28] at H
                have c28b0 : decide (a1_1 < 0) = false := decide_eq_false c28
                clear c28
                have H' := Aside0.mk H
                clear H
                have hnb32 := NB188_187.out
                have hnc32 := NB187_188.out
                have hcz33_0 : w5.cell? ⟨gb188, 0, none⟩ = some (.int .i64 a1_0) := (blk_cell BK188.out 0).trans rfl
                have hcz33_1 : w5.cell? ⟨gb188, 1, none⟩ = some (.int .i64 a1_1) := (blk_cell BK188.out 1).trans rfl
                have hcz33_2 : w5.cell? ⟨gb188, 2, none⟩ = some (.int .i64 a1_2) := (blk_cell BK188.out 2).trans rfl
                have hcz33_3 : w5.cell? ⟨gb188, 3, none⟩ = some (.int .i64 a1_3) := (blk_cell BK188.out 3).trans rfl
                have hcz33_4 : w5.cell? ⟨gb188, 4, none⟩ = some (.int .i64 a1_4) := (blk_cell BK188.out 4).trans rfl
                have hcz33_5 : w5.cell? ⟨gb188, 5, none⟩ = some (.int .i64 a1_5) := (blk_cell BK188.out 5).trans rfl
                have hcz33_6 : w5.cell? ⟨gb188, 6, none⟩ = some (.int .i64 a1_6) := (blk_cell BK188.out 6).trans rfl
                have hcz33_7 : w5.cell? ⟨gb188, 7, none⟩ = some (.int .i64 a1_7) := (blk_cell BK188.out 7).trans rfl
                have hcz33_8 : w5.cell? ⟨gb188, 8, none⟩ = some (.int .i64 a1_8) := (blk_cell BK188.out 8).trans rfl
                have hcz33_9 : w5.cell? ⟨gb188, 9, none⟩ = some (.int .i64 a1_9) := (blk_cell BK188.out 9).trans rfl
                have hcz33_10 : w5.cell? ⟨gb188, 10, none⟩ = some (.bool a1_10) := (blk_cell BK188.out 10).trans rfl
                have hcz33_11 : w5.cell? ⟨gb188, 11, none⟩ = some (.bool a1_11) := (blk_cell BK188.out 11).trans rfl
                have hfz33_0 := blk_frozen BK188.out 0
                have hfz33_1 := blk_frozen BK188.out 1
                have hfz33_2 := blk_frozen BK188.out 2
                have hfz33_3 := blk_frozen BK188.out 3
                have hfz33_4 := blk_frozen BK188.out 4
                have hfz33_5 := blk_frozen BK188.out 5
                have hfz33_6 := blk_frozen BK188.out 6
                have hfz33_7 := blk_frozen BK188.out 7
                have hfz33_8 := blk_frozen BK188.out 8
                have hfz33_9 := blk_frozen BK188.out 9
                have hfz33_10 := blk_frozen BK188.out 10
                have hfz33_11 := blk_frozen BK188.out 11
                have hcz34_0 : w5.cell? ⟨gb187, 0, none⟩ = some (.int .i64 a0_0) := (blk_cell BK187.out 0).trans rfl
                have hcz34_1 : w5.cell? ⟨gb187, 1, none⟩ = some (.int .i64 a0_1) := (blk_cell BK187.out 1).trans rfl
                have hcz34_2 : w5.cell? ⟨gb187, 2, none⟩ = some (.int .i64 a0_2) := (blk_cell BK187.out 2).trans rfl
                have hcz34_3 : w5.cell? ⟨gb187, 3, none⟩ = some (.int .i64 a0_3) := (blk_cell BK187.out 3).trans rfl
                have hcz34_4 : w5.cell? ⟨gb187, 4, none⟩ = some (.int .i64 a0_4) := (blk_cell BK187.out 4).trans rfl
                have hcz34_5 : w5.cell? ⟨gb187, 5, none⟩ = some (.int .i64 a0_5) := (blk_cell BK187.out 5).trans rfl
                have hfz34_0 := blk_frozen BK187.out 0
                have hfz34_1 := blk_frozen BK187.out 1
                have hfz34_2 := blk_frozen BK187.out 2
                have hfz34_3 := blk_frozen BK187.out 3
                have hfz34_4 := blk_frozen BK187.out 4
                have hfz34_5 := blk_frozen BK187.out 5
                go_wp2
                go_meet
                case rel => exact ⟨_, (decide (a0_1 < 0)), (by first | rfl | (simp; done) | (simp [*]; done)), H', ⟨by first | omega | exact Nat.le_refl _⟩, ⟨by (with_reducible repeat (first | refine blk_drewN ?_ _ | refine blk_drew ?_ | refine blk_alloc ?_ _)); exact BK187.out⟩, ⟨by (with_reducible repeat (first | refine blk_drewN ?_ _ | refine blk_drew ?_ | refine blk_alloc ?_ _)); exact BK188.out⟩, ⟨by repeat (first | (with_reducible first | exact HB.out | apply below_alloc | apply pw_below_drewN | apply below_drew1 | refine below_set ?_ GE187.out | refine below_set ?_ GE188.out) | exact HB.out)⟩⟩
            · rw [if_neg c27] at H
              have c27b0 : (a0_2 == 0) = false := beq_eq_false_iff_ne.mpr c27
              have c27b1 : (a0_2 != 0) = true := bne_iff_ne.mpr c27
              have H' := Aside0.mk H
              clear H
              have hnb35 := NB188_187.out
              have hnc35 := NB187_188.out
              have hcz36_0 : w5.cell? ⟨gb188, 0, none⟩ = some (.int .i64 a1_0) := (blk_cell BK188.out 0).trans rfl
              have hcz36_1 : w5.cell? ⟨gb188, 1, none⟩ = some (.int .i64 a1_1) := (blk_cell BK188.out 1).trans rfl
              have hcz36_2 : w5.cell? ⟨gb188, 2, none⟩ = some (.int .i64 a1_2) := (blk_cell BK188.out 2).trans rfl
              have hcz36_3 : w5.cell? ⟨gb188, 3, none⟩ = some (.int .i64 a1_3) := (blk_cell BK188.out 3).trans rfl
              have hcz36_4 : w5.cell? ⟨gb188, 4, none⟩ = some (.int .i64 a1_4) := (blk_cell BK188.out 4).trans rfl
              have hcz36_5 : w5.cell? ⟨gb188, 5, none⟩ = some (.int .i64 a1_5) := (blk_cell BK188.out 5).trans rfl
              have hcz36_6 : w5.cell? ⟨gb188, 6, none⟩ = some (.int .i64 a1_6) := (blk_cell BK188.out 6).trans rfl
              have hcz36_7 : w5.cell? ⟨gb188, 7, none⟩ = some (.int .i64 a1_7) := (blk_cell BK188.out 7).trans rfl
              have hcz36_8 : w5.cell? ⟨gb188, 8, none⟩ = some (.int .i64 a1_8) := (blk_cell BK188.out 8).trans rfl
              have hcz36_9 : w5.cell? ⟨gb188, 9, none⟩ = some (.int .i64 a1_9) := (blk_cell BK188.out 9).trans rfl
              have hcz36_10 : w5.cell? ⟨gb188, 10, none⟩ = some (.bool a1_10) := (blk_cell BK188.out 10).trans rfl
              have hcz36_11 : w5.cell? ⟨gb188, 11, none⟩ = some (.bool a1_11) := (blk_cell BK188.out 11).trans rfl
              have hfz36_0 := blk_frozen BK188.out 0
              have hfz36_1 := blk_frozen BK188.out 1
              have hfz36_2 := blk_frozen BK188.out 2
              have hfz36_3 := blk_frozen BK188.out 3
              have hfz36_4 := blk_frozen BK188.out 4
              have hfz36_5 := blk_frozen BK188.out 5
              have hfz36_6 := blk_frozen BK188.out 6
              have hfz36_7 := blk_frozen BK188.out 7
              have hfz36_8 := blk_frozen BK188.out 8
              have hfz36_9 := blk_frozen BK188.out 9
              have hfz36_10 := blk_frozen BK188.out 10
              have hfz36_11 := blk_frozen BK188.out 11
              have hcz37_0 : w5.cell? ⟨gb187, 0, none⟩ = some (.int .i64 a0_0) := (blk_cell BK187.out 0).trans rfl
              have hcz37_1 : w5.cell? ⟨gb187, 1, none⟩ = some (.int .i64 a0_1) := (blk_cell BK187.out 1).trans rfl
              have hcz37_2 : w5.cell? ⟨gb187, 2, none⟩ = some (.int .i64 a0_2) := (blk_cell BK187.out 2).trans rfl
              have hcz37_3 : w5.cell? ⟨gb187, 3, none⟩ = some (.int .i64 a0_3) := (blk_cell BK187.out 3).trans rfl
              have hcz37_4 : w5.cell? ⟨gb187, 4, none⟩ = some (.int .i64 a0_4) := (blk_cell BK187.out 4).trans rfl
              have hcz37_5 : w5.cell? ⟨gb187, 5, none⟩ = some (.int .i64 a0_5) := (blk_cell BK187.out 5).trans rfl
              have hfz37_0 := blk_frozen BK187.out 0
              have hfz37_1 := blk_frozen BK187.out 1
              have hfz37_2 := blk_frozen BK187.out 2
              have hfz37_3 := blk_frozen BK187.out 3
              have hfz37_4 := blk_frozen BK187.out 4
              have hfz37_5 := blk_frozen BK187.out 5
              go_wp2
              go_meet
              case rel => exact ⟨_, (true), (by first | rfl | (simp; done) | (simp [*]; done)), H', ⟨by first | omega | exact Nat.le_refl _⟩, ⟨by (with_reducible repeat (first | refine blk_drewN ?_ _ | refine blk_drew ?_ | refine blk_alloc ?_ _)); exact BK187.out⟩, ⟨by (with_reducible repeat (first | refine blk_drewN ?_ _ | refine blk_drew ?_ | refine blk_alloc ?_ _)); exact BK188.out⟩, ⟨by repeat (first | (with_reducible first | exact HB.out | apply below_alloc | apply pw_below_drewN | apply below_drew1 | refine below_set ?_ GE187.out | refine below_set ?_ GE188.out) | exact HB.out)⟩⟩
      · rw [if_neg c10] at H
        have c10b0 : (a1_3 == a0_3) = false := beq_eq_false_iff_ne.mpr c10
        have c10b1 : (a1_3 != a0_3) = true := bne_iff_ne.mpr c10
        have H' := Aside0.mk H
        clear H
        have hnb38 := NB188_187.out
        have hnc38 := NB187_188.out
        have hcz39_0 : w5.cell? ⟨gb188, 0, none⟩ = some (.int .i64 a1_0) := (blk_cell BK188.out 0).trans rfl
        have hcz39_1 : w5.cell? ⟨gb188, 1, none⟩ = some (.int .i64 a1_1) := (blk_cell BK188.out 1).trans rfl
        have hcz39_2 : w5.cell? ⟨gb188, 2, none⟩ = some (.int .i64 a1_2) := (blk_cell BK188.out 2).trans rfl
        have hcz39_3 : w5.cell? ⟨gb188, 3, none⟩ = some (.int .i64 a1_3) := (blk_cell BK188.out 3).trans rfl
        have hcz39_4 : w5.cell? ⟨gb188, 4, none⟩ = some (.int .i64 a1_4) := (blk_cell BK188.out 4).trans rfl
        have hcz39_5 : w5.cell? ⟨gb188, 5, none⟩ = some (.int .i64 a1_5) := (blk_cell BK188.out 5).trans rfl
        have hcz39_6 : w5.cell? ⟨gb188, 6, none⟩ = some (.int .i64 a1_6) := (blk_cell BK188.out 6).trans rfl
        have hcz39_7 : w5.cell? ⟨gb188, 7, none⟩ = some (.int .i64 a1_7) := (blk_cell BK188.out 7).trans rfl
        have hcz39_8 : w5.cell? ⟨gb188, 8, none⟩ = some (.int .i64 a1_8) := (blk_cell BK188.out 8).trans rfl
        have hcz39_9 : w5.cell? ⟨gb188, 9, none⟩ = some (.int .i64 a1_9) := (blk_cell BK188.out 9).trans rfl
        have hcz39_10 : w5.cell? ⟨gb188, 10, none⟩ = some (.bool a1_10) := (blk_cell BK188.out 10).trans rfl
        have hcz39_11 : w5.cell? ⟨gb188, 11, none⟩ = some (.bool a1_11) := (blk_cell BK188.out 11).trans rfl
        have hfz39_0 := blk_frozen BK188.out 0
        have hfz39_1 := blk_frozen BK188.out 1
        have hfz39_2 := blk_frozen BK188.out 2
        have hfz39_3 := blk_frozen BK188.out 3
        have hfz39_4 := blk_frozen BK188.out 4
        have hfz39_5 := blk_frozen BK188.out 5
        have hfz39_6 := blk_frozen BK188.out 6
        have hfz39_7 := blk_frozen BK188.out 7
        have hfz39_8 := blk_frozen BK188.out 8
        have hfz39_9 := blk_frozen BK188.out 9
        have hfz39_10 := blk_frozen BK188.out 10
        have hfz39_11 := blk_frozen BK188.out 11
        have hcz40_0 : w5.cell? ⟨gb187, 0, none⟩ = some (.int .i64 a0_0) := (blk_cell BK187.out 0).trans rfl
        have hcz40_1 : w5.cell? ⟨gb187, 1, none⟩ = some (.int .i64 a0_1) := (blk_cell BK187.out 1).trans rfl
        have hcz40_2 : w5.cell? ⟨gb187, 2, none⟩ = some (.int .i64 a0_2) := (blk_cell BK187.out 2).trans rfl
        have hcz40_3 : w5.cell? ⟨gb187, 3, none⟩ = some (.int .i64 a0_3) := (blk_cell BK187.out 3).trans rfl
        have hcz40_4 : w5.cell? ⟨gb187, 4, none⟩ = some (.int .i64 a0_4) := (blk_cell BK187.out 4).trans rfl
        have hcz40_5 : w5.cell? ⟨gb187, 5, none⟩ = some (.int .i64 a0_5) := (blk_cell BK187.out 5).trans rfl
        have hfz40_0 := blk_frozen BK187.out 0
        have hfz40_1 := blk_frozen BK187.out 1
        have hfz40_2 := blk_frozen BK187.out 2
        have hfz40_3 := blk_frozen BK187.out 3
        have hfz40_4 := blk_frozen BK187.out 4
        have hfz40_5 := blk_frozen BK187.out 5
        go_wp2
        go_meet
        case rel => exact ⟨_, (true), (by first | rfl | (simp; done) | (simp [*]; done)), H', ⟨by first | omega | exact Nat.le_refl _⟩, ⟨by (with_reducible repeat (first | refine blk_drewN ?_ _ | refine blk_drew ?_ | refine blk_alloc ?_ _)); exact BK187.out⟩, ⟨by (with_reducible repeat (first | refine blk_drewN ?_ _ | refine blk_drew ?_ | refine blk_alloc ?_ _)); exact BK188.out⟩, ⟨by repeat (first | (with_reducible first | exact HB.out | apply below_alloc | apply pw_below_drewN | apply below_drew1 | refine below_set ?_ GE187.out | refine below_set ?_ GE188.out) | exact HB.out)⟩⟩
  case rest =>
    clear HC3
    try clear c1
    try clear c2
    try clear p2
    try clear c3
    try clear c6
    try clear c6b0
    try clear c6b1
    try clear c7
    try clear c10
    try clear c10b0
    try clear c10b1
    try clear c11
    try clear c11b0
    try clear c11b1
    try clear c12
    try clear c12b0
    try clear c13
    try clear c16
    try clear c19
    try clear c19b0
    try clear c19b1
    try clear c20
    try clear c20b0
    try clear c21
    try clear c24
    try clear c27
    try clear c27b0
    try clear c27b1
    try clear c28
    try clear c28b0
    try clear c29
    try clear c32
    try clear c35
    try clear c38
    try clear hcz14_0
    try clear hcz14_1
    try clear hcz14_10
    try clear hcz14_11
    try clear hcz14_2
    try clear hcz14_3
    try clear hcz14_4
    try clear hcz14_5
    try clear hcz14_6
    try clear hcz14_7
    try clear hcz14_8
    try clear hcz14_9
    try clear hcz15_0
    try clear hcz15_1
    try clear hcz15_2
    try clear hcz15_3
    try clear hcz15_4
    try clear hcz15_5
    try clear hcz17_0
    try clear hcz17_1
    try clear hcz17_10
    try clear hcz17_11
    try clear hcz17_2
    try clear hcz17_3
    try clear hcz17_4
    try clear hcz17_5
    try clear hcz17_6
    try clear hcz17_7
    try clear hcz17_8
    try clear hcz17_9
    try clear hcz18_0
    try clear hcz18_1
    try clear hcz18_2
    try clear hcz18_3
    try clear hcz18_4
    try clear hcz18_5
    try clear hcz22_0
    try clear hcz22_1
    try clear hcz22_10
    try clear hcz22_11
    try clear hcz22_2
    try clear hcz22_3
    try clear hcz22_4
    try clear hcz22_5
    try clear hcz22_6
    try clear hcz22_7
    try clear hcz22_8
    try clear hcz22_9
    try clear hcz23_0
    try clear hcz23_1
    try clear hcz23_2
    try clear hcz23_3
    try clear hcz23_4
    try clear hcz23_5
    try clear hcz25_0
    try clear hcz25_1
    try clear hcz25_10
    try clear hcz25_11
    try clear hcz25_2
    try clear hcz25_3
    try clear hcz25_4
    try clear hcz25_5
    try clear hcz25_6
    try clear hcz25_7
    try clear hcz25_8
    try clear hcz25_9
    try clear hcz26_0
    try clear hcz26_1
    try clear hcz26_2
    try clear hcz26_3
    try clear hcz26_4
    try clear hcz26_5
    try clear hcz30_0
    try clear hcz30_1
    try clear hcz30_10
    try clear hcz30_11
    try clear hcz30_2
    try clear hcz30_3
    try clear hcz30_4
    try clear hcz30_5
    try clear hcz30_6
    try clear hcz30_7
    try clear hcz30_8
    try clear hcz30_9
    try clear hcz31_0
    try clear hcz31_1
    try clear hcz31_2
    try clear hcz31_3
    try clear hcz31_4
    try clear hcz31_5
    try clear hcz33_0
    try clear hcz33_1
    try clear hcz33_10
    try clear hcz33_11
    try clear hcz33_2
    try clear hcz33_3
    try clear hcz33_4
    try clear hcz33_5
    try clear hcz33_6
    try clear hcz33_7
    try clear hcz33_8
    try clear hcz33_9
    try clear hcz34_0
    try clear hcz34_1
    try clear hcz34_2
    try clear hcz34_3
    try clear hcz34_4
    try clear hcz34_5
    try clear hcz36_0
    try clear hcz36_1
    try clear hcz36_10
    try clear hcz36_11
    try clear hcz36_2
    try clear hcz36_3
    try clear hcz36_4
    try clear hcz36_5
    try clear hcz36_6
    try clear hcz36_7
    try clear hcz36_8
    try clear hcz36_9
    try clear hcz37_0
    try clear hcz37_1
    try clear hcz37_2
    try clear hcz37_3
    try clear hcz37_4
    try clear hcz37_5
    try clear hcz39_0
    try clear hcz39_1
    try clear hcz39_10
    try clear hcz39_11
    try clear hcz39_2
    try clear hcz39_3
    try clear hcz39_4
    try clear hcz39_5
    try clear hcz39_6
    try clear hcz39_7
    try clear hcz39_8
    try clear hcz39_9
    try clear hcz40_0
    try clear hcz40_1
    try clear hcz40_2
    try clear hcz40_3
    try clear hcz40_4
    try clear hcz40_5
    try clear hcz8_0
    try clear hcz8_1
    try clear hcz8_10
    try clear hcz8_11
    try clear hcz8_2
    try clear hcz8_3
    try clear hcz8_4
    try clear hcz8_5
    try clear hcz8_6
    try clear hcz8_7
    try clear hcz8_8
    try clear hcz8_9
    try clear hcz9_0
    try clear hcz9_1
    try clear hcz9_2
    try clear hcz9_3
    try clear hcz9_4
    try clear hcz9_5
    try clear hfz14_0
    try clear hfz14_1
    try clear hfz14_10
    try clear hfz14_11
    try clear hfz14_2
    try clear hfz14_3
    try clear hfz14_4
    try clear hfz14_5
    try clear hfz14_6
    try clear hfz14_7
    try clear hfz14_8
    try clear hfz14_9
    try clear hfz15_0
    try clear hfz15_1
    try clear hfz15_2
    try clear hfz15_3
    try clear hfz15_4
    try clear hfz15_5
    try clear hfz17_0
    try clear hfz17_1
    try clear hfz17_10
    try clear hfz17_11
    try clear hfz17_2
    try clear hfz17_3
    try clear hfz17_4
    try clear hfz17_5
    try clear hfz17_6
    try clear hfz17_7
    try clear hfz17_8
    try clear hfz17_9
    try clear hfz18_0
    try clear hfz18_1
    try clear hfz18_2
    try clear hfz18_3
    try clear hfz18_4
    try clear hfz18_5
    try clear hfz22_0
    try clear hfz22_1
    try clear hfz22_10
    try clear hfz22_11
    try clear hfz22_2
    try clear hfz22_3
    try clear hfz22_4
    try clear hfz22_5
    try clear hfz22_6
    try clear hfz22_7
    try clear hfz22_8
    try clear hfz22_9
    try clear hfz23_0
    try clear hfz23_1
    try clear hfz23_2
    try clear hfz23_3
    try clear hfz23_4
    try clear hfz23_5
    try clear hfz25_0
    try clear hfz25_1
    try clear hfz25_10
    try clear hfz25_11
    try clear hfz25_2
    try clear hfz25_3
    try clear hfz25_4
    try clear hfz25_5
    try clear hfz25_6
    try clear hfz25_7
    try clear hfz25_8
    try clear hfz25_9
    try clear hfz26_0
    try clear hfz26_1
    try clear hfz26_2
    try clear hfz26_3
    try clear hfz26_4
    try clear hfz26_5
    try clear hfz30_0
    try clear hfz30_1
    try clear hfz30_10
    try clear hfz30_11
    try clear hfz30_2
    try clear hfz30_3
    try clear hfz30_4
    try clear hfz30_5
    try clear hfz30_6
    try clear hfz30_7
    try clear hfz30_8
    try clear hfz30_9
    try clear hfz31_0
    try clear hfz31_1
    try clear hfz31_2
    try clear hfz31_3
    try clear hfz31_4
    try clear hfz31_5
    try clear hfz33_0
    try clear hfz33_1
    try clear hfz33_10
    try clear hfz33_11
    try clear hfz33_2
    try clear hfz33_3
    try clear hfz33_4
    try clear hfz33_5
    try clear hfz33_6
    try clear hfz33_7
    try clear hfz33_8
    try clear hfz33_9
    try clear hfz34_0
    try clear hfz34_1
    try clear hfz34_2
    try clear hfz34_3
    try clear hfz34_4
    try clear hfz34_5
    try clear hfz36_0
    try clear hfz36_1
    try clear hfz36_10
    try clear hfz36_11
    try clear hfz36_2
    try clear hfz36_3
    try clear hfz36_4
    try clear hfz36_5
    try clear hfz36_6
    try clear hfz36_7
    try clear hfz36_8
    try clear hfz36_9
    try clear hfz37_0
    try clear hfz37_1
    try clear hfz37_2
    try clear hfz37_3
    try clear hfz37_4
    try clear hfz37_5
    try clear hfz39_0
    try clear hfz39_1
    try clear hfz39_10
    try clear hfz39_11
    try clear hfz39_2
    try clear hfz39_3
    try clear hfz39_4
    try clear hfz39_5
    try clear hfz39_6
    try clear hfz39_7
    try clear hfz39_8
    try clear hfz39_9
    try clear hfz40_0
    try clear hfz40_1
    try clear hfz40_2
    try clear hfz40_3
    try clear hfz40_4
    try clear hfz40_5
    try clear hfz8_0
    try clear hfz8_1
    try clear hfz8_10
    try clear hfz8_11
    try clear hfz8_2
    try clear hfz8_3
    try clear hfz8_4
    try clear hfz8_5
    try clear hfz8_6
    try clear hfz8_7
    try clear hfz8_8
    try clear hfz8_9
    try clear hfz9_0
    try clear hfz9_1
    try clear hfz9_2
    try clear hfz9_3
    try clear hfz9_4
    try clear hfz9_5
    obtain ⟨kq, x43_2, rfl, HA, HJ2, BK187, BK188, HB⟩ := hcut
    cases kq with
    | zero => exact absurd HA.out (by simp [selvageref09_Accepts.j0])
    | succ kj2 =>
      have H := HA.out
      clear HA
      simp only [selvageref09_Accepts.j0] at H
      by_cases c41 : x43_2 = true
      · subst c41
        have H1 : (some false) = some r := by rw [if_pos rfl] at H; exact H
        clear H
        have H := H1
        clear H1
        obtain rfl := Option.some.inj H
        go_wp2
        go_ret
        exact ⟨by first | rfl | (simp [errW_none, errW_some] <;> rfl) | (simp [*, errW_none, errW_some] <;> rfl), by repeat (first | (with_reducible first | exact HB.out | apply below_alloc | apply pw_below_drewN | apply below_drew1 | refine below_set ?_ GE187.out | refine below_set ?_ GE188.out) | exact HB.out)⟩
      · replace c41 := Bool.eq_false_iff.mpr c41
        subst c41
        have H1 : (if a1_1 = a0_1 then (some (a1_1 != 0)) else (if a1_1 = 0 then (some true) else (if a0_1 = 0 then (some true) else (if (wrap64 (a1_1 - a0_1)) = 1 then (some true) else (some ((wrap64 (a0_1 - a1_1)) == 1)))))) = some r := by rw [if_neg (show ¬ (false = true) by decide)] at H; exact H
        clear H
        have H := H1
        clear H1
        by_cases c42 : a1_1 = a0_1
        · rw [if_pos c42] at H
          have c42b0 : (a1_1 == a0_1) = true := beq_iff_eq.mpr c42
          have c42b1 : (a1_1 != a0_1) = false := bne_eq_false_iff_eq.mpr c42
          clear c42
          obtain rfl := Option.some.inj H
          have hnb43 := NB188_187.out
          have hnc43 := NB187_188.out
          have hcz44_0 : wc.cell? ⟨gb188, 0, none⟩ = some (.int .i64 a1_0) := (blk_cell BK188.out 0).trans rfl
          have hcz44_1 : wc.cell? ⟨gb188, 1, none⟩ = some (.int .i64 a1_1) := (blk_cell BK188.out 1).trans rfl
          have hcz44_2 : wc.cell? ⟨gb188, 2, none⟩ = some (.int .i64 a1_2) := (blk_cell BK188.out 2).trans rfl
          have hcz44_3 : wc.cell? ⟨gb188, 3, none⟩ = some (.int .i64 a1_3) := (blk_cell BK188.out 3).trans rfl
          have hcz44_4 : wc.cell? ⟨gb188, 4, none⟩ = some (.int .i64 a1_4) := (blk_cell BK188.out 4).trans rfl
          have hcz44_5 : wc.cell? ⟨gb188, 5, none⟩ = some (.int .i64 a1_5) := (blk_cell BK188.out 5).trans rfl
          have hcz44_6 : wc.cell? ⟨gb188, 6, none⟩ = some (.int .i64 a1_6) := (blk_cell BK188.out 6).trans rfl
          have hcz44_7 : wc.cell? ⟨gb188, 7, none⟩ = some (.int .i64 a1_7) := (blk_cell BK188.out 7).trans rfl
          have hcz44_8 : wc.cell? ⟨gb188, 8, none⟩ = some (.int .i64 a1_8) := (blk_cell BK188.out 8).trans rfl
          have hcz44_9 : wc.cell? ⟨gb188, 9, none⟩ = some (.int .i64 a1_9) := (blk_cell BK188.out 9).trans rfl
          have hcz44_10 : wc.cell? ⟨gb188, 10, none⟩ = some (.bool a1_10) := (blk_cell BK188.out 10).trans rfl
          have hcz44_11 : wc.cell? ⟨gb188, 11, none⟩ = some (.bool a1_11) := (blk_cell BK188.out 11).trans rfl
          have hfz44_0 := blk_frozen BK188.out 0
          have hfz44_1 := blk_frozen BK188.out 1
          have hfz44_2 := blk_frozen BK188.out 2
          have hfz44_3 := blk_frozen BK188.out 3
          have hfz44_4 := blk_frozen BK188.out 4
          have hfz44_5 := blk_frozen BK188.out 5
          have hfz44_6 := blk_frozen BK188.out 6
          have hfz44_7 := blk_frozen BK188.out 7
          have hfz44_8 := blk_frozen BK188.out 8
          have hfz44_9 := blk_frozen BK188.out 9
          have hfz44_10 := blk_frozen BK188.out 10
          have hfz44_11 := blk_frozen BK188.out 11
          have hcz45_0 : wc.cell? ⟨gb187, 0, none⟩ = some (.int .i64 a0_0) := (blk_cell BK187.out 0).trans rfl
          have hcz45_1 : wc.cell? ⟨gb187, 1, none⟩ = some (.int .i64 a0_1) := (blk_cell BK187.out 1).trans rfl
          have hcz45_2 : wc.cell? ⟨gb187, 2, none⟩ = some (.int .i64 a0_2) := (blk_cell BK187.out 2).trans rfl
          have hcz45_3 : wc.cell? ⟨gb187, 3, none⟩ = some (.int .i64 a0_3) := (blk_cell BK187.out 3).trans rfl
          have hcz45_4 : wc.cell? ⟨gb187, 4, none⟩ = some (.int .i64 a0_4) := (blk_cell BK187.out 4).trans rfl
          have hcz45_5 : wc.cell? ⟨gb187, 5, none⟩ = some (.int .i64 a0_5) := (blk_cell BK187.out 5).trans rfl
          have hfz45_0 := blk_frozen BK187.out 0
          have hfz45_1 := blk_frozen BK187.out 1
          have hfz45_2 := blk_frozen BK187.out 2
          have hfz45_3 := blk_frozen BK187.out 3
          have hfz45_4 := blk_frozen BK187.out 4
          have hfz45_5 := blk_frozen BK187.out 5
          go_wp2
          go_ret
          exact ⟨by first | rfl | (simp [errW_none, errW_some] <;> rfl) | (simp [*, errW_none, errW_some] <;> rfl), by repeat (first | (with_reducible first | exact HB.out | apply below_alloc | apply pw_below_drewN | apply below_drew1 | refine below_set ?_ GE187.out | refine below_set ?_ GE188.out) | exact HB.out)⟩
        · rw [if_neg c42] at H
          have c42b0 : (a1_1 == a0_1) = false := beq_eq_false_iff_ne.mpr c42
          have c42b1 : (a1_1 != a0_1) = true := bne_iff_ne.mpr c42
          by_cases c46 : a1_1 = 0
          · rw [if_pos c46] at H
            have c46b0 : (a1_1 == 0) = true := beq_iff_eq.mpr c46
            have c46b1 : (a1_1 != 0) = false := bne_eq_false_iff_eq.mpr c46
            clear c46
            obtain rfl := Option.some.inj H
            have hnb47 := NB188_187.out
            have hnc47 := NB187_188.out
            have hcz48_0 : wc.cell? ⟨gb188, 0, none⟩ = some (.int .i64 a1_0) := (blk_cell BK188.out 0).trans rfl
            have hcz48_1 : wc.cell? ⟨gb188, 1, none⟩ = some (.int .i64 a1_1) := (blk_cell BK188.out 1).trans rfl
            have hcz48_2 : wc.cell? ⟨gb188, 2, none⟩ = some (.int .i64 a1_2) := (blk_cell BK188.out 2).trans rfl
            have hcz48_3 : wc.cell? ⟨gb188, 3, none⟩ = some (.int .i64 a1_3) := (blk_cell BK188.out 3).trans rfl
            have hcz48_4 : wc.cell? ⟨gb188, 4, none⟩ = some (.int .i64 a1_4) := (blk_cell BK188.out 4).trans rfl
            have hcz48_5 : wc.cell? ⟨gb188, 5, none⟩ = some (.int .i64 a1_5) := (blk_cell BK188.out 5).trans rfl
            have hcz48_6 : wc.cell? ⟨gb188, 6, none⟩ = some (.int .i64 a1_6) := (blk_cell BK188.out 6).trans rfl
            have hcz48_7 : wc.cell? ⟨gb188, 7, none⟩ = some (.int .i64 a1_7) := (blk_cell BK188.out 7).trans rfl
            have hcz48_8 : wc.cell? ⟨gb188, 8, none⟩ = some (.int .i64 a1_8) := (blk_cell BK188.out 8).trans rfl
            have hcz48_9 : wc.cell? ⟨gb188, 9, none⟩ = some (.int .i64 a1_9) := (blk_cell BK188.out 9).trans rfl
            have hcz48_10 : wc.cell? ⟨gb188, 10, none⟩ = some (.bool a1_10) := (blk_cell BK188.out 10).trans rfl
            have hcz48_11 : wc.cell? ⟨gb188, 11, none⟩ = some (.bool a1_11) := (blk_cell BK188.out 11).trans rfl
            have hfz48_0 := blk_frozen BK188.out 0
            have hfz48_1 := blk_frozen BK188.out 1
            have hfz48_2 := blk_frozen BK188.out 2
            have hfz48_3 := blk_frozen BK188.out 3
            have hfz48_4 := blk_frozen BK188.out 4
            have hfz48_5 := blk_frozen BK188.out 5
            have hfz48_6 := blk_frozen BK188.out 6
            have hfz48_7 := blk_frozen BK188.out 7
            have hfz48_8 := blk_frozen BK188.out 8
            have hfz48_9 := blk_frozen BK188.out 9
            have hfz48_10 := blk_frozen BK188.out 10
            have hfz48_11 := blk_frozen BK188.out 11
            have hcz49_0 : wc.cell? ⟨gb187, 0, none⟩ = some (.int .i64 a0_0) := (blk_cell BK187.out 0).trans rfl
            have hcz49_1 : wc.cell? ⟨gb187, 1, none⟩ = some (.int .i64 a0_1) := (blk_cell BK187.out 1).trans rfl
            have hcz49_2 : wc.cell? ⟨gb187, 2, none⟩ = some (.int .i64 a0_2) := (blk_cell BK187.out 2).trans rfl
            have hcz49_3 : wc.cell? ⟨gb187, 3, none⟩ = some (.int .i64 a0_3) := (blk_cell BK187.out 3).trans rfl
            have hcz49_4 : wc.cell? ⟨gb187, 4, none⟩ = some (.int .i64 a0_4) := (blk_cell BK187.out 4).trans rfl
            have hcz49_5 : wc.cell? ⟨gb187, 5, none⟩ = some (.int .i64 a0_5) := (blk_cell BK187.out 5).trans rfl
            have hfz49_0 := blk_frozen BK187.out 0
            have hfz49_1 := blk_frozen BK187.out 1
            have hfz49_2 := blk_frozen BK187.out 2
            have hfz49_3 := blk_frozen BK187.out 3
            have hfz49_4 := blk_frozen BK187.out 4
            have hfz49_5 := blk_frozen BK187.out 5
            go_wp2
            go_ret
            exact ⟨by first | rfl | (simp [errW_none, errW_some] <;> rfl) | (simp [*, errW_none, errW_some] <;> rfl), by repeat (first | (with_reducible first | exact HB.out | apply below_alloc | apply pw_below_drewN | apply below_drew1 | refine below_set ?_ GE187.out | refine below_set ?_ GE188.out) | exact HB.out)⟩
          · rw [if_neg c46] at H
            have c46b0 : (a1_1 == 0) = false := beq_eq_false_iff_ne.mpr c46
            have c46b1 : (a1_1 != 0) = true := bne_iff_ne.mpr c46
            by_cases c50 : a0_1 = 0
            · rw [if_pos c50] at H
              have c50b0 : (a0_1 == 0) = true := beq_iff_eq.mpr c50
              have c50b1 : (a0_1 != 0) = false := bne_eq_false_iff_eq.mpr c50
              clear c50
              obtain rfl := Option.some.inj H
              have hnb51 := NB188_187.out
              have hnc51 := NB187_188.out
              have hcz52_0 : wc.cell? ⟨gb188, 0, none⟩ = some (.int .i64 a1_0) := (blk_cell BK188.out 0).trans rfl
              have hcz52_1 : wc.cell? ⟨gb188, 1, none⟩ = some (.int .i64 a1_1) := (blk_cell BK188.out 1).trans rfl
              have hcz52_2 : wc.cell? ⟨gb188, 2, none⟩ = some (.int .i64 a1_2) := (blk_cell BK188.out 2).trans rfl
              have hcz52_3 : wc.cell? ⟨gb188, 3, none⟩ = some (.int .i64 a1_3) := (blk_cell BK188.out 3).trans rfl
              have hcz52_4 : wc.cell? ⟨gb188, 4, none⟩ = some (.int .i64 a1_4) := (blk_cell BK188.out 4).trans rfl
              have hcz52_5 : wc.cell? ⟨gb188, 5, none⟩ = some (.int .i64 a1_5) := (blk_cell BK188.out 5).trans rfl
              have hcz52_6 : wc.cell? ⟨gb188, 6, none⟩ = some (.int .i64 a1_6) := (blk_cell BK188.out 6).trans rfl
              have hcz52_7 : wc.cell? ⟨gb188, 7, none⟩ = some (.int .i64 a1_7) := (blk_cell BK188.out 7).trans rfl
              have hcz52_8 : wc.cell? ⟨gb188, 8, none⟩ = some (.int .i64 a1_8) := (blk_cell BK188.out 8).trans rfl
              have hcz52_9 : wc.cell? ⟨gb188, 9, none⟩ = some (.int .i64 a1_9) := (blk_cell BK188.out 9).trans rfl
              have hcz52_10 : wc.cell? ⟨gb188, 10, none⟩ = some (.bool a1_10) := (blk_cell BK188.out 10).trans rfl
              have hcz52_11 : wc.cell? ⟨gb188, 11, none⟩ = some (.bool a1_11) := (blk_cell BK188.out 11).trans rfl
              have hfz52_0 := blk_frozen BK188.out 0
              have hfz52_1 := blk_frozen BK188.out 1
              have hfz52_2 := blk_frozen BK188.out 2
              have hfz52_3 := blk_frozen BK188.out 3
              have hfz52_4 := blk_frozen BK188.out 4
              have hfz52_5 := blk_frozen BK188.out 5
              have hfz52_6 := blk_frozen BK188.out 6
              have hfz52_7 := blk_frozen BK188.out 7
              have hfz52_8 := blk_frozen BK188.out 8
              have hfz52_9 := blk_frozen BK188.out 9
              have hfz52_10 := blk_frozen BK188.out 10
              have hfz52_11 := blk_frozen BK188.out 11
              have hcz53_0 : wc.cell? ⟨gb187, 0, none⟩ = some (.int .i64 a0_0) := (blk_cell BK187.out 0).trans rfl
              have hcz53_1 : wc.cell? ⟨gb187, 1, none⟩ = some (.int .i64 a0_1) := (blk_cell BK187.out 1).trans rfl
              have hcz53_2 : wc.cell? ⟨gb187, 2, none⟩ = some (.int .i64 a0_2) := (blk_cell BK187.out 2).trans rfl
              have hcz53_3 : wc.cell? ⟨gb187, 3, none⟩ = some (.int .i64 a0_3) := (blk_cell BK187.out 3).trans rfl
              have hcz53_4 : wc.cell? ⟨gb187, 4, none⟩ = some (.int .i64 a0_4) := (blk_cell BK187.out 4).trans rfl
              have hcz53_5 : wc.cell? ⟨gb187, 5, none⟩ = some (.int .i64 a0_5) := (blk_cell BK187.out 5).trans rfl
              have hfz53_0 := blk_frozen BK187.out 0
              have hfz53_1 := blk_frozen BK187.out 1
              have hfz53_2 := blk_frozen BK187.out 2
              have hfz53_3 := blk_frozen BK187.out 3
              have hfz53_4 := blk_frozen BK187.out 4
              have hfz53_5 := blk_frozen BK187.out 5
              go_wp2
              go_ret
              exact ⟨by first | rfl | (simp [errW_none, errW_some] <;> rfl) | (simp [*, errW_none, errW_some] <;> rfl), by repeat (first | (with_reducible first | exact HB.out | apply below_alloc | apply pw_below_drewN | apply below_drew1 | refine below_set ?_ GE187.out | refine below_set ?_ GE188.out) | exact HB.out)⟩
            · rw [if_neg c50] at H
              have c50b0 : (a0_1 == 0) = false := beq_eq_false_iff_ne.mpr c50
              have c50b1 : (a0_1 != 0) = true := bne_iff_ne.mpr c50
              by_cases c54 : (wrap64 (a1_1 - a0_1)) = 1
              · rw [if_pos c54] at H
                have c54b0 : ((wrap64 (a1_1 - a0_1)) == 1) = true := beq_iff_eq.mpr c54
                have c54b1 : ((wrap64 (a1_1 - a0_1)) != 1) = false := bne_eq_false_iff_eq.mpr c54
                clear c54
                obtain rfl := Option.some.inj H
                have hnb55 := NB188_187.out
                have hnc55 := NB187_188.out
                have hcz56_0 : wc.cell? ⟨gb188, 0, none⟩ = some (.int .i64 a1_0) := (blk_cell BK188.out 0).trans rfl
                have hcz56_1 : wc.cell? ⟨gb188, 1, none⟩ = some (.int .i64 a1_1) := (blk_cell BK188.out 1).trans rfl
                have hcz56_2 : wc.cell? ⟨gb188, 2, none⟩ = some (.int .i64 a1_2) := (blk_cell BK188.out 2).trans rfl
                have hcz56_3 : wc.cell? ⟨gb188, 3, none⟩ = some (.int .i64 a1_3) := (blk_cell BK188.out 3).trans rfl
                have hcz56_4 : wc.cell? ⟨gb188, 4, none⟩ = some (.int .i64 a1_4) := (blk_cell BK188.out 4).trans rfl
                have hcz56_5 : wc.cell? ⟨gb188, 5, none⟩ = some (.int .i64 a1_5) := (blk_cell BK188.out 5).trans rfl
                have hcz56_6 : wc.cell? ⟨gb188, 6, none⟩ = some (.int .i64 a1_6) := (blk_cell BK188.out 6).trans rfl
                have hcz56_7 : wc.cell? ⟨gb188, 7, none⟩ = some (.int .i64 a1_7) := (blk_cell BK188.out 7).trans rfl
                have hcz56_8 : wc.cell? ⟨gb188, 8, none⟩ = some (.int .i64 a1_8) := (blk_cell BK188.out 8).trans rfl
                have hcz56_9 : wc.cell? ⟨gb188, 9, none⟩ = some (.int .i64 a1_9) := (blk_cell BK188.out 9).trans rfl
                have hcz56_10 : wc.cell? ⟨gb188, 10, none⟩ = some (.bool a1_10) := (blk_cell BK188.out 10).trans rfl
                have hcz56_11 : wc.cell? ⟨gb188, 11, none⟩ = some (.bool a1_11) := (blk_cell BK188.out 11).trans rfl
                have hfz56_0 := blk_frozen BK188.out 0
                have hfz56_1 := blk_frozen BK188.out 1
                have hfz56_2 := blk_frozen BK188.out 2
                have hfz56_3 := blk_frozen BK188.out 3
                have hfz56_4 := blk_frozen BK188.out 4
                have hfz56_5 := blk_frozen BK188.out 5
                have hfz56_6 := blk_frozen BK188.out 6
                have hfz56_7 := blk_frozen BK188.out 7
                have hfz56_8 := blk_frozen BK188.out 8
                have hfz56_9 := blk_frozen BK188.out 9
                have hfz56_10 := blk_frozen BK188.out 10
                have hfz56_11 := blk_frozen BK188.out 11
                have hcz57_0 : wc.cell? ⟨gb187, 0, none⟩ = some (.int .i64 a0_0) := (blk_cell BK187.out 0).trans rfl
                have hcz57_1 : wc.cell? ⟨gb187, 1, none⟩ = some (.int .i64 a0_1) := (blk_cell BK187.out 1).trans rfl
                have hcz57_2 : wc.cell? ⟨gb187, 2, none⟩ = some (.int .i64 a0_2) := (blk_cell BK187.out 2).trans rfl
                have hcz57_3 : wc.cell? ⟨gb187, 3, none⟩ = some (.int .i64 a0_3) := (blk_cell BK187.out 3).trans rfl
                have hcz57_4 : wc.cell? ⟨gb187, 4, none⟩ = some (.int .i64 a0_4) := (blk_cell BK187.out 4).trans rfl
                have hcz57_5 : wc.cell? ⟨gb187, 5, none⟩ = some (.int .i64 a0_5) := (blk_cell BK187.out 5).trans rfl
                have hfz57_0 := blk_frozen BK187.out 0
                have hfz57_1 := blk_frozen BK187.out 1
                have hfz57_2 := blk_frozen BK187.out 2
                have hfz57_3 := blk_frozen BK187.out 3
                have hfz57_4 := blk_frozen BK187.out 4
                have hfz57_5 := blk_frozen BK187.out 5
                go_wp2
                go_ret
                exact ⟨by first | rfl | (simp [errW_none, errW_some] <;> rfl) | (simp [*, errW_none, errW_some] <;> rfl), by repeat (first | (with_reducible first | exact HB.out | apply below_alloc | apply pw_below_drewN | apply below_drew1 | refine below_set ?_ GE187.out | refine below_set ?_ GE188.out) | exact HB.out)⟩
              · rw [if_neg c54] at H
                have c54b0 : ((wrap64 (a1_1 - a0_1)) == 1) = false := beq_eq_false_iff_ne.mpr c54
                have c54b1 : ((wrap64 (a1_1 - a0_1)) != 1) = true := bne_iff_ne.mpr c54
                obtain rfl := Option.some.inj H
                have hnb58 := NB188_187.out
                have hnc58 := NB187_188.out
                have hcz59_0 : wc.cell? ⟨gb188, 0, none⟩ = some (.int .i64 a1_0) := (blk_cell BK188.out 0).trans rfl
                have hcz59_1 : wc.cell? ⟨gb188, 1, none⟩ = some (.int .i64 a1_1) := (blk_cell BK188.out 1).trans rfl
                have hcz59_2 : wc.cell? ⟨gb188, 2, none⟩ = some (.int .i64 a1_2) := (blk_cell BK188.out 2).trans rfl
                have hcz59_3 : wc.cell? ⟨gb188, 3, none⟩ = some (.int .i64 a1_3) := (blk_cell BK188.out 3).trans rfl
                have hcz59_4 : wc.cell? ⟨gb188, 4, none⟩ = some (.int .i64 a1_4) := (blk_cell BK188.out 4).trans rfl
                have hcz59_5 : wc.cell? ⟨gb188, 5, none⟩ = some (.int .i64 a1_5) := (blk_cell BK188.out 5).trans rfl
                have hcz59_6 : wc.cell? ⟨gb188, 6, none⟩ = some (.int .i64 a1_6) := (blk_cell BK188.out 6).trans rfl
                have hcz59_7 : wc.cell? ⟨gb188, 7, none⟩ = some (.int .i64 a1_7) := (blk_cell BK188.out 7).trans rfl
                have hcz59_8 : wc.cell? ⟨gb188, 8, none⟩ = some (.int .i64 a1_8) := (blk_cell BK188.out 8).trans rfl
                have hcz59_9 : wc.cell? ⟨gb188, 9, none⟩ = some (.int .i64 a1_9) := (blk_cell BK188.out 9).trans rfl
                have hcz59_10 : wc.cell? ⟨gb188, 10, none⟩ = some (.bool a1_10) := (blk_cell BK188.out 10).trans rfl
                have hcz59_11 : wc.cell? ⟨gb188, 11, none⟩ = some (.bool a1_11) := (blk_cell BK188.out 11).trans rfl
                have hfz59_0 := blk_frozen BK188.out 0
                have hfz59_1 := blk_frozen BK188.out 1
                have hfz59_2 := blk_frozen BK188.out 2
                have hfz59_3 := blk_frozen BK188.out 3
                have hfz59_4 := blk_frozen BK188.out 4
                have hfz59_5 := blk_frozen BK188.out 5
                have hfz59_6 := blk_frozen BK188.out 6
                have hfz59_7 := blk_frozen BK188.out 7
                have hfz59_8 := blk_frozen BK188.out 8
                have hfz59_9 := blk_frozen BK188.out 9
                have hfz59_10 := blk_frozen BK188.out 10
                have hfz59_11 := blk_frozen BK188.out 11
                have hcz60_0 : wc.cell? ⟨gb187, 0, none⟩ = some (.int .i64 a0_0) := (blk_cell BK187.out 0).trans rfl
                have hcz60_1 : wc.cell? ⟨gb187, 1, none⟩ = some (.int .i64 a0_1) := (blk_cell BK187.out 1).trans rfl
                have hcz60_2 : wc.cell? ⟨gb187, 2, none⟩ = some (.int .i64 a0_2) := (blk_cell BK187.out 2).trans rfl
                have hcz60_3 : wc.cell? ⟨gb187, 3, none⟩ = some (.int .i64 a0_3) := (blk_cell BK187.out 3).trans rfl
                have hcz60_4 : wc.cell? ⟨gb187, 4, none⟩ = some (.int .i64 a0_4) := (blk_cell BK187.out 4).trans rfl
                have hcz60_5 : wc.cell? ⟨gb187, 5, none⟩ = some (.int .i64 a0_5) := (blk_cell BK187.out 5).trans rfl
                have hfz60_0 := blk_frozen BK187.out 0
                have hfz60_1 := blk_frozen BK187.out 1
                have hfz60_2 := blk_frozen BK187.out 2
                have hfz60_3 := blk_frozen BK187.out 3
                have hfz60_4 := blk_frozen BK187.out 4
                have hfz60_5 := blk_frozen BK187.out 5
                go_wp2
                go_ret
                exact ⟨by first | rfl | (simp [errW_none, errW_some] <;> rfl) | (simp [*, errW_none, errW_some] <;> rfl), by repeat (first | (with_reducible first | exact HB.out | apply below_alloc | apply pw_below_drewN | apply below_drew1 | refine below_set ?_ GE187.out | refine below_set ?_ GE188.out) | exact HB.out)⟩

end Go.Proofs.Ytnlfcgnedemhhaa.P
