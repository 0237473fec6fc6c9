/- wire.Right of what a node says of itself. -/
import Derived.Test.YtnlfcgnedemhhaaLieMath
import Derived.Test.YtnlfcgnedemhhaaPx1
import Derived.Test.YtnlfcgnedemhhaaPx3
import Derived.Test.YtnlfcgnedemhhaaPx4
import Derived.Test.YtnlfcgnedemhhaaPx5
import Derived.LoopN
import Derived.Lib.Hide
import Derived.Outline
set_option linter.unusedVariables false
set_option linter.unusedSimpArgs false
namespace Go.Proofs.Ytnlfcgnedemhhaa.P
open Go Go.RowKit Go.Proofs.YtnlfcgnedemhhaaW.PrintWords Go.Proofs.YtnlfcgnedemhhaaW.PrintLast

abbrev lieV (x : L.Say) : Value := .agg #[.int .i64 x.node, .int .i64 x.level, .int .i64 x.pod, .int .i64 x.mtu, .int .i64 x.link, .int .i64 x.nonce, .int .i64 x.seen, .int .i64 x.seenLink, .int .i64 x.seenNonce, .int .i64 x.hold, .bool x.rep, .bool x.noOffer]

theorem within_f (a l h : Int) : wire_within.f a l h = some (L.within a l h) := by
  unfold wire_within.f L.within
  by_cases c : a ≥ l
  · rw [if_pos c, decide_eq_true (show l ≤ a from c)]; simp
  · rw [if_neg c, decide_eq_false (show ¬ l ≤ a from c)]; simp

set_option maxRecDepth 100000 in
set_option maxHeartbeats 4000000 in
theorem wire_rightLie.calls (x : L.Say) (w : World) :
    Calls Try.prog 44 #[lieV x] w fun e w' => e = .returned (.bool (L.rightSay x)) ∧ Below w.heap.size w w' := by
  obtain ⟨x0, x1, x2, x3, x4, x5, x6, x7, x8, x9, x10, x11⟩ := x
  have hr : L.rightSay ⟨x0, x1, x2, x3, x4, x5, x6, x7, x8, x9, x10, x11⟩ = (L.within x2 0 65535 && (L.within x3 0 65535 && (L.within x4 0 65535 && (L.within x5 0 65535 && (L.within x7 0 65535 && (L.within x8 0 65535 && (L.within x9 0 65535 && (L.within x0 1 1000 && (L.within x1 (-1) 24 && L.within x6 0 1000))))))))) := rfl
  rw [hr]
  clear hr
  show Calls Try.prog 44 #[.agg #[.int .i64 x0, .int .i64 x1, .int .i64 x2, .int .i64 x3, .int .i64 x4, .int .i64 x5, .int .i64 x6, .int .i64 x7, .int .i64 x8, .int .i64 x9, .bool x10, .bool x11]] w _
  have Hb2 := Aside0.mk (within_f x2 0 65535)
  have Hb3 := Aside0.mk (within_f x3 0 65535)
  have Hb4 := Aside0.mk (within_f x4 0 65535)
  have Hb5 := Aside0.mk (within_f x5 0 65535)
  have Hb7 := Aside0.mk (within_f x7 0 65535)
  have Hb8 := Aside0.mk (within_f x8 0 65535)
  have Hb9 := Aside0.mk (within_f x9 0 65535)
  have Hb0 := Aside0.mk (within_f x0 1 1000)
  have Hb1 := Aside0.mk (within_f x1 (-1) 24)
  have Hb6 := Aside0.mk (within_f x6 0 1000)
  generalize L.within x2 0 65535 = b2 at Hb2 ⊢
  generalize L.within x3 0 65535 = b3 at Hb3 ⊢
  generalize L.within x4 0 65535 = b4 at Hb4 ⊢
  generalize L.within x5 0 65535 = b5 at Hb5 ⊢
  generalize L.within x7 0 65535 = b7 at Hb7 ⊢
  generalize L.within x8 0 65535 = b8 at Hb8 ⊢
  generalize L.within x9 0 65535 = b9 at Hb9 ⊢
  generalize L.within x0 1 1000 = b0 at Hb0 ⊢
  generalize L.within x1 (-1) 24 = b1 at Hb1 ⊢
  generalize L.within x6 0 1000 = b6 at Hb6 ⊢
  go_enter Try.func44, Try.ntmps44
  go_wp2
  have c0 : (w.alloc (.cells #[.int .i64 x0, .int .i64 x1, .int .i64 x2, .int .i64 x3, .int .i64 x4, .int .i64 x5, .int .i64 x6, .int .i64 x7, .int .i64 x8, .int .i64 x9, .bool x10, .bool x11] 25)).heap[w.heap.size]? = some (.cells #[.int .i64 x0, .int .i64 x1, .int .i64 x2, .int .i64 x3, .int .i64 x4, .int .i64 x5, .int .i64 x6, .int .i64 x7, .int .i64 x8, .int .i64 x9, .bool x10, .bool x11] 25 (0, 0)) := blk_new w _
  have hB : Below w.heap.size w (w.alloc (.cells #[.int .i64 x0, .int .i64 x1, .int .i64 x2, .int .i64 x3, .int .i64 x4, .int .i64 x5, .int .i64 x6, .int .i64 x7, .int .i64 x8, .int .i64 x9, .bool x10, .bool x11] 25)) := below_alloc (Below.refl _ _) _
  generalize w.alloc (.cells #[.int .i64 x0, .int .i64 x1, .int .i64 x2, .int .i64 x3, .int .i64 x4, .int .i64 x5, .int .i64 x6, .int .i64 x7, .int .i64 x8, .int .i64 x9, .bool x10, .bool x11] 25) = w1 at c0 hB ⊢
  have HB := Aside0.mk hB
  obtain ⟨n0, hn0⟩ : ∃ n, n = w.heap.size := ⟨_, rfl⟩
  rw [← hn0] at c0 ⊢
  clear hn0
  have HC := Aside0.mk c0
  clear hB c0
  have i0 : ∀ w : World, (Instr.index 76 (.agg #[.int .i64 x2, .int .i64 x3, .int .i64 x4, .int .i64 x5, .int .i64 x7, .int .i64 x8, .int .i64 x9]) (.int .i64 0)).run Try.prog w = .ok (.int .i64 x2) w := fun _ => by kernel_rfl
  have i1 : ∀ w : World, (Instr.index 76 (.agg #[.int .i64 x2, .int .i64 x3, .int .i64 x4, .int .i64 x5, .int .i64 x7, .int .i64 x8, .int .i64 x9]) (.int .i64 1)).run Try.prog w = .ok (.int .i64 x3) w := fun _ => by kernel_rfl
  have i2 : ∀ w : World, (Instr.index 76 (.agg #[.int .i64 x2, .int .i64 x3, .int .i64 x4, .int .i64 x5, .int .i64 x7, .int .i64 x8, .int .i64 x9]) (.int .i64 2)).run Try.prog w = .ok (.int .i64 x4) w := fun _ => by kernel_rfl
  have i3 : ∀ w : World, (Instr.index 76 (.agg #[.int .i64 x2, .int .i64 x3, .int .i64 x4, .int .i64 x5, .int .i64 x7, .int .i64 x8, .int .i64 x9]) (.int .i64 3)).run Try.prog w = .ok (.int .i64 x5) w := fun _ => by kernel_rfl
  have i4 : ∀ w : World, (Instr.index 76 (.agg #[.int .i64 x2, .int .i64 x3, .int .i64 x4, .int .i64 x5, .int .i64 x7, .int .i64 x8, .int .i64 x9]) (.int .i64 4)).run Try.prog w = .ok (.int .i64 x7) w := fun _ => by kernel_rfl
  have i5 : ∀ w : World, (Instr.index 76 (.agg #[.int .i64 x2, .int .i64 x3, .int .i64 x4, .int .i64 x5, .int .i64 x7, .int .i64 x8, .int .i64 x9]) (.int .i64 5)).run Try.prog w = .ok (.int .i64 x8) w := fun _ => by kernel_rfl
  have i6 : ∀ w : World, (Instr.index 76 (.agg #[.int .i64 x2, .int .i64 x3, .int .i64 x4, .int .i64 x5, .int .i64 x7, .int .i64 x8, .int .i64 x9]) (.int .i64 6)).run Try.prog w = .ok (.int .i64 x9) w := fun _ => by kernel_rfl
  refine wp_loop_rounds 8 ?_
  rw [rounds_succ]
  go_wp2_with fail
  refine (wire_within.calls x2 0 65535 b2 _ Hb2.out).mono ?_
  rintro e w' ⟨rfl, ⟨nd0, rfl⟩⟩
  obtain rfl | rfl : b2 = false ∨ b2 = true := by cases b2 <;> simp
  · go_wp2
    go_ret
    exact ⟨rfl, by repeat (first | exact HB.out | apply pw_below_drewN)⟩
  go_wp2
  rw [rounds_succ]
  go_wp2_with fail
  refine (wire_within.calls x3 0 65535 b3 _ Hb3.out).mono ?_
  rintro e w' ⟨rfl, ⟨nd1, rfl⟩⟩
  obtain rfl | rfl : b3 = false ∨ b3 = true := by cases b3 <;> simp
  · go_wp2
    go_ret
    exact ⟨rfl, by repeat (first | exact HB.out | apply pw_below_drewN)⟩
  go_wp2
  rw [rounds_succ]
  go_wp2_with fail
  refine (wire_within.calls x4 0 65535 b4 _ Hb4.out).mono ?_
  rintro e w' ⟨rfl, ⟨nd2, rfl⟩⟩
  obtain rfl | rfl : b4 = false ∨ b4 = true := by cases b4 <;> simp
  · go_wp2
    go_ret
    exact ⟨rfl, by repeat (first | exact HB.out | apply pw_below_drewN)⟩
  go_wp2
  rw [rounds_succ]
  go_wp2_with fail
  refine (wire_within.calls x5 0 65535 b5 _ Hb5.out).mono ?_
  rintro e w' ⟨rfl, ⟨nd3, rfl⟩⟩
  obtain rfl | rfl : b5 = false ∨ b5 = true := by cases b5 <;> simp
  · go_wp2
    go_ret
    exact ⟨rfl, by repeat (first | exact HB.out | apply pw_below_drewN)⟩
  go_wp2
  rw [rounds_succ]
  go_wp2_with fail
  refine (wire_within.calls x7 0 65535 b7 _ Hb7.out).mono ?_
  rintro e w' ⟨rfl, ⟨nd4, rfl⟩⟩
  obtain rfl | rfl : b7 = false ∨ b7 = true := by cases b7 <;> simp
  · go_wp2
    go_ret
    exact ⟨rfl, by repeat (first | exact HB.out | apply pw_below_drewN)⟩
  go_wp2
  rw [rounds_succ]
  go_wp2_with fail
  refine (wire_within.calls x8 0 65535 b8 _ Hb8.out).mono ?_
  rintro e w' ⟨rfl, ⟨nd5, rfl⟩⟩
  obtain rfl | rfl : b8 = false ∨ b8 = true := by cases b8 <;> simp
  · go_wp2
    go_ret
    exact ⟨rfl, by repeat (first | exact HB.out | apply pw_below_drewN)⟩
  go_wp2
  rw [rounds_succ]
  go_wp2_with fail
  refine (wire_within.calls x9 0 65535 b9 _ Hb9.out).mono ?_
  rintro e w' ⟨rfl, ⟨nd6, rfl⟩⟩
  obtain rfl | rfl : b9 = false ∨ b9 = true := by cases b9 <;> simp
  · go_wp2
    go_ret
    exact ⟨rfl, by repeat (first | exact HB.out | apply pw_below_drewN)⟩
  go_wp2
  have hc := HC.out
  have c0 : (w1).cell? ⟨n0, 0, none⟩ = some (.int .i64 x0) := (blk_cell hc 0).trans rfl
  have c1 : (w1).cell? ⟨n0, 1, none⟩ = some (.int .i64 x1) := (blk_cell hc 1).trans rfl
  have c6 : (w1).cell? ⟨n0, 6, none⟩ = some (.int .i64 x6) := (blk_cell hc 6).trans rfl
  clear hc i0 i1 i2 i3 i4 i5 i6
  rw [rounds_succ]
  go_wp2_with fail
  refine (wire_within.calls x0 1 1000 b0 _ Hb0.out).mono ?_
  rintro e w' ⟨rfl, ⟨nd7, rfl⟩⟩
  obtain rfl | rfl : b0 = false ∨ b0 = true := by cases b0 <;> simp
  · go_wp2
    go_ret
    exact ⟨rfl, by repeat (first | exact HB.out | apply pw_below_drewN)⟩
  go_wp2_with fail
  refine (wire_within.calls x1 (-1) 24 b1 _ Hb1.out).mono ?_
  rintro e w' ⟨rfl, ⟨nd8, rfl⟩⟩
  obtain rfl | rfl : b1 = false ∨ b1 = true := by cases b1 <;> simp
  · go_wp2
    go_ret
    exact ⟨rfl, by repeat (first | exact HB.out | apply pw_below_drewN)⟩
  go_wp2_with fail
  refine (wire_within.calls x6 0 1000 b6 _ Hb6.out).mono ?_
  rintro e w' ⟨rfl, ⟨nd9, rfl⟩⟩
  go_wp2
  go_ret
  exact ⟨rfl, by repeat (first | exact HB.out | apply pw_below_drewN)⟩

/-! ### wire.bare, wire.Right of a packet that is just such a saying -/
abbrev packV (x : L.Say) : Value := .agg #[.int .i64 1, .int .i64 x.node, .int .i64 x.level, .int .i64 x.pod, .int .i64 x.mtu, .int .i64 x.link, .int .i64 x.nonce, .int .i64 x.seen, .int .i64 x.seenLink, .int .i64 x.seenNonce, .int .i64 x.hold, .bool x.rep, .bool x.noOffer,
  .int .i64 0, .int .i64 0, .int .i64 0, .int .i64 0, .int .i64 0, .int .i64 0, .int .i64 0, .bool false, .slice none 0 0, .slice none 0 0, .int .i64 0, .int .i64 0, .int .i64 0, .int .i64 0, .int .i64 0, .int .i64 0, .int .i64 0, .int .i64 0, .slice none 0 0]
attribute [local go_sem high] eqA25 eqA61 eqA63
set_option maxRecDepth 100000 in
set_option maxHeartbeats 4000000 in
theorem wire_bare_lie.calls (x : L.Say) (w : World) :
    Calls Try.prog 43 #[packV x] w fun e w' => e = .returned (.bool true) ∧ Below w.heap.size w w' := by
  obtain ⟨x0, x1, x2, x3, x4, x5, x6, x7, x8, x9, x10, x11⟩ := x
  unfold packV
  simp only
  go_enter Try.func43, Try.ntmps43
  go_wp2
  go_ret
  exact ⟨rfl, below_alloc (Below.refl _ _) _⟩

set_option maxRecDepth 100000 in
set_option maxHeartbeats 4000000 in
theorem wire_Right_lie.calls (x : L.Say) (w : World) :
    Calls Try.prog 31 #[packV x] w fun e w' => e = .returned (.bool (L.rightSay x)) ∧ Below w.heap.size w w' := by
  have HL := Aside0.mk (fun w => wire_rightLie.calls x w)
  have HP := Aside0.mk (fun w => wire_bare_lie.calls x w)
  generalize L.rightSay x = b at HL ⊢
  unfold lieV at HL
  unfold packV at HP ⊢
  obtain ⟨x0, x1, x2, x3, x4, x5, x6, x7, x8, x9, x10, x11⟩ := x
  simp only at HL HP ⊢
  go_enter Try.func31, Try.ntmps31
  go_wp2
  refine wp_loop_rounds 1 ?_
  rw [rounds_succ]
  have hx0 := blk_new w (.cells #[.int .i64 1, .int .i64 x0, .int .i64 x1, .int .i64 x2, .int .i64 x3, .int .i64 x4, .int .i64 x5, .int .i64 x6, .int .i64 x7, .int .i64 x8, .int .i64 x9, .bool x10, .bool x11,
    .int .i64 0, .int .i64 0, .int .i64 0, .int .i64 0, .int .i64 0, .int .i64 0, .int .i64 0, .bool false, .slice none 0 0, .slice none 0 0, .int .i64 0, .int .i64 0, .int .i64 0, .int .i64 0, .int .i64 0, .int .i64 0, .int .i64 0, .int .i64 0, .slice none 0 0] 70)
  have HX0 := Aside0.mk hx0
  clear hx0
  go_upto_region 7 with (fail)
  go_wp2_with (first | ((with_reducible refine gate_dst (N := 16) rfl ?_); refine wpList_load_row rfl 70 (.tmp 1) rfl w.heap.size rfl 70 _ (0, 0) _ HX0.out Try.underlying70 rfl (by kernel_rfl) ?_) | ((with_reducible refine gate_callee (f := 43) rfl ?_); fail))
  refine (HP.out _).mono ?_
  rintro e w1 ⟨rfl, hb⟩
  have HB1 := Aside0.mk (below_step (below_alloc (Below.refl w.heap.size w) _) hb)
  have hx := blk_below (blk_new w _) hb
  have c0 := (blk_cell hx 0)
  have c5 := (blk_cell hx 31)
  have d1 := (blk_cell hx 1)
  have d2 := (blk_cell hx 2)
  have d3 := (blk_cell hx 3)
  have d4 := (blk_cell hx 4)
  have d5 := (blk_cell hx 5)
  have d6 := (blk_cell hx 6)
  have d7 := (blk_cell hx 7)
  have d8 := (blk_cell hx 8)
  have d9 := (blk_cell hx 9)
  have d10 := (blk_cell hx 10)
  have d11 := (blk_cell hx 11)
  have d12 := (blk_cell hx 12)
  clear hx hb
  simp only [List.getElem?_toArray, List.getElem?_cons_zero, List.getElem?_cons_succ] at c0 c5 d1 d2 d3 d4 d5 d6 d7 d8 d9 d10 d11 d12
  go_wp2_with fail
  refine (HL.out _).mono ?_
  rintro e w2 ⟨rfl, hb⟩
  have HB2 := Aside0.mk (below_step HB1.out hb)
  clear hb
  go_wp2
  go_ret
  exact ⟨rfl, HB2.out⟩
end Go.Proofs.Ytnlfcgnedemhhaa.P
