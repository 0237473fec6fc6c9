-- Printed by a program of this session over the kit's print: all laws of the seat in one namespace, some texts by hand.
import Derived.Test.YtmiijakcmbolfaaPx0
import Derived.Test.YtmiijakcmbolfaaPx3
namespace Go.Proofs.Ytmiijakcmbolfaa.P
open Go.RowKit Go.Proofs.YtmiijakcmbolfaaW.PrintWords Go.Proofs.YtmiijakcmbolfaaW.PrintLast Go.Proofs.YtmiijakcmbolfaaW.PrintMore
attribute [local go_sem] max2_int min2_int max_two min_two max_three min_three max_four min_four   -- for this text's walks alone
set_option linter.unusedVariables false
set_option linter.unusedSimpArgs false

/-! ### selvageref02_end: function 31 -/
mutual
def selvageref02_end.l0 : Nat → List (S30) → Int → Int → Option (Int)
  | 0, _, _, _ => none
  | k + 1, x0, x5, x6 => if x6 < (x0.length : Int) then (if 0 ≤ x6 then (if ((rd_T30 x0 x6).f0) = 3 then (selvageref02_end.j1 k x0 (wrap64 (x5 + 1)) x6) else (selvageref02_end.j1 k x0 x5 x6)) else (none)) else (some (x0.length : Int))
def selvageref02_end.j1 : Nat → List (S30) → Int → Int → Option (Int)
  | 0, _, _, _ => none
  | k + 1, x0, x5, x6 => if 0 ≤ x6 then (if x6 < (x0.length : Int) then (if ((rd_T30 x0 x6).f0) = 4 then (if (wrap64 (x5 - 1)) = 0 then (some (wrap64 (x6 + 1))) else (selvageref02_end.l0 k x0 (wrap64 (x5 - 1)) (wrap64 (x6 + 1)))) else (if x5 = 0 then (some (wrap64 (x6 + 1))) else (selvageref02_end.l0 k x0 x5 (wrap64 (x6 + 1))))) else (none)) else (none)
end
def selvageref02_end.f (k : Nat) (l0 : List (S30)) (a1 : Int) : Option (Int) := selvageref02_end.l0 k l0 0 a1
theorem selvageref02_end.mono_l : ∀ k, (∀ y0 y1 y2, LeO (selvageref02_end.l0 k y0 y1 y2) (selvageref02_end.l0 (k + 1) y0 y1 y2)) ∧ (∀ y0 y1 y2, LeO (selvageref02_end.j1 k y0 y1 y2) (selvageref02_end.j1 (k + 1) y0 y1 y2))
  | 0 => ⟨fun _ _ _ r h => by simp [selvageref02_end.l0] at h, fun _ _ _ r h => by simp [selvageref02_end.j1] at h⟩
  | k + 1 => by
    obtain ⟨ih0, ih1⟩ := selvageref02_end.mono_l k
    refine ⟨?_, ?_⟩
    · intro y0 y1 y2
      unfold selvageref02_end.l0
      repeat' first
      | (with_reducible exact ih0 _ _ _)
      | (with_reducible exact ih1 _ _ _)
      | (with_reducible exact LeO.refl _)
      | (with_reducible exact LeO.none _)
      | (with_reducible refine LeO.ite ?_ ?_)
      | (with_reducible refine LeO.bind ?_ (fun _ => ?_))
      | exact ih0 _ _ _
      | exact ih1 _ _ _
      | exact LeO.none _
      | refine LeO.ite ?_ ?_
      | refine LeO.bind ?_ (fun _ => ?_)
    · intro y0 y1 y2
      unfold selvageref02_end.j1
      repeat' first
      | (with_reducible exact ih0 _ _ _)
      | (with_reducible exact ih1 _ _ _)
      | (with_reducible exact LeO.refl _)
      | (with_reducible exact LeO.none _)
      | (with_reducible refine LeO.ite ?_ ?_)
      | (with_reducible refine LeO.bind ?_ (fun _ => ?_))
      | exact ih0 _ _ _
      | exact ih1 _ _ _
      | exact LeO.none _
      | refine LeO.ite ?_ ?_
      | refine LeO.bind ?_ (fun _ => ?_)
theorem selvageref02_end.mono : ∀ a0 a1 k, LeO (selvageref02_end.f k a0 a1) (selvageref02_end.f (k + 1) a0 a1) := by
  intro a0 a1 k
  obtain ⟨ih0, ih1⟩ := selvageref02_end.mono_l k
  unfold selvageref02_end.f
  repeat' first
      | (with_reducible exact ih0 _ _ _)
      | (with_reducible exact ih1 _ _ _)
      | (with_reducible exact LeO.refl _)
      | (with_reducible exact LeO.none _)
      | (with_reducible refine LeO.ite ?_ ?_)
      | (with_reducible refine LeO.bind ?_ (fun _ => ?_))
      | exact ih0 _ _ _
      | exact ih1 _ _ _
      | exact LeO.none _
      | refine LeO.ite ?_ ?_
      | refine LeO.bind ?_ (fun _ => ?_)
set_option maxHeartbeats 8000000 in
set_option maxRecDepth 100000 in
theorem selvageref02_end.calls (k : Nat) (A0 : Option Addr) (c0 : Nat) (l0 : List (S30)) (a1 : Int) (r : Int) (w : World) (hr0 : Kd.C k30 w A0 l0.length l0) (hc0 : l0.length ≤ c0) (h : selvageref02_end.f k l0 a1 = some r) :
    Calls Try.prog 31 #[.slice A0 l0.length c0, .int .i64 a1] w fun e w' => e = .returned (.int .i64 r) ∧ Drawn0 w w' := by
  have HR0 := Aside0.mk hr0
  have HC0 := Aside0.mk hc0
  clear hr0 hc0
  have H : (selvageref02_end.l0 k l0 0 a1) = some r := h
  clear h
  have H' := Aside0.mk H
  clear H
  go_enter Try.func31, Try.ntmps31
  go_wp2
  go_loopg [5, 6] k (fun kq v5 v6 w' => ∃ (x5_1 : Int) (x6_1 : Int), v5 = .int .i64 x5_1 ∧ v6 = .int .i64 x6_1 ∧ Aside0 (selvageref02_end.l0 kq l0 x5_1 x6_1 = some r) ∧ Aside0 (kq ≤ k) ∧ Drawn0 w w')
  case atStart => exact ⟨(0), (a1), (by first | rfl | (simp; done) | (simp [*]; done)), (by first | rfl | (simp; done) | (simp [*]; done)), H', ⟨Nat.le_refl _⟩, by repeat (first | exact Drawn0.refl _ | apply Drawn0.step)⟩
  case round =>
    clear H'
    try clear p2
    obtain ⟨x5_1, x6_1, rfl, rfl, HA, HK1, ⟨m1, rfl⟩⟩ := hrel
    cases gk with
    | zero => exact absurd HA.out (by simp [selvageref02_end.l0])
    | succ k1 =>
      have H := HA.out
      clear HA
      simp only [selvageref02_end.l0] at H
      by_cases c3 : x6_1 < (l0.length : Int)
      · rw [if_pos c3] at H
        have c3b0 : decide (x6_1 < (l0.length : Int)) = true := decide_eq_true c3
        clear c3
        by_cases c4 : 0 ≤ x6_1
        · rw [if_pos c4] at H
          have c4b0 : decide (0 ≤ x6_1) = true := decide_eq_true c4
          clear c4
          have HC5 := Aside0.mk H
          clear H
          have p271 : 0 ≤ (x6_1 : Int) := of_decide_eq_true (by first | (with_reducible assumption) | assumption)
          have q271 : x6_1 < (l0.length : Int) := of_decide_eq_true (by first | (with_reducible assumption) | assumption)
          obtain ⟨ad271, A271_3, c271_3, e271, hx271_0, hx271_1, hx271_2, hx271_3, hl271_3, hi271_3⟩ := at_T30 HR0.out x6_1 p271 q271
          cases e271
          have HR271_3 := Aside0.mk hi271_3
          have HC271_3 := Aside0.mk hl271_3
          clear hi271_3 hl271_3
          replace p271 := eq_true p271
          replace q271 := eq_true q271
          go_upto_if 19 with (fail)
          go_cut [5] (fun v5 wc => ∃ (kq : Nat) (x5_4 : Int), v5 = .int .i64 x5_4 ∧ Aside0 (selvageref02_end.j1 kq l0 x5_4 x6_1 = some r) ∧ Aside0 (kq ≤ k1) ∧ Drawn0 w wc)
          case first =>
            have H := HC5.out
            clear HC5
            by_cases c6 : ((rd_T30 l0 x6_1).f0) = 3
            · rw [if_pos c6] at H
              have c6b0 : (((rd_T30 l0 x6_1).f0) == 3) = true := beq_iff_eq.mpr c6
              have c6b1 : (((rd_T30 l0 x6_1).f0) != 3) = false := bne_eq_false_iff_eq.mpr c6
              clear c6
              (first | rw [c6b0] | (simp only [i64_w, i32_w]; rw [c6b0]) | skip)
              have H' := Aside0.mk H
              clear H
              go_wp2
              go_meet
              case rel => exact ⟨_, (wrap64 (x5_1 + 1)), (by first | rfl | (simp; done) | (simp [*]; done)), H', ⟨by have := HK1.out; first | omega | exact Nat.le_refl _⟩, by repeat (first | exact Drawn0.refl _ | apply Drawn0.step)⟩
            · rw [if_neg c6] at H
              have c6b0 : (((rd_T30 l0 x6_1).f0) == 3) = false := beq_eq_false_iff_ne.mpr c6
              have c6b1 : (((rd_T30 l0 x6_1).f0) != 3) = true := bne_iff_ne.mpr c6
              (first | rw [c6b0] | (simp only [i64_w, i32_w]; rw [c6b0]) | skip)
              have H' := Aside0.mk H
              clear H
              go_wp2
              go_meet
              case rel => exact ⟨_, (x5_1), (by first | rfl | (simp; done) | (simp [*]; done)), H', ⟨by have := HK1.out; first | omega | exact Nat.le_refl _⟩, by repeat (first | exact Drawn0.refl _ | apply Drawn0.step)⟩
          case rest =>
            clear HC5
            try clear c2
            try clear p2
            try clear q2
            try clear hx2
            try clear c3
            try clear c3b0
            try clear c4
            try clear c4b0
            try clear c6
            try clear c6b0
            try clear c6b1
            try clear p6
            try clear hx271_0
            try clear hx271_1
            try clear hx271_2
            try clear hx271_3
            try clear p2
            try clear p271
            try clear q271
            obtain ⟨kq, x5_4, rfl, HA, HJ4, ⟨mc4, rfl⟩⟩ := hcut
            cases kq with
            | zero => exact absurd HA.out (by simp [selvageref02_end.j1])
            | succ kj4 =>
              have H := HA.out
              clear HA
              simp only [selvageref02_end.j1] at H
              by_cases c7 : 0 ≤ x6_1
              · rw [if_pos c7] at H
                have c7b0 : decide (0 ≤ x6_1) = true := decide_eq_true c7
                clear c7
                by_cases c8 : x6_1 < (l0.length : Int)
                · rw [if_pos c8] at H
                  have c8b0 : decide (x6_1 < (l0.length : Int)) = true := decide_eq_true c8
                  clear c8
                  by_cases c9 : ((rd_T30 l0 x6_1).f0) = 4
                  · rw [if_pos c9] at H
                    have c9b0 : (((rd_T30 l0 x6_1).f0) == 4) = true := beq_iff_eq.mpr c9
                    have c9b1 : (((rd_T30 l0 x6_1).f0) != 4) = false := bne_eq_false_iff_eq.mpr c9
                    clear c9
                    by_cases c10 : (wrap64 (x5_4 - 1)) = 0
                    · rw [if_pos c10] at H
                      have c10b0 : ((wrap64 (x5_4 - 1)) == 0) = true := beq_iff_eq.mpr c10
                      have c10b1 : ((wrap64 (x5_4 - 1)) != 0) = false := bne_eq_false_iff_eq.mpr c10
                      clear c10
                      obtain rfl := Option.some.inj H
                      have p272 : 0 ≤ (x6_1 : Int) := of_decide_eq_true (by first | (with_reducible assumption) | assumption)
                      have q272 : x6_1 < (l0.length : Int) := of_decide_eq_true (by first | (with_reducible assumption) | assumption)
                      obtain ⟨ad272, A272_3, c272_3, e272, hx272_0, hx272_1, hx272_2, hx272_3, hl272_3, hi272_3⟩ := at_T30 HR0.out x6_1 p272 q272
                      obtain rfl : ad271 = ad272 := (by injection e272)
                      have HR272_3 := Aside0.mk hi272_3
                      have HC272_3 := Aside0.mk hl272_3
                      clear hi272_3 hl272_3
                      replace p272 := eq_true p272
                      replace q272 := eq_true q272
                      go_wp2
                      go_ret
                      exact ⟨by first | rfl | (simp; done) | (simp [*]; done), by repeat (first | exact Drawn0.refl _ | apply Drawn0.step)⟩
                    · rw [if_neg c10] at H
                      have c10b0 : ((wrap64 (x5_4 - 1)) == 0) = false := beq_eq_false_iff_ne.mpr c10
                      have c10b1 : ((wrap64 (x5_4 - 1)) != 0) = true := bne_iff_ne.mpr c10
                      have H' := Aside0.mk H
                      clear H
                      have p272 : 0 ≤ (x6_1 : Int) := of_decide_eq_true (by first | (with_reducible assumption) | assumption)
                      have q272 : x6_1 < (l0.length : Int) := of_decide_eq_true (by first | (with_reducible assumption) | assumption)
                      obtain ⟨ad272, A272_3, c272_3, e272, hx272_0, hx272_1, hx272_2, hx272_3, hl272_3, hi272_3⟩ := at_T30 HR0.out x6_1 p272 q272
                      obtain rfl : ad271 = ad272 := (by injection e272)
                      have HR272_3 := Aside0.mk hi272_3
                      have HC272_3 := Aside0.mk hl272_3
                      clear hi272_3 hl272_3
                      replace p272 := eq_true p272
                      replace q272 := eq_true q272
                      go_wp2
                      go_roundg kj4
                      case measure => have := HK1.out; have := HJ4.out; omega
                      case rel => exact ⟨(wrap64 (x5_4 - 1)), (wrap64 (x6_1 + 1)), (by first | rfl | (simp; done) | (simp [*]; done)), (by first | rfl | (simp; done) | (simp [*]; done)), H', ⟨by have := HK1.out; have := HJ4.out; omega⟩, by repeat (first | exact Drawn0.refl _ | apply Drawn0.step)⟩
                  · rw [if_neg c9] at H
                    have c9b0 : (((rd_T30 l0 x6_1).f0) == 4) = false := beq_eq_false_iff_ne.mpr c9
                    have c9b1 : (((rd_T30 l0 x6_1).f0) != 4) = true := bne_iff_ne.mpr c9
                    by_cases c11 : x5_4 = 0
                    · rw [if_pos c11] at H
                      have c11b0 : (x5_4 == 0) = true := beq_iff_eq.mpr c11
                      have c11b1 : (x5_4 != 0) = false := bne_eq_false_iff_eq.mpr c11
                      clear c11
                      obtain rfl := Option.some.inj H
                      have p272 : 0 ≤ (x6_1 : Int) := of_decide_eq_true (by first | (with_reducible assumption) | assumption)
                      have q272 : x6_1 < (l0.length : Int) := of_decide_eq_true (by first | (with_reducible assumption) | assumption)
                      obtain ⟨ad272, A272_3, c272_3, e272, hx272_0, hx272_1, hx272_2, hx272_3, hl272_3, hi272_3⟩ := at_T30 HR0.out x6_1 p272 q272
                      obtain rfl : ad271 = ad272 := (by injection e272)
                      have HR272_3 := Aside0.mk hi272_3
                      have HC272_3 := Aside0.mk hl272_3
                      clear hi272_3 hl272_3
                      replace p272 := eq_true p272
                      replace q272 := eq_true q272
                      go_wp2
                      go_ret
                      exact ⟨by first | rfl | (simp; done) | (simp [*]; done), by repeat (first | exact Drawn0.refl _ | apply Drawn0.step)⟩
                    · rw [if_neg c11] at H
                      have c11b0 : (x5_4 == 0) = false := beq_eq_false_iff_ne.mpr c11
                      have c11b1 : (x5_4 != 0) = true := bne_iff_ne.mpr c11
                      have H' := Aside0.mk H
                      clear H
                      have p272 : 0 ≤ (x6_1 : Int) := of_decide_eq_true (by first | (with_reducible assumption) | assumption)
                      have q272 : x6_1 < (l0.length : Int) := of_decide_eq_true (by first | (with_reducible assumption) | assumption)
                      obtain ⟨ad272, A272_3, c272_3, e272, hx272_0, hx272_1, hx272_2, hx272_3, hl272_3, hi272_3⟩ := at_T30 HR0.out x6_1 p272 q272
                      obtain rfl : ad271 = ad272 := (by injection e272)
                      have HR272_3 := Aside0.mk hi272_3
                      have HC272_3 := Aside0.mk hl272_3
                      clear hi272_3 hl272_3
                      replace p272 := eq_true p272
                      replace q272 := eq_true q272
                      go_wp2
                      go_roundg kj4
                      case measure => have := HK1.out; have := HJ4.out; omega
                      case rel => exact ⟨(x5_4), (wrap64 (x6_1 + 1)), (by first | rfl | (simp; done) | (simp [*]; done)), (by first | rfl | (simp; done) | (simp [*]; done)), H', ⟨by have := HK1.out; have := HJ4.out; omega⟩, by repeat (first | exact Drawn0.refl _ | apply Drawn0.step)⟩
                · rw [if_neg c8] at H
                  exact absurd H (by simp)
              · rw [if_neg c7] at H
                exact absurd H (by simp)
        · rw [if_neg c4] at H
          exact absurd H (by simp)
      · rw [if_neg c3] at H
        have c3b0 : decide (x6_1 < (l0.length : Int)) = false := decide_eq_false c3
        clear c3
        obtain rfl := Option.some.inj H
        go_wp2
        go_ret
        exact ⟨by first | rfl | (simp; done) | (simp [*]; done), by repeat (first | exact Drawn0.refl _ | apply Drawn0.step)⟩

/-! ### selvageref02_Find: function 17 -/
mutual
def selvageref02_Find.l0 : Nat → List (S30) → Int → Bool → Int → Option (Int × Int × Bool)
  | 0, _, _, _, _ => none
  | k + 1, x0, x1, x7, x8 => if x8 < (x0.length : Int) then (selvageref02_Find.j1 k x0 x1 x7 x8 x7) else (selvageref02_Find.j1 k x0 x1 x7 x8 false)
def selvageref02_Find.j1 : Nat → List (S30) → Int → Bool → Int → Bool → Option (Int × Int × Bool)
  | 0, _, _, _, _, _ => none
  | k + 1, x0, x1, x7, x8, x17 => if x17 = true then (if 0 ≤ x8 then (if x8 < (x0.length : Int) then (if ((rd_T30 x0 x8).f1) = x1 then ((selvageref02_end.f k x0 x8).bind fun t275 => (some (x8, t275, true))) else ((selvageref02_end.f k x0 x8).bind fun t276 => (selvageref02_Find.l0 k x0 x1 x7 t276))) else (none)) else (none)) else (some (0, 0, false))
end
def selvageref02_Find.f (k : Nat) (l0 : List (S30)) (a1 : Int) : Option (Int × Int × Bool) := (selvageref02_Right.f k l0).bind fun t273 => (selvageref02_Find.l0 k l0 a1 t273 0)
theorem selvageref02_Find.mono_l : ∀ k, (∀ y0 y1 y2 y3, LeO (selvageref02_Find.l0 k y0 y1 y2 y3) (selvageref02_Find.l0 (k + 1) y0 y1 y2 y3)) ∧ (∀ y0 y1 y2 y3 y4, LeO (selvageref02_Find.j1 k y0 y1 y2 y3 y4) (selvageref02_Find.j1 (k + 1) y0 y1 y2 y3 y4))
  | 0 => ⟨fun _ _ _ _ r h => by simp [selvageref02_Find.l0] at h, fun _ _ _ _ _ r h => by simp [selvageref02_Find.j1] at h⟩
  | k + 1 => by
    obtain ⟨ih0, ih1⟩ := selvageref02_Find.mono_l k
    refine ⟨?_, ?_⟩
    · intro y0 y1 y2 y3
      unfold selvageref02_Find.l0
      repeat' first
      | (with_reducible exact ih0 _ _ _ _)
      | (with_reducible exact ih1 _ _ _ _ _)
      | (with_reducible exact selvageref02_Right.mono _ _)
      | (with_reducible exact selvageref02_end.mono _ _ _)
      | (with_reducible exact LeO.refl _)
      | (with_reducible exact LeO.none _)
      | (with_reducible refine LeO.ite ?_ ?_)
      | (with_reducible refine LeO.bind ?_ (fun _ => ?_))
      | exact ih0 _ _ _ _
      | exact ih1 _ _ _ _ _
      | exact selvageref02_Right.mono _ _
      | exact selvageref02_end.mono _ _ _
      | exact LeO.none _
      | refine LeO.ite ?_ ?_
      | refine LeO.bind ?_ (fun _ => ?_)
    · intro y0 y1 y2 y3 y4
      unfold selvageref02_Find.j1
      repeat' first
      | (with_reducible exact ih0 _ _ _ _)
      | (with_reducible exact ih1 _ _ _ _ _)
      | (with_reducible exact selvageref02_Right.mono _ _)
      | (with_reducible exact selvageref02_end.mono _ _ _)
      | (with_reducible exact LeO.refl _)
      | (with_reducible exact LeO.none _)
      | (with_reducible refine LeO.ite ?_ ?_)
      | (with_reducible refine LeO.bind ?_ (fun _ => ?_))
      | exact ih0 _ _ _ _
      | exact ih1 _ _ _ _ _
      | exact selvageref02_Right.mono _ _
      | exact selvageref02_end.mono _ _ _
      | exact LeO.none _
      | refine LeO.ite ?_ ?_
      | refine LeO.bind ?_ (fun _ => ?_)
theorem selvageref02_Find.mono : ∀ a0 a1 k, LeO (selvageref02_Find.f k a0 a1) (selvageref02_Find.f (k + 1) a0 a1) := by
  intro a0 a1 k
  obtain ⟨ih0, ih1⟩ := selvageref02_Find.mono_l k
  unfold selvageref02_Find.f
  repeat' first
      | (with_reducible exact ih0 _ _ _ _)
      | (with_reducible exact ih1 _ _ _ _ _)
      | (with_reducible exact selvageref02_Right.mono _ _)
      | (with_reducible exact selvageref02_end.mono _ _ _)
      | (with_reducible exact LeO.refl _)
      | (with_reducible exact LeO.none _)
      | (with_reducible refine LeO.ite ?_ ?_)
      | (with_reducible refine LeO.bind ?_ (fun _ => ?_))
      | exact ih0 _ _ _ _
      | exact ih1 _ _ _ _ _
      | exact selvageref02_Right.mono _ _
      | exact selvageref02_end.mono _ _ _
      | exact LeO.none _
      | refine LeO.ite ?_ ?_
      | refine LeO.bind ?_ (fun _ => ?_)
set_option maxHeartbeats 8000000 in
set_option maxRecDepth 100000 in
theorem selvageref02_Find.calls (k : Nat) (A0 : Option Addr) (c0 : Nat) (l0 : List (S30)) (a1 : Int) (r1 : Int) (r2 : Int) (r3 : Bool) (w : World) (hr0 : Kd.C k30 w A0 l0.length l0) (hc0 : l0.length ≤ c0) (h : selvageref02_Find.f k l0 a1 = some (r1, r2, r3)) :
    Calls Try.prog 17 #[.slice A0 l0.length c0, .int .i64 a1] w fun e w' => e = .returned (.tuple #[.int .i64 r1, .int .i64 r2, .bool r3]) ∧ Below w.heap.size w w' := by
  have HR0 := Aside0.mk hr0
  have HC0 := Aside0.mk hc0
  clear hr0 hc0
  have HB := Aside0.mk (Below.refl w.heap.size w)
  have H : ((selvageref02_Right.f k l0).bind fun t273 => (selvageref02_Find.l0 k l0 a1 t273 0)) = some (r1, r2, r3) := h
  clear h
  replace H := Option.bind_eq_some_iff.mp H
  obtain ⟨t273, A30, H⟩ := H
  replace H : (selvageref02_Find.l0 k l0 a1 t273 0) = some (r1, r2, r3) := H
  have A3 := Aside0.mk A30
  clear A30
  have H' := Aside0.mk H
  clear H
  go_enter Try.func17, Try.ntmps17
  go_wp2_with (first | ((with_reducible refine gate_callee (f := 15) rfl ?_); refine goesL_ (some 10) rfl rfl Try.func15 (by kernel_rfl) rfl #[.slice A0 l0.length c0] rfl (by (try simp only [List.map_toArray, List.map_cons, List.map_nil]); first | done | rfl | (simp only [List.length_drop, List.length_take]; rfl)) ?_; (with_reducible refine (selvageref02_Right.calls k _ _ l0 t273 _ ?side1 ?side2 A3.out).mono ?_); (case side1 => repeat (first | exact HR0.out | (with_reducible refine Kd.C_alloc ?_ _) | (with_reducible refine Kd.C_drewN ?_ _) | (with_reducible refine Kd.C_drew ?_))); (case side2 => exact HC0.out); rintro e w4 ⟨rfl, hb⟩; refine ⟨_, rfl, ?_⟩; have n0_ := Aside0.mk (below_step (by repeat (first | (with_reducible first | exact HB.out | apply below_alloc | apply pw_below_drewN | apply below_drew1) | exact HB.out)) hb); clear HB; have HB := n0_; clear n0_; (try clear hb); (try clear hb2); (try clear hk); (try clear hi)))
  go_loopg [8] k (fun kq v8 w' => ∃ (x8_1 : Int), v8 = .int .i64 x8_1 ∧ Aside0 (selvageref02_Find.l0 kq l0 a1 t273 x8_1 = some (r1, r2, r3)) ∧ Aside0 (kq ≤ k) ∧ Aside0 (Below w.heap.size w w'))
  case atStart => exact ⟨(0), (by first | rfl | (simp; done) | (simp [*]; done)), H', ⟨Nat.le_refl _⟩, ⟨by repeat (first | (with_reducible first | exact HB.out | apply below_alloc | apply pw_below_drewN | apply below_drew1) | exact HB.out)⟩⟩
  case round =>
    clear H'
    try clear c1
    try clear p2
    obtain ⟨x8_1, rfl, HA, HK1, HB⟩ := hrel
    cases gk with
    | zero => exact absurd HA.out (by simp [selvageref02_Find.l0])
    | succ k1 =>
      have H := HA.out
      clear HA
      simp only [selvageref02_Find.l0] at H
      have HC5 := Aside0.mk H
      clear H
      go_upto_region 3 with (fail)
      go_cut [17] (fun v17 wc => ∃ (kq : Nat) (x17_4 : Bool), v17 = .bool x17_4 ∧ Aside0 (selvageref02_Find.j1 kq l0 a1 t273 x8_1 x17_4 = some (r1, r2, r3)) ∧ Aside0 (kq ≤ k1) ∧ Aside0 (Below w.heap.size w wc))
      case first =>
        have H := HC5.out
        clear HC5
        by_cases c6 : x8_1 < (l0.length : Int)
        · rw [if_pos c6] at H
          have c6b0 : decide (x8_1 < (l0.length : Int)) = true := decide_eq_true c6
          clear c6
          (first | rw [c6b0] | (simp only [i64_w, i32_w]; rw [c6b0]) | skip)
          have H' := Aside0.mk H
          clear H
          go_wp2
          go_meet
          case rel => exact ⟨_, (t273), (by first | rfl | (simp; done) | (simp [*]; done)), H', ⟨by have := HK1.out; first | omega | exact Nat.le_refl _⟩, ⟨by repeat (first | (with_reducible first | exact HB.out | apply below_alloc | apply pw_below_drewN | apply below_drew1) | exact HB.out)⟩⟩
        · rw [if_neg c6] at H
          have c6b0 : decide (x8_1 < (l0.length : Int)) = false := decide_eq_false c6
          clear c6
          (first | rw [c6b0] | (simp only [i64_w, i32_w]; rw [c6b0]) | skip)
          have H' := Aside0.mk H
          clear H
          go_wp2
          go_meet
          case rel => exact ⟨_, (false), (by first | rfl | (simp; done) | (simp [*]; done)), H', ⟨by have := HK1.out; first | omega | exact Nat.le_refl _⟩, ⟨by repeat (first | (with_reducible first | exact HB.out | apply below_alloc | apply pw_below_drewN | apply below_drew1) | exact HB.out)⟩⟩
      case rest =>
        clear HC5
        try clear c1
        try clear p2
        try clear c6
        try clear c6b0
        try clear p2
        obtain ⟨kq, x17_4, rfl, HA, HJ4, HB⟩ := hcut
        cases kq with
        | zero => exact absurd HA.out (by simp [selvageref02_Find.j1])
        | succ kj4 =>
          have H := HA.out
          clear HA
          simp only [selvageref02_Find.j1] at H
          by_cases c7 : x17_4 = true
          · subst c7
            have H1 : (if 0 ≤ x8_1 then (if x8_1 < (l0.length : Int) then (if ((rd_T30 l0 x8_1).f1) = a1 then ((selvageref02_end.f kj4 l0 x8_1).bind fun t275 => (some (x8_1, t275, true))) else ((selvageref02_end.f kj4 l0 x8_1).bind fun t276 => (selvageref02_Find.l0 kj4 l0 a1 t273 t276))) else (none)) else (none)) = some (r1, r2, r3) := by rw [if_pos rfl] at H; exact H
            clear H
            have H := H1
            clear H1
            by_cases c8 : 0 ≤ x8_1
            · rw [if_pos c8] at H
              have c8b0 : decide (0 ≤ x8_1) = true := decide_eq_true c8
              clear c8
              by_cases c9 : x8_1 < (l0.length : Int)
              · rw [if_pos c9] at H
                have c9b0 : decide (x8_1 < (l0.length : Int)) = true := decide_eq_true c9
                clear c9
                by_cases c10 : ((rd_T30 l0 x8_1).f1) = a1
                · rw [if_pos c10] at H
                  have c10b0 : (((rd_T30 l0 x8_1).f1) == a1) = true := beq_iff_eq.mpr c10
                  have c10b1 : (((rd_T30 l0 x8_1).f1) != a1) = false := bne_eq_false_iff_eq.mpr c10
                  clear c10
                  replace H := Option.bind_eq_some_iff.mp H
                  obtain ⟨t275, A110, H⟩ := H
                  replace H : (some (x8_1, t275, true)) = some (r1, r2, r3) := H
                  have A11 := Aside0.mk A110
                  clear A110
                  simp only [Option.some.injEq, Prod.mk.injEq] at H
                  obtain ⟨rfl, rfl, rfl⟩ := H
                  have p274 : 0 ≤ (x8_1 : Int) := of_decide_eq_true (by first | (with_reducible assumption) | assumption)
                  have q274 : x8_1 < (l0.length : Int) := of_decide_eq_true (by first | (with_reducible assumption) | assumption)
                  obtain ⟨ad274, A274_3, c274_3, e274, hx274_0, hx274_1, hx274_2, hx274_3, hl274_3, hi274_3⟩ := at_T30 HR0.out x8_1 p274 q274
                  cases e274
                  replace hx274_0 := (HB.out.cell (World.block_lt_of_cell? w _ hx274_0)).trans hx274_0
                  replace hx274_1 := (HB.out.cell (World.block_lt_of_cell? w _ hx274_1)).trans hx274_1
                  replace hx274_2 := (HB.out.cell (World.block_lt_of_cell? w _ hx274_2)).trans hx274_2
                  replace hx274_3 := (HB.out.cell (World.block_lt_of_cell? w _ hx274_3)).trans hx274_3
                  have HR274_3 := Aside0.mk hi274_3
                  have HC274_3 := Aside0.mk hl274_3
                  clear hi274_3 hl274_3
                  replace p274 := eq_true p274
                  replace q274 := eq_true q274
                  go_wp2_with (first | ((with_reducible refine gate_callee (f := 31) rfl ?_); refine goesL_ (some 31) rfl rfl Try.func31 (by kernel_rfl) rfl #[.slice (some ad274) l0.length c0, .int .i64 x8_1] rfl (by (try simp only [List.map_toArray, List.map_cons, List.map_nil]); first | done | rfl | (simp only [List.length_drop, List.length_take]; rfl)) ?_; (with_reducible refine (selvageref02_end.calls kj4 _ _ l0 x8_1 t275 _ ?side1 ?side2 A11.out).mono ?_); (case side1 => repeat (first | exact (Kd.C_below HR0.out HB.out) | (with_reducible refine Kd.C_alloc ?_ _) | (with_reducible refine Kd.C_drewN ?_ _) | (with_reducible refine Kd.C_drew ?_))); (case side2 => exact HC0.out); rintro e w' ⟨rfl, ⟨nd, rfl⟩⟩; refine ⟨_, rfl, ?_⟩))
                  go_ret3
                  exact ⟨by first | rfl | (simp [errW_none, errW_some] <;> rfl) | (simp [*, errW_none, errW_some] <;> rfl), by repeat (first | (with_reducible first | exact HB.out | apply below_alloc | apply pw_below_drewN | apply below_drew1) | exact HB.out)⟩
                · rw [if_neg c10] at H
                  have c10b0 : (((rd_T30 l0 x8_1).f1) == a1) = false := beq_eq_false_iff_ne.mpr c10
                  have c10b1 : (((rd_T30 l0 x8_1).f1) != a1) = true := bne_iff_ne.mpr c10
                  replace H := Option.bind_eq_some_iff.mp H
                  obtain ⟨t276, A120, H⟩ := H
                  replace H : (selvageref02_Find.l0 kj4 l0 a1 t273 t276) = some (r1, r2, r3) := H
                  have A12 := Aside0.mk A120
                  clear A120
                  have H' := Aside0.mk H
                  clear H
                  have p274 : 0 ≤ (x8_1 : Int) := of_decide_eq_true (by first | (with_reducible assumption) | assumption)
                  have q274 : x8_1 < (l0.length : Int) := of_decide_eq_true (by first | (with_reducible assumption) | assumption)
                  obtain ⟨ad274, A274_3, c274_3, e274, hx274_0, hx274_1, hx274_2, hx274_3, hl274_3, hi274_3⟩ := at_T30 HR0.out x8_1 p274 q274
                  cases e274
                  replace hx274_0 := (HB.out.cell (World.block_lt_of_cell? w _ hx274_0)).trans hx274_0
                  replace hx274_1 := (HB.out.cell (World.block_lt_of_cell? w _ hx274_1)).trans hx274_1
                  replace hx274_2 := (HB.out.cell (World.block_lt_of_cell? w _ hx274_2)).trans hx274_2
                  replace hx274_3 := (HB.out.cell (World.block_lt_of_cell? w _ hx274_3)).trans hx274_3
                  have HR274_3 := Aside0.mk hi274_3
                  have HC274_3 := Aside0.mk hl274_3
                  clear hi274_3 hl274_3
                  replace p274 := eq_true p274
                  replace q274 := eq_true q274
                  go_wp2_with (first | ((with_reducible refine gate_callee (f := 31) rfl ?_); refine goesL_ (some 20) rfl rfl Try.func31 (by kernel_rfl) rfl #[.slice (some ad274) l0.length c0, .int .i64 x8_1] rfl (by (try simp only [List.map_toArray, List.map_cons, List.map_nil]); first | done | rfl | (simp only [List.length_drop, List.length_take]; rfl)) ?_; (with_reducible refine (selvageref02_end.calls kj4 _ _ l0 x8_1 t276 _ ?side1 ?side2 A12.out).mono ?_); (case side1 => repeat (first | exact (Kd.C_below HR0.out HB.out) | (with_reducible refine Kd.C_alloc ?_ _) | (with_reducible refine Kd.C_drewN ?_ _) | (with_reducible refine Kd.C_drew ?_))); (case side2 => exact HC0.out); rintro e w' ⟨rfl, ⟨nd, rfl⟩⟩; refine ⟨_, rfl, ?_⟩))
                  go_roundg kj4
                  case measure => have := HK1.out; have := HJ4.out; omega
                  case rel => exact ⟨(t276), (by first | rfl | (simp; done) | (simp [*]; done)), H', ⟨by have := HK1.out; have := HJ4.out; omega⟩, ⟨by repeat (first | (with_reducible first | exact HB.out | apply below_alloc | apply pw_below_drewN | apply below_drew1) | exact HB.out)⟩⟩
              · rw [if_neg c9] at H
                exact absurd H (by simp)
            · rw [if_neg c8] at H
              exact absurd H (by simp)
          · replace c7 := Bool.eq_false_iff.mpr c7
            subst c7
            have H1 : (some (0, 0, false)) = some (r1, r2, r3) := by rw [if_neg (show ¬ (false = true) by decide)] at H; exact H
            clear H
            have H := H1
            clear H1
            simp only [Option.some.injEq, Prod.mk.injEq] at H
            obtain ⟨rfl, rfl, rfl⟩ := H
            go_wp2
            go_ret3
            exact ⟨by first | rfl | (simp [errW_none, errW_some] <;> rfl) | (simp [*, errW_none, errW_some] <;> rfl), by repeat (first | (with_reducible first | exact HB.out | apply below_alloc | apply pw_below_drewN | apply below_drew1) | exact HB.out)⟩

end Go.Proofs.Ytmiijakcmbolfaa.P
