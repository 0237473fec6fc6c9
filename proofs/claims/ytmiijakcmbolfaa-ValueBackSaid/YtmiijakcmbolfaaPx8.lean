-- Printed by a program of this session over the kit's print: all laws of the seat in one namespace, some texts by hand.
import Derived.Test.YtmiijakcmbolfaaPx0
namespace Go.Proofs.Ytmiijakcmbolfaa.P
open Go.RowKit Go.Proofs.YtmiijakcmbolfaaW.PrintWords Go.Proofs.YtmiijakcmbolfaaW.PrintLast Go.Proofs.YtmiijakcmbolfaaW.PrintMore
attribute [local go_sem] max2_int min2_int max_two min_two max_three min_three max_four min_four   -- for this text's walks alone
set_option linter.unusedVariables false
set_option linter.unusedSimpArgs false

/-! ### selvageref02_Same: function 18 -/
def selvageref02_Same.l0 : Nat → List (S30) → List (S30) → Int → Option (Bool)
  | 0, _, _, _ => none
  | k + 1, x0, x1, x5 => if x5 < (x0.length : Int) then (if 0 ≤ x5 then (if x5 < (x1.length : Int) then (if ((rd_T30 x0 x5).f0) = ((rd_T30 x1 x5).f0) then (if ((rd_T30 x0 x5).f1) = ((rd_T30 x1 x5).f1) then (if ((rd_T30 x0 x5).f2) = ((rd_T30 x1 x5).f2) then (if (strOfNums ((rd_T30 x0 x5).f3)).toList = (strOfNums ((rd_T30 x1 x5).f3)).toList then (selvageref02_Same.l0 k x0 x1 (wrap64 (x5 + 1))) else (some false)) else (some false)) else (some false)) else (some false)) else (none)) else (none)) else (some true)
def selvageref02_Same.f (k : Nat) (l0 : List (S30)) (l1 : List (S30)) : Option (Bool) := if (l0.length : Int) = (l1.length : Int) then (selvageref02_Same.l0 k l0 l1 0) else (some false)
theorem selvageref02_Same.mono_l : ∀ k, (∀ y0 y1 y2, LeO (selvageref02_Same.l0 k y0 y1 y2) (selvageref02_Same.l0 (k + 1) y0 y1 y2))
  | 0 => fun _ _ _ r h => by simp [selvageref02_Same.l0] at h
  | k + 1 => by
    have ih0 := selvageref02_Same.mono_l k
    · intro y0 y1 y2
      unfold selvageref02_Same.l0
      repeat' first
      | (with_reducible exact ih0 _ _ _)
      | (with_reducible exact LeO.refl _)
      | (with_reducible exact LeO.none _)
      | (with_reducible refine LeO.ite ?_ ?_)
      | (with_reducible refine LeO.bind ?_ (fun _ => ?_))
      | exact ih0 _ _ _
      | exact LeO.none _
      | refine LeO.ite ?_ ?_
      | refine LeO.bind ?_ (fun _ => ?_)
theorem selvageref02_Same.mono : ∀ a0 a1 k, LeO (selvageref02_Same.f k a0 a1) (selvageref02_Same.f (k + 1) a0 a1) := by
  intro a0 a1 k
  have ih0 := selvageref02_Same.mono_l k
  unfold selvageref02_Same.f
  repeat' first
      | (with_reducible exact ih0 _ _ _)
      | (with_reducible exact LeO.refl _)
      | (with_reducible exact LeO.none _)
      | (with_reducible refine LeO.ite ?_ ?_)
      | (with_reducible refine LeO.bind ?_ (fun _ => ?_))
      | exact ih0 _ _ _
      | exact LeO.none _
      | refine LeO.ite ?_ ?_
      | refine LeO.bind ?_ (fun _ => ?_)
set_option maxHeartbeats 8000000 in
set_option maxRecDepth 100000 in
theorem selvageref02_Same.calls (k : Nat) (A0 : Option Addr) (c0 : Nat) (l0 : List (S30)) (A1 : Option Addr) (c1 : Nat) (l1 : List (S30)) (r : Bool) (w : World) (hr0 : Kd.C k30 w A0 l0.length l0) (hc0 : l0.length ≤ c0) (hr1 : Kd.C k30 w A1 l1.length l1) (hc1 : l1.length ≤ c1) (h : selvageref02_Same.f k l0 l1 = some r) :
    Calls Try.prog 18 #[.slice A0 l0.length c0, .slice A1 l1.length c1] w fun e w' => e = .returned (.bool r) ∧ Drawn0 w w' := by
  have HR0 := Aside0.mk hr0
  have HC0 := Aside0.mk hc0
  clear hr0 hc0
  have HR1 := Aside0.mk hr1
  have HC1 := Aside0.mk hc1
  clear hr1 hc1
  have H : (if (l0.length : Int) = (l1.length : Int) then (selvageref02_Same.l0 k l0 l1 0) else (some false)) = some r := h
  clear h
  by_cases c3 : (l0.length : Int) = (l1.length : Int)
  · rw [if_pos c3] at H
    have c3b0 : ((l0.length : Int) == (l1.length : Int)) = true := beq_iff_eq.mpr c3
    have c3b1 : ((l0.length : Int) != (l1.length : Int)) = false := bne_eq_false_iff_eq.mpr c3
    have c3b2 : (l0.length == l1.length) = true := by first | simpa using c3 | (simp at c3 ⊢; omega)
    clear c3
    have H' := Aside0.mk H
    clear H
    go_enter Try.func18, Try.ntmps18
    go_wp2
    repeat (go_quiet (fail); try go_wp2)
    go_loopg [5] k (fun kq v5 w' => ∃ (x5_1 : Int), v5 = .int .i64 x5_1 ∧ Aside0 (selvageref02_Same.l0 kq l0 l1 x5_1 = some r) ∧ Aside0 (kq ≤ k) ∧ Drawn0 w w')
    case atStart => exact ⟨(0), (by first | rfl | (simp; done) | (simp [*]; done)), H', ⟨Nat.le_refl _⟩, by repeat (first | exact Drawn0.refl _ | apply Drawn0.step)⟩
    case round =>
      clear H'
      try clear c1
      try clear p2
      try clear c3
      try clear c3b0
      try clear c3b1
      try clear c3b2
      obtain ⟨x5_1, rfl, HA, HK1, ⟨m1, rfl⟩⟩ := hrel
      cases gk with
      | zero => exact absurd HA.out (by simp [selvageref02_Same.l0])
      | succ k1 =>
        have H := HA.out
        clear HA
        simp only [selvageref02_Same.l0] at H
        by_cases c4 : x5_1 < (l0.length : Int)
        · rw [if_pos c4] at H
          have c4b0 : decide (x5_1 < (l0.length : Int)) = true := decide_eq_true c4
          clear c4
          by_cases c5 : 0 ≤ x5_1
          · rw [if_pos c5] at H
            have c5b0 : decide (0 ≤ x5_1) = true := decide_eq_true c5
            clear c5
            by_cases c6 : x5_1 < (l1.length : Int)
            · rw [if_pos c6] at H
              have c6b0 : decide (x5_1 < (l1.length : Int)) = true := decide_eq_true c6
              clear c6
              by_cases c7 : ((rd_T30 l0 x5_1).f0) = ((rd_T30 l1 x5_1).f0)
              · rw [if_pos c7] at H
                have c7b0 : (((rd_T30 l0 x5_1).f0) == ((rd_T30 l1 x5_1).f0)) = true := beq_iff_eq.mpr c7
                have c7b1 : (((rd_T30 l0 x5_1).f0) != ((rd_T30 l1 x5_1).f0)) = false := bne_eq_false_iff_eq.mpr c7
                clear c7
                by_cases c8 : ((rd_T30 l0 x5_1).f1) = ((rd_T30 l1 x5_1).f1)
                · rw [if_pos c8] at H
                  have c8b0 : (((rd_T30 l0 x5_1).f1) == ((rd_T30 l1 x5_1).f1)) = true := beq_iff_eq.mpr c8
                  have c8b1 : (((rd_T30 l0 x5_1).f1) != ((rd_T30 l1 x5_1).f1)) = false := bne_eq_false_iff_eq.mpr c8
                  clear c8
                  by_cases c9 : ((rd_T30 l0 x5_1).f2) = ((rd_T30 l1 x5_1).f2)
                  · rw [if_pos c9] at H
                    have c9b0 : (((rd_T30 l0 x5_1).f2) == ((rd_T30 l1 x5_1).f2)) = true := beq_iff_eq.mpr c9
                    have c9b1 : (((rd_T30 l0 x5_1).f2) != ((rd_T30 l1 x5_1).f2)) = false := bne_eq_false_iff_eq.mpr c9
                    clear c9
                    by_cases c10 : (strOfNums ((rd_T30 l0 x5_1).f3)).toList = (strOfNums ((rd_T30 l1 x5_1).f3)).toList
                    · rw [if_pos c10] at H
                      have c10b0 : ((strOfNums ((rd_T30 l0 x5_1).f3)).toList == (strOfNums ((rd_T30 l1 x5_1).f3)).toList) = true := beq_iff_eq.mpr c10
                      have c10b1 : ((strOfNums ((rd_T30 l0 x5_1).f3)).toList != (strOfNums ((rd_T30 l1 x5_1).f3)).toList) = false := bne_eq_false_iff_eq.mpr c10
                      clear c10
                      have H' := Aside0.mk H
                      clear H
                      have p277 : 0 ≤ (x5_1 : Int) := of_decide_eq_true (by first | (with_reducible assumption) | assumption)
                      have q277 : x5_1 < (l0.length : Int) := of_decide_eq_true (by first | (with_reducible assumption) | assumption)
                      obtain ⟨ad277, A277_3, c277_3, e277, hx277_0, hx277_1, hx277_2, hx277_3, hl277_3, hi277_3⟩ := at_T30 HR0.out x5_1 p277 q277
                      cases e277
                      have HR277_3 := Aside0.mk hi277_3
                      have HC277_3 := Aside0.mk hl277_3
                      clear hi277_3 hl277_3
                      replace p277 := eq_true p277
                      replace q277 := eq_true q277
                      have p278 : 0 ≤ (x5_1 : Int) := of_decide_eq_true (by first | (with_reducible assumption) | assumption)
                      have q278 : x5_1 < (l1.length : Int) := of_decide_eq_true (by first | (with_reducible assumption) | assumption)
                      obtain ⟨ad278, A278_3, c278_3, e278, hx278_0, hx278_1, hx278_2, hx278_3, hl278_3, hi278_3⟩ := at_T30 HR1.out x5_1 p278 q278
                      cases e278
                      have HR278_3 := Aside0.mk hi278_3
                      have HC278_3 := Aside0.mk hl278_3
                      clear hi278_3 hl278_3
                      replace p278 := eq_true p278
                      replace q278 := eq_true q278
                      have p279 : 0 ≤ (x5_1 : Int) := of_decide_eq_true (by first | (with_reducible assumption) | assumption)
                      have q279 : x5_1 < (l0.length : Int) := of_decide_eq_true (by first | (with_reducible assumption) | assumption)
                      obtain ⟨ad279, A279_3, c279_3, e279, hx279_0, hx279_1, hx279_2, hx279_3, hl279_3, hi279_3⟩ := at_T30 HR0.out x5_1 p279 q279
                      obtain rfl : ad277 = ad279 := (by injection e279)
                      have HR279_3 := Aside0.mk hi279_3
                      have HC279_3 := Aside0.mk hl279_3
                      clear hi279_3 hl279_3
                      replace p279 := eq_true p279
                      replace q279 := eq_true q279
                      have ea_ := Option.some.inj (hx277_3.symm.trans hx279_3)
                      injection ea_ with ea_ en_ ec_
                      subst ea_
                      subst ec_
                      clear en_
                      have p280 : 0 ≤ (x5_1 : Int) := of_decide_eq_true (by first | (with_reducible assumption) | assumption)
                      have q280 : x5_1 < (l1.length : Int) := of_decide_eq_true (by first | (with_reducible assumption) | assumption)
                      obtain ⟨ad280, A280_3, c280_3, e280, hx280_0, hx280_1, hx280_2, hx280_3, hl280_3, hi280_3⟩ := at_T30 HR1.out x5_1 p280 q280
                      obtain rfl : ad278 = ad280 := (by injection e280)
                      have HR280_3 := Aside0.mk hi280_3
                      have HC280_3 := Aside0.mk hl280_3
                      clear hi280_3 hl280_3
                      replace p280 := eq_true p280
                      replace q280 := eq_true q280
                      have ea_ := Option.some.inj (hx278_3.symm.trans hx280_3)
                      injection ea_ with ea_ en_ ec_
                      subst ea_
                      subst ec_
                      clear en_
                      have p281 : 0 ≤ (x5_1 : Int) := of_decide_eq_true (by first | (with_reducible assumption) | assumption)
                      have q281 : x5_1 < (l0.length : Int) := of_decide_eq_true (by first | (with_reducible assumption) | assumption)
                      obtain ⟨ad281, A281_3, c281_3, e281, hx281_0, hx281_1, hx281_2, hx281_3, hl281_3, hi281_3⟩ := at_T30 HR0.out x5_1 p281 q281
                      obtain rfl : ad277 = ad281 := (by injection e281)
                      have HR281_3 := Aside0.mk hi281_3
                      have HC281_3 := Aside0.mk hl281_3
                      clear hi281_3 hl281_3
                      replace p281 := eq_true p281
                      replace q281 := eq_true q281
                      have ea_ := Option.some.inj (hx277_3.symm.trans hx281_3)
                      injection ea_ with ea_ en_ ec_
                      subst ea_
                      subst ec_
                      clear en_
                      have p282 : 0 ≤ (x5_1 : Int) := of_decide_eq_true (by first | (with_reducible assumption) | assumption)
                      have q282 : x5_1 < (l1.length : Int) := of_decide_eq_true (by first | (with_reducible assumption) | assumption)
                      obtain ⟨ad282, A282_3, c282_3, e282, hx282_0, hx282_1, hx282_2, hx282_3, hl282_3, hi282_3⟩ := at_T30 HR1.out x5_1 p282 q282
                      obtain rfl : ad278 = ad282 := (by injection e282)
                      have HR282_3 := Aside0.mk hi282_3
                      have HC282_3 := Aside0.mk hl282_3
                      clear hi282_3 hl282_3
                      replace p282 := eq_true p282
                      replace q282 := eq_true q282
                      have ea_ := Option.some.inj (hx278_3.symm.trans hx282_3)
                      injection ea_ with ea_ en_ ec_
                      subst ea_
                      subst ec_
                      clear en_
                      have p283 : 0 ≤ (x5_1 : Int) := of_decide_eq_true (by first | (with_reducible assumption) | assumption)
                      have q283 : x5_1 < (l0.length : Int) := of_decide_eq_true (by first | (with_reducible assumption) | assumption)
                      obtain ⟨ad283, A283_3, c283_3, e283, hx283_0, hx283_1, hx283_2, hx283_3, hl283_3, hi283_3⟩ := at_T30 HR0.out x5_1 p283 q283
                      obtain rfl : ad277 = ad283 := (by injection e283)
                      have HR283_3 := Aside0.mk hi283_3
                      have HC283_3 := Aside0.mk hl283_3
                      clear hi283_3 hl283_3
                      replace p283 := eq_true p283
                      replace q283 := eq_true q283
                      have ea_ := Option.some.inj (hx277_3.symm.trans hx283_3)
                      injection ea_ with ea_ en_ ec_
                      subst ea_
                      subst ec_
                      clear en_
                      have hcv11 := Kd.C_string (P := Try.prog) (A := A277_3) (c := c277_3) Try.underlying25 Try.underlying5 Try.underlying9 HR283_3.out
                      have hcv11q := fun m_ : Nat => Kd.C_string (P := Try.prog) (A := A277_3) (c := c277_3) Try.underlying25 Try.underlying5 Try.underlying9 (Kd.C_drewN HR283_3.out m_)
                      have p284 : 0 ≤ (x5_1 : Int) := of_decide_eq_true (by first | (with_reducible assumption) | assumption)
                      have q284 : x5_1 < (l1.length : Int) := of_decide_eq_true (by first | (with_reducible assumption) | assumption)
                      obtain ⟨ad284, A284_3, c284_3, e284, hx284_0, hx284_1, hx284_2, hx284_3, hl284_3, hi284_3⟩ := at_T30 HR1.out x5_1 p284 q284
                      obtain rfl : ad278 = ad284 := (by injection e284)
                      have HR284_3 := Aside0.mk hi284_3
                      have HC284_3 := Aside0.mk hl284_3
                      clear hi284_3 hl284_3
                      replace p284 := eq_true p284
                      replace q284 := eq_true q284
                      have ea_ := Option.some.inj (hx278_3.symm.trans hx284_3)
                      injection ea_ with ea_ en_ ec_
                      subst ea_
                      subst ec_
                      clear en_
                      have hcv12 := Kd.C_string (P := Try.prog) (A := A278_3) (c := c278_3) Try.underlying25 Try.underlying5 Try.underlying9 HR284_3.out
                      have hcv12q := fun m_ : Nat => Kd.C_string (P := Try.prog) (A := A278_3) (c := c278_3) Try.underlying25 Try.underlying5 Try.underlying9 (Kd.C_drewN HR284_3.out m_)
                      go_wp2
                      repeat (go_quiet (fail); try go_wp2)
                      go_roundg k1
                      case measure => have := HK1.out; omega
                      case rel => exact ⟨(wrap64 (x5_1 + 1)), (by first | rfl | (simp; done) | (simp [*]; done)), H', ⟨by have := HK1.out; omega⟩, by repeat (first | exact Drawn0.refl _ | apply Drawn0.step)⟩
                    · rw [if_neg c10] at H
                      have c10b0 : ((strOfNums ((rd_T30 l0 x5_1).f3)).toList == (strOfNums ((rd_T30 l1 x5_1).f3)).toList) = false := beq_eq_false_iff_ne.mpr c10
                      have c10b1 : ((strOfNums ((rd_T30 l0 x5_1).f3)).toList != (strOfNums ((rd_T30 l1 x5_1).f3)).toList) = true := bne_iff_ne.mpr c10
                      obtain rfl := Option.some.inj H
                      have p277 : 0 ≤ (x5_1 : Int) := of_decide_eq_true (by first | (with_reducible assumption) | assumption)
                      have q277 : x5_1 < (l0.length : Int) := of_decide_eq_true (by first | (with_reducible assumption) | assumption)
                      obtain ⟨ad277, A277_3, c277_3, e277, hx277_0, hx277_1, hx277_2, hx277_3, hl277_3, hi277_3⟩ := at_T30 HR0.out x5_1 p277 q277
                      cases e277
                      have HR277_3 := Aside0.mk hi277_3
                      have HC277_3 := Aside0.mk hl277_3
                      clear hi277_3 hl277_3
                      replace p277 := eq_true p277
                      replace q277 := eq_true q277
                      have p278 : 0 ≤ (x5_1 : Int) := of_decide_eq_true (by first | (with_reducible assumption) | assumption)
                      have q278 : x5_1 < (l1.length : Int) := of_decide_eq_true (by first | (with_reducible assumption) | assumption)
                      obtain ⟨ad278, A278_3, c278_3, e278, hx278_0, hx278_1, hx278_2, hx278_3, hl278_3, hi278_3⟩ := at_T30 HR1.out x5_1 p278 q278
                      cases e278
                      have HR278_3 := Aside0.mk hi278_3
                      have HC278_3 := Aside0.mk hl278_3
                      clear hi278_3 hl278_3
                      replace p278 := eq_true p278
                      replace q278 := eq_true q278
                      have p279 : 0 ≤ (x5_1 : Int) := of_decide_eq_true (by first | (with_reducible assumption) | assumption)
                      have q279 : x5_1 < (l0.length : Int) := of_decide_eq_true (by first | (with_reducible assumption) | assumption)
                      obtain ⟨ad279, A279_3, c279_3, e279, hx279_0, hx279_1, hx279_2, hx279_3, hl279_3, hi279_3⟩ := at_T30 HR0.out x5_1 p279 q279
                      obtain rfl : ad277 = ad279 := (by injection e279)
                      have HR279_3 := Aside0.mk hi279_3
                      have HC279_3 := Aside0.mk hl279_3
                      clear hi279_3 hl279_3
                      replace p279 := eq_true p279
                      replace q279 := eq_true q279
                      have ea_ := Option.some.inj (hx277_3.symm.trans hx279_3)
                      injection ea_ with ea_ en_ ec_
                      subst ea_
                      subst ec_
                      clear en_
                      have p280 : 0 ≤ (x5_1 : Int) := of_decide_eq_true (by first | (with_reducible assumption) | assumption)
                      have q280 : x5_1 < (l1.length : Int) := of_decide_eq_true (by first | (with_reducible assumption) | assumption)
                      obtain ⟨ad280, A280_3, c280_3, e280, hx280_0, hx280_1, hx280_2, hx280_3, hl280_3, hi280_3⟩ := at_T30 HR1.out x5_1 p280 q280
                      obtain rfl : ad278 = ad280 := (by injection e280)
                      have HR280_3 := Aside0.mk hi280_3
                      have HC280_3 := Aside0.mk hl280_3
                      clear hi280_3 hl280_3
                      replace p280 := eq_true p280
                      replace q280 := eq_true q280
                      have ea_ := Option.some.inj (hx278_3.symm.trans hx280_3)
                      injection ea_ with ea_ en_ ec_
                      subst ea_
                      subst ec_
                      clear en_
                      have p281 : 0 ≤ (x5_1 : Int) := of_decide_eq_true (by first | (with_reducible assumption) | assumption)
                      have q281 : x5_1 < (l0.length : Int) := of_decide_eq_true (by first | (with_reducible assumption) | assumption)
                      obtain ⟨ad281, A281_3, c281_3, e281, hx281_0, hx281_1, hx281_2, hx281_3, hl281_3, hi281_3⟩ := at_T30 HR0.out x5_1 p281 q281
                      obtain rfl : ad277 = ad281 := (by injection e281)
                      have HR281_3 := Aside0.mk hi281_3
                      have HC281_3 := Aside0.mk hl281_3
                      clear hi281_3 hl281_3
                      replace p281 := eq_true p281
                      replace q281 := eq_true q281
                      have ea_ := Option.some.inj (hx277_3.symm.trans hx281_3)
                      injection ea_ with ea_ en_ ec_
                      subst ea_
                      subst ec_
                      clear en_
                      have p282 : 0 ≤ (x5_1 : Int) := of_decide_eq_true (by first | (with_reducible assumption) | assumption)
                      have q282 : x5_1 < (l1.length : Int) := of_decide_eq_true (by first | (with_reducible assumption) | assumption)
                      obtain ⟨ad282, A282_3, c282_3, e282, hx282_0, hx282_1, hx282_2, hx282_3, hl282_3, hi282_3⟩ := at_T30 HR1.out x5_1 p282 q282
                      obtain rfl : ad278 = ad282 := (by injection e282)
                      have HR282_3 := Aside0.mk hi282_3
                      have HC282_3 := Aside0.mk hl282_3
                      clear hi282_3 hl282_3
                      replace p282 := eq_true p282
                      replace q282 := eq_true q282
                      have ea_ := Option.some.inj (hx278_3.symm.trans hx282_3)
                      injection ea_ with ea_ en_ ec_
                      subst ea_
                      subst ec_
                      clear en_
                      have p283 : 0 ≤ (x5_1 : Int) := of_decide_eq_true (by first | (with_reducible assumption) | assumption)
                      have q283 : x5_1 < (l0.length : Int) := of_decide_eq_true (by first | (with_reducible assumption) | assumption)
                      obtain ⟨ad283, A283_3, c283_3, e283, hx283_0, hx283_1, hx283_2, hx283_3, hl283_3, hi283_3⟩ := at_T30 HR0.out x5_1 p283 q283
                      obtain rfl : ad277 = ad283 := (by injection e283)
                      have HR283_3 := Aside0.mk hi283_3
                      have HC283_3 := Aside0.mk hl283_3
                      clear hi283_3 hl283_3
                      replace p283 := eq_true p283
                      replace q283 := eq_true q283
                      have ea_ := Option.some.inj (hx277_3.symm.trans hx283_3)
                      injection ea_ with ea_ en_ ec_
                      subst ea_
                      subst ec_
                      clear en_
                      have hcv13 := Kd.C_string (P := Try.prog) (A := A277_3) (c := c277_3) Try.underlying25 Try.underlying5 Try.underlying9 HR283_3.out
                      have hcv13q := fun m_ : Nat => Kd.C_string (P := Try.prog) (A := A277_3) (c := c277_3) Try.underlying25 Try.underlying5 Try.underlying9 (Kd.C_drewN HR283_3.out m_)
                      have p284 : 0 ≤ (x5_1 : Int) := of_decide_eq_true (by first | (with_reducible assumption) | assumption)
                      have q284 : x5_1 < (l1.length : Int) := of_decide_eq_true (by first | (with_reducible assumption) | assumption)
                      obtain ⟨ad284, A284_3, c284_3, e284, hx284_0, hx284_1, hx284_2, hx284_3, hl284_3, hi284_3⟩ := at_T30 HR1.out x5_1 p284 q284
                      obtain rfl : ad278 = ad284 := (by injection e284)
                      have HR284_3 := Aside0.mk hi284_3
                      have HC284_3 := Aside0.mk hl284_3
                      clear hi284_3 hl284_3
                      replace p284 := eq_true p284
                      replace q284 := eq_true q284
                      have ea_ := Option.some.inj (hx278_3.symm.trans hx284_3)
                      injection ea_ with ea_ en_ ec_
                      subst ea_
                      subst ec_
                      clear en_
                      have hcv14 := Kd.C_string (P := Try.prog) (A := A278_3) (c := c278_3) Try.underlying25 Try.underlying5 Try.underlying9 HR284_3.out
                      have hcv14q := fun m_ : Nat => Kd.C_string (P := Try.prog) (A := A278_3) (c := c278_3) Try.underlying25 Try.underlying5 Try.underlying9 (Kd.C_drewN HR284_3.out m_)
                      go_wp2
                      repeat (go_quiet (fail); try go_wp2)
                      go_ret
                      exact ⟨by first | rfl | (simp; done) | (simp [*]; done), by repeat (first | exact Drawn0.refl _ | apply Drawn0.step)⟩
                  · rw [if_neg c9] at H
                    have c9b0 : (((rd_T30 l0 x5_1).f2) == ((rd_T30 l1 x5_1).f2)) = false := beq_eq_false_iff_ne.mpr c9
                    have c9b1 : (((rd_T30 l0 x5_1).f2) != ((rd_T30 l1 x5_1).f2)) = true := bne_iff_ne.mpr c9
                    obtain rfl := Option.some.inj H
                    have p277 : 0 ≤ (x5_1 : Int) := of_decide_eq_true (by first | (with_reducible assumption) | assumption)
                    have q277 : x5_1 < (l0.length : Int) := of_decide_eq_true (by first | (with_reducible assumption) | assumption)
                    obtain ⟨ad277, A277_3, c277_3, e277, hx277_0, hx277_1, hx277_2, hx277_3, hl277_3, hi277_3⟩ := at_T30 HR0.out x5_1 p277 q277
                    cases e277
                    have HR277_3 := Aside0.mk hi277_3
                    have HC277_3 := Aside0.mk hl277_3
                    clear hi277_3 hl277_3
                    replace p277 := eq_true p277
                    replace q277 := eq_true q277
                    have p278 : 0 ≤ (x5_1 : Int) := of_decide_eq_true (by first | (with_reducible assumption) | assumption)
                    have q278 : x5_1 < (l1.length : Int) := of_decide_eq_true (by first | (with_reducible assumption) | assumption)
                    obtain ⟨ad278, A278_3, c278_3, e278, hx278_0, hx278_1, hx278_2, hx278_3, hl278_3, hi278_3⟩ := at_T30 HR1.out x5_1 p278 q278
                    cases e278
                    have HR278_3 := Aside0.mk hi278_3
                    have HC278_3 := Aside0.mk hl278_3
                    clear hi278_3 hl278_3
                    replace p278 := eq_true p278
                    replace q278 := eq_true q278
                    have p279 : 0 ≤ (x5_1 : Int) := of_decide_eq_true (by first | (with_reducible assumption) | assumption)
                    have q279 : x5_1 < (l0.length : Int) := of_decide_eq_true (by first | (with_reducible assumption) | assumption)
                    obtain ⟨ad279, A279_3, c279_3, e279, hx279_0, hx279_1, hx279_2, hx279_3, hl279_3, hi279_3⟩ := at_T30 HR0.out x5_1 p279 q279
                    obtain rfl : ad277 = ad279 := (by injection e279)
                    have HR279_3 := Aside0.mk hi279_3
                    have HC279_3 := Aside0.mk hl279_3
                    clear hi279_3 hl279_3
                    replace p279 := eq_true p279
                    replace q279 := eq_true q279
                    have ea_ := Option.some.inj (hx277_3.symm.trans hx279_3)
                    injection ea_ with ea_ en_ ec_
                    subst ea_
                    subst ec_
                    clear en_
                    have p280 : 0 ≤ (x5_1 : Int) := of_decide_eq_true (by first | (with_reducible assumption) | assumption)
                    have q280 : x5_1 < (l1.length : Int) := of_decide_eq_true (by first | (with_reducible assumption) | assumption)
                    obtain ⟨ad280, A280_3, c280_3, e280, hx280_0, hx280_1, hx280_2, hx280_3, hl280_3, hi280_3⟩ := at_T30 HR1.out x5_1 p280 q280
                    obtain rfl : ad278 = ad280 := (by injection e280)
                    have HR280_3 := Aside0.mk hi280_3
                    have HC280_3 := Aside0.mk hl280_3
                    clear hi280_3 hl280_3
                    replace p280 := eq_true p280
                    replace q280 := eq_true q280
                    have ea_ := Option.some.inj (hx278_3.symm.trans hx280_3)
                    injection ea_ with ea_ en_ ec_
                    subst ea_
                    subst ec_
                    clear en_
                    have p281 : 0 ≤ (x5_1 : Int) := of_decide_eq_true (by first | (with_reducible assumption) | assumption)
                    have q281 : x5_1 < (l0.length : Int) := of_decide_eq_true (by first | (with_reducible assumption) | assumption)
                    obtain ⟨ad281, A281_3, c281_3, e281, hx281_0, hx281_1, hx281_2, hx281_3, hl281_3, hi281_3⟩ := at_T30 HR0.out x5_1 p281 q281
                    obtain rfl : ad277 = ad281 := (by injection e281)
                    have HR281_3 := Aside0.mk hi281_3
                    have HC281_3 := Aside0.mk hl281_3
                    clear hi281_3 hl281_3
                    replace p281 := eq_true p281
                    replace q281 := eq_true q281
                    have ea_ := Option.some.inj (hx277_3.symm.trans hx281_3)
                    injection ea_ with ea_ en_ ec_
                    subst ea_
                    subst ec_
                    clear en_
                    have p282 : 0 ≤ (x5_1 : Int) := of_decide_eq_true (by first | (with_reducible assumption) | assumption)
                    have q282 : x5_1 < (l1.length : Int) := of_decide_eq_true (by first | (with_reducible assumption) | assumption)
                    obtain ⟨ad282, A282_3, c282_3, e282, hx282_0, hx282_1, hx282_2, hx282_3, hl282_3, hi282_3⟩ := at_T30 HR1.out x5_1 p282 q282
                    obtain rfl : ad278 = ad282 := (by injection e282)
                    have HR282_3 := Aside0.mk hi282_3
                    have HC282_3 := Aside0.mk hl282_3
                    clear hi282_3 hl282_3
                    replace p282 := eq_true p282
                    replace q282 := eq_true q282
                    have ea_ := Option.some.inj (hx278_3.symm.trans hx282_3)
                    injection ea_ with ea_ en_ ec_
                    subst ea_
                    subst ec_
                    clear en_
                    go_wp2
                    repeat (go_quiet (fail); try go_wp2)
                    go_ret
                    exact ⟨by first | rfl | (simp; done) | (simp [*]; done), by repeat (first | exact Drawn0.refl _ | apply Drawn0.step)⟩
                · rw [if_neg c8] at H
                  have c8b0 : (((rd_T30 l0 x5_1).f1) == ((rd_T30 l1 x5_1).f1)) = false := beq_eq_false_iff_ne.mpr c8
                  have c8b1 : (((rd_T30 l0 x5_1).f1) != ((rd_T30 l1 x5_1).f1)) = true := bne_iff_ne.mpr c8
                  obtain rfl := Option.some.inj H
                  have p277 : 0 ≤ (x5_1 : Int) := of_decide_eq_true (by first | (with_reducible assumption) | assumption)
                  have q277 : x5_1 < (l0.length : Int) := of_decide_eq_true (by first | (with_reducible assumption) | assumption)
                  obtain ⟨ad277, A277_3, c277_3, e277, hx277_0, hx277_1, hx277_2, hx277_3, hl277_3, hi277_3⟩ := at_T30 HR0.out x5_1 p277 q277
                  cases e277
                  have HR277_3 := Aside0.mk hi277_3
                  have HC277_3 := Aside0.mk hl277_3
                  clear hi277_3 hl277_3
                  replace p277 := eq_true p277
                  replace q277 := eq_true q277
                  have p278 : 0 ≤ (x5_1 : Int) := of_decide_eq_true (by first | (with_reducible assumption) | assumption)
                  have q278 : x5_1 < (l1.length : Int) := of_decide_eq_true (by first | (with_reducible assumption) | assumption)
                  obtain ⟨ad278, A278_3, c278_3, e278, hx278_0, hx278_1, hx278_2, hx278_3, hl278_3, hi278_3⟩ := at_T30 HR1.out x5_1 p278 q278
                  cases e278
                  have HR278_3 := Aside0.mk hi278_3
                  have HC278_3 := Aside0.mk hl278_3
                  clear hi278_3 hl278_3
                  replace p278 := eq_true p278
                  replace q278 := eq_true q278
                  have p279 : 0 ≤ (x5_1 : Int) := of_decide_eq_true (by first | (with_reducible assumption) | assumption)
                  have q279 : x5_1 < (l0.length : Int) := of_decide_eq_true (by first | (with_reducible assumption) | assumption)
                  obtain ⟨ad279, A279_3, c279_3, e279, hx279_0, hx279_1, hx279_2, hx279_3, hl279_3, hi279_3⟩ := at_T30 HR0.out x5_1 p279 q279
                  obtain rfl : ad277 = ad279 := (by injection e279)
                  have HR279_3 := Aside0.mk hi279_3
                  have HC279_3 := Aside0.mk hl279_3
                  clear hi279_3 hl279_3
                  replace p279 := eq_true p279
                  replace q279 := eq_true q279
                  have ea_ := Option.some.inj (hx277_3.symm.trans hx279_3)
                  injection ea_ with ea_ en_ ec_
                  subst ea_
                  subst ec_
                  clear en_
                  have p280 : 0 ≤ (x5_1 : Int) := of_decide_eq_true (by first | (with_reducible assumption) | assumption)
                  have q280 : x5_1 < (l1.length : Int) := of_decide_eq_true (by first | (with_reducible assumption) | assumption)
                  obtain ⟨ad280, A280_3, c280_3, e280, hx280_0, hx280_1, hx280_2, hx280_3, hl280_3, hi280_3⟩ := at_T30 HR1.out x5_1 p280 q280
                  obtain rfl : ad278 = ad280 := (by injection e280)
                  have HR280_3 := Aside0.mk hi280_3
                  have HC280_3 := Aside0.mk hl280_3
                  clear hi280_3 hl280_3
                  replace p280 := eq_true p280
                  replace q280 := eq_true q280
                  have ea_ := Option.some.inj (hx278_3.symm.trans hx280_3)
                  injection ea_ with ea_ en_ ec_
                  subst ea_
                  subst ec_
                  clear en_
                  go_wp2
                  repeat (go_quiet (fail); try go_wp2)
                  go_ret
                  exact ⟨by first | rfl | (simp; done) | (simp [*]; done), by repeat (first | exact Drawn0.refl _ | apply Drawn0.step)⟩
              · rw [if_neg c7] at H
                have c7b0 : (((rd_T30 l0 x5_1).f0) == ((rd_T30 l1 x5_1).f0)) = false := beq_eq_false_iff_ne.mpr c7
                have c7b1 : (((rd_T30 l0 x5_1).f0) != ((rd_T30 l1 x5_1).f0)) = true := bne_iff_ne.mpr c7
                obtain rfl := Option.some.inj H
                have p277 : 0 ≤ (x5_1 : Int) := of_decide_eq_true (by first | (with_reducible assumption) | assumption)
                have q277 : x5_1 < (l0.length : Int) := of_decide_eq_true (by first | (with_reducible assumption) | assumption)
                obtain ⟨ad277, A277_3, c277_3, e277, hx277_0, hx277_1, hx277_2, hx277_3, hl277_3, hi277_3⟩ := at_T30 HR0.out x5_1 p277 q277
                cases e277
                have HR277_3 := Aside0.mk hi277_3
                have HC277_3 := Aside0.mk hl277_3
                clear hi277_3 hl277_3
                replace p277 := eq_true p277
                replace q277 := eq_true q277
                have p278 : 0 ≤ (x5_1 : Int) := of_decide_eq_true (by first | (with_reducible assumption) | assumption)
                have q278 : x5_1 < (l1.length : Int) := of_decide_eq_true (by first | (with_reducible assumption) | assumption)
                obtain ⟨ad278, A278_3, c278_3, e278, hx278_0, hx278_1, hx278_2, hx278_3, hl278_3, hi278_3⟩ := at_T30 HR1.out x5_1 p278 q278
                cases e278
                have HR278_3 := Aside0.mk hi278_3
                have HC278_3 := Aside0.mk hl278_3
                clear hi278_3 hl278_3
                replace p278 := eq_true p278
                replace q278 := eq_true q278
                go_wp2
                repeat (go_quiet (fail); try go_wp2)
                go_ret
                exact ⟨by first | rfl | (simp; done) | (simp [*]; done), by repeat (first | exact Drawn0.refl _ | apply Drawn0.step)⟩
            · rw [if_neg c6] at H
              exact absurd H (by simp)
          · rw [if_neg c5] at H
            exact absurd H (by simp)
        · rw [if_neg c4] at H
          have c4b0 : decide (x5_1 < (l0.length : Int)) = false := decide_eq_false c4
          clear c4
          obtain rfl := Option.some.inj H
          go_wp2
          repeat (go_quiet (fail); try go_wp2)
          go_ret
          exact ⟨by first | rfl | (simp; done) | (simp [*]; done), by repeat (first | exact Drawn0.refl _ | apply Drawn0.step)⟩
  · rw [if_neg c3] at H
    have c3b0 : ((l0.length : Int) == (l1.length : Int)) = false := beq_eq_false_iff_ne.mpr c3
    have c3b1 : ((l0.length : Int) != (l1.length : Int)) = true := bne_iff_ne.mpr c3
    have c3b2 : (l0.length == l1.length) = false := by first | simpa using c3 | (simp at c3 ⊢; omega)
    obtain rfl := Option.some.inj H
    go_enter Try.func18, Try.ntmps18
    go_wp2
    repeat (go_quiet (fail); try go_wp2)
    go_ret
    exact ⟨by first | rfl | (simp; done) | (simp [*]; done), by repeat (first | exact Drawn0.refl _ | apply Drawn0.step)⟩

end Go.Proofs.Ytmiijakcmbolfaa.P
