/- Two ends that hear one another are awake. -/
import Derived.Test.YtnlfcgnedemhhaaWalkRound
set_option linter.unusedVariables false
set_option linter.unusedSimpArgs false
namespace Go.Proofs.Ytnlfcgnedemhhaa.P
open Go Go.RowKit Go.Proofs.YtnlfcgnedemhhaaW.PrintWords Go.Proofs.YtnlfcgnedemhhaaW.PrintLast Go.Proofs.YtnlfcgnedemhhaaW.PrintMore

theorem new_ok (w0 w : World) (p : L.Port) (hB : Below w0.heap.size w0 w) (hp : L.rightPort p = true) : Calls Try.prog 12 #[portV p] w fun e w' => ∃ g, e = .returned (.tuple #[.pointer (some ⟨g, 0, none⟩), .int .i64 0]) ∧ w.heap.size ≤ g ∧ IsL w0 w' g (L.new p) ∧ Below w.heap.size w w' := by
  refine (new_q w0 w p hB).mono ?_
  rintro e w' (⟨_, h⟩ | ⟨h, _⟩)
  · exact h
  · rw [hp] at h; cases h
theorem port_q (a b : Int) (w : World) : Calls Try.prog 25 #[.int .i64 a, .int .i64 b] w fun e w' => e = .returned (portV ⟨a, b, 0, 1400, a, 3⟩) ∧ Below w.heap.size w w' := selvagelaw09_port.calls a b _ _ _ _ _ _ w rfl

def awA : L.St := ⟨⟨1, 1, 0, 1400, 1, 3⟩, 2, 2, ⟨2, 2, 2, 2⟩, 3⟩
def awB : L.St := ⟨⟨2, 2, 0, 1400, 2, 3⟩, 1, 2, ⟨1, 1, 1, 2⟩, 3⟩
def awC : L.St := ⟨⟨1, 1, 0, 1400, 1, 3⟩, 2, 3, ⟨2, 2, 2, 3⟩, 4⟩
def awD : L.St := ⟨⟨2, 2, 0, 1400, 2, 3⟩, 2, 3, ⟨1, 1, 1, 3⟩, 4⟩
theorem aw_first : L.round (L.new ⟨1, 1, 0, 1400, 1, 3⟩) (L.new ⟨2, 2, 0, 1400, 2, 3⟩) 0 = (awA, awB) := rfl
theorem aw_second : L.round awA awB 1 = (awC, awD) := rfl

set_option maxRecDepth 100000 in
set_option maxHeartbeats 4000000 in
theorem awake_q (w : World) : Calls Try.prog 9 #[] w fun e w' => e = .returned (.bool true) ∧ Below w.heap.size w w' := by
  have HB := Aside0.mk (Below.refl w.heap.size w)
  go_enter Try.func9, Try.ntmps9
  go_wp2_with fail
  refine (port_q 1 1 _).mono ?_
  rintro e w1 ⟨rfl, hb⟩
  have HB1 := Aside0.mk (below_step HB.out hb)
  clear hb HB
  go_wp2_with fail
  refine (new_ok w w1 _ HB1.out rfl).mono ?_
  rintro e w2 ⟨g1, rfl, hg1, hI, hb⟩
  have HB2 := Aside0.mk (below_step HB1.out hb)
  have HI2 := Aside0.mk hI
  clear hb HB1 hg1 hI
  go_wp2_with fail
  refine (port_q 2 2 _).mono ?_
  rintro e w3 ⟨rfl, hb⟩
  have HB3 := Aside0.mk (below_step HB2.out hb)
  have HI3 := Aside0.mk (HI2.out.below hb)
  clear hb HB2 HI2
  go_wp2_with fail
  refine (new_ok w w3 _ HB3.out rfl).mono ?_
  rintro e w4 ⟨g2, rfl, hg2, hI, hb⟩
  have HB4 := Aside0.mk (below_step HB3.out hb)
  have HI4 := Aside0.mk (HI3.out.below hb)
  have HJ4 := Aside0.mk hI
  have HNE := Aside0.mk (show g1 ≠ g2 from fun e => by have := HI3.out.lt; omega)
  clear hb HB3 HI3 hg2 hI
  go_wp2_with fail
  refine (round_q w w4 g1 g2 _ _ 0 HNE.out HI4.out HJ4.out HB4.out ⟨by decide, by decide⟩ ⟨by decide, by decide⟩).mono ?_
  rintro e w5 ⟨rfl, hI, hJ, hb, _⟩
  rw [aw_first] at hI hJ
  have HI5 := Aside0.mk hI
  have HJ5 := Aside0.mk hJ
  have HB5 := Aside0.mk hb
  clear hI hJ hb HI4 HJ4 HB4
  go_wp2_with fail
  refine (round_q w w5 g1 g2 _ _ 1 HNE.out HI5.out HJ5.out HB5.out ⟨by decide, by decide⟩ ⟨by decide, by decide⟩).mono ?_
  rintro e w6 ⟨rfl, hI, hJ, hb, _⟩
  rw [aw_second] at hI hJ
  have HI6 := Aside0.mk hI
  have HJ6 := Aside0.mk hJ
  have HB6 := Aside0.mk hb
  clear hI hJ hb HI5 HJ5 HB5
  go_wp2_with fail
  refine (other_q w w6 g1 _ HI6.out).mono ?_
  rintro e w7 ⟨rfl, hb⟩
  have HB7 := Aside0.mk (below_step HB6.out hb)
  have HI7 := Aside0.mk (HI6.out.below hb)
  have HJ7 := Aside0.mk (HJ6.out.below hb)
  clear hb HI6 HJ6 HB6
  unfold othV awC
  simp only
  have hh : L.hears ⟨⟨1, 1, 0, 1400, 1, 3⟩, 2, 3, ⟨2, 2, 2, 3⟩, 4⟩ = true := rfl
  rw [hh]
  clear hh
  go_wp2_with fail
  have hb := below_alloc (Below.refl w7.heap.size w7) (.cells #[.int .i64 2, .int .i64 2, .int .i64 2, .int .i64 3] 43)
  have hx := blk_new w7 (.cells #[.int .i64 2, .int .i64 2, .int .i64 2, .int .i64 3] 43)
  generalize w7.alloc (.cells #[.int .i64 2, .int .i64 2, .int .i64 2, .int .i64 3] 43) = w8 at hb hx ⊢
  have HB8 := Aside0.mk (below_step HB7.out (hb))
  have HI8 := Aside0.mk (HI7.out.below hb)
  have HJ8 := Aside0.mk (HJ7.out.below hb)
  have c0 := (blk_cell hx 0).trans rfl
  clear hb hx HB7 HI7 HJ7
  refine (state_q w w8 g1 _ HI8.out).mono ?_
  rintro e w' ⟨rfl, rfl⟩
  go_wp2_with fail
  refine (state_q w w8 g2 _ HJ8.out).mono ?_
  rintro e w' ⟨rfl, rfl⟩
  go_wp2
  first | go_ret | skip
  exact ⟨rfl, by first | exact HB8.out | exact below_drew1 HB8.out⟩
end Go.Proofs.Ytnlfcgnedemhhaa.P
