/- What an end of a link says of itself. -/
import Derived.Test.YtnlfcgnedemhhaaWalkLie
import Derived.StillTailTactics
set_option linter.unusedVariables false
set_option linter.unusedSimpArgs false
namespace Go.Proofs.Ytnlfcgnedemhhaa.P
open Go Go.RowKit Go.Proofs.YtnlfcgnedemhhaaW.PrintWords Go.Proofs.YtnlfcgnedemhhaaW.PrintLast Go.Proofs.YtnlfcgnedemhhaaW.PrintMore

theorem below_setRow {B : Nat} {w W : World} (h : Below B w W) {g : Nat} (hg : B ≤ g) (cs : Array Value) : Below B w (W.setRow g cs) :=
  ⟨h.os, h.tape, h.output, by rw [setRow_size]; exact h.size, fun k hk => (setRow_other W g k cs (by omega)).trans (h.block k hk)⟩

/-! ### what it says -/
def SayPost (w : World) (s : L.St) (e : Ending) (w' : World) : Prop := e = .returned (lieV (L.say s)) ∧ Below w.heap.size w w'
set_option maxRecDepth 100000 in
set_option maxHeartbeats 4000000 in
theorem say_q (w0 w : World) (g : Nat) (s : L.St) (hI : IsL w0 w g s) : Calls Try.prog 13 #[.pointer (some ⟨g, 0, none⟩)] w (SayPost w s) := by
  obtain ⟨⟨p0, p1, p2, p3, p4, p5⟩, st, no, ⟨o0, o1, o2, o3⟩, un⟩ := s
  have HI := Aside0.mk (show IsS57 w0 w g p0 p1 p2 p3 p4 p5 st no o0 o1 o2 o3 un from hI)
  clear hI
  go_enter Try.func13, Try.ntmps13
  go_upto_region 1 with (first | ((with_reducible refine gate_dst (N := 2) rfl ?_); refine box_event ?hg (N := 2) ?hd (cs := #[.int .i64 0, .int .i64 0, .int .i64 0, .int .i64 0, .int .i64 0, .int .i64 0, .int .i64 0, .int .i64 0, .int .i64 0, .int .i64 0, .bool false, .bool false]) (t := 25) ?hr ?_; (case hd => rfl); (case hg => rfl); (case hr => first | (go_simp; done) | (go_simp; rfl)); intro b2 hg w1 hbox hb; have HB1 := Aside0.mk (below_step (Below.refl w.heap.size w) hb); have HX2 := Aside0.mk hbox; have HI1 := Aside0.mk (HI.out.below hb); have HG2 := Aside0.mk (show w.heap.size ≤ b2 by omega); have HNE := Aside0.mk (show g ≠ b2 from fun e => by have := HI.out.lt; omega); clear hg hbox hb))
  have hi := HI1.out.1
  have c0 := cellS57_0 hi
  have c1 := cellS57_1 hi
  have c2 := cellS57_2 hi
  have c3 := cellS57_3 hi
  have c4 := cellS57_4 hi
  have c5 := cellS57_5 hi
  have c8 := cellS57_8 hi
  have c9 := cellS57_9 hi
  have c10 := cellS57_10 hi
  have c11 := cellS57_11 hi
  have lg := HI1.out.lt
  clear hi
  (try simp only [Act.put, List.setIfInBounds_toArray, List.set_cons_zero, List.set_cons_succ])
  go_cut [3, 4] (fun v3 v4 wc => ∃ (g3 g4 : Nat), v3 = .pointer (some ⟨g3, 0, none⟩) ∧ v4 = .pointer (some ⟨g4, 0, none⟩) ∧ Aside0 (wc.heap[g3]? = some (.cells #[.int .i64 p0, .int .i64 p1, .int .i64 p2, .int .i64 p3, .int .i64 p4, .int .i64 p5] 23 (0, 0))) ∧ Aside0 (wc.heap[g4]? = some (.cells #[.int .i64 o0, .int .i64 o1, .int .i64 o2, .int .i64 o3] 43 (0, 0))) ∧ Aside0 (Below w1.heap.size w1 wc))
  case first =>
    go_region
    all_goals go_wp2
    all_goals
      go_meet
      case rel => first
        | exact ⟨w1.heap.size, w1.heap.size + 1, rfl, rfl, ⟨blk_drew (blk_alloc (blk_new w1 _) _)⟩, ⟨blk_drew (blk_new2 w1 _ _)⟩, ⟨below_drew1 (below_alloc (below_alloc (Below.refl _ _) _) _)⟩⟩
        | exact ⟨w1.heap.size + 1, w1.heap.size, rfl, rfl, ⟨blk_drew (blk_new2 w1 _ _)⟩, ⟨blk_drew (blk_alloc (blk_new w1 _) _)⟩, ⟨below_drew1 (below_alloc (below_alloc (Below.refl _ _) _) _)⟩⟩
  case rest =>
    obtain ⟨g3, g4, rfl, rfl, H3, H4, HB2⟩ := hcut
    have hi := (HI1.out.below HB2.out).1
    have d7 := cellS57_7 hi
    have hx := blk_below HX2.out HB2.out
    have h3 := H3.out
    have h4 := H4.out
    have HBC := Aside0.mk (below_step HB1.out HB2.out)
    clear c0 c1 c2 c3 c4 c5 c8 c9 c10 c11 lg hi
    have c0 := (blk_cell h3 0).trans rfl
    have c1 := (blk_cell h3 1).trans rfl
    have c2 := (blk_cell h3 2).trans rfl
    have c3 := (blk_cell h3 3).trans rfl
    have c4 := (blk_cell h3 4).trans rfl
    have c5 := (blk_cell h3 5).trans rfl
    have d0 := (blk_cell h4 0).trans rfl
    have d1 := (blk_cell h4 1).trans rfl
    have d3 := (blk_cell h4 3).trans rfl
    have HX := Aside0.mk hx
    clear h3 h4 hx
    go_wp2
    go_still_tail 23, (by kernel_rfl)
    clear c0 c1 c2 c3 c4 c5 d0 d1 d3 d7
    change wpList _ _ _ _ _ wc.drew
    refine wpList_store_row rfl 25 (.tmp 2) (.tmp 35) rfl b2 #[.int .i64 p0, .int .i64 p1, .int .i64 p2, .int .i64 p3, .int .i64 p4, .int .i64 no, .int .i64 o0, .int .i64 o1, .int .i64 o3, .int .i64 p5, .bool false, .bool false] rfl rfl 25 _ (blk_drew HX.out) (by kernel_rfl) rfl (by kernel_rfl) ?_
    have hh := setRow_heap wc.drew b2 _ #[.int .i64 p0, .int .i64 p1, .int .i64 p2, .int .i64 p3, .int .i64 p4, .int .i64 no, .int .i64 o0, .int .i64 o1, .int .i64 o3, .int .i64 p5, .bool false, .bool false] 25 (0, 0) (blk_drew HX.out)
    have hb := below_setRow (below_drew1 HBC.out) HG2.out #[.int .i64 p0, .int .i64 p1, .int .i64 p2, .int .i64 p3, .int .i64 p4, .int .i64 no, .int .i64 o0, .int .i64 o1, .int .i64 o3, .int .i64 p5, .bool false, .bool false]
    generalize wc.drew.setRow b2 #[.int .i64 p0, .int .i64 p1, .int .i64 p2, .int .i64 p3, .int .i64 p4, .int .i64 no, .int .i64 o0, .int .i64 o1, .int .i64 o3, .int .i64 p5, .bool false, .bool false] = w9 at hh hb ⊢
    have HH := Aside0.mk hh
    have HB9 := Aside0.mk hb
    clear hh hb
    go_wp2
    refine bodyPost_ret (results_cell_row rfl _ _ b2 25 _ (0, 0) _ rfl HH.out Try.underlying25 rfl (by kernel_rfl)) rfl ?_
    exact ⟨rfl, HB9.out⟩
end Go.Proofs.Ytnlfcgnedemhhaa.P
