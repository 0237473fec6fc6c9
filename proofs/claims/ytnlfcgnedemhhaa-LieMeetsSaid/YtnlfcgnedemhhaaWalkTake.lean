/- What an end of a link does with what it hears. -/
import Derived.Test.YtnlfcgnedemhhaaWalkSay
import Derived.Deep.QuietTactic
import Derived.BigQuiet
set_option linter.unusedVariables false
set_option linter.unusedSimpArgs false
namespace Go.Proofs.Ytnlfcgnedemhhaa.P
open Go Go.RowKit Go.Proofs.YtnlfcgnedemhhaaW.PrintWords Go.Proofs.YtnlfcgnedemhhaaW.PrintLast Go.Proofs.YtnlfcgnedemhhaaW.PrintMore
attribute [local go_sem high] eqA43

set_option maxRecDepth 100000 in
set_option maxHeartbeats 4000000 in
theorem sees_q (w0 w : World) (g : Nat) (s : L.St) (x : L.Say) (hI : IsL w0 w g s) : Calls Try.prog 33 #[.pointer (some ⟨g, 0, none⟩), lieV x] w fun e w' => e = .returned (.bool (L.sees s x)) ∧ Below w.heap.size w w' := by
  have HV : Aside0 (L.sees s x = (decide (x.seen = s.port.node) && (decide (x.seenLink = s.port.link) && L.fresh x.seenNonce s.nonce 16))) := ⟨rfl⟩
  have HF := Aside0.mk (fun w => fresh_q x.seenNonce s.nonce 16 w)
  generalize L.sees s x = r at HV ⊢
  generalize L.fresh x.seenNonce s.nonce 16 = fr at HV HF
  obtain ⟨⟨p0, p1, p2, p3, p4, p5⟩, st, no, ⟨o0, o1, o2, o3⟩, un⟩ := s
  obtain ⟨x0, x1, x2, x3, x4, x5, x6, x7, x8, x9, x10, x11⟩ := x
  unfold lieV
  simp only at HV HF ⊢
  have HI := Aside0.mk (show IsS57 w0 w g p0 p1 p2 p3 p4 p5 st no o0 o1 o2 o3 un from hI)
  clear hI
  go_enter Try.func33, Try.ntmps33
  go_upto_region 1 with (first | ((with_reducible refine gate_dst (N := 3) rfl ?_); refine box_event ?hg (N := 3) ?hd (cs := #[.int .i64 x0, .int .i64 x1, .int .i64 x2, .int .i64 x3, .int .i64 x4, .int .i64 x5, .int .i64 x6, .int .i64 x7, .int .i64 x8, .int .i64 x9, .bool x10, .bool x11]) (t := 25) ?hr ?_; (case hd => rfl); (case hg => rfl); (case hr => first | (go_simp; done) | (go_simp; rfl)); intro b3 hg w1 hbox hb; have HB1 := Aside0.mk (below_step (Below.refl w.heap.size w) hb); have c6 := (blk_cell hbox 6).trans rfl; have c7 := (blk_cell hbox 7).trans rfl; have c8 := (blk_cell hbox 8).trans rfl; have HI1 := Aside0.mk (HI.out.below hb); clear hg hbox hb))
  have d0 := cellS57_0 HI1.out.1
  have d4 := cellS57_4 HI1.out.1
  have d7 := cellS57_7 HI1.out.1
  by_cases h1 : x6 = p0
  · have t1 : (x6 == p0) = true := beq_iff_eq.2 h1
    by_cases h2 : x7 = p4
    · have t2 : (x7 == p4) = true := beq_iff_eq.2 h2
      have HV2 : Aside0 (r = fr) := ⟨by rw [HV.out, decide_eq_true h1, decide_eq_true h2]; rfl⟩
      clear h1 h2
      go_wp2
      go_quiet ((go_at_call 47; (refine (HF.out _).mono ?_); rintro e w' ⟨rfl, rfl⟩; exact ⟨rfl, _, rfl⟩))
      go_wp2
      go_ret
      exact ⟨by rw [HV2.out]; rfl, pw_below_drewN HB1.out _⟩
    · have t2 : (x7 == p4) = false := beq_eq_false_iff_ne.2 h2
      have HV2 : Aside0 (r = false) := ⟨by rw [HV.out, decide_eq_true h1, decide_eq_false h2]; rfl⟩
      clear h1 h2
      go_wp2
      go_quiet (fail)
      go_wp2
      go_ret
      exact ⟨by rw [HV2.out]; rfl, pw_below_drewN HB1.out _⟩
  · have t1 : (x6 == p0) = false := beq_eq_false_iff_ne.2 h1
    have HV2 : Aside0 (r = false) := ⟨by rw [HV.out, decide_eq_false h1]; rfl⟩
    clear h1
    go_wp2
    go_quiet (fail)
    go_wp2
    go_ret
    exact ⟨by rw [HV2.out]; rfl, pw_below_drewN HB1.out _⟩

def OtherPost (w : World) (s : L.St) (e : Ending) (w' : World) : Prop := e = .returned (.tuple #[othV s.other, .bool (L.hears s)]) ∧ Below w.heap.size w w'
set_option maxRecDepth 100000 in
set_option maxHeartbeats 4000000 in
theorem other_q (w0 w : World) (g : Nat) (s : L.St) (hI : IsL w0 w g s) : Calls Try.prog 18 #[.pointer (some ⟨g, 0, none⟩)] w (OtherPost w s) := by
  have HH : Aside0 (∀ w1, IsL w0 w1 g s → Calls Try.prog 32 #[.pointer (some ⟨g, 0, none⟩)] w1 fun e w' => e = .returned (.bool (L.hears s)) ∧ w1 = w') := ⟨fun w1 h => hears_q w0 w1 g s h⟩
  have HP : Aside0 (∀ e w', e = .returned (.tuple #[othV s.other, .bool (L.hears s)]) → Below w.heap.size w w' → OtherPost w s e w') := ⟨fun e w' h1 h2 => ⟨h1, h2⟩⟩
  generalize OtherPost w s = post at HP ⊢
  generalize L.hears s = hh at HH HP
  have HI0 := Aside0.mk hI
  obtain ⟨⟨p0, p1, p2, p3, p4, p5⟩, st, no, ⟨o0, o1, o2, o3⟩, un⟩ := s
  have HI := Aside0.mk (show IsS57 w0 w g p0 p1 p2 p3 p4 p5 st no o0 o1 o2 o3 un from hI)
  clear hI HI0
  go_enter Try.func18, Try.ntmps18
  go_upto_region 1 with (first | ((with_reducible refine gate_dst (N := 2) rfl ?_); refine box_event ?hg (N := 2) ?hd (cs := #[.int .i64 0, .int .i64 0, .int .i64 0, .int .i64 0]) (t := 43) ?hr ?_; (case hd => rfl); (case hg => rfl); (case hr => first | (go_simp; done) | (go_simp; rfl)); intro b2 hg w1 hbox hb; have HB1 := Aside0.mk (below_step (Below.refl w.heap.size w) hb); have HX2 := Aside0.mk hbox; have HI1 := Aside0.mk (HI.out.below hb); have HG2 := Aside0.mk (show w.heap.size ≤ b2 by omega); have HNE := Aside0.mk (show g ≠ b2 from fun e => by have := HI.out.lt; omega); clear hg hbox hb))
  have hi := HI1.out.1
  have c8 := cellS57_8 hi
  have c9 := cellS57_9 hi
  have c10 := cellS57_10 hi
  have c11 := cellS57_11 hi
  have e0 := (blk_cell HX2.out 0).trans rfl
  have e1 := (blk_cell HX2.out 1).trans rfl
  have e2 := (blk_cell HX2.out 2).trans rfl
  have e3 := (blk_cell HX2.out 3).trans rfl
  have f0 := blk_frozen HX2.out 0
  have f1 := blk_frozen HX2.out 1
  have f2 := blk_frozen HX2.out 2
  have f3 := blk_frozen HX2.out 3
  have hne := HNE.out
  have hne' := HNE.out.symm
  clear hi
  go_wp2
  go_region_with ((go_at_call 32; refine (HH.out _ (by first | exact HI1.out | exact HI1.out.drew)).mono ?_; rintro e w' ⟨rfl, rfl⟩))
  all_goals go_wp2
  all_goals refine bodyPost_ret (results_ct rfl _ _ b2 43 #[.int .i64 o0, .int .i64 o1, .int .i64 o2, .int .i64 o3] (0, 0) _ rfl ?hcell Try.underlying43 rfl (by kernel_rfl)) rfl ?_
  all_goals first
    | exact blk_drew (blk_set (blk_set (blk_set (blk_set HX2.out 0 _) 1 _) 2 _) 3 _)
    | exact HP.out _ _ rfl (below_drew1 ((((HB1.out.setCell (p := ⟨b2, 0, none⟩) HG2.out _).setCell (p := ⟨b2, 1, none⟩) HG2.out _).setCell (p := ⟨b2, 2, none⟩) HG2.out _).setCell (p := ⟨b2, 3, none⟩) HG2.out _))
end Go.Proofs.Ytnlfcgnedemhhaa.P
