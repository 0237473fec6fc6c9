-- Printed by a program of this session over the kit's print: all laws of the seat in one namespace, some texts by hand.
import Derived.Test.YtnlfcgnedemhhaaPx0
import Derived.Test.YtnlfcgnedemhhaaPx8
import Derived.Test.YtnlfcgnedemhhaaWalkAwake
import Derived.Deep.RegionHeld3
namespace Go.Proofs.Ytnlfcgnedemhhaa.P
open Go.RowKit Go.Proofs.YtnlfcgnedemhhaaW.PrintWords Go.Proofs.YtnlfcgnedemhhaaW.PrintLast Go.Proofs.YtnlfcgnedemhhaaW.PrintMore
attribute [local go_sem] max2_int min2_int max_two min_two max_three min_three max_four min_four   -- for this text's walks alone
set_option linter.unusedVariables false
set_option linter.unusedSimpArgs false

--HAND Derived.Test.YtnlfcgnedemhhaaWalkAwake Derived.Deep.RegionHeld3
/-! ### selvagelaw09_LieAccepts: function 3, by hand -/
-- a hand text for the law LieAccepts
theorem refAccepts_f (p : L.Port) (x : L.Say) (hp : -9223372036854775808 ≤ p.level ∧ p.level < 9223372036854775808) (hx : -9223372036854775808 ≤ x.level ∧ x.level < 9223372036854775808) :
    selvageref09_Accepts.f 1 p.node p.level p.pod p.mtu p.link p.hold x.node x.level x.pod x.mtu x.link x.nonce x.seen x.seenLink x.seenNonce x.hold x.rep x.noOffer = some (L.accepts p x) := by
  have w1 : 0 ≤ x.level → 0 ≤ p.level → wrap64 (x.level - p.level) = x.level - p.level := fun _ _ => by unfold wrap64; omega
  have w2 : 0 ≤ x.level → 0 ≤ p.level → wrap64 (p.level - x.level) = p.level - x.level := fun _ _ => by unfold wrap64; omega
  unfold selvageref09_Accepts.f L.accepts
  simp only [selvageref09_Accepts.j0]
  generalize x.level = xl at *
  generalize p.level = pl at *
  by_cases c1 : x.node = p.node
  · simp [c1]
  by_cases c2 : x.mtu = p.mtu
  · by_cases c3 : xl < 0
    · simp [c1, c2, c3]
    by_cases c4 : pl < 0
    · simp [c1, c2, c3, c4]
    have c5 : ¬ (x.node = p.node ∨ x.mtu ≠ p.mtu ∨ pl < 0 ∨ xl < 0) := by omega
    rw [if_neg c1, if_pos c2, if_neg c5, if_neg c3, w1 (by omega) (by omega), w2 (by omega) (by omega), decide_eq_false c4]
    simp only [Bool.false_eq_true, if_false, if_true]
    have key : (if xl = pl then some (xl != 0) else if xl = 0 then some true else if pl = 0 then some true else if xl - pl = 1 then some true else some (pl - xl == 1)) = some (if xl = pl then decide (0 < xl) else decide (xl = 0 ∨ pl = 0 ∨ xl - pl = 1 ∨ pl - xl = 1)) := by
      by_cases e1 : xl = pl
      · rw [if_pos e1, if_pos e1]
        by_cases e2 : xl = 0
        · simp [e2]
        · have : 0 < xl := by omega
          simp [e2, this]
      · rw [if_neg e1, if_neg e1]
        by_cases e2 : xl = 0
        · simp [e2]
        by_cases e3 : pl = 0
        · simp [e2, e3]
        by_cases e4 : xl - pl = 1
        · simp [e2, e3, e4]
        by_cases e5 : pl - xl = 1
        · simp [e2, e3, e4, e5]
        · have : (pl - xl == 1) = false := by simpa using e5
          simp [e2, e3, e4, e5]
    by_cases p1 : x.pod = p.pod
    · rw [if_pos p1, if_neg (fun h : x.pod ≠ p.pod ∧ x.pod ≠ 0 ∧ p.pod ≠ 0 => h.1 p1)]; exact key
    by_cases p2 : x.pod = 0
    · rw [if_neg p1, if_pos p2, if_neg (fun h : x.pod ≠ p.pod ∧ x.pod ≠ 0 ∧ p.pod ≠ 0 => h.2.1 p2)]; exact key
    by_cases p3 : p.pod = 0
    · rw [if_neg p1, if_neg p2, if_pos p3, if_neg (fun h : x.pod ≠ p.pod ∧ x.pod ≠ 0 ∧ p.pod ≠ 0 => h.2.2 p3)]; exact key
    · rw [if_neg p1, if_neg p2, if_neg p3, if_pos ⟨p1, p2, p3⟩]
  · simp [c1, c2]
theorem eighteen_below {W w' : World} {a0 a1 a2 a3 a4 a5 a6 a7 a8 a9 a10 a11 a12 a13 a14 a15 a16 a17 : Addr} {u0 u1 u2 u3 u4 u5 u6 u7 u8 u9 u10 u11 u12 u13 u14 u15 u16 u17 : Value} (hb : Below W.heap.size W w')
    (h : W.cell? a0 = some u0 ∧ W.cell? a1 = some u1 ∧ W.cell? a2 = some u2 ∧ W.cell? a3 = some u3 ∧ W.cell? a4 = some u4 ∧ W.cell? a5 = some u5 ∧ W.cell? a6 = some u6 ∧ W.cell? a7 = some u7 ∧ W.cell? a8 = some u8 ∧ W.cell? a9 = some u9 ∧ W.cell? a10 = some u10 ∧ W.cell? a11 = some u11 ∧ W.cell? a12 = some u12 ∧ W.cell? a13 = some u13 ∧ W.cell? a14 = some u14 ∧ W.cell? a15 = some u15 ∧ W.cell? a16 = some u16 ∧ W.cell? a17 = some u17) :
    w'.cell? a0 = some u0 ∧ w'.cell? a1 = some u1 ∧ w'.cell? a2 = some u2 ∧ w'.cell? a3 = some u3 ∧ w'.cell? a4 = some u4 ∧ w'.cell? a5 = some u5 ∧ w'.cell? a6 = some u6 ∧ w'.cell? a7 = some u7 ∧ w'.cell? a8 = some u8 ∧ w'.cell? a9 = some u9 ∧ w'.cell? a10 = some u10 ∧ w'.cell? a11 = some u11 ∧ w'.cell? a12 = some u12 ∧ w'.cell? a13 = some u13 ∧ w'.cell? a14 = some u14 ∧ w'.cell? a15 = some u15 ∧ w'.cell? a16 = some u16 ∧ w'.cell? a17 = some u17 := by
  obtain ⟨h0, h1, h2, h3, h4, h5, h6, h7, h8, h9, h10, h11, h12, h13, h14, h15, h16, h17⟩ := h
  exact ⟨pw_cell_below hb h0, pw_cell_below hb h1, pw_cell_below hb h2, pw_cell_below hb h3, pw_cell_below hb h4, pw_cell_below hb h5, pw_cell_below hb h6, pw_cell_below hb h7, pw_cell_below hb h8, pw_cell_below hb h9, pw_cell_below hb h10, pw_cell_below hb h11, pw_cell_below hb h12, pw_cell_below hb h13, pw_cell_below hb h14, pw_cell_below hb h15, pw_cell_below hb h16, pw_cell_below hb h17⟩

def AccOk (pl xl : Int) : Prop := (-9223372036854775808 ≤ pl ∧ pl < 9223372036854775808) ∧ (-9223372036854775808 ≤ xl ∧ xl < 9223372036854775808)
instance (a b : Int) : Decidable (AccOk a b) := by unfold AccOk; exact inferInstance
def selvagelaw09_LieAccepts.f (p0 p1 p2 p3 p4 p5 x0 x1 x2 x3 x4 x5 x6 x7 x8 x9 : Int) (x10 x11 : Bool) : Option Bool := if AccOk p1 x1 then some true else none

set_option maxRecDepth 100000 in
set_option maxHeartbeats 8000000 in
theorem selvagelaw09_LieAccepts.calls (p0 p1 p2 p3 p4 p5 x0 x1 x2 x3 x4 x5 x6 x7 x8 x9 : Int) (x10 x11 : Bool) (r : Bool) (w : World) (h : selvagelaw09_LieAccepts.f p0 p1 p2 p3 p4 p5 x0 x1 x2 x3 x4 x5 x6 x7 x8 x9 x10 x11 = some r) :
    Calls Try.prog 3 #[.agg #[.int .i64 p0, .int .i64 p1, .int .i64 p2, .int .i64 p3, .int .i64 p4, .int .i64 p5], .agg #[.int .i64 x0, .int .i64 x1, .int .i64 x2, .int .i64 x3, .int .i64 x4, .int .i64 x5, .int .i64 x6, .int .i64 x7, .int .i64 x8, .int .i64 x9, .bool x10, .bool x11]] w fun e w' => e = .returned (.bool r) ∧ Below w.heap.size w w' := by
  unfold selvagelaw09_LieAccepts.f at h
  by_cases hok : AccOk p1 x1
  · rw [if_pos hok] at h
    cases h
    have HAP : Aside0 (∀ W, Calls Try.prog 10 #[.agg #[.int .i64 p0, .int .i64 p1, .int .i64 p2, .int .i64 p3, .int .i64 p4, .int .i64 p5], .agg #[.int .i64 x0, .int .i64 x1, .int .i64 x2, .int .i64 x3, .int .i64 x4, .int .i64 x5, .int .i64 x6, .int .i64 x7, .int .i64 x8, .int .i64 x9, .bool x10, .bool x11]] W fun e w' => e = .returned (.bool (L.accepts ⟨p0, p1, p2, p3, p4, p5⟩ ⟨x0, x1, x2, x3, x4, x5, x6, x7, x8, x9, x10, x11⟩)) ∧ Below W.heap.size W w') := ⟨fun W => lie_Accepts.calls ⟨p0, p1, p2, p3, p4, p5⟩ ⟨x0, x1, x2, x3, x4, x5, x6, x7, x8, x9, x10, x11⟩ W hok.1 hok.2⟩
    have HAR : Aside0 (∀ W, Calls Try.prog 11 #[.agg #[.int .i64 p0, .int .i64 p1, .int .i64 p2, .int .i64 p3, .int .i64 p4, .int .i64 p5], .agg #[.int .i64 x0, .int .i64 x1, .int .i64 x2, .int .i64 x3, .int .i64 x4, .int .i64 x5, .int .i64 x6, .int .i64 x7, .int .i64 x8, .int .i64 x9, .bool x10, .bool x11]] W fun e w' => e = .returned (.bool (L.accepts ⟨p0, p1, p2, p3, p4, p5⟩ ⟨x0, x1, x2, x3, x4, x5, x6, x7, x8, x9, x10, x11⟩)) ∧ Below W.heap.size W w') := ⟨fun W => selvageref09_Accepts.calls 1 _ _ _ _ _ _ _ _ _ _ _ _ _ _ _ _ _ _ _ W (refAccepts_f ⟨p0, p1, p2, p3, p4, p5⟩ ⟨x0, x1, x2, x3, x4, x5, x6, x7, x8, x9, x10, x11⟩ hok.1 hok.2)⟩
    generalize L.accepts ⟨p0, p1, p2, p3, p4, p5⟩ ⟨x0, x1, x2, x3, x4, x5, x6, x7, x8, x9, x10, x11⟩ = vv at HAP HAR
    have HB := Aside0.mk (Below.refl w.heap.size w)
    clear hok
    go_enter Try.func3, Try.ntmps3
    go_wp2_with (first
      | ((with_reducible refine gate_dst (N := 2) rfl ?_); refine box_event ?hg (N := 2) ?hd (cs := #[.int .i64 p0, .int .i64 p1, .int .i64 p2, .int .i64 p3, .int .i64 p4, .int .i64 p5]) (t := 23) ?hr ?_; (case hd => rfl); (case hg => rfl); (case hr => first | (go_simp; done) | (go_simp; rfl)); intro b2 hg2 w1 hbox hb; have HB1 := Aside0.mk (below_step HB.out hb); have HX2 := Aside0.mk hbox; clear hg2 hbox hb HB)
      | ((with_reducible refine gate_dst (N := 3) rfl ?_); refine box_event ?hg (N := 3) ?hd (cs := #[.int .i64 x0, .int .i64 x1, .int .i64 x2, .int .i64 x3, .int .i64 x4, .int .i64 x5, .int .i64 x6, .int .i64 x7, .int .i64 x8, .int .i64 x9, .bool x10, .bool x11]) (t := 25) ?hr ?_; (case hd => rfl); (case hg => rfl); (case hr => first | (go_simp; done) | (go_simp; rfl)); intro b3 hg3 w2 hbox hb; have HB2 := Aside0.mk (below_step HB1.out hb); have HX3 := Aside0.mk hbox; have HX2 := Aside0.mk (blk_below HX2.out hb); clear hg3 hbox hb HB1))
    refine (awake_q _).mono ?_
    rintro e w3 ⟨rfl, hb⟩
    have HB3 := Aside0.mk (below_step HB2.out hb)
    have x2' := blk_below HX2.out hb
    have x3' := blk_below HX3.out hb
    clear hb HB2 HX2 HX3
    have c0 := (blk_cell x2' 0).trans rfl
    have c1 := (blk_cell x2' 1).trans rfl
    have c2 := (blk_cell x2' 2).trans rfl
    have c3 := (blk_cell x2' 3).trans rfl
    have c4 := (blk_cell x2' 4).trans rfl
    have c5 := (blk_cell x2' 5).trans rfl
    have d0 := (blk_cell x3' 0).trans rfl
    have d1 := (blk_cell x3' 1).trans rfl
    have d2 := (blk_cell x3' 2).trans rfl
    have d3 := (blk_cell x3' 3).trans rfl
    have d4 := (blk_cell x3' 4).trans rfl
    have d5 := (blk_cell x3' 5).trans rfl
    have d6 := (blk_cell x3' 6).trans rfl
    have d7 := (blk_cell x3' 7).trans rfl
    have d8 := (blk_cell x3' 8).trans rfl
    have d9 := (blk_cell x3' 9).trans rfl
    have d10 := (blk_cell x3' 10).trans rfl
    have d11 := (blk_cell x3' 11).trans rfl
    clear x2' x3'
    go_wp2_with fail
    have hS := And.intro c0 (And.intro c1 (And.intro c2 (And.intro c3 (And.intro c4 (And.intro c5 (And.intro d0 (And.intro d1 (And.intro d2 (And.intro d3 (And.intro d4 (And.intro d5 (And.intro d6 (And.intro d7 (And.intro d8 (And.intro d9 (And.intro d10 (d11)))))))))))))))))
    have hbz := Below.refl w3.heap.size w3
    go_region_held3 (fun w' => w'.cell? ⟨b2, 0, none⟩ = some (.int .i64 p0) ∧ w'.cell? ⟨b2, 1, none⟩ = some (.int .i64 p1) ∧ w'.cell? ⟨b2, 2, none⟩ = some (.int .i64 p2) ∧ w'.cell? ⟨b2, 3, none⟩ = some (.int .i64 p3) ∧ w'.cell? ⟨b2, 4, none⟩ = some (.int .i64 p4) ∧ w'.cell? ⟨b2, 5, none⟩ = some (.int .i64 p5) ∧ w'.cell? ⟨b3, 0, none⟩ = some (.int .i64 x0) ∧ w'.cell? ⟨b3, 1, none⟩ = some (.int .i64 x1) ∧ w'.cell? ⟨b3, 2, none⟩ = some (.int .i64 x2) ∧ w'.cell? ⟨b3, 3, none⟩ = some (.int .i64 x3) ∧ w'.cell? ⟨b3, 4, none⟩ = some (.int .i64 x4) ∧ w'.cell? ⟨b3, 5, none⟩ = some (.int .i64 x5) ∧ w'.cell? ⟨b3, 6, none⟩ = some (.int .i64 x6) ∧ w'.cell? ⟨b3, 7, none⟩ = some (.int .i64 x7) ∧ w'.cell? ⟨b3, 8, none⟩ = some (.int .i64 x8) ∧ w'.cell? ⟨b3, 9, none⟩ = some (.int .i64 x9) ∧ w'.cell? ⟨b3, 10, none⟩ = some (.bool x10) ∧ w'.cell? ⟨b3, 11, none⟩ = some (.bool x11))
      (first | (refine eighteen_below hbz ?_; first | assumption | go_keep) | go_keep)
      (first
        | (go_at_call 10; (with_reducible refine (HAP.out _).mono ?_); rintro e' wa ⟨rfl, hbz⟩; have HBA := Aside0.mk (below_step (below_drew1 HB3.out) hbz))
        | (go_at_call 11; (with_reducible refine (HAR.out _).mono ?_); rintro e' wb ⟨rfl, hbz⟩; have HBB := Aside0.mk (below_step HBA.out hbz)))
    all_goals go_wp2
    all_goals go_ret
    all_goals exact ⟨by simp, HBB.out⟩
  · rw [if_neg hok] at h; cases h


/-- THE ONE PURE STATEMENT of selvagelaw09_LieAccepts: yours. -/
def good23 (x : S23) : Prop := ((Lit.int .i64 x.f0).wf = true ∧ ((Lit.int .i64 x.f1).wf = true ∧ ((Lit.int .i64 x.f2).wf = true ∧ ((Lit.int .i64 x.f3).wf = true ∧ ((Lit.int .i64 x.f4).wf = true ∧ (Lit.int .i64 x.f5).wf = true)))))
def good25 (x : S25) : Prop := ((Lit.int .i64 x.f0).wf = true ∧ ((Lit.int .i64 x.f1).wf = true ∧ ((Lit.int .i64 x.f2).wf = true ∧ ((Lit.int .i64 x.f3).wf = true ∧ ((Lit.int .i64 x.f4).wf = true ∧ ((Lit.int .i64 x.f5).wf = true ∧ ((Lit.int .i64 x.f6).wf = true ∧ ((Lit.int .i64 x.f7).wf = true ∧ ((Lit.int .i64 x.f8).wf = true ∧ ((Lit.int .i64 x.f9).wf = true ∧ (True ∧ True)))))))))))
def selvagelaw09_LieAccepts.Pure : Prop := ∀ (x0 : S23) (x1 : S25), good23 x0 → good25 x1 → selvagelaw09_LieAccepts.f x0.f0 x0.f1 x0.f2 x0.f3 x0.f4 x0.f5 x1.f0 x1.f1 x1.f2 x1.f3 x1.f4 x1.f5 x1.f6 x1.f7 x1.f8 x1.f9 x1.f10 x1.f11 = some true
theorem selvagelaw09_LieAccepts.walk (P : selvagelaw09_LieAccepts.Pure) (x0 : S23) (x1 : S25) (w : World)  (g0 : good23 x0) (g1 : good25 x1)  :
    Calls Try.prog 3 #[.agg #[.int .i64 x0.f0, .int .i64 x0.f1, .int .i64 x0.f2, .int .i64 x0.f3, .int .i64 x0.f4, .int .i64 x0.f5], .agg #[.int .i64 x1.f0, .int .i64 x1.f1, .int .i64 x1.f2, .int .i64 x1.f3, .int .i64 x1.f4, .int .i64 x1.f5, .int .i64 x1.f6, .int .i64 x1.f7, .int .i64 x1.f8, .int .i64 x1.f9, .bool x1.f10, .bool x1.f11]] w fun e w' => e = .returned (.bool true) ∧ Below w.heap.size w w' := by
  have h := P x0 x1 g0 g1
  refine (selvagelaw09_LieAccepts.calls x0.f0 x0.f1 x0.f2 x0.f3 x0.f4 x0.f5 x1.f0 x1.f1 x1.f2 x1.f3 x1.f4 x1.f5 x1.f6 x1.f7 x1.f8 x1.f9 x1.f10 x1.f11 true w  h).mono ?_
  rintro e w' ⟨rfl, hd⟩
  exact ⟨rfl, hd⟩

end Go.Proofs.Ytnlfcgnedemhhaa.P
