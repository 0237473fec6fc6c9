/- An end of a link (lie.End): what its functions do, as plain mathematics says. -/
import Derived.Test.YtnlfcgnedemhhaaWalkAccepts
import Derived.Test.YtnlfcgnedemhhaaPx5
import Derived.Test.YtnlfcgnedemhhaaPx7
import Derived.Deep.RegionWith
set_option linter.unusedVariables false
set_option linter.unusedSimpArgs false
namespace Go.Proofs.Ytnlfcgnedemhhaa.P
open Go Go.RowKit Go.Proofs.YtnlfcgnedemhhaaW.PrintWords Go.Proofs.YtnlfcgnedemhhaaW.PrintLast Go.Proofs.YtnlfcgnedemhhaaW.PrintMore
attribute [local go_sem] max2_int min2_int max_two min_two
attribute [local go_sem high] eqA43

theorem ret_bool {a b : Bool} (h : a = b) : Ending.returned (.bool a) = .returned (.bool b) := by rw [h]
abbrev IsL (w0 W : World) (g : Nat) (s : L.St) : Prop := IsS57 w0 W g s.port.node s.port.level s.port.pod s.port.mtu s.port.link s.port.hold s.state s.nonce s.other.node s.other.link s.other.level s.other.nonce s.until_
abbrev othV (o : L.Oth) : Value := .agg #[.int .i64 o.node, .int .i64 o.link, .int .i64 o.level, .int .i64 o.nonce]

set_option maxRecDepth 100000 in
theorem nonce_q (n : Int) (w : World) : Calls Try.prog 41 #[.int .i64 n] w fun e w' => e = .returned (.bool (L.nonce n)) ∧ w = w' := by
  have HV : Aside0 (L.nonce n = (decide (1 ≤ n) && decide (n ≤ 65535))) := ⟨rfl⟩
  generalize L.nonce n = b at HV ⊢
  by_cases h : n ≥ 1
  · have t0 : decide (n ≥ 1) = true := decide_eq_true h
    have HV2 : Aside0 (b = decide (n ≤ 65535)) := ⟨by rw [HV.out, decide_eq_true (show 1 ≤ n from h)]; rfl⟩
    clear h
    go_enter Try.func41, Try.ntmps41
    go_wp2
    go_ret
    exact ⟨by rw [HV2.out]; rfl, rfl⟩
  · have t0 : decide (n ≥ 1) = false := decide_eq_false h
    have HV2 : Aside0 (b = false) := ⟨by rw [HV.out, decide_eq_false (show ¬ 1 ≤ n from h)]; rfl⟩
    clear h
    go_enter Try.func41, Try.ntmps41
    go_wp2
    go_ret
    exact ⟨by rw [HV2.out]; rfl, rfl⟩

set_option maxRecDepth 100000 in
theorem next_q (n : Int) (w : World) : Calls Try.prog 28 #[.int .i64 n] w fun e w' => e = .returned (.int .i64 (L.next n)) ∧ w = w' := by
  have HV : Aside0 (L.next n = if L.nonce n = true then n % 65535 + 1 else 1) := ⟨by
    unfold L.next L.nonce L.within
    by_cases h : 1 ≤ n ∧ n ≤ 65535
    · rw [if_pos (show (decide (1 ≤ n) && decide (n ≤ 65535)) = true by simpa using h)]; split <;> omega
    · rw [if_neg (by omega), if_neg (show ¬ (decide (1 ≤ n) && decide (n ≤ 65535)) = true by simpa using h)]⟩
  have HN : Aside0 (L.nonce n = true → 1 ≤ n ∧ n ≤ 65535) := ⟨by unfold L.nonce L.within; simp⟩
  have HC := Aside0.mk (fun w => nonce_q n w)
  generalize L.next n = r at HV ⊢
  generalize L.nonce n = b at HV HC HN
  go_enter Try.func28, Try.ntmps28
  go_wp2_with fail
  refine (HC.out _).mono ?_
  rintro e w' ⟨rfl, rfl⟩
  cases b with
  | false =>
    go_wp2
    go_ret
    exact ⟨by rw [HV.out]; rfl, rfl⟩
  | true =>
    obtain ⟨h1, h2⟩ := HN.out (by first | rfl | trivial)
    go_wp2
    go_ret
    exact ⟨by rw [HV.out]; simp, rfl⟩

set_option maxRecDepth 100000 in
set_option maxHeartbeats 1000000 in
theorem fresh_q (told own slack : Int) (w : World) : Calls Try.prog 47 #[.int .i64 told, .int .i64 own, .int .i64 slack] w fun e w' => e = .returned (.bool (L.fresh told own slack)) ∧ w = w' := by
  have HV : Aside0 (L.fresh told own slack = (L.nonce told && (L.nonce own && decide ((own - told + 65535) % 65535 ≤ min (max slack 0) 1000)))) := ⟨rfl⟩
  have HN1 : Aside0 (L.nonce told = true → 1 ≤ told ∧ told ≤ 65535) := ⟨by unfold L.nonce L.within; simp⟩
  have HN2 : Aside0 (L.nonce own = true → 1 ≤ own ∧ own ≤ 65535) := ⟨by unfold L.nonce L.within; simp⟩
  have HC1 := Aside0.mk (fun w => nonce_q told w)
  have HC2 := Aside0.mk (fun w => nonce_q own w)
  generalize L.fresh told own slack = r at HV ⊢
  generalize L.nonce told = b1 at HV HC1 HN1
  generalize L.nonce own = b2 at HV HC2 HN2
  go_enter Try.func47, Try.ntmps47
  go_wp2_with fail
  refine (HC1.out _).mono ?_
  rintro e w' ⟨rfl, rfl⟩
  cases b1 with
  | false =>
    go_wp2
    go_ret
    exact ⟨by rw [HV.out]; rfl, rfl⟩
  | true =>
    go_wp2_with fail
    refine (HC2.out _).mono ?_
    rintro e w' ⟨rfl, rfl⟩
    cases b2 with
    | false =>
      go_wp2
      go_ret
      exact ⟨by rw [HV.out]; rfl, rfl⟩
    | true =>
      obtain ⟨h1, h2⟩ := HN1.out (by first | rfl | trivial)
      obtain ⟨h3, h4⟩ := HN2.out (by first | rfl | trivial)
      have e0 : 0 ≤ own - told + 65535 := by omega
      go_wp2
      all_goals
        go_ret
        exact ⟨ret_bool (by rw [HV.out]; simp only [Bool.true_and]; apply decide_eq_decide.2; omega), rfl⟩

set_option maxRecDepth 100000 in
set_option maxHeartbeats 1000000 in
theorem hears_q (w0 w : World) (g : Nat) (s : L.St) (hI : IsL w0 w g s) : Calls Try.prog 32 #[.pointer (some ⟨g, 0, none⟩)] w fun e w' => e = .returned (.bool (L.hears s)) ∧ w = w' := by
  obtain ⟨⟨p0, p1, p2, p3, p4, p5⟩, st, no, ⟨o0, o1, o2, o3⟩, un⟩ := s
  have HV : Aside0 (L.hears ⟨⟨p0, p1, p2, p3, p4, p5⟩, st, no, ⟨o0, o1, o2, o3⟩, un⟩ = (!(decide (o0 = 0) && (decide (o1 = 0) && (decide (o2 = 0) && decide (o3 = 0)))))) := ⟨rfl⟩
  generalize L.hears ⟨⟨p0, p1, p2, p3, p4, p5⟩, st, no, ⟨o0, o1, o2, o3⟩, un⟩ = r at HV ⊢
  have c8 := cellS57_8 hI.1
  have c9 := cellS57_9 hI.1
  have c10 := cellS57_10 hI.1
  have c11 := cellS57_11 hI.1
  simp only at c8 c9 c10 c11
  clear hI
  go_enter Try.func32, Try.ntmps32
  go_wp2
  go_ret
  exact ⟨by rw [HV.out]; congr 2; simp [Bool.beq_eq_decide_eq], rfl⟩

set_option maxRecDepth 100000 in
theorem within_q (n a b : Int) (w : World) : Calls Try.prog 40 #[.int .i64 n, .int .i64 a, .int .i64 b] w fun e w' => e = .returned (.bool (L.within n a b)) ∧ w = w' := by
  have HV : Aside0 (L.within n a b = (decide (a ≤ n) && decide (n ≤ b))) := ⟨rfl⟩
  generalize L.within n a b = r at HV ⊢
  by_cases h : n ≥ a
  · have t0 : decide (n ≥ a) = true := decide_eq_true h
    have HV2 : Aside0 (r = decide (n ≤ b)) := ⟨by rw [HV.out, decide_eq_true (show a ≤ n from h)]; rfl⟩
    clear h
    go_enter Try.func40, Try.ntmps40
    go_wp2
    go_ret
    exact ⟨by rw [HV2.out]; rfl, rfl⟩
  · have t0 : decide (n ≥ a) = false := decide_eq_false h
    have HV2 : Aside0 (r = false) := ⟨by rw [HV.out, decide_eq_false (show ¬ a ≤ n from h)]; rfl⟩
    clear h
    go_enter Try.func40, Try.ntmps40
    go_wp2
    go_ret
    exact ⟨by rw [HV2.out]; rfl, rfl⟩
set_option maxRecDepth 100000 in
theorem moment_q (n : Int) (w : World) : Calls Try.prog 29 #[.int .i64 n] w fun e w' => e = .returned (.bool (L.moment n)) ∧ w = w' := by
  have HC := Aside0.mk (fun w => within_q n 0 1099511627776 w)
  have hv : L.moment n = L.within n 0 1099511627776 := rfl
  rw [hv]
  clear hv
  generalize L.within n 0 1099511627776 = r at HC ⊢
  go_enter Try.func29, Try.ntmps29
  go_wp2_with fail
  refine (HC.out _).mono ?_
  rintro e w' ⟨rfl, rfl⟩
  go_wp2
  go_ret
  exact ⟨rfl, rfl⟩

def StPost (w0 w : World) (g : Nat) (r : Int × L.St) (e : Ending) (w' : World) : Prop := e = .returned (.int .i64 r.1) ∧ IsL w0 w' g r.2 ∧ Below w0.heap.size w0 w' ∧ KeepBut w w' g none
theorem StPost.step {w0 w w1 w2 : World} {g : Nat} {r : Int × L.St} {e : Ending} (hK : KeepBut w w1 g none) (h : StPost w0 w1 g r e w2) : StPost w0 w g r e w2 := ⟨h.1, h.2.1, h.2.2.1, hK.trans h.2.2.2 (.inl rfl)⟩

set_option maxRecDepth 100000 in
set_option maxHeartbeats 2000000 in
theorem tick_q (w0 w : World) (g : Nat) (s : L.St) (now : Int) (hI : IsL w0 w g s) (hB : Below w0.heap.size w0 w) :
    Calls Try.prog 16 #[.pointer (some ⟨g, 0, none⟩), .int .i64 now] w (StPost w0 w g (L.tick s now)) := by
  have HV : Aside0 (L.tick s now = if L.moment now = false then (1, s) else (0, if s.state ≠ 0 ∧ s.until_ ≤ now then L.fall { s with nonce := L.next s.nonce } 0 else { s with nonce := L.next s.nonce })) := ⟨rfl⟩
  generalize L.tick s now = r at HV ⊢
  have HM := Aside0.mk (fun w => moment_q now w)
  have HN := Aside0.mk (fun w => next_q s.nonce w)
  generalize L.moment now = bm at HV HM
  generalize L.next s.nonce = nn at HV HN
  obtain ⟨⟨p0, p1, p2, p3, p4, p5⟩, st, no, ⟨o0, o1, o2, o3⟩, un⟩ := s
  simp only at hI HN HV
  have HI := Aside0.mk hI
  have HB := Aside0.mk hB
  have HGE := Aside0.mk hI.2
  have c7 := cellS57_7 hI.1
  have f7 := blk_frozen hI.1 7
  have c6 := cellS57_6 hI.1
  have c12 := cellS57_12 hI.1
  clear hI hB
  go_enter Try.func16, Try.ntmps16
  go_wp2_with fail
  refine (HM.out _).mono ?_
  rintro e w' ⟨rfl, rfl⟩
  cases bm with
  | false =>
    go_wp2
    go_ret
    exact ⟨by rw [HV.out]; rfl, by rw [HV.out]; exact HI.out, HB.out, KeepBut.refl _ _ _⟩
  | true =>
    go_wp2_with fail
    refine (HN.out _).mono ?_
    rintro e w' ⟨rfl, rfl⟩
    go_upto_region 4 with (fail)
    have h1 := HI.out.set_7 nn
    have h2 := HB.out.setCell (p := ⟨g, 7, none⟩) HGE.out (.int .i64 nn)
    have h3 := KeepBut.set_ (KeepBut.refl w g none) 7 (.int .i64 nn)
    clear c7 f7 c6 c12 HI HB
    generalize w.setCell ⟨g, 7, none⟩ (.int .i64 nn) = w1 at h1 h2 h3 ⊢
    have c6 := cellS57_6 h1.1
    have c12 := cellS57_12 h1.1
    have H1 := Aside0.mk h1
    have H2 := Aside0.mk h2
    have H3 := Aside0.mk h3
    clear h1 h2 h3
    by_cases hs : st = 0
    · have t0 : (st != 0) = false := by rw [hs]; rfl
      have HV2 : Aside0 (r = (0, ⟨⟨p0, p1, p2, p3, p4, p5⟩, st, nn, ⟨o0, o1, o2, o3⟩, un⟩)) := ⟨by rw [HV.out, if_neg (by decide), if_neg (fun e => e.1 hs)]⟩
      clear hs
      go_wp2
      go_ret
      exact ⟨by rw [HV2.out]; rfl, by rw [HV2.out]; exact H1.out, H2.out, H3.out⟩
    · have t0 : (st != 0) = true := bne_iff_ne.2 hs
      by_cases hu : now ≥ un
      · have t1 : decide (now ≥ un) = true := decide_eq_true hu
        have HV2 : Aside0 (r = (0, ⟨⟨p0, p1, p2, p3, p4, p5⟩, 0, nn, ⟨0, 0, 0, 0⟩, un⟩)) := ⟨by rw [HV.out, if_neg (by decide), if_pos ⟨hs, hu⟩]; rfl⟩
        clear hs hu
        go_wp2_with fail
        refine (lie_End_fall.calls g p0 p1 p2 p3 p4 p5 st nn o0 o1 o2 o3 un 0 p0 p1 p2 p3 p4 p5 0 nn 0 0 0 0 un w0 _ H1.out H2.out rfl).mono ?_
        rintro e w2 ⟨rfl, k1, k2, k3⟩
        have K := Aside0.mk (And.intro k1 (And.intro k2 k3))
        clear k1 k2 k3
        go_wp2
        go_ret
        exact ⟨by rw [HV2.out]; rfl, by rw [HV2.out]; exact K.out.1, K.out.2.1, H3.out.trans K.out.2.2 (.inl rfl)⟩
      · have t1 : decide (now ≥ un) = false := decide_eq_false hu
        have HV2 : Aside0 (r = (0, ⟨⟨p0, p1, p2, p3, p4, p5⟩, st, nn, ⟨o0, o1, o2, o3⟩, un⟩)) := ⟨by rw [HV.out, if_neg (by decide), if_neg (fun e => hu e.2)]⟩
        clear hs hu
        go_wp2
        go_ret
        exact ⟨by rw [HV2.out]; rfl, by rw [HV2.out]; exact H1.out, H2.out, H3.out⟩

set_option maxRecDepth 100000 in
set_option maxHeartbeats 2000000 in
theorem level_q (w0 w : World) (g : Nat) (s : L.St) (lv : Int) (hI : IsL w0 w g s) (hB : Below w0.heap.size w0 w) :
    Calls Try.prog 22 #[.pointer (some ⟨g, 0, none⟩), .int .i64 lv] w (StPost w0 w g (L.level s lv)) := by
  have HV : Aside0 (L.level s lv = if L.within lv (-1) 24 = false then (1, s) else (0, if lv ≠ s.port.level then L.fall { s with port := { s.port with level := lv } } 0 else s)) := ⟨rfl⟩
  generalize L.level s lv = r at HV ⊢
  have HM := Aside0.mk (fun w => within_q lv (-1) 24 w)
  generalize L.within lv (-1) 24 = bm at HV HM
  obtain ⟨⟨p0, p1, p2, p3, p4, p5⟩, st, no, ⟨o0, o1, o2, o3⟩, un⟩ := s
  simp only at hI HV
  have HI := Aside0.mk hI
  have HB := Aside0.mk hB
  have HGE := Aside0.mk hI.2
  have c1 := cellS57_1 hI.1
  have f1 := blk_frozen hI.1 1
  clear hI hB
  go_enter Try.func22, Try.ntmps22
  go_wp2_with fail
  refine (HM.out _).mono ?_
  rintro e w' ⟨rfl, rfl⟩
  cases bm with
  | false =>
    go_wp2
    go_ret
    exact ⟨by rw [HV.out]; rfl, by rw [HV.out]; exact HI.out, HB.out, KeepBut.refl _ _ _⟩
  | true =>
    by_cases hs : lv = p1
    · have t0 : (lv != p1) = false := by rw [hs]; simp
      have HV2 : Aside0 (r = (0, ⟨⟨p0, p1, p2, p3, p4, p5⟩, st, no, ⟨o0, o1, o2, o3⟩, un⟩)) := ⟨by rw [HV.out, if_neg (by decide), if_neg (fun e => e hs)]⟩
      clear hs
      go_wp2
      go_ret
      exact ⟨by rw [HV2.out]; rfl, by rw [HV2.out]; exact HI.out, HB.out, KeepBut.refl _ _ _⟩
    · have t0 : (lv != p1) = true := bne_iff_ne.2 hs
      have HV2 : Aside0 (r = (0, ⟨⟨p0, lv, p2, p3, p4, p5⟩, 0, no, ⟨0, 0, 0, 0⟩, un⟩)) := ⟨by rw [HV.out, if_neg (by decide), if_pos hs]; rfl⟩
      clear hs
      go_wp2_with fail
      have h1 := HI.out.set_1 lv
      have h2 := HB.out.setCell (p := ⟨g, 1, none⟩) HGE.out (.int .i64 lv)
      have h3 := KeepBut.set_ (KeepBut.refl w g none) 1 (.int .i64 lv)
      refine (lie_End_fall.calls g p0 lv p2 p3 p4 p5 st no o0 o1 o2 o3 un 0 p0 lv p2 p3 p4 p5 0 no 0 0 0 0 un w0 _ h1 h2 rfl).mono ?_
      rintro e w2 ⟨rfl, k1, k2, k3⟩
      have K := Aside0.mk (And.intro k1 (And.intro k2 (h3.trans k3 (.inl rfl))))
      clear k1 k2 k3 h1 h2 h3 c1 f1
      go_wp2
      go_ret
      exact ⟨by rw [HV2.out]; rfl, by rw [HV2.out]; exact K.out.1, K.out.2.1, K.out.2.2⟩

set_option maxRecDepth 100000 in
theorem state_q (w0 w : World) (g : Nat) (s : L.St) (hI : IsL w0 w g s) : Calls Try.prog 15 #[.pointer (some ⟨g, 0, none⟩)] w fun e w' => e = .returned (.int .i64 s.state) ∧ w = w' := by
  have c6 := cellS57_6 hI.1
  clear hI
  go_enter Try.func15, Try.ntmps15
  go_wp2
  go_ret
  exact ⟨rfl, rfl⟩

theorem right_f (p : L.Port) : lie_right.f p.node p.level p.pod p.mtu p.link p.hold = some (L.rightPort p) := by
  have hw : ∀ n a b : Int, lie_within.f n a b = some (L.within n a b) := fun n a b => by
    unfold lie_within.f L.within
    by_cases c : n ≥ a
    · rw [if_pos c, decide_eq_true (show a ≤ n from c)]; simp
    · rw [if_neg c, decide_eq_false (show ¬ a ≤ n from c)]; simp
  unfold lie_right.f L.rightPort
  simp only [hw]
  generalize L.within p.node 1 1000 = b0
  generalize L.within p.level (-1) 24 = b1
  generalize L.within p.pod 0 65535 = b2
  generalize L.within p.mtu 0 65535 = b3
  generalize L.within p.link 0 65535 = b4
  generalize L.within p.hold 1 1000 = b5
  cases b0 <;> cases b1 <;> cases b2 <;> cases b3 <;> cases b4 <;> cases b5 <;> rfl

def NewPost (w0 w : World) (p : L.Port) (e : Ending) (w' : World) : Prop :=
  (L.rightPort p = true ∧ ∃ g, e = .returned (.tuple #[.pointer (some ⟨g, 0, none⟩), .int .i64 0]) ∧ w.heap.size ≤ g ∧ IsL w0 w' g (L.new p) ∧ Below w.heap.size w w') ∨
  (L.rightPort p = false ∧ e = .returned (.tuple #[.pointer none, .int .i64 1]) ∧ Below w.heap.size w w')

set_option maxRecDepth 100000 in
set_option maxHeartbeats 2000000 in
theorem new_q (w0 w : World) (p : L.Port) (hB : Below w0.heap.size w0 w) : Calls Try.prog 12 #[portV p] w (NewPost w0 w p) := by
  have HRT := Aside0.mk (right_f p)
  unfold portV
  obtain ⟨p0, p1, p2, p3, p4, p5⟩ := p
  simp only at HRT ⊢
  obtain ⟨b, hb⟩ : ∃ b, b = L.rightPort ⟨p0, p1, p2, p3, p4, p5⟩ := ⟨_, rfl⟩
  rw [← hb] at HRT
  have HBB := Aside0.mk hb.symm
  have HB := Aside0.mk hB
  clear hb hB
  go_enter Try.func12, Try.ntmps12
  go_wp2_with (first | ((with_reducible refine gate_dst (N := 1) rfl ?_); refine box_event ?hg (N := 1) ?hd (cs := #[.int .i64 p0, .int .i64 p1, .int .i64 p2, .int .i64 p3, .int .i64 p4, .int .i64 p5]) (t := 23) ?hr ?_; (case hd => rfl); (case hg => rfl); (case hr => first | (go_simp; done) | (go_simp; rfl)); intro b1 hg w1 hbox hb; have HB1 := Aside0.mk (below_step (Below.refl w.heap.size w) hb); have HX1 := Aside0.mk hbox; have c0 := (blk_cell hbox 0).trans rfl; have c1 := (blk_cell hbox 1).trans rfl; have c2 := (blk_cell hbox 2).trans rfl; have c3 := (blk_cell hbox 3).trans rfl; have c4 := (blk_cell hbox 4).trans rfl; have c5 := (blk_cell hbox 5).trans rfl; clear hg hbox hb) | fail)
  refine (lie_right.calls p0 p1 p2 p3 p4 p5 b _ HRT.out).mono ?_
  rintro e w2 ⟨rfl, hb⟩
  have HB2 := Aside0.mk (below_step HB1.out hb)
  have hx := blk_below HX1.out hb
  clear hb c0 c1 c2 c3 c4 c5 HB1 HX1
  have c0 := (blk_cell hx 0).trans rfl
  have c1 := (blk_cell hx 1).trans rfl
  have c2 := (blk_cell hx 2).trans rfl
  have c3 := (blk_cell hx 3).trans rfl
  have c4 := (blk_cell hx 4).trans rfl
  have c5 := (blk_cell hx 5).trans rfl
  clear hx
  cases b with
  | false =>
    go_wp2
    go_ret2
    exact .inr ⟨HBB.out, rfl, HB2.out⟩
  | true =>
    have HNX : Aside0 (∀ w, Calls Try.prog 28 #[.int .i64 0] w fun e w' => e = .returned (.int .i64 1) ∧ w = w') := ⟨fun w => next_q 0 w⟩
    have HSZ := Aside0.mk (below_step HB.out HB2.out)
    go_wp2
    go_region_with ((go_at_call 28; refine (HNX.out _).mono ?_; rintro e w' ⟨rfl, rfl⟩))
    all_goals go_wp2
    all_goals go_ret2
    all_goals exact .inl ⟨HBB.out, w2.heap.size, rfl, HB2.out.size, (IsS57.new w0 w2 p0 p1 p2 p3 p4 p5 0 1 0 0 0 0 0 HSZ.out).drew, below_drew1 (below_alloc HB2.out _)⟩

end Go.Proofs.Ytnlfcgnedemhhaa.P
