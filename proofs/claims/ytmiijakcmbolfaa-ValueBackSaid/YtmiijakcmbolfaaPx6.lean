-- Printed by a program of this session over the kit's print: all laws of the seat in one namespace, some texts by hand.
import Derived.Test.YtmiijakcmbolfaaPx0
import Derived.Test.YtmiijakcmbolfaaPx1
import Derived.Test.YtmiijakcmbolfaaLawRange
import Derived.Test.YtmiijakcmbolfaaLinkFields
import Derived.Shelf.Abstract
import Derived.Shelf.RegionOpen
import Derived.OwnWalkIn
import Derived.TacticsInMore
import Derived.LoopNIn
import Derived.LoopIn
import Derived.Maps.AppendAt
import Derived.Lib.Hide
namespace Go.Proofs.Ytmiijakcmbolfaa.P
open Go.RowKit Go.Proofs.YtmiijakcmbolfaaW.PrintWords Go.Proofs.YtmiijakcmbolfaaW.PrintLast Go.Proofs.YtmiijakcmbolfaaW.PrintMore
attribute [local go_sem] max2_int min2_int max_two min_two max_three min_three max_four min_four   -- for this text's walks alone
set_option linter.unusedVariables false
set_option linter.unusedSimpArgs false

--HAND Derived.Test.YtmiijakcmbolfaaLawRange Derived.Test.YtmiijakcmbolfaaLinkFields Derived.Shelf.Abstract Derived.Shelf.RegionOpen Derived.OwnWalkIn Derived.TacticsInMore Derived.LoopNIn Derived.LoopIn Derived.Maps.AppendAt Derived.Lib.Hide
/-! ### value_Find: function 16, by hand -/
open Go.Shelf Go.Proofs.Ytmiijakcmbolfaa.R Go.Proofs.Ytmiijakcmbolfaa.M Go.Proofs.Ytmiijakcmbolfaa.Link
attribute [local go_sem] Oper.semAt_some

theorem boxed_turn {W W' : World} {row : Option Nat} {B b : Nat} {t : TypeId} {v : Value} (h : Boxed W b t v) (hg : W.grownBy W' row) (hr : ∀ r, row = some r → B ≤ r ∧ ∃ o : Obj, W.heap[r]? = some o ∧ o.isCells = false) : Boxed W' b t v :=
  h.kept hg (fun e => by
    obtain ⟨_, o, ho, hc⟩ := hr b e.symm
    rw [show W.heap[b]? = _ from h] at ho
    cases ho; cases hc)
theorem owns_turn {W W' : World} {row : Option Nat} {B base k size : Nat} {e : TypeId} {v : Value} {xs : List Value} (h : W.ownsRow base e size v k xs) (hg : W.grownBy W' row) (hr : ∀ r, row = some r → B ≤ r ∧ ∃ o : Obj, W.heap[r]? = some o ∧ o.isCells = false) : W'.ownsRow base e size v k xs := by
  refine h.kept hg ?_
  rcases h.2 with ⟨rfl, _⟩ | ⟨g, cap, cur, rfl, _, hgb, _⟩
  · exact .inl rfl
  · refine .inr fun e' => ?_
    obtain ⟨_, o, ho, hc⟩ := hr g (by simpa [Value.ownBlock] using e'.symm)
    rw [hgb] at ho; cases ho; cases hc
theorem grown_drewN (W : World) (a : Nat) : W.grownBy (W.drewN a) none := ⟨rfl, rfl, rfl, Nat.le_refl _, fun _ _ _ => rfl⟩

set_option maxRecDepth 100000 in
set_option maxHeartbeats 4000000 in
/-- the fields, one after another: the iterator reads what lay below n₀, and its own variable -/
theorem value_fields1_in (l Bn : Nat) (w0 : World) (A0 : Option Addr) (c0 : Nat) (l0 : List Itm) (hC : Kd.C k30 w0 A0 l0.length l0) (hc0 : l0.length ≤ c0) (hlt : l0.length < 2932031007402)
    (J Jx : List (Nat × Nat) → World → Prop)
    (hJ : ∀ s W W', J s W → W.grownBy W' none → J s W')
    (hY : ∀ pre x W, J pre W → (∃ rest, fieldsR l0 = pre ++ x :: rest) → YieldAt Fence.wide 7 Try.prog l #[.int .i64 x.1, .int .i64 x.2] W fun e W' =>
      (e = .returned (.bool true) ∧ J (pre ++ [x]) W' ∧ Below w0.heap.size W W') ∨ (e = .returned (.bool false) ∧ Jx (pre ++ [x]) W'))
    (W : World) (hB : Below w0.heap.size w0 W) (hX : Boxed W Bn 22 (.slice A0 l0.length c0)) (h0 : J [] W) :
    CallsIn Fence.wide 8 Try.prog 36 #[.func (.yield l) #[] #[], .pointer (some ⟨Bn, 0, none⟩)] W fun e W' => (∃ v, e = .returned v) ∧
      ((∃ ys, ys = fieldsR l0 ∧ J ys W') ∨ (∃ pre, pre <+: fieldsR l0 ∧ Jx pre W')) := by
  have hc := hX.cell
  have hCW := Kd.C_below hC hB
  have hrt := right_f (k := l0.length + 2) (l := l0) (by omega) (Nat.le_refl _)
  refine callsIn_of_wp Try.func36 rfl trivial ?_ rfl
  simp only [Try.ntmps36, List.size_toArray, List.length_cons, List.length_nil, Nat.reduceAdd, Nat.reduceSub, Array.replicate_succ, Array.replicate_zero, List.push_toArray, List.append_toArray, List.nil_append, List.cons_append]
  have HRT := Lib.hid hrt
  clear hrt
  gi_wp2_with fail
  refine ⟨trivial, (callsIn_wide.2 (value_Right.calls (l0.length + 2) A0 c0 l0 (rightAt 0 l0) W hCW hc0 HRT.out)).mono ?_⟩
  rintro e w1 ⟨rfl, hb1⟩
  have hX1 : Boxed w1 Bn 22 (.slice A0 l0.length c0) := (hb1.block _ hX.lt).trans hX
  have h1 : J [] w1 := hJ _ _ _ h0 (grown_of_below hb1 none)
  have hB1 : Below w0.heap.size w0 w1 := hB.trans (hb1.mono hB.size)
  have hc1 := hX1.cell
  clear hc hX h0 hb1 hCW
  cases hr : rightAt 0 l0 with
  | false =>
    gi_wp2
    refine bodyPost_ret (results_none rfl _ _ _) rfl ?_
    have hf : fieldsR l0 = [] := by unfold fieldsR; rw [hr]; simp
    exact ⟨⟨_, rfl⟩, .inl ⟨[], hf.symm, h1⟩⟩
  | true =>
    have hf : fieldsR l0 = spans l0 0 0 0 := by unfold fieldsR; rw [hr]; simp
    have HF := Lib.hid hf
    have HR := Lib.hid hr
    clear hf hr HRT
    gi_wp2
    gi_loopw [3, 4, 12] (fun v3 v4 v12 wr => ∃ (pre : List (Nat × Nat)) (q r : List Itm) (from_ : Nat) (deep : Int), l0 = q ++ r ∧ v3 = .int .i64 (from_ : Int) ∧ v4 = .int .i64 deep ∧ v12 = .int .i64 (q.length : Int) ∧
        fieldsR l0 = pre ++ spans r q.length from_ deep ∧ from_ ≤ q.length ∧ 0 ≤ deep ∧ deep ≤ 8 ∧ rightAt deep r = true ∧ J pre wr ∧ Below w0.heap.size w0 wr)
      (fun _ _ v12 _ => l0.length - (intOf v12).toNat)
    case atStart => exact ⟨[], [], l0, 0, 0, rfl, rfl, rfl, rfl, HF.out, Nat.le_refl _, by omega, by omega, HR.out, h1, hB1⟩
    case round =>
      clear h1 hB1 hc1 hX1 HF HR hB
      obtain ⟨pre, q, r, from_, deep, hl, rfl, rfl, rfl, hf, hfq, hd0, hd8, hr, hJp, hBr⟩ := hrel
      have HL := Lib.hid hl
      have HFF := Lib.hid hf
      have HRA := Lib.hid hr
      cases r with
      | nil =>
        have hlen : l0.length = q.length := by rw [hl]; simp
        have t0 : decide (q.length < l0.length) = false := decide_eq_false (by omega)
        have t1 : decide ((q.length : Int) < (l0.length : Int)) = false := decide_eq_false (by omega)
        clear hl hf hr hlen hBr
        gi_wp2
        go_end0
        exact ⟨⟨_, rfl⟩, .inl ⟨pre, by rw [HFF.out]; simp [spans], hJp⟩⟩
      | cons x r =>
        have hlen : l0.length = q.length + (r.length + 1) := by rw [hl]; simp
        have t0 : decide (q.length < l0.length) = true := decide_eq_true (by omega)
        have t1 : decide ((q.length : Int) < (l0.length : Int)) = true := decide_eq_true (by omega)
        have hCr := Kd.C_below hC hBr
        obtain ⟨ad, A3, c3, ead, hx0, hx1, hx2, hx3, hl3, hC3⟩ := at_T30 hCr (q.length : Int) (by omega) (by omega)
        have hrd : rd_T30 l0 (q.length : Int) = x := by rw [hl]; exact rd_item q x r
        rw [hrd] at hx0 hx1 hx2 hx3 hl3 hC3
        rw [Int.toNat_natCast] at hx0 hx1 hx2 hx3
        cases ead
        have hq0 : (0 : Int) ≤ (q.length : Int) := by omega
        have hq1 : (q.length : Int) < (l0.length : Int) := by omega
        have hdx : -1 ≤ deeper x ∧ deeper x ≤ 1 := by unfold deeper; split; omega; split <;> omega
        have HDF := Lib.hid (deeper_f x)
        simp only [rightAt, Bool.and_eq_true, decide_eq_true_eq] at hr
        obtain ⟨⟨_, hr1, hr2⟩, hr3⟩ := hr
        have HR3 := Lib.hid hr3
        have HLEN := Lib.hid hlen
        have HBR := Lib.hid hBr
        clear hl hf hrd hr3 hlen hC hCr hBr HRA
        gi_wp2_with fail
        refine ⟨trivial, (callsIn_wide.2 (value_deeper.calls x.f0 x.f1 x.f2 A3 c3 x.f3 (deeper x) _ (by exact Kd.C_alloc hC3 _) hl3 HDF.out)).mono ?_⟩
        rintro e w2 ⟨rfl, hb2⟩
        have hJ2 : J pre w2 := hJ _ _ _ (hJ _ _ _ hJp (World.grownBy_alloc wr _ none)) (grown_of_below hb2 none)
        have hB2 : Below w0.heap.size w0 w2 := (HBR.out.alloc HBR.out.size _).trans (hb2.mono (by have := HBR.out.size; simp; omega))
        clear hb2 hJp hx0 hx1 hx2 hx3 hl3 hC3 HBR
        by_cases hp : 0 < deep + deeper x
        · have hsp : spans (x :: r) q.length from_ deep = spans r (q.length + 1) from_ (deep + deeper x) := by simp only [spans]; rw [if_pos hp]
          have HSP := Lib.hid hsp
          clear hsp
          have t2 : decide (0 < deep + deeper x) = true := decide_eq_true hp
          gi_wp2
          go_roundw
          case rel =>
            refine ⟨pre, q ++ [x], r, from_, deep + deeper x, by rw [HL.out]; simp, rfl, rfl, ?_, by rw [HFF.out, HSP.out]; simp, by simp; omega, hr1, hr2, HR3.out, hJ2, hB2⟩
            rw [List.length_append]; rfl
          case measure => have := HLEN.out; simp [intOf]; omega
        · have hsp : spans (x :: r) q.length from_ deep = (from_, q.length + 1) :: spans r (q.length + 1) (q.length + 1) (deep + deeper x) := by simp only [spans]; rw [if_neg hp]
          have HSP := Lib.hid hsp
          clear hsp
          have t2 : decide (0 < deep + deeper x) = false := decide_eq_false hp
          obtain ⟨fn, tmps, assign, body, hy, hR⟩ := hY pre (from_, q.length + 1) w2 hJ2 ⟨_, by rw [HFF.out, HSP.out]⟩
          simp only [Int.natCast_add, Int.cast_ofNat_Int] at hy
          gi_wp2
          refine hR.mono ?_
          rintro e W3 (⟨rfl, hJ3, hk3⟩ | ⟨rfl, hJx3⟩)
          · have hB3 : Below w0.heap.size w0 W3 := hB2.trans hk3
            gi_wp2
            go_roundw
            case rel =>
              refine ⟨pre ++ [(from_, q.length + 1)], q ++ [x], r, q.length + 1, deep + deeper x, by rw [HL.out]; simp, rfl, rfl, ?_, by rw [HFF.out, HSP.out]; simp, by simp, hr1, hr2, HR3.out, hJ3, hB3⟩
              rw [List.length_append]; rfl
            case measure => have := HLEN.out; simp [intOf]; omega
          · gi_wp2
            refine bodyPost_ret (results_none rfl _ _ _) rfl ?_
            exact ⟨⟨_, rfl⟩, .inr ⟨pre ++ [(from_, q.length + 1)], ⟨spans r (q.length + 1) (q.length + 1) (deep + deeper x), by rw [HFF.out, HSP.out]; simp⟩, hJx3⟩⟩

theorem value_fields_in (n : Nat) (A0 : Option Addr) (c0 : Nat) (k : Nat) (w : World) :
    CallsIn Fence.wide n Try.prog 30 #[.slice A0 k c0] w fun e w' => e = .returned (.func (.func 36) #[] #[.pointer (some ⟨w.heap.size, 0, none⟩)]) ∧ w' = w.alloc (.cells #[.slice A0 k c0] 22) := by
  refine callsIn_of_wp Try.func30 rfl trivial ?_ rfl
  simp only [Try.ntmps30, List.size_toArray, List.length_cons, List.length_nil, Nat.reduceAdd, Nat.reduceSub, Array.replicate_succ, Array.replicate_zero, List.push_toArray, List.append_toArray, List.nil_append, List.cons_append]
  gi_wp2
  go_ret
  exact ⟨rfl, rfl⟩

theorem below_putB {n l : Nat} (W : World) (o' : Obj) (h : n ≤ l) : Below n W (W.putObj l o') := ⟨rfl, rfl, rfl, by simp, fun k hk => World.putObj_heap_other (by omega)⟩

theorem find_done {l0 : List Itm} {a1 : Int} (h : ∀ p ∈ fieldsR l0, (itemAt l0 p.1).f1 ≠ a1) : findR l0 a1 = (0, 0, false) := by
  unfold findR
  rw [List.find?_eq_none.2]
  intro p hp
  simpa using h p hp
theorem find_stop {l0 : List Itm} {a1 : Int} {pre : List (Nat × Nat)} {p : Nat × Nat} (hp : pre ++ [p] <+: fieldsR l0) (h : ∀ p ∈ pre, (itemAt l0 p.1).f1 ≠ a1) (he : (itemAt l0 p.1).f1 = a1) : findR l0 a1 = ((p.1 : Int), (p.2 : Int), true) := by
  obtain ⟨rest, hr⟩ := hp
  unfold findR
  rw [← hr, List.append_assoc, List.find?_append, List.find?_eq_none.2 (fun q hq => by simpa using h q hq)]
  simp [he]

def value_Find.f (l0 : List Itm) (a1 : Int) : Option (Int × Int × Bool) := if l0.length < 2932031007402 then some (findR l0 a1) else none

/-- what the loop keeps -/
def FindI (w : World) (A0 : Option Addr) (c0 : Nat) (l0 : List Itm) (a1 : Int) (pre : List (Nat × Nat)) (W : World) : Prop :=
  (∀ p ∈ pre, (itemAt l0 p.1).f1 ≠ a1) ∧ Boxed W w.heap.size 22 (.slice A0 l0.length c0) ∧ Boxed W (w.heap.size + 1) 3 (.int .i64 a1) ∧
  Boxed W (w.heap.size + 1 + 1) 3 (.int .i64 0) ∧ Boxed W (w.heap.size + 1 + 1 + 1) 3 (.int .i64 0) ∧ Boxed W (w.heap.size + 1 + 1 + 1 + 1) 4 (.bool false) ∧ Below w.heap.size w W
/-- what it ends with when it stops -/
def FindX (w : World) (l0 : List Itm) (a1 : Int) (c : Code) (pre : List (Nat × Nat)) (W : World) : Prop :=
  c = .ret ∧ ∃ (q : List (Nat × Nat)) (p : Nat × Nat), pre = q ++ [p] ∧ (∀ p ∈ q, (itemAt l0 p.1).f1 ≠ a1) ∧ (itemAt l0 p.1).f1 = a1 ∧
  Boxed W (w.heap.size + 1 + 1) 3 (.int .i64 (p.1 : Int)) ∧ Boxed W (w.heap.size + 1 + 1 + 1) 3 (.int .i64 (p.2 : Int)) ∧ Boxed W (w.heap.size + 1 + 1 + 1 + 1) 4 (.bool true) ∧ Below w.heap.size w W
theorem findI_own (w : World) (A0 : Option Addr) (c0 : Nat) (l0 : List Itm) (a1 : Int) (B : Nat) (hB : w.heap.size ≤ B) : OwnFrom B (FindI w A0 c0 l0 a1) := by
  rintro s W W' row ⟨h0, h1, h2, h3, h4, h5, h6⟩ hg hr
  exact ⟨h0, boxed_turn h1 hg hr, boxed_turn h2 hg hr, boxed_turn h3 hg hr, boxed_turn h4 hg hr, boxed_turn h5 hg hr, h6.grown hg h6.size (fun k e => Nat.le_trans hB (hr k e).1)⟩
theorem findX_own (w : World) (l0 : List Itm) (a1 : Int) (B : Nat) (hB : w.heap.size ≤ B) (c : Code) : OwnFrom B (FindX w l0 a1 c) := by
  rintro s W W' row ⟨h0, q, p, h1, h2, h2', h3, h4, h5, h6⟩ hg hr
  exact ⟨h0, q, p, h1, h2, h2', boxed_turn h3 hg hr, boxed_turn h4 hg hr, boxed_turn h5 hg hr, h6.grown hg h6.size (fun k e => Nat.le_trans hB (hr k e).1)⟩

set_option maxRecDepth 100000 in
set_option maxHeartbeats 4000000 in
theorem value_Find.calls (A0 : Option Addr) (c0 : Nat) (l0 : List Itm) (a1 : Int) (r1 r2 : Int) (r3 : Bool) (w : World) (hr0 : Kd.C k30 w A0 l0.length l0) (hc0 : l0.length ≤ c0) (h : value_Find.f l0 a1 = some (r1, r2, r3)) :
    Calls Try.prog 16 #[.slice A0 l0.length c0, .int .i64 a1] w fun e w' => e = .returned (.tuple #[.int .i64 r1, .int .i64 r2, .bool r3]) ∧ Below w.heap.size w w' := by
  unfold value_Find.f at h
  by_cases hlt : l0.length < 2932031007402
  · rw [if_pos hlt] at h
    have HU := Lib.hid (Option.some.inj h)
    clear h
    have hmx : (Try.prog).follows .mixedOrders = true := by kernel_rfl
    refine (callsIn_wide (n := 9)).1 ?_
    refine callsIn_of_wp_marks Try.func16 rfl trivial ?_ rfl
    simp only [Try.ntmps16, List.size_toArray, List.length_cons, List.length_nil, Nat.reduceAdd, Nat.reduceSub, Array.replicate_succ, Array.replicate_zero, List.push_toArray, List.append_toArray, List.nil_append, List.cons_append]
    gi_wp2_with fail
    refine ⟨trivial, (value_fields_in _ A0 c0 _ _).mono ?_⟩
    rintro e w1 ⟨rfl, rfl⟩
    gi_wp2_with fail
    have b0 := Boxed.new w 22 (.slice A0 l0.length c0)
    have b1 := Boxed.new (w.alloc (.cells #[.slice A0 l0.length c0] 22)) 3 (.int .i64 a1)
    have b2 := Boxed.new ((w.alloc (.cells #[.slice A0 l0.length c0] 22)).alloc (.cells #[.int .i64 a1] 3)) 3 (.int .i64 0)
    have b3 := Boxed.new (((w.alloc (.cells #[.slice A0 l0.length c0] 22)).alloc (.cells #[.int .i64 a1] 3)).alloc (.cells #[.int .i64 0] 3)) 3 (.int .i64 0)
    have b4 := Boxed.new ((((w.alloc (.cells #[.slice A0 l0.length c0] 22)).alloc (.cells #[.int .i64 a1] 3)).alloc (.cells #[.int .i64 0] 3)).alloc (.cells #[.int .i64 0] 3)) 4 (.bool false)
    have b5 := Boxed.new (((((w.alloc (.cells #[.slice A0 l0.length c0] 22)).alloc (.cells #[.int .i64 a1] 3)).alloc (.cells #[.int .i64 0] 3)).alloc (.cells #[.int .i64 0] 3)).alloc (.cells #[.bool false] 4)) 22 (.slice A0 l0.length c0)
    have hB0 : Below w.heap.size w ((((((w.alloc (.cells #[.slice A0 l0.length c0] 22)).alloc (.cells #[.int .i64 a1] 3)).alloc (.cells #[.int .i64 0] 3)).alloc (.cells #[.int .i64 0] 3)).alloc (.cells #[.bool false] 4)).alloc (.cells #[.slice A0 l0.length c0] 22)) :=
      ((((((Below.refl _ w).alloc (Nat.le_refl _) _).alloc (by simp) _).alloc (by simp; omega) _).alloc (by simp; omega) _).alloc (by simp; omega) _).alloc (by simp; omega) _
    simp only [World.size_alloc] at b1 b2 b3 b4 b5
    refine range_x (α := Nat × Nat) (encs := fun x => #[.int .i64 x.1, .int .i64 x.2]) (X := fun _ => False) (Kp := Below w.heap.size) (S := fun ys => ys = fieldsR l0) (Sp := fun pre => pre <+: fieldsR l0) (Ok := fun pre x => ∃ rest, fieldsR l0 = pre ++ x :: rest)
      rfl (by decide) (gf := 36) (lb := #[.pointer (some ⟨w.heap.size + 1 + 1 + 1 + 1 + 1, 0, none⟩)]) rfl trivial (enters_of Try.func36 (by kernel_rfl) rfl) (w0 := _)
      (fun l J Jx W hW hJ hJs hJx hJxs hY h0 => value_fields1_in l (w.heap.size + 1 + 1 + 1 + 1 + 1) w A0 c0 l0 hr0 hc0 hlt J Jx (fun s X Y hs hg => hJ s X Y none hs hg (fun r e => by cases e)) hY W (hB0.trans (hW.mono (by simp; omega))) ((hW.block _ (by simp)).trans b5) h0)
      (fun k hk => hk.elim) (fun h k => h.trans k) ?kb (Below.refl _ _) (fun _ => rfl) (FindI w A0 c0 l0 a1) (FindX w l0 a1) (findI_own w _ _ _ _ _ (by simp; omega)) (fun _ _ _ _ h => h.elim) (findX_own w _ _ _ (by simp; omega)) (fun _ _ _ _ _ h => h.elim)
      ⟨by simp, ((((b0.alloc _).alloc _).alloc _).alloc _).alloc _, (((b1.alloc _).alloc _).alloc _).alloc _, ((b2.alloc _).alloc _).alloc _, (b3.alloc _).alloc _, b4.alloc _, hB0⟩
      (fun x => { tmps := #[.slice A0 l0.length c0, .int .i64 a1, .pointer (some ⟨w.heap.size, 0, none⟩), .pointer (some ⟨w.heap.size + 1, 0, none⟩), .pointer (some ⟨w.heap.size + 1 + 1, 0, none⟩), .pointer (some ⟨w.heap.size + 1 + 1 + 1, 0, none⟩), .pointer (some ⟨w.heap.size + 1 + 1 + 1 + 1, 0, none⟩), .int .i64 x.1, .int .i64 x.2, .slice A0 l0.length c0, .func (.func 36) #[] #[.pointer (some ⟨w.heap.size + 1 + 1 + 1 + 1 + 1, 0, none⟩)], .int .i64 x.1, .int .i64 x.2, undef, undef, undef, undef, undef, undef, undef, undef, undef], defers := [] }) ?assign ?body ?done ?stop
    case kb =>
      intro W l o o' hl ho hc _
      exact below_putB W o' (by simp at hl; omega)
    case assign =>
      intro l x W K hK
      gi_wp2
      exact hK
    case body =>
      rintro l pre x W ⟨h0, h1, h2, h3, h4, h5, h6⟩ ⟨rest, hrest⟩
      have hfi := fields_in x (by rw [hrest]; simp)
      have hCr := Kd.C_below hr0 h6
      obtain ⟨ad, A3, c3, ead, hx0, hx1, hx2, hx3, hl3, hC3⟩ := at_T30 hCr (x.1 : Int) (by omega) (by omega)
      rw [show rd_T30 l0 (x.1 : Int) = itemAt l0 x.1 from rfl] at hx0 hx1 hx2 hx3 hl3 hC3
      rw [Int.toNat_natCast] at hx0 hx1 hx2 hx3
      cases ead
      have hq0 : (0 : Int) ≤ (x.1 : Int) := by omega
      have hq1 : (x.1 : Int) < (l0.length : Int) := by omega
      have hc1 := h1.cell
      have hc2 := h2.cell
      have hc3 := h3.cell
      have hf3 := h3.frozen
      have hc4 := h4.cell
      have hf4 := h4.frozen
      have hc5 := h5.cell
      have hf5 := h5.frozen
      have hz6 := h6.size
      clear hr0 hc0 hB0 b0 b1 b2 b3 b4 b5 hCr hx0 hx2 hx3 hl3 hC3 hrest
      gi_wp2
      by_cases he : (itemAt l0 x.1).f1 = a1
      · have t1 : decide ((itemAt l0 x.1).f1 = a1) = true := decide_eq_true he
        have h6' := ((h6.setCell (p := ⟨w.heap.size + 1 + 1, 0, none⟩) (by show w.heap.size ≤ w.heap.size + 1 + 1; omega) (.int .i64 x.1)).setCell (p := ⟨w.heap.size + 1 + 1 + 1, 0, none⟩) (by show w.heap.size ≤ w.heap.size + 1 + 1 + 1; omega) (.int .i64 x.2)).setCell (p := ⟨w.heap.size + 1 + 1 + 1 + 1, 0, none⟩) (by show w.heap.size ≤ w.heap.size + 1 + 1 + 1 + 1; omega) (.bool true)
        gi_region_o
        all_goals gi_wp2
        all_goals exact ⟨((((KeepsOthers.setCell _ _ _).trans (KeepsOthers.setCell _ _ _)).trans (KeepsOthers.setCell _ _ _)).trans (KeepsOthers.drew _)).from _, rfl, pre, x, rfl, h0, he, ((h3.set _).other (by omega) _).other (by omega) _, ((h4.other (by omega) _).set _).other (by omega) _, ((h5.other (by omega) _).other (by omega) _).set _, h6'.trans ⟨rfl, rfl, rfl, Nat.le_refl _, fun _ _ => rfl⟩⟩
      · have t1 : decide ((itemAt l0 x.1).f1 = a1) = false := decide_eq_false he
        have hn : ∀ p ∈ pre ++ [x], (itemAt l0 p.1).f1 ≠ a1 := by
          intro p hp
          rcases List.mem_append.1 hp with hp | hp
          · exact h0 p hp
          · rw [List.mem_singleton.1 hp]; exact he
        gi_region_o
        all_goals gi_wp2
        all_goals exact ⟨(KeepsOthers.drew _).from _, ⟨rfl, rfl, rfl, Nat.le_refl _, fun _ _ => rfl⟩, hn, h1, h2, h3, h4, h5, h6.trans ⟨rfl, rfl, rfl, Nat.le_refl _, fun _ _ => rfl⟩⟩
    case done =>
      rintro D ys W hD hys ⟨h0, h1, h2, h3, h4, h5, h6⟩ hK
      subst hys
      have hu := find_done h0
      rw [HU.out] at hu
      have HU2 := Lib.hid hu
      clear hu HU hr0 hc0 hB0 b0 b1 b2 b3 b4 b5
      have hc3 := h3.cell
      have hf3 := h3.frozen
      have hc4 := h4.cell
      have hf4 := h4.frozen
      have hc5 := h5.cell
      have hf5 := h5.frozen
      have hD' : w.heap.size + 1 + 1 + 1 + 1 + 1 < D := by simp at hD; omega
      gi_wp2
      have g3 : Boxed (((W.setCell ⟨w.heap.size + 1 + 1, 0, none⟩ (.int .i64 0)).setCell ⟨w.heap.size + 1 + 1 + 1, 0, none⟩ (.int .i64 0)).setCell ⟨w.heap.size + 1 + 1 + 1 + 1, 0, none⟩ (.bool false)) (w.heap.size + 1 + 1) 3 (.int .i64 0) := ((h3.set _).other (by omega) _).other (by omega) _
      have g4 : Boxed (((W.setCell ⟨w.heap.size + 1 + 1, 0, none⟩ (.int .i64 0)).setCell ⟨w.heap.size + 1 + 1 + 1, 0, none⟩ (.int .i64 0)).setCell ⟨w.heap.size + 1 + 1 + 1 + 1, 0, none⟩ (.bool false)) (w.heap.size + 1 + 1 + 1) 3 (.int .i64 0) := ((h4.other (by omega) _).set _).other (by omega) _
      have g5 : Boxed (((W.setCell ⟨w.heap.size + 1 + 1, 0, none⟩ (.int .i64 0)).setCell ⟨w.heap.size + 1 + 1 + 1, 0, none⟩ (.int .i64 0)).setCell ⟨w.heap.size + 1 + 1 + 1 + 1, 0, none⟩ (.bool false)) (w.heap.size + 1 + 1 + 1 + 1) 4 (.bool false) := ((h5.other (by omega) _).other (by omega) _).set _
      have hK2 := (((KeepsOthers.setCell W ⟨w.heap.size + 1 + 1, 0, none⟩ (.int .i64 0)).trans (KeepsOthers.setCell _ ⟨w.heap.size + 1 + 1 + 1, 0, none⟩ (.int .i64 0))).trans (KeepsOthers.setCell _ ⟨w.heap.size + 1 + 1 + 1 + 1, 0, none⟩ (.bool false))).same D _ hK rfl
      have h6' := ((h6.setCell (p := ⟨w.heap.size + 1 + 1, 0, none⟩) (by show w.heap.size ≤ w.heap.size + 1 + 1; omega) (.int .i64 0)).setCell (p := ⟨w.heap.size + 1 + 1 + 1, 0, none⟩) (by show w.heap.size ≤ w.heap.size + 1 + 1 + 1; omega) (.int .i64 0)).setCell (p := ⟨w.heap.size + 1 + 1 + 1 + 1, 0, none⟩) (by show w.heap.size ≤ w.heap.size + 1 + 1 + 1 + 1; omega) (.bool false)
      revert g3 g4 g5 hK2 h6'
      generalize ((W.setCell ⟨w.heap.size + 1 + 1, 0, none⟩ (.int .i64 0)).setCell ⟨w.heap.size + 1 + 1 + 1, 0, none⟩ (.int .i64 0)).setCell ⟨w.heap.size + 1 + 1 + 1 + 1, 0, none⟩ (.bool false) = W2
      intro g3 g4 g5 hK2 h6'
      refine ⟨by simp, .inl ⟨_, _, rfl, run_takeDeferred hK2, ?_⟩⟩
      have c3 := Boxed.cell ((World.putObj_heap_other (o := .deferred none) (show w.heap.size + 1 + 1 ≠ D by omega)).trans g3)
      have c4 := Boxed.cell ((World.putObj_heap_other (o := .deferred none) (show w.heap.size + 1 + 1 + 1 ≠ D by omega)).trans g4)
      have c5 := Boxed.cell ((World.putObj_heap_other (o := .deferred none) (show w.heap.size + 1 + 1 + 1 + 1 ≠ D by omega)).trans g5)
      refine ⟨.tuple #[.int .i64 0, .int .i64 0, .bool false], by simp [results, Try.results16, go_sem, c3, c4, c5], ?_⟩
      have hu := HU2.out
      simp only [Prod.mk.injEq] at hu
      obtain ⟨rfl, rfl, rfl⟩ := hu
      exact ⟨rfl, h6'.trans (belowK_b (w := w) (Nat.le_refl _) W2 D _ _ (by omega) hK2 rfl rfl)⟩
    case stop =>
      rintro D c pre W hD hpre ⟨rfl, q, p, rfl, h1, h2, h3, h4, h5, h6⟩ hK
      have hu := find_stop hpre h1 h2
      rw [HU.out] at hu
      have HU2 := Lib.hid hu
      clear hu HU hr0 hc0 hB0 b0 b1 b2 b3 b4 b5
      have hD' : w.heap.size + 1 + 1 + 1 + 1 + 1 < D := by simp at hD; omega
      gi_wp2
      refine ⟨by simp, .inl ⟨_, _, rfl, run_takeDeferred hK, ?_⟩⟩
      have c3 := Boxed.cell ((World.putObj_heap_other (o := .deferred none) (show w.heap.size + 1 + 1 ≠ D by omega)).trans h3)
      have c4 := Boxed.cell ((World.putObj_heap_other (o := .deferred none) (show w.heap.size + 1 + 1 + 1 ≠ D by omega)).trans h4)
      have c5 := Boxed.cell ((World.putObj_heap_other (o := .deferred none) (show w.heap.size + 1 + 1 + 1 + 1 ≠ D by omega)).trans h5)
      refine ⟨.tuple #[.int .i64 p.1, .int .i64 p.2, .bool true], by simp [results, Try.results16, go_sem, c3, c4, c5], ?_⟩
      have hu := HU2.out
      simp only [Prod.mk.injEq] at hu
      obtain ⟨rfl, rfl, rfl⟩ := hu
      exact ⟨rfl, h6.trans (belowK_b (w := w) (Nat.le_refl _) W D _ _ (by omega) hK rfl rfl)⟩
  · rw [if_neg hlt] at h
    cases h

end Go.Proofs.Ytmiijakcmbolfaa.P
