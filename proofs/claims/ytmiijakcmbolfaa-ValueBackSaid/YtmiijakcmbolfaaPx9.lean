-- Printed by a program of this session over the kit's print: all laws of the seat in one namespace, some texts by hand.
import Derived.Test.YtmiijakcmbolfaaPx0
import Derived.Test.YtmiijakcmbolfaaPx6
import Derived.Test.YtmiijakcmbolfaaLawRange
import Derived.Test.YtmiijakcmbolfaaLinkFields
import Derived.Shelf.Abstract
import Derived.Shelf.RegionOpen
import Derived.OwnWalkIn
import Derived.TacticsInMore
import Derived.LoopNIn
import Derived.LoopIn
import Derived.Maps.AppendAt
import Derived.Lib.Hide
import Derived.Laws.EntriesVeiled
namespace Go.Proofs.Ytmiijakcmbolfaa.P
open Go.RowKit Go.Proofs.YtmiijakcmbolfaaW.PrintWords Go.Proofs.YtmiijakcmbolfaaW.PrintLast Go.Proofs.YtmiijakcmbolfaaW.PrintMore
attribute [local go_sem] max2_int min2_int max_two min_two max_three min_three max_four min_four   -- for this text's walks alone
set_option linter.unusedVariables false
set_option linter.unusedSimpArgs false

--HAND Derived.Test.YtmiijakcmbolfaaLawRange Derived.Test.YtmiijakcmbolfaaLinkFields Derived.Shelf.Abstract Derived.Shelf.RegionOpen Derived.OwnWalkIn Derived.TacticsInMore Derived.LoopNIn Derived.LoopIn Derived.Maps.AppendAt Derived.Lib.Hide Derived.Laws.EntriesVeiled
/-! ### value_Drop: function 19, by hand -/
-- (behind value_Find.calls, whose text holds the iterator's contract)
open Go.Shelf Go.Proofs.Ytmiijakcmbolfaa.R Go.Proofs.Ytmiijakcmbolfaa.M Go.Proofs.Ytmiijakcmbolfaa.Link
attribute [local go_sem] Oper.semAt_some
attribute [-go_sem] Go.Builtin.append_   -- (its run is told by a fact: a walk shall not open it)

theorem rd_split (p : List Int) (x : Int) (r : List Int) : rd (p ++ x :: r) (p.length : Int) = x := by simp [rd]

set_option maxRecDepth 100000 in
set_option maxHeartbeats 4000000 in
/-- slices.Index: its answer is at or above 0 just if the number is there -/
theorem slices_Index_in (n : Nat) (A1 : Option Addr) (c1 : Nat) (l1 : List Int) (y : Int) (w : World) (hr1 : Kd.C (Kd.int .i64) w A1 l1.length l1) (hc1 : l1.length ≤ c1) (hlt : l1.length < 4611686018427387904) :
    CallsIn Fence.wide n Try.prog 37 #[.slice A1 l1.length c1, .int .i64 y] w fun e w' => (∃ i : Int, e = .returned (.int .i64 i) ∧ (0 ≤ i ↔ y ∈ l1)) ∧ w' = w := by
  refine callsIn_of_wp Try.func37 rfl trivial ?_ rfl
  simp only [Try.ntmps37, List.size_toArray, List.length_cons, List.length_nil, Nat.reduceAdd, Nat.reduceSub, Array.replicate_succ, Array.replicate_zero, List.push_toArray, List.append_toArray, List.nil_append, List.cons_append]
  gi_wp2
  gi_loopw [8] (fun v8 wr => ∃ (q r : List Int), l1 = q ++ r ∧ v8 = .int .i64 (q.length : Int) ∧ (¬ y ∈ q) ∧ wr = w)
    (fun v8 _ => l1.length - (intOf v8).toNat)
  case atStart => exact ⟨[], l1, rfl, rfl, by simp, rfl⟩
  case round =>
    obtain ⟨q, r, hl, rfl, hq, rfl⟩ := hrel
    cases r with
    | nil =>
      have hlen : l1.length = q.length := by rw [hl]; simp
      have t0 : decide (q.length < l1.length) = false := decide_eq_false (by omega)
      have t1 : decide ((q.length : Int) < (l1.length : Int)) = false := decide_eq_false (by omega)
      have hq' : ¬ y ∈ l1 := by rw [hl]; simpa using hq
      clear hr1 hc1 hl hlen
      gi_wp2
      go_ret
      exact ⟨⟨-1, rfl, by simp [hq']⟩, rfl⟩
    | cons x r =>
      have hlen : l1.length = q.length + (r.length + 1) := by rw [hl]; simp
      have t0 : decide (q.length < l1.length) = true := decide_eq_true (by omega)
      have t1 : decide ((q.length : Int) < (l1.length : Int)) = true := decide_eq_true (by omega)
      obtain ⟨ad, ead, hx⟩ := Kd.at_int hr1 (q.length : Int) (by omega) (by omega)
      rw [show rd l1 (q.length : Int) = x from by rw [hl]; exact rd_split q x r, Int.toNat_natCast] at hx
      cases ead
      have hq0 : (0 : Int) ≤ (q.length : Int) := by omega
      have hq1 : (q.length : Int) < (l1.length : Int) := by omega
      by_cases he : y = x
      · have t2 : decide (y = x) = true := decide_eq_true he
        have hin : y ∈ l1 := by rw [hl, he]; simp
        clear hr1 hc1 hl hlen
        gi_wp2
        go_ret
        exact ⟨⟨q.length, rfl, by simp [hin]⟩, rfl⟩
      · have t2 : decide (y = x) = false := decide_eq_false he
        have HL := Lib.hid hl
        have HLEN := Lib.hid hlen
        clear hr1 hc1 hl hlen
        gi_wp2
        go_roundw
        case rel =>
          refine ⟨q ++ [x], r, by rw [HL.out]; simp, ?_, by simpa using ⟨hq, he⟩, by first | trivial | rfl⟩
          rw [List.length_append]; rfl
        case measure => have := HLEN.out; simp [intOf]; omega

set_option maxRecDepth 100000 in
theorem slices_Contains_in (n : Nat) (A1 : Option Addr) (c1 : Nat) (l1 : List Int) (y : Int) (w : World) (hr1 : Kd.C (Kd.int .i64) w A1 l1.length l1) (hc1 : l1.length ≤ c1) (hlt : l1.length < 4611686018427387904) :
    CallsIn Fence.wide (n + 1) Try.prog 33 #[.slice A1 l1.length c1, .int .i64 y] w fun e w' => e = .returned (.bool (decide (y ∈ l1))) ∧ w' = w := by
  refine callsIn_of_wp Try.func33 rfl trivial ?_ rfl
  simp only [Try.ntmps33, List.size_toArray, List.length_cons, List.length_nil, Nat.reduceAdd, Nat.reduceSub, Array.replicate_succ, Array.replicate_zero, List.push_toArray, List.append_toArray, List.nil_append, List.cons_append]
  gi_wp2_with fail
  refine ⟨trivial, (slices_Index_in _ A1 c1 l1 y w hr1 hc1 hlt).mono ?_⟩
  rintro e w1 ⟨⟨i, rfl, hi⟩, rfl⟩
  gi_wp2
  go_ret
  exact ⟨by simp [hi], rfl⟩

set_option maxRecDepth 100000 in
theorem value_Drop1_in (n : Nat) (A1 : Option Addr) (c1 : Nat) (l1 : List Int) (y : Int) (b : Nat) (w : World) (hX : Boxed w b 32 (.slice A1 l1.length c1)) (hr1 : Kd.C (Kd.int .i64) w A1 l1.length l1) (hc1 : l1.length ≤ c1) (hlt : l1.length < 4611686018427387904) :
    CallsIn Fence.wide (n + 2) Try.prog 32 #[.int .i64 y, .pointer (some ⟨b, 0, none⟩)] w fun e w' => e = .returned (.bool (decide (y ∈ l1))) ∧ w' = w := by
  have hc := hX.cell
  refine callsIn_of_wp Try.func32 rfl trivial ?_ rfl
  simp only [Try.ntmps32, List.size_toArray, List.length_cons, List.length_nil, Nat.reduceAdd, Nat.reduceSub, Array.replicate_succ, Array.replicate_zero, List.push_toArray, List.append_toArray, List.nil_append, List.cons_append]
  gi_wp2_with fail
  refine ⟨trivial, (slices_Contains_in _ A1 c1 l1 y w hr1 hc1 hlt).mono ?_⟩
  rintro e w1 ⟨rfl, rfl⟩
  gi_wp2
  go_ret
  exact ⟨rfl, rfl⟩

/-! ### A row of the call's own whose elements lead only to what came in -/
def NT {α : Type} (d : Kd α) (e : Nat) (w : World) (base : Nat) (okE : Nat → Prop) (v : Value) (xs : List α) : Prop :=
  ∃ rows : List (List Value), rows.length = xs.length ∧ (Kd.raw d.sz).R e w base (fun k => some k = v.ownBlock) v rows ∧ ∀ (j : Nat) (x : α) (c : List Value), xs[j]? = some x → rows[j]? = some c → Kd.FK d w okE x c
section
variable {α : Type} {d : Kd α} {e base : Nat} {okE : Nat → Prop} {w w1 : World} {v : Value} {xs : List α}
theorem NT_nil (d : Kd α) (e : Nat) (w : World) (base : Nat) (okE : Nat → Prop) : NT d e w base okE (.slice none 0 0) [] :=
  ⟨[], rfl, Kd.R_mono (Kd.raw_tight (Kd.R_nil (Kd.raw d.sz) e w base (fun _ => True))) (fun _ h => h), fun j x c hx _ => by simp at hx⟩
theorem NT_step (h : NT d e w base okE v xs) (hE : ∀ k, okE k → k < w.heap.size → w1.heap[k]? = w.heap[k]?) (hv : ∀ k, some k = v.ownBlock → k < w.heap.size → w1.heap[k]? = w.heap[k]?) : NT d e w1 base okE v xs := by
  obtain ⟨rows, hl, hR, hf⟩ := h
  exact ⟨rows, hl, Kd.R_step hR (fun k hk hlt => hv k hk hlt), fun j x c hx hc => Kd.FK_step (hf j x c hx hc) hE⟩
theorem NT_base (h : NT d e w base okE v xs) : ∀ k, v.ownBlock = some k → base ≤ k := by
  obtain ⟨rows, _, hR, _⟩ := h
  exact Kd.R_base hR
theorem NT_typed (h : NT d e w base okE v xs) : ∀ k, v.ownBlock = some k → ∃ cells, w.heap[k]? = some (.cells cells e (0, 0)) := by
  obtain ⟨rows, _, hR, _⟩ := h
  exact Kd.R_typed hR
theorem NT_N (h : NT d e w base okE v xs) (hE : ∀ k, okE k → k < base) {ok : Nat → Prop} (h1 : ∀ k, okE k → ok k) (h2 : ∀ k, base ≤ k → ok k) : Kd.N d e w base ok v xs := by
  have hb := NT_base h
  obtain ⟨rows, hl, hR, hf⟩ := h
  exact ⟨fun k hk => h2 k (hb k hk), rows, hl, hR, fun j x c hx hc => Kd.FK_mono (hf j x c hx hc) (fun k hk => ⟨h1 k hk, fun e => by have := hb k e.symm; have := hE k hk; omega⟩)⟩
/-- what is no cells may turn -/
theorem NT_turn {B : Nat} {row : Option Nat} (h : NT d e w base okE v xs) (hE : ∀ k, okE k → k < B) (hg : w.grownBy w1 row) (hr : ∀ r, row = some r → B ≤ r ∧ ∃ o : Obj, w.heap[r]? = some o ∧ o.isCells = false) : NT d e w1 base okE v xs := by
  refine NT_step h (fun k hk hlt => hg.block k hlt (fun e => ?_)) (fun k hk hlt => hg.block k hlt (fun e => ?_))
  · have := (hr k e.symm).1; have := hE k hk; omega
  · obtain ⟨_, o, ho, hc⟩ := hr k e.symm
    obtain ⟨cells, hcs⟩ := NT_typed h k hk.symm
    rw [ho] at hcs; cases hcs; cases hc
theorem NT_slice (h : NT d e w base okE v xs) : ∃ A n c, v = .slice A n c := by
  obtain ⟨rows, _, hR, _⟩ := h
  obtain ⟨A, c, he⟩ := Kd.R_slice hR
  exact ⟨A, _, c, he⟩
theorem NT_ne {g t : Nat} {u : Value} (h : NT d e w base okE v xs) (hX : Boxed w g t u) (ht : e ≠ t) : some g ≠ v.ownBlock := by
  intro e'
  obtain ⟨cells, hcs⟩ := NT_typed h g e'.symm
  have hX' : w.heap[g]? = _ := hX
  rw [hX'] at hcs; cases hcs; exact ht rfl
/-- a cell of a variable of another type is written -/
theorem NT_set {g t : Nat} {u u' : Value} (h : NT d e w base okE v xs) (hX : Boxed w g t u) (ht : e ≠ t) (hE : ∀ k, okE k → k ≠ g) : NT d e (w.setCell ⟨g, 0, none⟩ u') base okE v xs := by
  refine NT_step h (fun k hk _ => Below.heap_setCell w _ _ k (hE k hk)) (fun k hk _ => Below.heap_setCell w _ _ k (fun e' => ?_))
  obtain ⟨cells, hcs⟩ := NT_typed h k hk.symm
  have hX' : w.heap[g]? = _ := hX
  rw [show k = g from e'] at hcs
  rw [hX'] at hcs; cases hcs; exact ht rfl
end
section
variable {F : Fence} {n : Nat} {P : Program} {ops : Array Oper} {rest : List Oper} {o : Oper} {a : Act} {Q : Exit → Act → World → Prop} {α : Type} {e : Nat} {W : World}
/-- append(v, ys...) within a fence -/
theorem wpIn_NT_append (d : Kd α) {w0 : World} {K : Act → World → Prop} (base : Nat) (hgd : o.guard = none) (s x : Operand) (t e : TypeId) (z : Value) (bytes : Nat)
    (ho : o.op = .call { callee := .builtin .append, args := #[s, x], argTypes := #[t, t] })
    (ht : P.underlying t = some (.slice e)) (hinfo : (P.info? e).map (fun i => (i.zero, i.size, i.bytes)) = some (some z, d.sz, bytes)) (hz : z.cells.size = d.sz) (hs0 : 0 < d.sz) (hb0 : 0 < bytes)
    (v : Value) (xs ys : List α) (A : Option Addr) (m c : Nat) (okE : Nat → Prop) (hs : a.eval s = v) (hx : a.eval x = .slice A m c)
    (HO : NT d e W base okE v xs) (HR : Kd.F d W okE A m ys) (hE : ∀ k, okE k → k < base)
    (HB : Below base w0 W) (hbase : base ≤ W.heap.size) (hl : (xs.length + m) * bytes ≤ 140737488355328)
    (h : ∀ v1 w1, NT d e w1 base okE v1 (xs ++ ys) → Below base w0 w1 → W.grownBy w1 v.ownBlock → (v1.ownBlock = v.ownBlock ∨ ∃ b, v1.ownBlock = some b ∧ W.heap.size ≤ b) → K (a.put o.dst v1) w1) :
    o.wpIn F n P a W K Q := by
  have hb := NT_base HO
  obtain ⟨rows, hlr, hR, hf⟩ := HO
  obtain ⟨news, hnl, hnr, hnf⟩ := Kd.reads_raw (Kd.F_rows HR) (fun y c hk => ⟨d.K_len (Kd.FK_now hk), d.K_one (Kd.FK_now hk)⟩)
  have hw : Region.wanted o (yielded #[] a.tmps) = true := by simp [Region.wanted, hgd]
  have hstep := Kd.R_append_rows_step (ops := #[]) (Kc := K) (Q := Q) (Kd.raw d.sz) base hw s x t e z bytes ho ht hinfo hz hs0 hb0 v rows news A m c (fun _ => True) (fun _ => False) hs hx (Kd.raw_any hR) hnr (fun _ _ hk => hk) (fun _ hk => hk.elim) (fun _ _ => trivial) HB hbase (by rw [hlr]; exact hl)
    (fun v1 w1 hr hb1 hg hat => h v1 w1 ⟨rows ++ news, by rw [List.length_append, List.length_append, hlr, hnl], Kd.raw_tight hr, fun j y c hy hc => by
      have hg' : ∀ k, okE k → k < W.heap.size → w1.heap[k]? = W.heap[k]? := fun k hk hlt => hg.block k hlt (fun e' => by have := hb k e'.symm; have := hE k hk; omega)
      by_cases hj : j < xs.length
      · rw [List.getElem?_append_left hj] at hy
        rw [List.getElem?_append_left (by omega)] at hc
        exact Kd.FK_step (hf j y c hy hc) hg'
      · rw [List.getElem?_append_right (by omega)] at hy
        rw [List.getElem?_append_right (by omega), hlr] at hc
        exact Kd.FK_step (hnf _ y c hy hc) hg'⟩ hb1 hg hat)
  rw [if_pos hw] at hstep
  unfold Oper.wpIn
  refine ⟨by simp [Oper.about, ho, resolve, Target.leads, Sem.run_pure], ?_⟩
  rw [Oper.semAt_plain F _ _ (by rw [ho]; intro c hc'; cases hc')]
  unfold Oper.wp at hstep
  simp [execOp, ho, resolve, invoke, builtin, hs, hx] at hstep ⊢
  cases hres : (Builtin.append_ #[t, t] o.type #[v, .slice A m c]).run P W with
  | ok u w1 => rw [hres] at hstep; exact hstep
  | halt hh w1 => rw [hres] at hstep; cases hh <;> exact hstep
end

theorem NT_append_run {α : Type} {P : Program} (d : Kd α) {w0 W : World} (base : Nat) (t e ty : TypeId) (z : Value) (bytes : Nat)
    (ht : P.underlying t = some (.slice e)) (hinfo : (P.info? e).map (fun i => (i.zero, i.size, i.bytes)) = some (some z, d.sz, bytes)) (hz : z.cells.size = d.sz) (hs0 : 0 < d.sz) (hb0 : 0 < bytes)
    (v : Value) (xs ys : List α) (A : Option Addr) (m c : Nat) (okE : Nat → Prop)
    (HO : NT d e W base okE v xs) (HR : Kd.F d W okE A m ys) (hE : ∀ k, okE k → k < base)
    (HB : Below base w0 W) (hbase : base ≤ W.heap.size) (hl : (xs.length + m) * bytes ≤ 140737488355328) :
    ∃ v1 w1, (Builtin.append_ #[t, t] ty #[v, .slice A m c]).run P W = .ok v1 w1 ∧ NT d e w1 base okE v1 (xs ++ ys) ∧ Below base w0 w1 ∧ W.grownBy w1 v.ownBlock := by
  have h := wpIn_NT_append (F := Fence.wide) (n := 0) (P := P) (o := { dst := some 0, op := .call { callee := .builtin .append, args := #[.const v, .const (.slice A m c)], argTypes := #[t, t] }, type := ty, pos := "", after := #[], guard := none }) (a := { tmps := #[undef], defers := [] }) (Q := fun _ _ _ => False) (K := fun a' w1 => ∃ v1, a'.tmps = #[v1] ∧ NT d e w1 base okE v1 (xs ++ ys) ∧ Below base w0 w1 ∧ W.grownBy w1 v.ownBlock)
    d base rfl (.const v) (.const (.slice A m c)) t e z bytes rfl ht hinfo hz hs0 hb0 v xs ys A m c okE rfl rfl HO HR hE HB hbase hl (fun v1 w1 h1 h2 h3 h4 => ⟨v1, rfl, h1, h2, h3⟩)
  unfold Oper.wpIn at h
  replace h := h.2
  rw [Oper.semAt_plain Fence.wide _ _ (by intro c hc'; cases hc')] at h
  simp [execOp, resolve, invoke, builtin, Act.eval] at h
  cases hres : (Builtin.append_ #[t, t] ty #[v, .slice A m c]).run P W with
  | ok u w1 =>
    rw [hres] at h
    obtain ⟨v1, he, h1, h2, h3⟩ := h
    have hu : u = v1 := by
      have := congrArg (fun a => a[0]?) he
      simpa [Act.put] using this
    subst hu
    exact ⟨_, _, rfl, h1, h2, h3⟩
  | halt hh w1 => rw [hres] at h; cases hh <;> exact h.elim

/-- what some fields leave -/
def dropP (l0 : List Itm) (l1 : List Int) (pre : List (Nat × Nat)) : List Itm := pre.flatMap fun p => if (itemAt l0 p.1).f1 ∈ l1 then (l0.take p.2).drop p.1 else []
theorem dropP_all (l0 : List Itm) (l1 : List Int) : dropP l0 l1 (fieldsR l0) = dropR l0 l1 := rfl
theorem dropP_snoc (l0 : List Itm) (l1 : List Int) (pre : List (Nat × Nat)) (x : Nat × Nat) : dropP l0 l1 (pre ++ [x]) = dropP l0 l1 pre ++ (if (itemAt l0 x.1).f1 ∈ l1 then (l0.take x.2).drop x.1 else []) := by
  simp [dropP, List.flatMap_append]
theorem spans_sum (r : List Itm) : ∀ (i from_ : Nat) (deep : Int), from_ ≤ i → from_ + ((spans r i from_ deep).map fun p => p.2 - p.1).sum ≤ i + r.length := by
  induction r with
  | nil => intro i f d h; simp [spans]; omega
  | cons x r ih =>
    intro i f d h
    simp only [spans]
    split
    · have := ih (i + 1) f (d + deeper x) (by omega); simp at this ⊢; omega
    · have := ih (i + 1) (i + 1) (d + deeper x) (by omega); simp at this ⊢; omega
theorem fields_sum (l : List Itm) : ((fieldsR l).map fun p => p.2 - p.1).sum ≤ l.length := by
  unfold fieldsR
  split
  · have := spans_sum l 0 0 0 (by omega); omega
  · simp
theorem dropP_len (l0 : List Itm) (l1 : List Int) (pre : List (Nat × Nat)) : (dropP l0 l1 pre).length ≤ (pre.map fun p => p.2 - p.1).sum := by
  induction pre with
  | nil => simp [dropP]
  | cons p pre ih =>
    have : dropP l0 l1 (p :: pre) = (if (itemAt l0 p.1).f1 ∈ l1 then (l0.take p.2).drop p.1 else []) ++ dropP l0 l1 pre := by simp [dropP]
    rw [this, List.length_append, List.map_cons, List.sum_cons]
    split
    · rw [List.length_drop, List.length_take]; omega
    · simp; omega

/-- what the loop keeps -/
def DropI (w : World) (P0_ : Nat → Prop) (A0 : Option Addr) (c0 : Nat) (l0 : List Itm) (A1 : Option Addr) (c1 : Nat) (l1 : List Int) (pre : List (Nat × Nat)) (W : World) : Prop :=
  ∃ v, NT k30 30 W w.heap.size (fun k => P0_ k ∧ k < w.heap.size) v (dropP l0 l1 pre) ∧ Boxed W (w.heap.size + 1 + 1 + 1) 22 v ∧
  Boxed W w.heap.size 22 (.slice A0 l0.length c0) ∧ Boxed W (w.heap.size + 1) 32 (.slice A1 l1.length c1) ∧
  Boxed W (w.heap.size + 1 + 1) 52 (.func (.func 32) #[] #[.pointer (some ⟨w.heap.size + 1, 0, none⟩)]) ∧ Below w.heap.size w W
theorem dropI_own (w : World) (P0_ : Nat → Prop) (A0 : Option Addr) (c0 : Nat) (l0 : List Itm) (A1 : Option Addr) (c1 : Nat) (l1 : List Int) (B : Nat) (hB : w.heap.size ≤ B) : OwnFrom B (DropI w P0_ A0 c0 l0 A1 c1 l1) := by
  rintro s W W' row ⟨v, h1, h2, h3, h4, h5, h6⟩ hg hr
  exact ⟨v, NT_turn h1 (fun k hk => Nat.lt_of_lt_of_le hk.2 hB) hg hr, boxed_turn h2 hg hr, boxed_turn h3 hg hr, boxed_turn h4 hg hr, boxed_turn h5 hg hr, h6.grown hg h6.size (fun k e => Nat.le_trans hB (hr k e).1)⟩

def value_Drop.f (l0 : List Itm) (l1 : List Int) : Option (List Itm) := if l0.length < 2932031007402 then (if l1.length < 4611686018427387904 then some (dropR l0 l1) else none) else none

set_option maxRecDepth 100000 in
set_option maxHeartbeats 4000000 in
theorem value_Drop.calls (P0_ : Nat → Prop) (A0 : Option Addr) (c0 : Nat) (l0 : List Itm) (A1 : Option Addr) (c1 : Nat) (l1 : List Int) (r : List Itm) (w : World) (hs0 : Kd.V k30 30 w w.heap.size (fun k_ => P0_ k_) (.slice A0 l0.length c0) l0) (hr1 : Kd.C (Kd.int .i64) w A1 l1.length l1) (hc1 : l1.length ≤ c1) (h : value_Drop.f l0 l1 = some r) :
    Calls Try.prog 19 #[.slice A0 l0.length c0, .slice A1 l1.length c1] w fun e w' => ∃ v0_ : Value, e = .returned (v0_) ∧ Kd.N k30 30 w' w.heap.size (fun k_ => (P0_ k_ ∨ w.heap.size ≤ k_)) v0_ r ∧ Below w.heap.size w w' := by
  unfold value_Drop.f at h
  by_cases hlt : l0.length < 2932031007402
  · rw [if_pos hlt] at h
    by_cases hlt1 : l1.length < 4611686018427387904
    · rw [if_pos hlt1] at h
      have HU := Lib.hid (Option.some.inj h)
      clear h
      have hmx : (Try.prog).follows .mixedOrders = true := by kernel_rfl
      obtain ⟨_, hc0, hr0⟩ := Kd.V_reads' hs0
      refine (callsIn_wide (n := 9)).1 ?_
      refine callsIn_of_wp_marks Try.func19 rfl trivial ?_ rfl
      simp only [Try.ntmps19, List.size_toArray, List.length_cons, List.length_nil, Nat.reduceAdd, Nat.reduceSub, Array.replicate_succ, Array.replicate_zero, List.push_toArray, List.append_toArray, List.nil_append, List.cons_append]
      gi_wp2_with fail
      refine ⟨trivial, (value_fields_in _ A0 c0 _ _).mono ?_⟩
      rintro e w1 ⟨rfl, rfl⟩
      gi_wp2_with fail
      have b0 := Boxed.new w 22 (.slice A0 l0.length c0)
      have b1 := Boxed.new (w.alloc (.cells #[.slice A0 l0.length c0] 22)) 32 (.slice A1 l1.length c1)
      have b2 := Boxed.new ((w.alloc (.cells #[.slice A0 l0.length c0] 22)).alloc (.cells #[.slice A1 l1.length c1] 32)) 52 (.func (.func 32) #[] #[.pointer (some ⟨w.heap.size + 1, 0, none⟩)])
      have b3 := Boxed.new (((w.alloc (.cells #[.slice A0 l0.length c0] 22)).alloc (.cells #[.slice A1 l1.length c1] 32)).alloc (.cells #[.func (.func 32) #[] #[.pointer (some ⟨w.heap.size + 1, 0, none⟩)]] 52)) 22 (.slice none 0 0)
      have b4 := Boxed.new ((((w.alloc (.cells #[.slice A0 l0.length c0] 22)).alloc (.cells #[.slice A1 l1.length c1] 32)).alloc (.cells #[.func (.func 32) #[] #[.pointer (some ⟨w.heap.size + 1, 0, none⟩)]] 52)).alloc (.cells #[.slice none 0 0] 22)) 22 (.slice A0 l0.length c0)
      have hB0 : Below w.heap.size w (((((w.alloc (.cells #[.slice A0 l0.length c0] 22)).alloc (.cells #[.slice A1 l1.length c1] 32)).alloc (.cells #[.func (.func 32) #[] #[.pointer (some ⟨w.heap.size + 1, 0, none⟩)]] 52)).alloc (.cells #[.slice none 0 0] 22)).alloc (.cells #[.slice A0 l0.length c0] 22)) :=
        (((((Below.refl _ w).alloc (Nat.le_refl _) _).alloc (by simp) _).alloc (by simp; omega) _).alloc (by simp; omega) _).alloc (by simp; omega) _
      simp only [World.size_alloc] at b1 b2 b3 b4
      refine range_x (α := Nat × Nat) (encs := fun x => #[.int .i64 x.1, .int .i64 x.2]) (X := fun _ => False) (Kp := Below w.heap.size) (S := fun ys => ys = fieldsR l0) (Sp := fun pre => pre <+: fieldsR l0) (Ok := fun pre x => ∃ rest, fieldsR l0 = pre ++ x :: rest)
        rfl (by decide) (gf := 36) (lb := #[.pointer (some ⟨w.heap.size + 1 + 1 + 1 + 1, 0, none⟩)]) rfl trivial (enters_of Try.func36 (by kernel_rfl) rfl) (w0 := _)
        (fun l J Jx W hW hJ hJs hJx hJxs hY h0 => value_fields1_in l (w.heap.size + 1 + 1 + 1 + 1) w A0 c0 l0 hr0 hc0 hlt J Jx (fun s X Y hs hg => hJ s X Y none hs hg (fun r e => by cases e)) hY W (hB0.trans (hW.mono (by simp; omega))) ((hW.block _ (by simp)).trans b4) h0)
        (fun k hk => hk.elim) (fun h k => h.trans k) ?kb (Below.refl _ _) (fun _ => rfl) (DropI w P0_ A0 c0 l0 A1 c1 l1) (fun _ _ _ => False) (dropI_own w _ _ _ _ _ _ _ _ (by simp; omega)) (fun _ _ _ _ h => h.elim) (fun _ _ _ _ _ h => h.elim) (fun _ _ _ _ _ h => h.elim)
        ⟨_, NT_nil _ _ _ _ _, b3.alloc _, (((b0.alloc _).alloc _).alloc _).alloc _, ((b1.alloc _).alloc _).alloc _, (b2.alloc _).alloc _, hB0⟩
        (fun x => { tmps := #[.slice A0 l0.length c0, .slice A1 l1.length c1, .pointer (some ⟨w.heap.size, 0, none⟩), .pointer (some ⟨w.heap.size + 1, 0, none⟩), .slice none 0 0, .pointer (some ⟨w.heap.size + 1 + 1, 0, none⟩), .pointer (some ⟨w.heap.size + 1 + 1 + 1, 0, none⟩), .int .i64 x.1, .int .i64 x.2, .func (.func 32) #[] #[.pointer (some ⟨w.heap.size + 1, 0, none⟩)], .slice A0 l0.length c0, .func (.func 36) #[] #[.pointer (some ⟨w.heap.size + 1 + 1 + 1 + 1, 0, none⟩)], .int .i64 x.1, .int .i64 x.2, undef, undef, undef, undef, undef, undef, undef, undef, undef, undef, undef, undef, undef, undef], defers := [] }) ?assign ?body ?done ?stop
      case kb =>
        intro W l o o' hl ho hc _
        exact below_putB W o' (by simp at hl; omega)
      case assign =>
        intro l x W K hK
        gi_wp2
        exact hK
      case body =>
        rintro l pre x W ⟨v, h1, h2, h3, h4, h5, h6⟩ ⟨rest, hrest⟩
        have hfi := fields_in x (by rw [hrest]; simp)
        have hCr := Kd.C_below hr0 h6
        have hC1 := Kd.C_drew (Kd.C_below hr1 h6)
        obtain ⟨ad, A3, c3, ead, hx0, hx1, hx2, hx3, hl3, hC3⟩ := at_T30 hCr (x.1 : Int) (by omega) (by omega)
        rw [show rd_T30 l0 (x.1 : Int) = itemAt l0 x.1 from rfl] at hx0 hx1 hx2 hx3 hl3 hC3
        rw [Int.toNat_natCast] at hx0 hx1 hx2 hx3
        cases ead
        have hq0 : (0 : Int) ≤ (x.1 : Int) := by omega
        have hq1 : (x.1 : Int) < (l0.length : Int) := by omega
        have hc2 := h2.cell
        have hf2 := h2.frozen
        have hc3 := h3.cell
        have hc4 := h4.cell
        have hc5 := h5.cell
        have hz6 := h6.size
        have HREST := Lib.hid hrest
        have HB0 := Lib.hid hB0
        have HR1 := Lib.hid hr1
        have HS0 := Lib.hid hs0
        clear hr0 hr1 hs0 hB0 b0 b1 b2 b3 b4 hCr hx0 hx2 hx3 hl3 hC3 hrest
        have h4d : Boxed W.drew (w.heap.size + 1) 32 (.slice A1 l1.length c1) := h4
        have hcall := Lib.hid (CallsIn.inRound l (value_Drop1_in 4 A1 c1 l1 (itemAt l0 x.1).f1 (w.heap.size + 1) W.drew h4d hC1 hc1 hlt1))
        clear hC1 h4d
        by_cases he : (itemAt l0 x.1).f1 ∈ l1
        · have t1 : decide ((itemAt l0 x.1).f1 ∈ l1) = true := decide_eq_true he
          gi_wp2
          refine wpIn_mono (Q := fun e a' w' => e = .normal ∧ a' = { tmps := #[.slice (some ad) l0.length c0, .slice A1 l1.length c1, .pointer (some ⟨w.heap.size, 0, none⟩), .pointer (some ⟨w.heap.size + 1, 0, none⟩), .slice none 0 0, .pointer (some ⟨w.heap.size + 1 + 1, 0, none⟩), .pointer (some ⟨w.heap.size + 1 + 1 + 1, 0, none⟩), .int .i64 x.1, .int .i64 x.2, .func (.func 32) #[] #[.pointer (some ⟨w.heap.size + 1, 0, none⟩)], .slice (some ad) l0.length c0, .func (.func 36) #[] #[.pointer (some ⟨w.heap.size + 1 + 1 + 1 + 1, 0, none⟩)], .int .i64 x.1, .int .i64 x.2, .func (.func 32) #[] #[.pointer (some ⟨w.heap.size + 1, 0, none⟩)], .slice (some ad) l0.length c0, .int .i64 x.1, .pointer (some (ad.add (x.1 * 4))), .pointer (some ⟨(ad.add (x.1 * 4)).block, (ad.add (x.1 * 4)).off + 1, none⟩), .int .i64 (itemAt l0 x.1).f1, .bool true, undef, undef, undef, undef, undef, undef, undef], defers := [] } ∧ w' = W.drew) ?_ ?_
          · gi_region_with_o (refine ⟨trivial, hcall.out.mono ?_⟩; rintro e w' ⟨rfl, rfl⟩)
            all_goals exact ⟨rfl, rfl, rfl⟩
          rintro e a' w' ⟨rfl, rfl, rfl⟩
          have hBd : Below w.heap.size W W.drew.drew := ⟨rfl, rfl, rfl, Nat.le_refl _, fun _ _ => rfl⟩
          have h1d : NT k30 30 W.drew.drew w.heap.size (fun k => P0_ k ∧ k < w.heap.size) v (dropP l0 l1 pre) := NT_step h1 (fun _ _ _ => rfl) (fun _ _ _ => rfl)
          obtain ⟨i020, hi020, hz020, hsz20, hby20⟩ := info_parts info30
          have hF0 : Kd.F k30 W.drew.drew (fun k => P0_ k ∧ k < w.heap.size) (some ad) l0.length l0 := Kd.F_step (Kd.F_bound (Kd.V_at HS0.out).2.2) (fun k hk _ => (h6.trans hBd).block k hk.2)
          have hF1 : Kd.F k30 W.drew.drew (fun k => P0_ k ∧ k < w.heap.size) (if c0 = x.1 then some ad else Option.map (fun a => a.add (x.1 * 4)) (some ad)) ((l0.take x.2).drop x.1).length ((l0.take x.2).drop x.1) := Kd.F_mid (lo := x.1) (hi := x.2) (c := c0) hF0 (by omega) hfi.2 hc0
          have hcut := cut_mid (P := Try.prog) 22 30 .i64 .i64 Try.underlying22 hi020 4 hsz20 (some ad) l0.length c0 (x.1 : Int) (x.2 : Int) hq0 (by omega) (by omega) hc0
          simp only [Int.toNat_natCast] at hcut
          have hly : ((l0.take x.2).drop x.1).length = x.2 - x.1 := by rw [List.length_drop, List.length_take]; omega
          rw [hly] at hF1
          revert hF1 hcut
          generalize (if c0 = x.1 then some ad else Option.map (fun a => a.add (x.1 * 4)) (some ad)) = A20
          intro hF1 hcut
          have hsum : (dropP l0 l1 pre).length + (x.2 - x.1) ≤ l0.length := by
            have := fields_sum l0
            rw [HREST.out, List.map_append, List.map_cons, List.sum_append, List.sum_cons] at this
            have := dropP_len l0 l1 pre
            omega
          obtain ⟨v1, w1, hrun, hN1, hB1, hg1⟩ := NT_append_run (P := Try.prog) k30 (w0 := W) w.heap.size 22 30 22 (.agg #[.int .i64 0, .int .i64 0, .int .i64 0, .slice none 0 0]) 48 Try.underlying22 info30 rfl (by decide) (by omega) v (dropP l0 l1 pre) ((l0.take x.2).drop x.1) A20 (x.2 - x.1) (c0 - x.1) _ h1d hF1 (fun k hk => hk.2) hBd (show w.heap.size ≤ W.heap.size from hz6) (by omega)
          obtain ⟨Av, nv, cv, rfl⟩ := NT_slice hN1
          have k2 : Boxed w1 (w.heap.size + 1 + 1 + 1) 22 v := Boxed.kept (W := W.drew.drew) h2 hg1 (NT_ne h1 h2 (by decide))
          have k3 : Boxed w1 w.heap.size 22 (.slice (some ad) l0.length c0) := Boxed.kept (W := W.drew.drew) h3 hg1 (NT_ne h1 h3 (by decide))
          have k4 : Boxed w1 (w.heap.size + 1) 32 (.slice A1 l1.length c1) := Boxed.kept (W := W.drew.drew) h4 hg1 (NT_ne h1 h4 (by decide))
          have k5 := Boxed.kept (W := W.drew.drew) h5 hg1 (NT_ne h1 h5 (by decide))
          have kc2 := k2.cell
          have kf2 := k2.frozen
          have hko : KeepsOthers W.drew.drew w1 := KeepsOthers.of_grownBy hg1 (fun j o hj ho => by
            obtain ⟨cells, hcs⟩ := NT_typed h1d j hj
            rw [hcs] at ho; cases ho; rfl)
          have HFIN := Lib.hid (And.intro hN1 (And.intro hB1 (And.intro k2 (And.intro k3 (And.intro k4 (And.intro k5 (And.intro hko h6)))))))
          clear hN1 hB1 k2 k3 k4 k5 hko h6 h1 h1d h2 h3 h4 h5 hF0 hF1 hcall HS0 HR1 HB0 hg1 hBd hi020 hz020 hsz20 hby20 hx1 hsum
          gi_wp2
          refine wpIn_mono (Q := fun e a' w' => e = .normal ∧ w' = w1.setCell ⟨w.heap.size + 1 + 1 + 1, 0, none⟩ (.slice Av nv cv) ∧ a'.defers = []) ?_ ?_
          · clear he t1 hz6 hlt hlt1 hc0 hc1 hly hq1 hc4 hc5 rest HREST HU
            gi_region_with_o (fail)
            all_goals exact ⟨rfl, rfl, rfl⟩
          rintro e a' w' ⟨rfl, rfl, _⟩
          obtain ⟨hN1, hB1, k2, k3, k4, k5, hko, h6⟩ := HFIN.out
          have hB2 := hB1.setCell (p := ⟨w.heap.size + 1 + 1 + 1, 0, none⟩) (by show w.heap.size ≤ w.heap.size + 1 + 1 + 1; omega) (.slice Av nv cv)
          gi_wp2
          refine ⟨((((KeepsOthers.drew W).trans (KeepsOthers.drew _)).trans hko).trans (KeepsOthers.setCell _ _ _)).from _, hB2, .slice Av nv cv, ?_, k2.set _, k3.other (by omega) _, k4.other (by omega) _, k5.other (by omega) _, h6.trans hB2⟩
          rw [dropP_snoc, if_pos he]
          exact NT_set hN1 k2 (by decide) (fun k hk => by have := hk.2; omega)
        · have t1 : decide ((itemAt l0 x.1).f1 ∈ l1) = false := decide_eq_false he
          gi_wp2
          refine wpIn_mono (Q := fun e a' w' => e = .normal ∧ a' = { tmps := #[.slice (some ad) l0.length c0, .slice A1 l1.length c1, .pointer (some ⟨w.heap.size, 0, none⟩), .pointer (some ⟨w.heap.size + 1, 0, none⟩), .slice none 0 0, .pointer (some ⟨w.heap.size + 1 + 1, 0, none⟩), .pointer (some ⟨w.heap.size + 1 + 1 + 1, 0, none⟩), .int .i64 x.1, .int .i64 x.2, .func (.func 32) #[] #[.pointer (some ⟨w.heap.size + 1, 0, none⟩)], .slice (some ad) l0.length c0, .func (.func 36) #[] #[.pointer (some ⟨w.heap.size + 1 + 1 + 1 + 1, 0, none⟩)], .int .i64 x.1, .int .i64 x.2, .func (.func 32) #[] #[.pointer (some ⟨w.heap.size + 1, 0, none⟩)], .slice (some ad) l0.length c0, .int .i64 x.1, .pointer (some (ad.add (x.1 * 4))), .pointer (some ⟨(ad.add (x.1 * 4)).block, (ad.add (x.1 * 4)).off + 1, none⟩), .int .i64 (itemAt l0 x.1).f1, .bool false, undef, undef, undef, undef, undef, undef, undef], defers := [] } ∧ w' = W.drew) ?_ ?_
          · gi_region_with_o (refine ⟨trivial, hcall.out.mono ?_⟩; rintro e w' ⟨rfl, rfl⟩)
            all_goals exact ⟨rfl, rfl, rfl⟩
          rintro e a' w' ⟨rfl, rfl, rfl⟩
          clear hcall
          gi_wp2
          refine ⟨(KeepsOthers.drew _).from _, ⟨rfl, rfl, rfl, Nat.le_refl _, fun _ _ => rfl⟩, v, ?_, h2, h3, h4, h5, h6.trans ⟨rfl, rfl, rfl, Nat.le_refl _, fun _ _ => rfl⟩⟩
          rw [dropP_snoc, if_neg he, List.append_nil]
          exact NT_step h1 (fun _ _ _ => rfl) (fun _ _ _ => rfl)
      case done =>
        rintro D ys W hD hys ⟨v, h1, h2, h3, h4, h5, h6⟩ hK
        subst hys
        rw [dropP_all, HU.out] at h1
        have hc2 := h2.cell
        clear HU hr0 hr1 hs0 hB0 b0 b1 b2 b3 b4
        gi_wp2
        have hD' : w.heap.size + 1 + 1 + 1 + 1 < D := by simp at hD; omega
        refine ⟨by simp, .inl ⟨_, _, rfl, run_takeDeferred hK, ?_⟩⟩
        refine ⟨_, results_tmp rfl _ _ _, v, rfl, NT_N (NT_turn (B := D) h1 (fun k hk => by have := hk.2; omega) (grownBy_putObj' W D _) (fun r hr => by cases hr; exact ⟨Nat.le_refl _, _, hK, rfl⟩)) (fun k hk => hk.2) (fun k hk => .inl hk.1) (fun k hk => .inr hk), h6.trans (belowK_b (w := w) (Nat.le_refl _) W D _ _ (by omega) hK rfl rfl)⟩
      case stop =>
        rintro D c pre W hD hpre h hK
        exact h.elim
    · rw [if_neg hlt1] at h; cases h
  · rw [if_neg hlt] at h; cases h

end Go.Proofs.Ytmiijakcmbolfaa.P
