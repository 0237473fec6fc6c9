/- The reader of chapter 2 (value.reader): what its functions do with the bytes that are left. -/
import Derived.Test.YtmiijakcmbolfaaPx12
import Derived.Test.YtmiijakcmbolfaaLinkVarint
import Derived.Lib.Hide

import Derived.Lib.SliceRun
set_option linter.unusedVariables false
set_option linter.unusedSimpArgs false
namespace Go.Proofs.Ytmiijakcmbolfaa.P
open Go Go.RowKit Go.Proofs.Ytmiijakcmbolfaa.M Go.Proofs.Ytmiijakcmbolfaa.Link Go.Proofs.YtmiijakcmbolfaaW.PrintWords Go.Proofs.YtmiijakcmbolfaaW.PrintLast

/-- a reader at block g: so many bytes are left, which came in with the world w0 -/
def IsR (w0 W : World) (g : Nat) (l : List Int) (bad : Bool) : Prop :=
  ∃ A c, W.heap[g]? = some (.cells #[.slice A l.length c, .bool bad] 55 (0, 0)) ∧ w0.heap.size ≤ g ∧ l.length ≤ c ∧ Kd.C (Kd.int .u8) w0 A l.length l

theorem IsR.keep {w0 W W1 : World} {g : Nat} {l : List Int} {bad : Bool} (h : IsR w0 W g l bad) {row : Option Nat} (hw : W.grownBy W1 row) (hne : some g ≠ row) : IsR w0 W1 g l bad := by
  obtain ⟨A, c, hb, hr⟩ := h
  exact ⟨A, c, blk_grown hb hw hne, hr⟩
theorem IsR.below {w0 W W1 : World} {g : Nat} {l : List Int} {bad : Bool} (h : IsR w0 W g l bad) (hw : Below W.heap.size W W1) : IsR w0 W1 g l bad := h.keep (grown_of_below hw none) (by simp)

theorem takeR_bd (b : List Int) : 0 ≤ (takeR b).2.1 ∧ (takeR b).2.1 ≤ b.length ∧ 0 ≤ (takeR b).1 ∧ (takeR b).1 < 18446744073709551616 ∧ ((takeR b).2.2 = 0 ∨ takeR b = (0, 0, 2)) := by
  rcases takeR_cases b with ⟨n, r, hn, rfl, h⟩ | ⟨_, h⟩
  · rw [h]; simp; omega
  · rw [h]; simp

set_option maxRecDepth 100000 in
set_option maxHeartbeats 4000000 in
theorem reader_number.calls (w0 w : World) (g : Nat) (l : List Int) (bad : Bool) (hS : IsR w0 w g l bad) (hB : Below w0.heap.size w0 w) (hby : ∀ x ∈ l, 0 ≤ x ∧ x < 256) (hl : l.length < 9223372036854775807) :
    Calls Try.prog 38 #[.pointer (some ⟨g, 0, none⟩)] w fun e w' => e = .returned (.int .u64 (takeR l).1) ∧ IsR w0 w' g (l.drop (takeR l).2.1.toNat) (bad || decide ((takeR l).2.2 ≠ 0)) ∧ Below w0.heap.size w0 w' ∧ KeepBut w w' g none := by
  obtain ⟨A, c, hb, hg, hc, hC⟩ := hS
  have hbd := takeR_bd l
  have hT := take_f hby hl (Nat.le_refl 22)
  generalize takeR l = t at hbd hT
  obtain ⟨u, n, e⟩ := t
  obtain ⟨hn0, hn1, _, _, he⟩ := hbd
  simp only at hn0 hn1 he
  have HT := Aside0.mk hT
  have HC := Aside0.mk (Kd.C_below hC hB)
  have HCC := Aside0.mk hc
  obtain ⟨i0, hi0, hz0, hsz0, hby0⟩ := info_parts info5
  have hcut := cut_from (P := Try.prog) 25 5 .i64 Try.underlying25 hi0 1 hsz0 A l.length c n hn0 hn1
  have hD := Kd.C_drop (c := c) hC (m := n.toNat) (by omega) hc
  rw [← List.length_drop] at hcut
  obtain ⟨A', hA'⟩ : ∃ A', A' = (if c = n.toNat then A else A.map (·.add (n.toNat * 1))) := ⟨_, rfl⟩
  rw [← hA'] at hcut
  replace hD : Kd.C (Kd.int .u8) w0 A' (l.drop n.toNat).length (l.drop n.toNat) := by rw [hA']; exact hD
  have hlen : (l.drop n.toNat).length ≤ c - n.toNat := by rw [List.length_drop]; omega
  have HD := Aside0.mk hD
  have HLEN := Aside0.mk hlen
  have HB0 := Aside0.mk hb
  have HBB := Aside0.mk hB
  have HG := Aside0.mk hg
  have c0 : w.cell? ⟨g, 0, none⟩ = some (.slice A l.length c) := (blk_cell hb 0).trans rfl
  have c1 : w.cell? ⟨g, 1, none⟩ = some (.bool bad) := (blk_cell hb 1).trans rfl
  have f0 : w.frozen? ⟨g, 0, none⟩ = false := blk_frozen hb 0
  have f1 : w.frozen? ⟨g, 1, none⟩ = false := blk_frozen hb 1
  clear hT hb hC hB hg hby hA' hD hlen hi0 hz0 hsz0 hby0 hc hl
  have he2 : Aside0 (e = 0 ∨ e = 2) := ⟨by rcases he with h | h; exact .inl h; exact .inr (by injection h with _ h; injection h)⟩
  clear he
  go_enter Try.func38, Try.ntmps38
  go_wp2_with fail
  refine (varint_Take.calls 22 _ _ l u n e _ HC.out HCC.out HT.out).mono ?_
  rintro e' w1 ⟨rfl, ⟨nd, rfl⟩⟩
  have hfin : ∀ (W : World) (n1 : Nat) (b' : Bool), W = ((w.drewN n1).setCell ⟨g, 1, none⟩ (.bool b')).setCell ⟨g, 0, none⟩ (.slice A' (l.length - n.toNat) (c - n.toNat)) →
      IsR w0 W g (l.drop n.toNat) b' ∧ Below w0.heap.size w0 W ∧ KeepBut w W g none := by
    rintro W n1 b' rfl
    refine ⟨⟨A', c - n.toNat, ?_, HG.out, HLEN.out, HD.out⟩, ?_, ?_⟩
    · rw [List.length_drop]
      exact blk_set (blk_set (blk_drewN HB0.out n1) 1 _) 0 _
    · exact ((pw_below_drewN HBB.out _).setCell HG.out _).setCell HG.out _
    · exact KeepBut.set_ (KeepBut.set_ (keep_drewN (KeepBut.refl w g none) _) 1 _) 0 _
  have HFIN := Aside0.mk hfin
  clear hfin
  cases bad with
  | true =>
    go_wp2
    go_ret
    exact ⟨rfl, HFIN.out _ _ _ rfl⟩
  | false =>
    rcases he2.out with h | h
    · subst h
      go_wp2
      go_ret
      exact ⟨rfl, HFIN.out _ _ _ rfl⟩
    · subst h
      go_wp2
      go_ret
      exact ⟨rfl, HFIN.out _ _ _ rfl⟩

/-! ### bytes.Clone: a copy of its own; of nothing nothing -/
def ClonePost (w : World) (l0 : List Int) (e : Ending) (w' : World) : Prop := ∃ v : Value, e = .returned v ∧ Kd.R (Kd.int .u8) 5 w' w.heap.size (fun _ => True) v l0 ∧ Below w.heap.size w w'
set_option maxRecDepth 100000 in
set_option maxHeartbeats 4000000 in
theorem bytes_Clone.calls (A0 : Option Addr) (c0 : Nat) (l0 : List Int) (w : World) (hr0 : Kd.C (Kd.int .u8) w A0 l0.length l0) (hc0 : l0.length ≤ c0) (hl : l0.length ≤ 140737488355328) :
    Calls Try.prog 44 #[.slice A0 l0.length c0] w (ClonePost w l0) := by
  have HR0 := Aside0.mk hr0
  have HC0 := Aside0.mk hc0
  have HL := Aside0.mk hl
  have heq := fun (W : World) => Lib.run_eql_slice_nil (P := Try.prog) W 25 5 A0 l0.length c0 0 0 Try.underlying25
  clear hr0 hc0 hl
  cases A0 with
  | none =>
    have h0 : l0 = [] := by
      cases l0 with
      | nil => rfl
      | cons x r => obtain ⟨ad, e, _⟩ := HR0.out.2.2 (by simp); cases e
    subst h0
    have heq2 : ∀ W : World, (binOp .eql 25 (.slice none 0 c0) (.slice none 0 0)).run Try.prog W = .ok (.bool true) W := heq
    clear heq
    go_enter Try.func44, Try.ntmps44
    go_wp2
    go_ret
    exact ⟨_, rfl, Kd.R_nil _ _ _ _ _, Below.refl _ _⟩
  | some ad =>
    go_enter Try.func44, Try.ntmps44
    go_wp2_with (first | ((with_reducible refine gate_dst (N := 5) rfl ?_); refine Kd.R_lit (Kd.int .u8) _ 5 ?hg (N := 5) ?hd (xs := ([] : List Int)) (inner := []) (ok := fun _ => True) (okp := fun _ => True) ?hr ?hp (fun _ hk => hk) trivial (Below.refl _ _) (Nat.le_refl _) (by simp) ?_; (case hd => rfl); (case hg => rfl); (case hr => first | (go_simp; done) | (go_simp; rfl)); (case hp => exact (Reps.none _ _)); intro v1 w1 ho1 hb1 hg1 hn1; have HO1 := Aside0.mk ho1; have HB1 := Aside0.mk hb1; clear ho1 hb1 hg1 hn1) | ((with_reducible refine gate_builtin (b := .append) (xs := #[.tmp 5, .tmp 6]) rfl ?_); at_builtin; refine Kd.R_append_rows (Kd.int .u8) (w0 := w) w.heap.size rfl (.tmp 5) (.tmp 6) 25 5 (.int .u8 0) 1 rfl Try.underlying25 info5 rfl (by decide) (by omega) v1 [] l0 (some ad) l0.length c0 (fun _ => True) (fun _ => False) rfl rfl ?aO ?aR (fun _ _ h => h) (fun _ h => h.elim) ?aF ?aB ?aS ?aL ?_; (case aR => exact Kd.C_below HR0.out HB1.out); (case aB => exact HB1.out); (case aF => exact fun _ _ => trivial); (case aO => exact HO1.out); (case aS => exact HB1.out.size); (case aL => have := HL.out; simp; omega); intro v2 w2 ho2 hb2 hg2 hat2; have HO2 := Aside0.mk ho2; have HB2 := Aside0.mk hb2; clear ho2 hb2 hg2 hat2))
    obtain ⟨Av, cv, rfl⟩ := Kd.R_slice HO2.out
    go_ret
    exact ⟨_, rfl, HO2.out, HB2.out⟩

/-! ### the next so many bytes -/
def BytesIf (l : List Int) (bad : Bool) (u : Int) (y l' : List Int) (b : Bool) : Prop := if u ≤ (l.length : Int) then y = l.take u.toNat ∧ l' = l.drop u.toNat ∧ b = bad else b = true ∧ l' = l
def BytesPost (w0 w : World) (g : Nat) (l : List Int) (bad : Bool) (u : Int) (e : Ending) (w' : World) : Prop :=
  ∃ (v : Value) (y l' : List Int) (bad' : Bool), e = .returned v ∧ Kd.R (Kd.int .u8) 5 w' w.heap.size (fun _ => True) v y ∧ IsR w0 w' g l' bad' ∧ Below w0.heap.size w0 w' ∧ KeepBut w w' g none ∧ BytesIf l bad u y l' bad'
set_option maxRecDepth 100000 in
set_option maxHeartbeats 4000000 in
theorem reader_bytes.calls (w0 w : World) (g : Nat) (l : List Int) (bad : Bool) (u : Int) (hS : IsR w0 w g l bad) (hB : Below w0.heap.size w0 w) (hl : l.length ≤ 140737488355328) (hu : 0 ≤ u ∧ u < 18446744073709551616) :
    Calls Try.prog 40 #[.pointer (some ⟨g, 0, none⟩), .int .u64 u] w (BytesPost w0 w g l bad u) := by
  obtain ⟨A, c, hb, hg, hc, hC⟩ := hS
  have c0 : w.cell? ⟨g, 0, none⟩ = some (.slice A l.length c) := (blk_cell hb 0).trans rfl
  have c1 : w.cell? ⟨g, 1, none⟩ = some (.bool bad) := (blk_cell hb 1).trans rfl
  have f0 : w.frozen? ⟨g, 0, none⟩ = false := blk_frozen hb 0
  have f1 : w.frozen? ⟨g, 1, none⟩ = false := blk_frozen hb 1
  have HB0 := Aside0.mk hb
  have HBB := Aside0.mk hB
  have HG := Aside0.mk hg
  by_cases hle : u ≤ (l.length : Int)
  · have HIF : Aside0 (∀ (y l' : List Int) (b : Bool), y = l.take u.toNat → l' = l.drop u.toNat → b = bad → BytesIf l bad u y l' b) := ⟨fun y l' b h1 h2 h3 => by unfold BytesIf; rw [if_pos hle]; exact ⟨h1, h2, h3⟩⟩
    obtain ⟨i0, hi0, hz0, hsz0, hby0⟩ := info_parts info5
    have hcut := cut_to (P := Try.prog) 25 5 .u64 Try.underlying25 hi0 A l.length c u hu.1 hle hc
    have hcut2 := cut_from (P := Try.prog) 25 5 .u64 Try.underlying25 hi0 1 hsz0 A l.length c u hu.1 hle
    have hT := Kd.C_take hC (m := u.toNat) (by omega)
    have hD := Kd.C_drop (c := c) hC (m := u.toNat) (by omega) hc
    have htl : (l.take u.toNat).length = u.toNat := by rw [List.length_take]; omega
    have hdl : (l.drop u.toNat).length = l.length - u.toNat := List.length_drop
    rw [← htl] at hcut
    rw [← hdl] at hcut2
    obtain ⟨A', hA'⟩ : ∃ A', A' = (if c = u.toNat then A else A.map (·.add (u.toNat * 1))) := ⟨_, rfl⟩
    rw [← hA'] at hcut2
    replace hD : Kd.C (Kd.int .u8) w0 A' (l.drop u.toNat).length (l.drop u.toNat) := by rw [hA']; exact hD
    have hlen : (l.drop u.toNat).length ≤ c - u.toNat := by omega
    have htlen : (l.take u.toNat).length ≤ c := by omega
    have htl2 : (l.take u.toNat).length ≤ 140737488355328 := by omega
    have HTL := Aside0.mk htl2
    have HTC := Aside0.mk htlen
    have HD := Aside0.mk hD
    have HT := Aside0.mk (Kd.C_below hT hB)
    have HLEN := Aside0.mk hlen
    have t0 : decide (u > (l.length : Int)) = false := decide_eq_false (by omega)
    have t1 : decide ((l.length : Int) < u) = false := decide_eq_false (by omega)
    clear hb hB hg hC hT hD hA' hlen htlen htl2 htl hdl hi0 hz0 hsz0 hby0 hc
    obtain ⟨y, hy⟩ : ∃ y, y = l.take u.toNat := ⟨_, rfl⟩
    obtain ⟨l', hl'⟩ : ∃ y, y = l.drop u.toNat := ⟨_, rfl⟩
    have HIF2 := Aside0.mk (HIF.out y l' bad hy hl' rfl)
    rw [← hy] at HT HTL HTC hcut
    rw [← hl'] at HD HLEN hcut2
    clear hy hl' HIF
    generalize c - u.toNat = c' at HLEN hcut2
    go_enter Try.func40, Try.ntmps40
    go_wp2_with fail
    refine (bytes_Clone.calls A c y w HT.out HTC.out HTL.out).mono ?_
    rintro e w1 ⟨v, rfl, hv, hb⟩
    have HV := Aside0.mk hv
    have HB1 := Aside0.mk hb
    have c0' := pw_cell_below hb c0
    have hb1' := blk_below HB0.out hb
    have f0' : w1.frozen? ⟨g, 0, none⟩ = false := blk_frozen hb1' 0
    have HB0' := Aside0.mk hb1'
    clear hv hb hb1' c0 f0 f1 c1
    go_wp2
    go_ret
    refine ⟨v, y, l', bad, rfl, ?_, ⟨A', c', ?_, HG.out, HLEN.out, HD.out⟩, ?_, ?_, HIF2.out⟩
    · exact Kd.R_set HV.out HB0'.out (by decide) 0 _
    · exact blk_set HB0'.out 0 _
    · exact (below_step HBB.out HB1.out).setCell HG.out _
    · exact KeepBut.set_ (KeepBut.of_below HB1.out g none) 0 _
  · have HIF2 : Aside0 (BytesIf l bad u [] l true) := ⟨by unfold BytesIf; rw [if_neg hle]; exact ⟨rfl, rfl⟩⟩
    have t0 : decide (u > (l.length : Int)) = true := decide_eq_true (by omega)
    have t1 : decide ((l.length : Int) < u) = true := decide_eq_true (by omega)
    have HREST := Aside0.mk (And.intro hc hC)
    clear hb hB hg hC hc
    go_enter Try.func40, Try.ntmps40
    go_wp2
    go_ret
    refine ⟨_, [], l, true, rfl, Kd.R_nil _ _ _ _ _, ⟨A, c, ?_, HG.out, HREST.out.1, HREST.out.2⟩, ?_, ?_, HIF2.out⟩
    · exact blk_set HB0.out 1 _
    · exact HBB.out.setCell HG.out _
    · exact KeepBut.set_ (KeepBut.refl _ g none) 1 _
end Go.Proofs.Ytmiijakcmbolfaa.P
