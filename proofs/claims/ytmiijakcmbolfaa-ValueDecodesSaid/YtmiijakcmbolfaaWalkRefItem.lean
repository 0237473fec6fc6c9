/- The reference's item of chapter 2: the item that bytes begin with, as plain mathematics says. -/
import Derived.Test.YtmiijakcmbolfaaWalkDecode
import Derived.Test.YtmiijakcmbolfaaLinkTakeRef
import Derived.Test.YtmiijakcmbolfaaPx12
import Derived.StillTailTactics
set_option linter.unusedVariables false
set_option linter.unusedSimpArgs false
namespace Go.Proofs.Ytmiijakcmbolfaa.P
open Go Go.RowKit Go.Proofs.Ytmiijakcmbolfaa.M Go.Proofs.Ytmiijakcmbolfaa.Link Go.Proofs.YtmiijakcmbolfaaW.PrintWords Go.Proofs.YtmiijakcmbolfaaW.PrintLast

def RefIf (l : List Int) (y : Itm) (r : List Int) (ok : Bool) : Prop := match itemR l with | some (x, q) => y = x ∧ r = q ∧ ok = true | none => ok = false
def RefItemPost (w0 w : World) (l : List Int) (e : Ending) (w' : World) : Prop :=
  ∃ (y : Itm) (v : Value) (A' : Option Addr) (c' : Nat) (r : List Int) (ok : Bool), e = .returned (.tuple #[.agg #[.int .i64 y.f0, .int .i64 y.f1, .int .i64 y.f2, v], .slice A' r.length c', .bool ok]) ∧
    Kd.R (Kd.int .u8) 5 w' w.heap.size (fun _ => True) v y.f3 ∧ Kd.C (Kd.int .u8) w0 A' r.length r ∧ r.length ≤ c' ∧ Below w.heap.size w w' ∧ RefIf l y r ok

theorem refItem_close {w0 w W : World} {b2 : Nat} {l : List Int} {a b c d v : Value} {y : Itm} {A' : Option Addr} {c' : Nat} {r : List Int} {ok : Bool} (X2 : W.heap[b2]? = some (.cells #[a, b, c, d] 30 (0, 0)))
    (hB : Below w.heap.size w W) (hw2 : w.heap.size ≤ b2) (hR : Kd.R (Kd.int .u8) 5 W w.heap.size (fun _ => True) v y.f3) (hC : Kd.C (Kd.int .u8) w0 A' r.length r) (hc : r.length ≤ c') (hIF : RefIf l y r ok)
    {W' : World} (hW : W' = (((W.setCell ⟨b2, 0, none⟩ (.int .i64 y.f0)).setCell ⟨b2, 1, none⟩ (.int .i64 y.f1)).setCell ⟨b2, 2, none⟩ (.int .i64 y.f2)).setCell ⟨b2, 3, none⟩ v) :
    W'.heap[b2]? = some (.cells #[.int .i64 y.f0, .int .i64 y.f1, .int .i64 y.f2, v] 30 (0, 0)) ∧ RefItemPost w0 w l (.returned (.tuple #[.agg #[.int .i64 y.f0, .int .i64 y.f1, .int .i64 y.f2, v], .slice A' r.length c', .bool ok])) W' := by
  subst hW
  have h1 := blk_set X2 0 (.int .i64 y.f0)
  have h2 := blk_set h1 1 (.int .i64 y.f1)
  have h3 := blk_set h2 2 (.int .i64 y.f2)
  refine ⟨blk_set h3 3 v, y, v, A', c', r, ok, rfl, ?_, hC, hc, ?_, hIF⟩
  · exact Kd.R_set (Kd.R_set (Kd.R_set (Kd.R_set hR X2 (by decide) 0 _) h1 (by decide) 1 _) h2 (by decide) 2 _) h3 (by decide) 3 _
  · exact (((hB.setCell (p := ⟨b2, 0, none⟩) hw2 _).setCell (p := ⟨b2, 1, none⟩) hw2 _).setCell (p := ⟨b2, 2, none⟩) hw2 _).setCell (p := ⟨b2, 3, none⟩) hw2 _

theorem refItem_drew {w0 w W : World} {b2 : Nat} {l : List Int} {e : Ending} {o : Obj} (h : W.heap[b2]? = some o ∧ RefItemPost w0 w l e W) : W.drew.heap[b2]? = some o ∧ RefItemPost w0 w l e W.drew := by
  obtain ⟨h1, y, v, A', c', r, ok, h2, h3, h4, h5, h6, h7⟩ := h
  exact ⟨h1, y, v, A', c', r, ok, h2, h3, h4, h5, h6.drew, h7⟩
theorem refItem_ret {w0 w W' : World} {b2 : Nat} {l : List Int} {v : Value} {y : Itm} {A' : Option Addr} {c' : Nat} {r : List Int} {ok : Bool} {tmps : Array Value}
    (hh : W'.heap[b2]? = some (.cells #[.int .i64 y.f0, .int .i64 y.f1, .int .i64 y.f2, v] 30 (0, 0)) ∧ RefItemPost w0 w l (.returned (.tuple #[.agg #[.int .i64 y.f0, .int .i64 y.f1, .int .i64 y.f2, v], .slice A' r.length c', .bool ok])) W')
    (h2 : tmps.getD 2 undef = .pointer (some ⟨b2, 0, none⟩)) (h3 : tmps.getD 3 undef = .slice A' r.length c') (h4 : tmps.getD 4 undef = .bool ok) :
    bodyPost Try.prog Try.f35 (RefItemPost w0 w l) .ret { tmps := tmps, defers := [] } W' := by
  have h := results_ctt (P := Try.prog) (fn := Try.f35) (p := 2) (u := 3) (v := 4) rfl tmps W' b2 30 _ (0, 0) _ h2 hh.1 Try.underlying30 rfl (by kernel_rfl)
  rw [h3, h4] at h
  exact bodyPost_ret h rfl hh.2

theorem refZag_f {u : Int} (h0 : 0 ≤ u) (h1 : u < 18446744073709551616) : selvageref01_Zag.f u = some (zag u.toNat) := by
  obtain ⟨n, rfl⟩ := Int.eq_ofNat_of_zero_le h0
  have hw : IntKind.u64.wrap (Int.tdiv (n : Int) 2) = ((n / 2 : Nat) : Int) := by
    rw [Int.tdiv_eq_ediv_of_nonneg h0, wrap_u64]; omega
  have hm : Int.tmod (n : Int) 2 = ((n % 2 : Nat) : Int) := by rw [Int.tmod_eq_emod_of_nonneg h0]; omega
  unfold selvageref01_Zag.f zag
  rw [hw, hm, Int.toNat_natCast]
  by_cases h : n % 2 = 0
  · rw [if_pos (by omega), if_pos h, wrap64_id (by omega) (by omega)]
  · rw [if_neg (by omega), if_neg h, wrap64_id (n := ((n / 2 : Nat) : Int)) (by omega) (by omega), wrap64_id (n := -((n / 2 : Nat) : Int)) (by omega) (by omega), wrap64_id (n := -((n / 2 : Nat) : Int) - 1) (by omega) (by omega)]

set_option maxRecDepth 100000 in
set_option maxHeartbeats 4000000 in
theorem selvageref02_item.calls2 (A0 : Option Addr) (c0 : Nat) (l : List Int) (w0 w : World) (hB0 : Below w0.heap.size w0 w) (hr0 : Kd.C (Kd.int .u8) w0 A0 l.length l) (hc0 : l.length ≤ c0) (hby : ∀ x ∈ l, 0 ≤ x ∧ x < 256) (hl : l.length < 1099511627776) :
    Calls Try.prog 35 #[.slice A0 l.length c0] w (RefItemPost w0 w l) := by
  have HR0 := Aside0.mk hr0
  have HB0 := Aside0.mk hB0
  have HC0 := Aside0.mk hc0
  have HBY := Aside0.mk hby
  have HL := Aside0.mk hl
  clear hr0 hc0 hby hl hB0
  go_enter Try.func35, Try.ntmps35
  go_wp2_with (first | ((with_reducible refine gate_dst (N := 2) rfl ?_); refine box_event ?hg (N := 2) ?hd (cs := #[.int .i64 0, .int .i64 0, .int .i64 0, .slice none 0 0]) (t := 30) ?hr ?_; (case hd => rfl); (case hg => rfl); (case hr => first | (go_simp; done) | (go_simp; rfl)); intro b2 hg w1 hbox hb; have HG2 := Aside0.mk (Nat.le_of_eq hg.symm); have HX2 := Aside0.mk hbox; have HB1 := Aside0.mk hb; clear hg hbox hb) | fail)
  have hbd := takeR_bd l
  have hf := refTake_f HBY.out (by have := HL.out; omega) (Nat.le_refl 330)
  obtain ⟨t, hT⟩ : ∃ t, takeR l = t := ⟨_, rfl⟩
  rw [hT] at hbd hf
  obtain ⟨u, n, e⟩ := t
  simp only at hbd
  refine (selvageref01_Take.calls 330 _ _ l u n e w1 (Kd.C_below HR0.out (below_step HB0.out HB1.out)) HC0.out hf).mono ?_
  rintro e' w2 ⟨rfl, hB2⟩
  clear hf
  have HT := Aside0.mk hT
  have HX2b := Aside0.mk (blk_below HX2.out hB2)
  have HB2 := Aside0.mk (below_step HB1.out hB2)
  clear hT hB2 HX2 HB1
  obtain ⟨c1, c2, c3, c4, f1, f2, f3, f4⟩ := cells4 HX2b.out
  by_cases hbad : e ≠ 0 ∨ 4003 < u
  · have HIF : Aside0 (RefIf l (⟨0, 0, 0, []⟩ : Itm) [] false) := ⟨by unfold RefIf itemR; rw [HT.out, if_pos hbad]⟩
    have hfin : ∀ W', W' = (((w2.setCell ⟨b2, 0, none⟩ (.int .i64 0)).setCell ⟨b2, 1, none⟩ (.int .i64 0)).setCell ⟨b2, 2, none⟩ (.int .i64 0)).setCell ⟨b2, 3, none⟩ (.slice none 0 0) → _ := fun W' hW =>
      refItem_close (w0 := w0) (w := w) (l := l) (y := ⟨0, 0, 0, []⟩) (v := .slice none 0 0) (A' := none) (c' := 0) (r := []) (ok := false) HX2b.out HB2.out HG2.out (Kd.R_nil _ _ _ _ _) (Kd.C_nil _ _) (Nat.le_refl _) HIF.out hW
    have HFIN := Aside0.mk hfin
    clear hfin
    by_cases he : e = 0
    · subst he
      have hu : u > 4003 := by omega
      have t0 : decide (u > 4003) = true := decide_eq_true hu
      clear hbd hbad
      go_wp2
      have hh := HFIN.out _ rfl
      exact refItem_ret (y := ⟨0, 0, 0, []⟩) (v := .slice none 0 0) (A' := none) (c' := 0) (r := []) (ok := false) hh rfl rfl rfl
    · have t0 : (e != 0) = true := bne_iff_ne.2 he
      have t1 : (e == 0) = false := beq_eq_false_iff_ne.2 he
      clear hbd hbad
      go_wp2
      have hh := HFIN.out _ rfl
      exact refItem_ret (y := ⟨0, 0, 0, []⟩) (v := .slice none 0 0) (A' := none) (c' := 0) (r := []) (ok := false) hh rfl rfl rfl
  · have he : e = 0 := by omega
    have hu1 : u ≤ 4003 := by omega
    have hu0 : 0 ≤ u := hbd.2.2.1
    subst he
    have hm0 : 0 ≤ u % 4 := by omega
    have hm1 : u % 4 < 4 := by omega
    have hq0 : 0 ≤ u / 4 := by omega
    have hq1 : u / 4 ≤ 1000 := by omega
    have t0 : decide (u > 4003) = false := decide_eq_false (by omega)
    obtain ⟨i0, hi0, hz0, hsz0, hby0⟩ := info_parts info5
    have hcut := cut_from (P := Try.prog) 25 5 .i64 Try.underlying25 hi0 1 hsz0 A0 l.length c0 n hbd.1 hbd.2.1
    have hD := Kd.C_drop (c := c0) HR0.out (m := n.toNat) (by have := hbd.2.1; omega) HC0.out
    rw [← List.length_drop] at hcut
    obtain ⟨A1, hA'⟩ : ∃ A', A' = (if c0 = n.toNat then A0 else A0.map (·.add (n.toNat * 1))) := ⟨_, rfl⟩
    rw [← hA'] at hcut
    replace hD : Kd.C (Kd.int .u8) w0 A1 (l.drop n.toNat).length (l.drop n.toNat) := by rw [hA']; exact hD
    have hlen : (l.drop n.toNat).length ≤ c0 - n.toNat := by rw [List.length_drop]; have := HC0.out; omega
    have HITEM : Aside0 (itemR l = if u % 4 + 1 = 1 then (if (takeR (l.drop n.toNat)).2.2 ≠ 0 then none else some (⟨u % 4 + 1, u / 4, zag (takeR (l.drop n.toNat)).1.toNat, []⟩, (l.drop n.toNat).drop (takeR (l.drop n.toNat)).2.1.toNat))
        else if u % 4 + 1 = 2 then (if (takeR (l.drop n.toNat)).2.2 ≠ 0 ∨ (((l.drop n.toNat).drop (takeR (l.drop n.toNat)).2.1.toNat).length : Int) < (takeR (l.drop n.toNat)).1 then none
          else some (⟨u % 4 + 1, u / 4, 0, ((l.drop n.toNat).drop (takeR (l.drop n.toNat)).2.1.toNat).take (takeR (l.drop n.toNat)).1.toNat⟩, ((l.drop n.toNat).drop (takeR (l.drop n.toNat)).2.1.toNat).drop (takeR (l.drop n.toNat)).1.toNat))
        else some (⟨u % 4 + 1, u / 4, 0, []⟩, l.drop n.toNat)) := ⟨by
      unfold itemR
      rw [HT.out, if_neg (show ¬ ((0 : Int) ≠ 0 ∨ 4003 < u) by omega)]⟩
    have hrb : ∀ x ∈ l.drop n.toNat, 0 ≤ x ∧ x < 256 := fun x hx => HBY.out x (List.mem_of_mem_drop hx)
    have hrl : (l.drop n.toNat).length < 1099511627776 := by rw [List.length_drop]; have := HL.out; omega
    have hlen2 : l.length - n.toNat = (l.drop n.toNat).length := by rw [List.length_drop]
    obtain ⟨r, hr⟩ : ∃ r, r = l.drop n.toNat := ⟨_, rfl⟩
    rw [← hr] at HITEM hrb hrl hD hlen hcut hlen2
    obtain ⟨cc, hcc⟩ : ∃ cc, cc = c0 - n.toNat := ⟨_, rfl⟩
    rw [← hcc] at hlen hcut
    have HD := Aside0.mk hD
    have HRB := Aside0.mk hrb
    have HRL := Aside0.mk hrl
    have HLC := Aside0.mk hlen
    have HLEN2 := Aside0.mk hlen2
    clear hrb hrl hD hlen hA' hr hcc hbd hi0 hz0 hsz0 hby0 HT HBY HL HR0 HC0 hbad hlen2
    go_upto_region 6 with (first | ((with_reducible refine gate_dst (N := 8) rfl ?_); refine box_event ?hg (N := 8) ?hd (cs := #[.int .i64 0, .int .i64 0, .int .i64 0, .slice none 0 0]) (t := 30) ?hr ?_; (case hd => rfl); (case hg => rfl); (case hr => first | (go_simp; done) | (go_simp; rfl)); intro b8 hg w3 hbox hb; have HG8 := Aside0.mk hg; have HX8 := Aside0.mk hbox; have HB3 := Aside0.mk hb; obtain ⟨c1, c2, c3, c4, f1, f2, f3, f4⟩ := cells4 hbox; clear hg hbox hb))
    obtain ⟨w4, hw4⟩ : ∃ W, W = (((w3.setCell ⟨b8, 0, none⟩ (.int .i64 (u % 4 + 1))).setCell ⟨b8, 1, none⟩ (.int .i64 (u / 4))).setCell ⟨b8, 2, none⟩ (.int .i64 0)).setCell ⟨b8, 3, none⟩ (.slice none 0 0) := ⟨_, rfl⟩
    rw [← hw4]
    have hb28 : b2 ≠ b8 := by have := blk_lt HX2b.out; have := HG8.out; omega
    have hwb : w.heap.size ≤ b8 := by have := HG8.out; have := HB2.out.size; omega
    have X8 : w4.heap[b8]? = some (.cells #[.int .i64 (u % 4 + 1), .int .i64 (u / 4), .int .i64 0, .slice none 0 0] 30 (0, 0)) := by
      rw [hw4]
      exact blk_set (blk_set (blk_set (blk_set HX8.out 0 _) 1 _) 2 _) 3 _
    have X2 : w4.heap[b2]? = some (.cells #[.int .i64 0, .int .i64 0, .int .i64 0, .slice none 0 0] 30 (0, 0)) := by
      rw [hw4]
      exact blk_far (blk_far (blk_far (blk_far (blk_below HX2b.out HB3.out) (p := ⟨b8, 0, none⟩) hb28 _) (p := ⟨b8, 1, none⟩) hb28 _) (p := ⟨b8, 2, none⟩) hb28 _) (p := ⟨b8, 3, none⟩) hb28 _
    have XB : Below w.heap.size w w4 := by
      rw [hw4]
      exact ((((below_step HB2.out HB3.out).setCell (p := ⟨b8, 0, none⟩) hwb _).setCell (p := ⟨b8, 1, none⟩) hwb _).setCell (p := ⟨b8, 2, none⟩) hwb _).setCell (p := ⟨b8, 3, none⟩) hwb _
    clear hw4 c1 c2 c3 c4 f1 f2 f3 f4 HX8 HB3 HX2b HB2 HG8 hcut
    have HX8 := Aside0.mk X8
    have HX2 := Aside0.mk X2
    have HB4 := Aside0.mk XB
    have HWB := Aside0.mk hwb
    have HNE := Aside0.mk hb28
    clear X8 X2 XB hwb hb28 w3
    obtain ⟨c1, c2, c3, c4, f1, f2, f3, f4⟩ := cells4 HX8.out
    have k34 : (u % 4 + 1 = 3 ∨ u % 4 + 1 = 4) ∨ u % 4 + 1 = 1 ∨ u % 4 + 1 = 2 := by omega
    rcases k34 with hk | hk
    · have HK : Aside0 (¬ u % 4 + 1 = 1 ∧ ¬ u % 4 + 1 = 2) := ⟨by omega⟩
      have HIF : Aside0 (RefIf l (⟨u % 4 + 1, u / 4, 0, []⟩ : Itm) r true) := ⟨by
        unfold RefIf
        rw [HITEM.out, if_neg HK.out.1, if_neg HK.out.2]
        exact ⟨rfl, rfl, rfl⟩⟩
      obtain ⟨d1, d2, d3, d4, h1, h2, h3, h4⟩ := cells4 HX2.out
      have hn24 := HNE.out
      have hn24' := HNE.out.symm
      have hfin : ∀ W', W' = (((w4.setCell ⟨b2, 0, none⟩ (.int .i64 (u % 4 + 1))).setCell ⟨b2, 1, none⟩ (.int .i64 (u / 4))).setCell ⟨b2, 2, none⟩ (.int .i64 0)).setCell ⟨b2, 3, none⟩ (.slice none 0 0) → _ := fun W' hW =>
        refItem_close (w0 := w0) (w := w) (l := l) (y := ⟨u % 4 + 1, u / 4, 0, []⟩) (v := .slice none 0 0) (A' := A1) (c' := cc) (r := r) (ok := true) HX2.out HB4.out HG2.out (Kd.R_nil _ _ _ _ _) HD.out HLC.out HIF.out hW
      have HFIN := Aside0.mk hfin
      clear hfin
      rcases hk with hk | hk
      · have t3 : (u % 4 + 1 == 3) = true := beq_iff_eq.2 hk
        clear hk
        go_wp2
        exact refItem_ret (y := ⟨u % 4 + 1, u / 4, 0, []⟩) (v := .slice none 0 0) (A' := A1) (c' := cc) (r := r) (ok := true) (HFIN.out _ rfl) rfl rfl rfl
      · have t3 : (u % 4 + 1 == 3) = false := beq_eq_false_iff_ne.2 (by omega)
        have t4 : (u % 4 + 1 == 4) = true := beq_iff_eq.2 hk
        clear hk
        go_wp2
        exact refItem_ret (y := ⟨u % 4 + 1, u / 4, 0, []⟩) (v := .slice none 0 0) (A' := A1) (c' := cc) (r := r) (ok := true) (HFIN.out _ rfl) rfl rfl rfl
    · have t3 : (u % 4 + 1 == 3) = false := beq_eq_false_iff_ne.2 (by omega)
      have t4 : (u % 4 + 1 == 4) = false := beq_eq_false_iff_ne.2 (by omega)
      have HK := Aside0.mk hk
      clear hk
      have hbd := takeR_bd r
      have hf := refTake_f HRB.out (by have := HRL.out; omega) (Nat.le_refl 330)
      obtain ⟨t, hT⟩ : ∃ t, takeR r = t := ⟨_, rfl⟩
      rw [hT] at hbd hf HITEM
      obtain ⟨u2, n2, e2⟩ := t
      simp only at hbd HITEM
      clear hT
      go_wp2_with fail
      refine (selvageref01_Take.calls 330 _ _ r u2 n2 e2 w4 (Kd.C_below HD.out (below_step HB0.out HB4.out)) HLC.out hf).mono ?_
      rintro e' w5 ⟨rfl, hB5⟩
      have HX85 := Aside0.mk (blk_below HX8.out hB5)
      have HX25 := Aside0.mk (blk_below HX2.out hB5)
      have HB5 := Aside0.mk (below_step HB4.out hB5)
      clear hB5 hf HX8 HX2 HB4 c1 c2 c3 c4 f1 f2 f3 f4
      obtain ⟨c1, c2, c3, c4, f1, f2, f3, f4⟩ := cells4 HX85.out
      obtain ⟨d1, d2, d3, d4, h1, h2, h3, h4⟩ := cells4 HX25.out
      have hn24 := HNE.out
      have hn24' := HNE.out.symm
      by_cases he2 : e2 = 0
      · subst he2
        obtain ⟨i0, hi0, hz0, hsz0, hby0⟩ := info_parts info5
        have hcut := cut_from (P := Try.prog) 25 5 .i64 Try.underlying25 hi0 1 hsz0 A1 r.length cc n2 hbd.1 hbd.2.1
        have hD := Kd.C_drop (c := cc) HD.out (m := n2.toNat) (by have := hbd.2.1; omega) HLC.out
        rw [← List.length_drop] at hcut
        obtain ⟨A2, hA'⟩ : ∃ A', A' = (if cc = n2.toNat then A1 else A1.map (·.add (n2.toNat * 1))) := ⟨_, rfl⟩
        rw [← hA'] at hcut
        replace hD : Kd.C (Kd.int .u8) w0 A2 (r.drop n2.toNat).length (r.drop n2.toNat) := by rw [hA']; exact hD
        have hlen : (r.drop n2.toNat).length ≤ cc - n2.toNat := by rw [List.length_drop]; have := HLC.out; omega
        have hrl : (r.drop n2.toNat).length < 1099511627776 := by rw [List.length_drop]; have := HRL.out; omega
        have hlen2 : r.length - n2.toNat = (r.drop n2.toNat).length := by rw [List.length_drop]
        have hu0 : 0 ≤ u2 := hbd.2.2.1
        have hu1 : u2 < 18446744073709551616 := hbd.2.2.2.1
        obtain ⟨q, hq⟩ : ∃ q, q = r.drop n2.toNat := ⟨_, rfl⟩
        rw [← hq] at HITEM hD hlen hcut hlen2 hrl
        obtain ⟨cq, hcq⟩ : ∃ cq, cq = cc - n2.toNat := ⟨_, rfl⟩
        rw [← hcq] at hlen hcut
        have HD2 := Aside0.mk hD
        have HLC2 := Aside0.mk hlen
        have HQL := Aside0.mk hrl
        clear hD hlen hA' hq hcq hbd hz0 hby0 hrl hlen2 HD HLC HRB HRL
        rcases HK.out with hk | hk
        · have t7 : (u % 4 + 1 == 1) = true := beq_iff_eq.2 hk
          have HIF : Aside0 (RefIf l (⟨u % 4 + 1, u / 4, zag u2.toNat, []⟩ : Itm) q true) := ⟨by
            unfold RefIf
            rw [HITEM.out, if_pos hk, if_neg (show ¬ (0 : Int) ≠ 0 by omega)]
            exact ⟨rfl, rfl, rfl⟩⟩
          have HU := Aside0.mk (And.intro hu0 hu1)
          clear hk hi0 hsz0
          go_wp2_with fail
          refine (selvageref01_Zag.calls u2 (zag u2.toNat) _ (refZag_f HU.out.1 HU.out.2)).mono ?_
          rintro e' w6 ⟨rfl, ⟨nd, rfl⟩⟩
          have hX8 := blk_drewN HX85.out nd
          have hX2 := blk_drewN HX25.out nd
          have hB6 : Below w.heap.size w (w5.drewN nd) := pw_below_drewN HB5.out _
          clear HX85 HX25 HB5 c1 c2 c3 c4 f1 f2 f3 f4 d1 d2 d3 d4 h1 h2 h3 h4
          generalize w5.drewN nd = w7 at hX8 hX2 hB6
          obtain ⟨c1, c2, c3, c4, f1, f2, f3, f4⟩ := cells4 hX8
          obtain ⟨d1, d2, d3, d4, h1, h2, h3, h4⟩ := cells4 hX2
          have hfin : ∀ W', W' = ((((w7.setCell ⟨b8, 2, none⟩ (.int .i64 (zag u2.toNat))).setCell ⟨b2, 0, none⟩ (.int .i64 (u % 4 + 1))).setCell ⟨b2, 1, none⟩ (.int .i64 (u / 4))).setCell ⟨b2, 2, none⟩ (.int .i64 (zag u2.toNat))).setCell ⟨b2, 3, none⟩ (.slice none 0 0) → _ := fun W' hW =>
            refItem_close (w0 := w0) (w := w) (l := l) (y := ⟨u % 4 + 1, u / 4, zag u2.toNat, []⟩) (v := .slice none 0 0) (A' := A2) (c' := cq) (r := q) (ok := true) (blk_far hX2 (p := ⟨b8, 2, none⟩) hn24 _) (hB6.setCell (p := ⟨b8, 2, none⟩) HWB.out _) HG2.out (Kd.R_nil _ _ _ _ _) HD2.out HLC2.out HIF.out hW
          have HFIN := Aside0.mk hfin
          clear hfin hX8 hX2 hB6
          go_wp2
          exact refItem_ret (y := ⟨u % 4 + 1, u / 4, zag u2.toNat, []⟩) (v := .slice none 0 0) (A' := A2) (c' := cq) (r := q) (ok := true) (HFIN.out _ rfl) rfl rfl rfl
        · have t7 : (u % 4 + 1 == 1) = false := beq_eq_false_iff_ne.2 (by omega)
          have hql := HQL.out
          by_cases hle : u2 > (q.length : Int)
          · have t8 : decide (u2 > (q.length : Int)) = true := decide_eq_true hle
            have t9 : decide ((q.length : Int) < u2) = true := decide_eq_true hle
            have HIF : Aside0 (RefIf l (⟨0, 0, 0, []⟩ : Itm) [] false) := ⟨by
              unfold RefIf
              rw [HITEM.out, if_neg (by omega), if_pos hk, if_pos (.inr hle)]⟩
            have hfin : ∀ W', W' = (((w5.setCell ⟨b2, 0, none⟩ (.int .i64 0)).setCell ⟨b2, 1, none⟩ (.int .i64 0)).setCell ⟨b2, 2, none⟩ (.int .i64 0)).setCell ⟨b2, 3, none⟩ (.slice none 0 0) → _ := fun W' hW =>
              refItem_close (w0 := w0) (w := w) (l := l) (y := ⟨0, 0, 0, []⟩) (v := .slice none 0 0) (A' := none) (c' := 0) (r := []) (ok := false) HX25.out HB5.out HG2.out (Kd.R_nil _ _ _ _ _) (Kd.C_nil _ _) (Nat.le_refl _) HIF.out hW
            have HFIN := Aside0.mk hfin
            clear hfin hk hi0 hsz0
            go_wp2
            exact refItem_ret (y := ⟨0, 0, 0, []⟩) (v := .slice none 0 0) (A' := none) (c' := 0) (r := []) (ok := false) (HFIN.out _ rfl) rfl rfl rfl
          · have t8 : decide (u2 > (q.length : Int)) = false := decide_eq_false hle
            have t9 : decide ((q.length : Int) < u2) = false := decide_eq_false hle
            have hule : u2 ≤ (q.length : Int) := by omega
            have hcutA := cut_to (P := Try.prog) 25 5 .u64 Try.underlying25 hi0 A2 q.length cq u2 hu0 hule HLC2.out
            have hcutB := cut_from (P := Try.prog) 25 5 .u64 Try.underlying25 hi0 1 hsz0 A2 q.length cq u2 hu0 hule
            have hT := Kd.C_take HD2.out (m := u2.toNat) (by omega)
            have hD := Kd.C_drop (c := cq) HD2.out (m := u2.toNat) (by omega) HLC2.out
            have htl : (q.take u2.toNat).length = u2.toNat := by rw [List.length_take]; omega
            rw [← htl] at hcutA
            rw [← List.length_drop] at hcutB
            obtain ⟨A3, hA'⟩ : ∃ A', A' = (if cq = u2.toNat then A2 else A2.map (·.add (u2.toNat * 1))) := ⟨_, rfl⟩
            rw [← hA'] at hcutB
            replace hD : Kd.C (Kd.int .u8) w0 A3 (q.drop u2.toNat).length (q.drop u2.toNat) := by rw [hA']; exact hD
            have hlen : (q.drop u2.toNat).length ≤ cq - u2.toNat := by rw [List.length_drop]; have := HLC2.out; omega
            have htlen : (q.take u2.toNat).length ≤ 140737488355328 := by have := HQL.out; rw [List.length_take]; omega
            have HIF : Aside0 (RefIf l (⟨u % 4 + 1, u / 4, 0, q.take u2.toNat⟩ : Itm) (q.drop u2.toNat) true) := ⟨by
              unfold RefIf
              rw [HITEM.out, if_neg (by omega), if_pos hk, if_neg (show ¬ ((0 : Int) ≠ 0 ∨ (q.length : Int) < u2) by omega)]
              exact ⟨rfl, rfl, rfl⟩⟩
            have hdl : q.length - u2.toNat = (q.drop u2.toNat).length := by rw [List.length_drop]
            generalize q.take u2.toNat = y3 at HIF hT hcutA htlen htl
            generalize q.drop u2.toNat = r3 at HIF hD hcutB hlen hdl
            generalize cq - u2.toNat = c3' at hcutB hlen
            have HT3 := Aside0.mk hT
            have HD3 := Aside0.mk hD
            have HL3 := Aside0.mk hlen
            have HTL3 := Aside0.mk htlen
            clear hT hD hlen htlen htl hdl hA' hk hi0 hsz0 hle
            go_upto_region 18 with (first | ((with_reducible refine gate_dst (N := 72) rfl ?_); refine Kd.R_lit (Kd.int .u8) w.heap.size 5 ?hg (N := 72) ?hd (xs := ([] : List Int)) (inner := []) (ok := fun _ => True) (okp := fun _ => True) ?hr ?hp (fun _ hk => hk) trivial HB5.out HB5.out.size (by simp) ?_; (case hd => rfl); (case hg => rfl); (case hr => first | (go_simp; done) | (go_simp; rfl)); (case hp => exact (Reps.none _ _)); intro v6 w6 ho6 hb6 hg6 hn6; have HO6 := Aside0.mk ho6; have HB6 := Aside0.mk hb6; have HX86 := Aside0.mk (blk_grown HX85.out hg6 (by simp)); have HX26 := Aside0.mk (blk_grown HX25.out hg6 (by simp)); clear ho6 hb6 hg6 hn6 c1 c2 c3 c4 f1 f2 f3 f4 d1 d2 d3 d4 h1 h2 h3 h4) | ((with_reducible refine gate_builtin (b := .append) (xs := #[.tmp 72, .tmp 75]) rfl ?_); at_builtin; refine Kd.R_append_rows (Kd.int .u8) (w0 := w) w.heap.size rfl (.tmp 72) (.tmp 75) 25 5 (.int .u8 0) 1 rfl Try.underlying25 info5 rfl (by decide) (by omega) v6 [] y3 A2 y3.length cq (fun _ => True) (fun _ => False) rfl rfl ?aO ?aR (fun _ _ h => h) (fun _ h => h.elim) ?aF ?aB ?aS ?aL ?_; (case aR => exact Kd.C_below HT3.out (below_step HB0.out HB6.out)); (case aB => exact HB6.out); (case aF => exact fun _ _ => trivial); (case aO => exact HO6.out); (case aS => exact HB6.out.size); (case aL => have := HTL3.out; simp; omega); intro v7 w7 ho7 hb7 hg7 hat7; have HO7 := Aside0.mk ho7; have HB7 := Aside0.mk hb7; have HX87 := Aside0.mk (blk_grown HX86.out hg7 (fun e => by obtain ⟨cells, hcs⟩ := Kd.R_typed HO6.out b8 e.symm; rw [HX86.out] at hcs; cases hcs)); have HX27 := Aside0.mk (blk_grown HX26.out hg7 (fun e => by obtain ⟨cells, hcs⟩ := Kd.R_typed HO6.out b2 e.symm; rw [HX26.out] at hcs; cases hcs)); obtain ⟨c1, c2, c3, c4, f1, f2, f3, f4⟩ := cells4 HX87.out; obtain ⟨Av, cv, rfl⟩ := Kd.R_slice ho7; clear ho7 hb7 hg7 hat7))
            obtain ⟨w8, hw8⟩ : ∃ W, W = w7.setCell ⟨b8, 3, none⟩ (.slice Av y3.length cv) := ⟨_, rfl⟩
            rw [← hw8]
            have X8 : w8.heap[b8]? = some (.cells #[.int .i64 (u % 4 + 1), .int .i64 (u / 4), .int .i64 0, .slice Av y3.length cv] 30 (0, 0)) := by rw [hw8]; exact blk_set HX87.out 3 _
            have X2 : w8.heap[b2]? = some (.cells #[.int .i64 0, .int .i64 0, .int .i64 0, .slice none 0 0] 30 (0, 0)) := by rw [hw8]; exact blk_far HX27.out (p := ⟨b8, 3, none⟩) hn24 _
            have XB : Below w.heap.size w w8 := by rw [hw8]; exact HB7.out.setCell (p := ⟨b8, 3, none⟩) HWB.out _
            have XR : Kd.R (Kd.int .u8) 5 w8 w.heap.size (fun _ => True) (.slice Av y3.length cv) y3 := by rw [hw8]; exact Kd.R_set HO7.out HX87.out (by decide) 3 _
            clear c1 c2 c3 c4 f1 f2 f3 f4 hw8 HX87 HX27 HB7 HO7 HX86 HX26 HB6 HO6 HX85 HX25 HB5 hcut hcutA HT3 HTL3 w7
            obtain ⟨c1, c2, c3, c4, f1, f2, f3, f4⟩ := cells4 X8
            obtain ⟨d1, d2, d3, d4, h1, h2, h3, h4⟩ := cells4 X2
            have hfin : ∀ W', W' = (((w8.setCell ⟨b2, 0, none⟩ (.int .i64 (u % 4 + 1))).setCell ⟨b2, 1, none⟩ (.int .i64 (u / 4))).setCell ⟨b2, 2, none⟩ (.int .i64 0)).setCell ⟨b2, 3, none⟩ (.slice Av y3.length cv) → _ := fun W' hW =>
              refItem_close (W := w8) (w0 := w0) (w := w) (l := l) (y := ⟨u % 4 + 1, u / 4, 0, y3⟩) (v := .slice Av y3.length cv) (A' := A3) (c' := c3') (r := r3) (ok := true) X2 XB HG2.out XR HD3.out HL3.out HIF.out hW
            have HFIN := Aside0.mk hfin
            clear hfin X8 X2 XB XR
            go_region
            all_goals go_wp2
            exact refItem_ret (y := ⟨u % 4 + 1, u / 4, 0, y3⟩) (v := .slice Av y3.length cv) (A' := A3) (c' := c3') (r := r3) (ok := true) (refItem_drew (HFIN.out _ rfl)) rfl rfl rfl
      · have t5 : (e2 != 0) = true := bne_iff_ne.2 he2
        have t6 : (e2 == 0) = false := beq_eq_false_iff_ne.2 he2
        have HIF : Aside0 (RefIf l (⟨0, 0, 0, []⟩ : Itm) [] false) := ⟨by
          unfold RefIf
          rw [HITEM.out]
          rcases HK.out with hk | hk
          · rw [if_pos hk, if_pos he2]
          · rw [if_neg (by omega), if_pos hk, if_pos (.inl he2)]⟩
        have hfin : ∀ W', W' = (((w5.setCell ⟨b2, 0, none⟩ (.int .i64 0)).setCell ⟨b2, 1, none⟩ (.int .i64 0)).setCell ⟨b2, 2, none⟩ (.int .i64 0)).setCell ⟨b2, 3, none⟩ (.slice none 0 0) → _ := fun W' hW =>
          refItem_close (w0 := w0) (w := w) (l := l) (y := ⟨0, 0, 0, []⟩) (v := .slice none 0 0) (A' := none) (c' := 0) (r := []) (ok := false) HX25.out HB5.out HG2.out (Kd.R_nil _ _ _ _ _) (Kd.C_nil _ _) (Nat.le_refl _) HIF.out hW
        have HFIN := Aside0.mk hfin
        clear hfin hbd he2
        go_wp2
        exact refItem_ret (y := ⟨0, 0, 0, []⟩) (v := .slice none 0 0) (A' := none) (c' := 0) (r := []) (ok := false) (HFIN.out _ rfl) rfl rfl rfl
end Go.Proofs.Ytmiijakcmbolfaa.P
