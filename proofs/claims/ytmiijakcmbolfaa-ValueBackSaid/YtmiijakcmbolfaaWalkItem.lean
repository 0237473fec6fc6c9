/- The reader of chapter 2 (value.reader): its next item. -/
import Derived.Test.YtmiijakcmbolfaaWalkRead
import Derived.Test.YtmiijakcmbolfaaLinkItems
set_option linter.unusedVariables false
set_option linter.unusedSimpArgs false
namespace Go.Proofs.Ytmiijakcmbolfaa.P
open Go Go.RowKit Go.Proofs.Ytmiijakcmbolfaa.M Go.Proofs.Ytmiijakcmbolfaa.Link Go.Proofs.YtmiijakcmbolfaaW.PrintWords Go.Proofs.YtmiijakcmbolfaaW.PrintLast

/-- the item that bytes begin with, and the rest; none: there is none -/
def itemR (b : List Int) : Option (Itm × List Int) :=
  if (takeR b).2.2 ≠ 0 ∨ 4003 < (takeR b).1 then none else
  let k := (takeR b).1 % 4 + 1; let id := (takeR b).1 / 4; let r := b.drop (takeR b).2.1.toNat
  if k = 1 then (if (takeR r).2.2 ≠ 0 then none else some (⟨k, id, zag (takeR r).1.toNat, []⟩, r.drop (takeR r).2.1.toNat))
  else if k = 2 then (if (takeR r).2.2 ≠ 0 ∨ ((r.drop (takeR r).2.1.toNat).length : Int) < (takeR r).1 then none
    else some (⟨k, id, 0, (r.drop (takeR r).2.1.toNat).take (takeR r).1.toNat⟩, (r.drop (takeR r).2.1.toNat).drop (takeR r).1.toNat))
  else some (⟨k, id, 0, []⟩, r)

def ItemIf (l : List Int) (y : Itm) (l' : List Int) (bad' : Bool) : Prop := match itemR l with | some (x, r) => y = x ∧ l' = r ∧ bad' = false | none => bad' = true

def ItemPost (w0 w : World) (g : Nat) (l : List Int) (e : Ending) (w' : World) : Prop :=
  ∃ (y : Itm) (v : Value) (l' : List Int) (bad' : Bool), e = .returned (.agg #[.int .i64 y.f0, .int .i64 y.f1, .int .i64 y.f2, v]) ∧ Kd.R (Kd.int .u8) 5 w' w.heap.size (fun _ => True) v y.f3 ∧
    IsR w0 w' g l' bad' ∧ Below w0.heap.size w0 w' ∧ KeepBut w w' g none ∧ ItemIf l y l' bad' ∧ ∃ m, l' = l.drop m

theorem IsR.far {w0 W : World} {g : Nat} {l : List Int} {bad : Bool} (h : IsR w0 W g l bad) {p : Addr} (hne : g ≠ p.block) (u : Value) : IsR w0 (W.setCell p u) g l bad := by
  obtain ⟨A, c, hb, hr⟩ := h
  exact ⟨A, c, blk_far hb hne u, hr⟩
theorem IsR.lt {w0 W : World} {g : Nat} {l : List Int} {bad : Bool} (h : IsR w0 W g l bad) : g < W.heap.size := by
  obtain ⟨A, c, hb, _⟩ := h
  exact blk_lt hb
theorem IsR.ge {w0 W : World} {g : Nat} {l : List Int} {bad : Bool} (h : IsR w0 W g l bad) : w0.heap.size ≤ g := by
  obtain ⟨A, c, _, hg, _⟩ := h
  exact hg
theorem IsR.bad {w0 W : World} {g : Nat} {l : List Int} {bad : Bool} (h : IsR w0 W g l bad) (b : Bool) : IsR w0 (W.setCell ⟨g, 1, none⟩ (.bool b)) g l b := by
  obtain ⟨A, c, hb, hr⟩ := h
  exact ⟨A, c, blk_set hb 1 _, hr⟩
theorem IsR.cells {w0 W : World} {g : Nat} {l : List Int} {bad : Bool} (h : IsR w0 W g l bad) : W.cell? ⟨g, 1, none⟩ = some (.bool bad) ∧ W.frozen? ⟨g, 1, none⟩ = false := by
  obtain ⟨A, c, hb, hr⟩ := h
  exact ⟨(blk_cell hb 1).trans rfl, blk_frozen hb 1⟩
theorem cells4 {W : World} {g t : Nat} {a b c d : Value} (h : W.heap[g]? = some (.cells #[a, b, c, d] t (0, 0))) :
    W.cell? ⟨g, 0, none⟩ = some a ∧ W.cell? ⟨g, 1, none⟩ = some b ∧ W.cell? ⟨g, 2, none⟩ = some c ∧ W.cell? ⟨g, 3, none⟩ = some d ∧
    W.frozen? ⟨g, 0, none⟩ = false ∧ W.frozen? ⟨g, 1, none⟩ = false ∧ W.frozen? ⟨g, 2, none⟩ = false ∧ W.frozen? ⟨g, 3, none⟩ = false :=
  ⟨(blk_cell h 0).trans rfl, (blk_cell h 1).trans rfl, (blk_cell h 2).trans rfl, (blk_cell h 3).trans rfl, blk_frozen h 0, blk_frozen h 1, blk_frozen h 2, blk_frozen h 3⟩

theorem item_close {w0 w W : World} {g b2 : Nat} {l : List Int} {a b c d v : Value} {y : Itm} {l' : List Int} {bad' : Bool} (X2 : W.heap[b2]? = some (.cells #[a, b, c, d] 30 (0, 0)))
    (hS : IsR w0 W g l' bad') (hB : Below w0.heap.size w0 W) (hK : KeepBut w W g none) (hne : g ≠ b2) (hw2 : w.heap.size ≤ b2) (hw0 : w0.heap.size ≤ b2) (hR : Kd.R (Kd.int .u8) 5 W w.heap.size (fun _ => True) v y.f3) (hIF : ItemIf l y l' bad') (hm : ∃ m, l' = l.drop m)
    {W' : World} (hW : W' = (((W.setCell ⟨b2, 0, none⟩ (.int .i64 y.f0)).setCell ⟨b2, 1, none⟩ (.int .i64 y.f1)).setCell ⟨b2, 2, none⟩ (.int .i64 y.f2)).setCell ⟨b2, 3, none⟩ v) :
    W'.heap[b2]? = some (.cells #[.int .i64 y.f0, .int .i64 y.f1, .int .i64 y.f2, v] 30 (0, 0)) ∧ ItemPost w0 w g l (.returned (.agg #[.int .i64 y.f0, .int .i64 y.f1, .int .i64 y.f2, v])) W' := by
  subst hW
  have h1 := blk_set X2 0 (.int .i64 y.f0)
  have h2 := blk_set h1 1 (.int .i64 y.f1)
  have h3 := blk_set h2 2 (.int .i64 y.f2)
  refine ⟨blk_set h3 3 v, y, v, l', bad', rfl, ?_, ?_, ?_, ?_, hIF, hm⟩
  · exact Kd.R_set (Kd.R_set (Kd.R_set (Kd.R_set hR X2 (by decide) 0 _) h1 (by decide) 1 _) h2 (by decide) 2 _) h3 (by decide) 3 _
  · exact (((hS.far (p := ⟨b2, 0, none⟩) hne _).far (p := ⟨b2, 1, none⟩) hne _).far (p := ⟨b2, 2, none⟩) hne _).far (p := ⟨b2, 3, none⟩) hne _
  · exact (((hB.setCell (p := ⟨b2, 0, none⟩) hw0 _).setCell (p := ⟨b2, 1, none⟩) hw0 _).setCell (p := ⟨b2, 2, none⟩) hw0 _).setCell (p := ⟨b2, 3, none⟩) hw0 _
  · exact keep_far (keep_far (keep_far (keep_far hK (p := ⟨b2, 0, none⟩) hw2 _) (p := ⟨b2, 1, none⟩) hw2 _) (p := ⟨b2, 2, none⟩) hw2 _) (p := ⟨b2, 3, none⟩) hw2 _

set_option maxRecDepth 100000 in
set_option maxHeartbeats 4000000 in
theorem reader_item.calls (w0 w : World) (g : Nat) (l : List Int) (hS : IsR w0 w g l false) (hB : Below w0.heap.size w0 w) (hby : ∀ x ∈ l, 0 ≤ x ∧ x < 256) (hl : l.length ≤ 140737488355328) :
    Calls Try.prog 34 #[.pointer (some ⟨g, 0, none⟩)] w (ItemPost w0 w g l) := by
  have HBY := Aside0.mk hby
  have HL := Aside0.mk hl
  have HS := Aside0.mk hS
  have HB := Aside0.mk hB
  clear hS hB hby hl
  go_enter Try.func34, Try.ntmps34
  go_wp2_with (first | ((with_reducible refine gate_dst (N := 2) rfl ?_); refine box_event ?hg (N := 2) ?hd (cs := #[.int .i64 0, .int .i64 0, .int .i64 0, .slice none 0 0]) (t := 30) ?hr ?_; (case hd => rfl); (case hg => rfl); (case hr => first | (go_simp; done) | (go_simp; rfl)); intro b2 hg w1 hbox hb; have HG2 := Aside0.mk hg; have HX2 := Aside0.mk hbox; have HB1 := Aside0.mk hb; clear hg hbox hb) | fail)
  have HB01 := Aside0.mk (below_step HB.out HB1.out)
  have hbd := takeR_bd l
  refine (reader_number.calls w0 _ g l false (HS.out.below HB1.out) HB01.out HBY.out (by have := HL.out; omega)).mono ?_
  rintro e w2 ⟨rfl, hS2, hB2, hK2⟩
  rw [Bool.false_or] at hS2
  have hne2 : g ≠ b2 := by have := HS.out.lt; have := HG2.out; omega
  have hx2 := hK2.blk HX2.out (fun e => hne2 e.symm) (by simp)
  obtain ⟨t, hT⟩ : ∃ t, takeR l = t := ⟨_, rfl⟩
  rw [hT] at hbd hS2 ⊢
  obtain ⟨u, n, e⟩ := t
  simp only at hbd hS2 ⊢
  have HT := Aside0.mk hT
  have HNE2 := Aside0.mk hne2
  have HS2 := Aside0.mk hS2
  have HB2 := Aside0.mk hB2
  have HK2 := Aside0.mk ((KeepBut.of_below HB1.out g none).trans hK2 (.inl rfl))
  have HX2b := Aside0.mk hx2
  have HBD := Aside0.mk hbd
  clear hne2 hS2 hB2 hK2 hx2 HX2 hT HB1 HS HB01
  by_cases hu : 4004 ≤ u
  · have HIF : Aside0 (∀ y l', ItemIf l y l' true) := ⟨fun y l' => by unfold ItemIf itemR; rw [HT.out, if_pos (.inr (by omega))]⟩
    obtain ⟨c1, c2, c3, c4, f1, f2, f3, f4⟩ := cells4 HX2b.out
    obtain ⟨d1, d2⟩ := HS2.out.cells
    have t0 : decide (u ≥ 4004) = true := decide_eq_true hu
    have hne := HNE2.out
    have hne' := HNE2.out.symm
    clear hbd
    go_wp2
    refine bodyPost_ret (results_cell_row rfl _ _ b2 30 #[.int .i64 0, .int .i64 0, .int .i64 0, .slice none 0 0] (0, 0) _ rfl ?hcell Try.underlying30 rfl (by kernel_rfl)) rfl ?_
    case hcell =>
      refine blk_put (cs := #[.int .i64 0, .int .i64 0, .int .i64 0, .slice none 0 0]) ?_ 3 _ rfl
      refine blk_put (cs := #[.int .i64 0, .int .i64 0, .int .i64 0, .slice none 0 0]) ?_ 2 _ rfl
      refine blk_put (cs := #[.int .i64 0, .int .i64 0, .int .i64 0, .slice none 0 0]) ?_ 1 _ rfl
      refine blk_put (cs := #[.int .i64 0, .int .i64 0, .int .i64 0, .slice none 0 0]) ?_ 0 _ rfl
      exact blk_far HX2b.out hne' _
    have hw2 : w.heap.size ≤ b2 := by have := HG2.out; omega
    have hw0 : w0.heap.size ≤ b2 := by have := HB.out.size; omega
    refine ⟨⟨0, 0, 0, []⟩, .slice none 0 0, l.drop n.toNat, true, rfl, Kd.R_nil _ _ _ _ _, ?_, ?_, ?_, HIF.out _ _, _, rfl⟩
    · exact ((((HS2.out.bad true).far (p := ⟨b2, 0, none⟩) hne _).far (p := ⟨b2, 1, none⟩) hne _).far (p := ⟨b2, 2, none⟩) hne _).far (p := ⟨b2, 3, none⟩) hne _
    · exact ((((HB2.out.setCell (p := ⟨g, 1, none⟩) HS2.out.ge _).setCell (p := ⟨b2, 0, none⟩) hw0 _).setCell (p := ⟨b2, 1, none⟩) hw0 _).setCell (p := ⟨b2, 2, none⟩) hw0 _).setCell (p := ⟨b2, 3, none⟩) hw0 _
    · exact keep_far (keep_far (keep_far (keep_far (KeepBut.set_ HK2.out 1 _) (p := ⟨b2, 0, none⟩) hw2 _) (p := ⟨b2, 1, none⟩) hw2 _) (p := ⟨b2, 2, none⟩) hw2 _) (p := ⟨b2, 3, none⟩) hw2 _
  · have hu0 : 0 ≤ u := hbd.2.2.1
    have t0 : decide (u ≥ 4004) = false := decide_eq_false hu
    have hm0 : 0 ≤ u % 4 := by omega
    have hm1 : u % 4 < 4 := by omega
    have hq0 : 0 ≤ u / 4 := by omega
    have hq1 : u / 4 ≤ 1000 := by omega
    have hu1 : u ≤ 4003 := by omega
    clear hbd
    go_upto_region 6 with (first | ((with_reducible refine gate_dst (N := 4) rfl ?_); refine box_event ?hg (N := 4) ?hd (cs := #[.int .i64 0, .int .i64 0, .int .i64 0, .slice none 0 0]) (t := 30) ?hr ?_; (case hd => rfl); (case hg => rfl); (case hr => first | (go_simp; done) | (go_simp; rfl)); intro b4 hg w3 hbox hb; have HG4 := Aside0.mk hg; have HX4 := Aside0.mk hbox; have HB3 := Aside0.mk hb; obtain ⟨c1, c2, c3, c4, f1, f2, f3, f4⟩ := cells4 hbox; clear hg hbox hb))
    obtain ⟨w4, hw4⟩ : ∃ W, W = (((w3.setCell ⟨b4, 0, none⟩ (.int .i64 (u % 4 + 1))).setCell ⟨b4, 1, none⟩ (.int .i64 (u / 4))).setCell ⟨b4, 2, none⟩ (.int .i64 0)).setCell ⟨b4, 3, none⟩ (.slice none 0 0) := ⟨_, rfl⟩
    rw [← hw4]
    have hb24 : b2 ≠ b4 := by have := blk_lt HX2b.out; have := HG4.out; omega
    have hg4 : g ≠ b4 := by have := HS2.out.lt; have := HG4.out; omega
    have hw2b : w.heap.size ≤ b4 := by have := HG4.out; have := HK2.out.1; omega
    have hw0b : w0.heap.size ≤ b4 := by have := HB.out.size; omega
    have X4 : w4.heap[b4]? = some (.cells #[.int .i64 (u % 4 + 1), .int .i64 (u / 4), .int .i64 0, .slice none 0 0] 30 (0, 0)) := by
      rw [hw4]
      exact blk_set (blk_set (blk_set (blk_set HX4.out 0 _) 1 _) 2 _) 3 _
    have X2 : w4.heap[b2]? = some (.cells #[.int .i64 0, .int .i64 0, .int .i64 0, .slice none 0 0] 30 (0, 0)) := by
      rw [hw4]
      exact blk_far (blk_far (blk_far (blk_far (blk_below HX2b.out HB3.out) (p := ⟨b4, 0, none⟩) hb24 _) (p := ⟨b4, 1, none⟩) hb24 _) (p := ⟨b4, 2, none⟩) hb24 _) (p := ⟨b4, 3, none⟩) hb24 _
    have XS : IsR w0 w4 g (l.drop n.toNat) (decide (e ≠ 0)) := by
      rw [hw4]
      exact ((((HS2.out.below HB3.out).far (p := ⟨b4, 0, none⟩) hg4 _).far (p := ⟨b4, 1, none⟩) hg4 _).far (p := ⟨b4, 2, none⟩) hg4 _).far (p := ⟨b4, 3, none⟩) hg4 _
    have XB : Below w0.heap.size w0 w4 := by
      rw [hw4]
      exact ((((below_step HB2.out HB3.out).setCell (p := ⟨b4, 0, none⟩) hw0b _).setCell (p := ⟨b4, 1, none⟩) hw0b _).setCell (p := ⟨b4, 2, none⟩) hw0b _).setCell (p := ⟨b4, 3, none⟩) hw0b _
    have XK : KeepBut w w4 g none := by
      rw [hw4]
      exact keep_far (keep_far (keep_far (keep_far (HK2.out.trans (KeepBut.of_below HB3.out g none) (.inl rfl)) (p := ⟨b4, 0, none⟩) hw2b _) (p := ⟨b4, 1, none⟩) hw2b _) (p := ⟨b4, 2, none⟩) hw2b _) (p := ⟨b4, 3, none⟩) hw2b _
    have hw2 : w.heap.size ≤ b2 := by have := HG2.out; omega
    have hw0 : w0.heap.size ≤ b2 := by have := HB.out.size; omega
    clear hw4 c1 c2 c3 c4 f1 f2 f3 f4 HX4 HB3 HX2b HS2 HB2 HK2 HG4 HG2
    have HX4 := Aside0.mk X4
    have HX2 := Aside0.mk X2
    have HS := Aside0.mk XS
    have HB4 := Aside0.mk XB
    have HK := Aside0.mk XK
    have HW := Aside0.mk (And.intro hw2b (And.intro hw0b (And.intro hw2 hw0)))
    have HNE := Aside0.mk (And.intro hb24 hg4)
    clear X4 X2 XS XB XK hw2b hw0b hw2 hw0 hb24 hg4 w3
    have hnb := Aside0.mk (show ∀ x ∈ l.drop n.toNat, 0 ≤ x ∧ x < 256 from fun x hx => HBY.out x (List.mem_of_mem_drop hx))
    have hnl := Aside0.mk (show (l.drop n.toNat).length ≤ 140737488355328 by rw [List.length_drop]; have := HL.out; omega)
    have HITEM : Aside0 (itemR l = if e ≠ 0 then none else
        if u % 4 + 1 = 1 then (if (takeR (l.drop n.toNat)).2.2 ≠ 0 then none else some (⟨u % 4 + 1, u / 4, zag (takeR (l.drop n.toNat)).1.toNat, []⟩, (l.drop n.toNat).drop (takeR (l.drop n.toNat)).2.1.toNat))
        else if u % 4 + 1 = 2 then (if (takeR (l.drop n.toNat)).2.2 ≠ 0 ∨ (((l.drop n.toNat).drop (takeR (l.drop n.toNat)).2.1.toNat).length : Int) < (takeR (l.drop n.toNat)).1 then none
          else some (⟨u % 4 + 1, u / 4, 0, ((l.drop n.toNat).drop (takeR (l.drop n.toNat)).2.1.toNat).take (takeR (l.drop n.toNat)).1.toNat⟩, ((l.drop n.toNat).drop (takeR (l.drop n.toNat)).2.1.toNat).drop (takeR (l.drop n.toNat)).1.toNat))
        else some (⟨u % 4 + 1, u / 4, 0, []⟩, l.drop n.toNat)) := ⟨by
      unfold itemR
      rw [HT.out]
      by_cases he : e = 0
      · rw [if_neg (show ¬ (e ≠ 0 ∨ 4003 < u) by omega), if_neg (show ¬ e ≠ 0 by omega)]
      · rw [if_pos (show e ≠ 0 ∨ 4003 < u from .inl he), if_pos he]⟩
    clear HT HBD HBY HL
    obtain ⟨r, hr⟩ : ∃ r, r = l.drop n.toNat := ⟨_, rfl⟩
    rw [← hr] at HITEM hnb hnl HS
    obtain ⟨eb, heb⟩ : ∃ b, b = decide (e ≠ 0) := ⟨_, rfl⟩
    rw [← heb] at HS
    have HRM := Aside0.mk hr
    clear hr
    have HEB := Aside0.mk heb
    clear heb
    obtain ⟨c1, c2, c3, c4, f1, f2, f3, f4⟩ := cells4 HX4.out
    by_cases k1 : u % 4 + 1 = 1
    · have t1 : (u % 4 + 1 == 1) = true := beq_iff_eq.2 k1
      have K1 := Aside0.mk k1
      clear k1
      have hbd := takeR_bd r
      go_wp2_with fail
      refine (reader_number.calls w0 w4 g r eb HS.out HB4.out hnb.out (by have := hnl.out; omega)).mono ?_
      rintro e' w5 ⟨rfl, hS5, hB5, hK5⟩
      obtain ⟨t, hT⟩ : ∃ t, takeR r = t := ⟨_, rfl⟩
      rw [hT] at hbd hS5 HITEM ⊢
      obtain ⟨u2, n2, e2⟩ := t
      simp only at hbd hS5 HITEM ⊢
      have HS5 := Aside0.mk hS5
      have HB5 := Aside0.mk hB5
      have HX45 := Aside0.mk (hK5.blk HX4.out (fun e => HNE.out.2 e.symm) (by simp))
      have HX25 := Aside0.mk (hK5.blk HX2.out (fun e => HNE2.out e.symm) (by simp))
      have HK5 := Aside0.mk (HK.out.trans hK5 (.inl rfl))
      clear hS5 hB5 hK5 hT c1 c2 c3 c4 f1 f2 f3 f4
      go_wp2_with fail
      refine (varint_Zag.calls u2 (zag u2.toNat) _ (zag_f hbd.2.2.1 hbd.2.2.2.1)).mono ?_
      rintro e' w6 ⟨rfl, ⟨nd, rfl⟩⟩
      have hS6 : IsR w0 (w5.drewN nd) g (r.drop n2.toNat) (eb || decide (e2 ≠ 0)) := HS5.out
      have hB6 : Below w0.heap.size w0 (w5.drewN nd) := pw_below_drewN HB5.out _
      have hK6 : KeepBut w (w5.drewN nd) g none := keep_drewN HK5.out _
      have hX46 := blk_drewN HX45.out nd
      have hX26 := blk_drewN HX25.out nd
      clear HS5 HB5 HK5 HX45 HX25
      generalize w5.drewN nd = w7 at hS6 hB6 hK6 hX46 hX26
      obtain ⟨c1, c2, c3, c4, f1, f2, f3, f4⟩ := cells4 hX46
      obtain ⟨d1, d2, d3, d4, h1, h2, h3, h4⟩ := cells4 hX26
      have hne := HNE2.out
      have hne' := HNE2.out.symm
      have hn24 := HNE.out.1
      have hn24' := HNE.out.1.symm
      have HS6 := Aside0.mk hS6
      have HB6 := Aside0.mk hB6
      have HK6 := Aside0.mk hK6
      have HX46 := Aside0.mk hX46
      have HX26 := Aside0.mk hX26
      clear hS6 hB6 hK6 hX46 hX26
      have HIF : Aside0 (ItemIf l (⟨u % 4 + 1, u / 4, zag u2.toNat, []⟩ : Itm) (r.drop n2.toNat) (eb || decide (e2 ≠ 0))) := ⟨by
        unfold ItemIf
        rw [HITEM.out, HEB.out]
        by_cases he : e = 0
        · rw [if_neg (show ¬ e ≠ 0 by omega), if_pos K1.out]
          by_cases he2 : e2 = 0
          · rw [if_neg (show ¬ e2 ≠ 0 by omega)]
            exact ⟨rfl, rfl, by simp [he, he2]⟩
          · rw [if_pos he2]; simp [he2]
        · rw [if_pos he]; simp [he]⟩
      go_wp2
      have HFIN := item_close (W := w7.setCell ⟨b4, 2, none⟩ (.int .i64 (zag u2.toNat))) (y := ⟨u % 4 + 1, u / 4, zag u2.toNat, []⟩) (v := .slice none 0 0) (l' := r.drop n2.toNat) (bad' := eb || decide (e2 ≠ 0))
        (blk_far HX26.out (p := ⟨b4, 2, none⟩) hn24 _) (HS6.out.far (p := ⟨b4, 2, none⟩) HNE.out.2 _) (HB6.out.setCell (p := ⟨b4, 2, none⟩) HW.out.2.1 _) (keep_far HK6.out (p := ⟨b4, 2, none⟩) HW.out.1 _) HNE2.out HW.out.2.2.1 HW.out.2.2.2 (Kd.R_nil _ _ _ _ _) HIF.out ⟨n.toNat + n2.toNat, by rw [HRM.out, List.drop_drop]⟩ rfl
      exact bodyPost_ret (results_cell_row rfl _ _ b2 30 _ (0, 0) _ rfl HFIN.1 Try.underlying30 rfl (by kernel_rfl)) rfl HFIN.2
    · have t1 : (u % 4 + 1 == 1) = false := beq_eq_false_iff_ne.2 k1
      by_cases k2 : u % 4 + 1 = 2
      · have t2 : (u % 4 + 1 == 2) = true := beq_iff_eq.2 k2
        have K2 := Aside0.mk k2
        clear k2
        have hbd := takeR_bd r
        go_wp2_with fail
        refine (reader_number.calls w0 w4 g r eb HS.out HB4.out hnb.out (by have := hnl.out; omega)).mono ?_
        rintro e' w5 ⟨rfl, hS5, hB5, hK5⟩
        obtain ⟨t, hT⟩ : ∃ t, takeR r = t := ⟨_, rfl⟩
        rw [hT] at hbd hS5 HITEM ⊢
        obtain ⟨u2, n2, e2⟩ := t
        simp only at hbd hS5 HITEM ⊢
        have HX45 := Aside0.mk (hK5.blk HX4.out (fun e => HNE.out.2 e.symm) (by simp))
        have HX25 := Aside0.mk (hK5.blk HX2.out (fun e => HNE2.out e.symm) (by simp))
        have HS5 := Aside0.mk hS5
        have HB5 := Aside0.mk hB5
        have HK5 := Aside0.mk (HK.out.trans hK5 (.inl rfl))
        clear hS5 hB5 hK5 hT c1 c2 c3 c4 f1 f2 f3 f4
        go_wp2_with fail
        refine (reader_bytes.calls w0 w5 g (r.drop n2.toNat) (eb || decide (e2 ≠ 0)) u2 HS5.out HB5.out (by rw [List.length_drop]; have := hnl.out; omega) ⟨hbd.2.2.1, hbd.2.2.2.1⟩).mono ?_
        rintro e' w7 ⟨v, y, l', bad', rfl, hR, hS6, hB6, hK6, hIf⟩
        have hX46 := hK6.blk HX45.out (fun e => HNE.out.2 e.symm) (by simp)
        have hX26 := hK6.blk HX25.out (fun e => HNE2.out e.symm) (by simp)
        obtain ⟨c1, c2, c3, c4, f1, f2, f3, f4⟩ := cells4 hX46
        obtain ⟨d1, d2, d3, d4, h1, h2, h3, h4⟩ := cells4 hX26
        have hne := HNE2.out
        have hne' := HNE2.out.symm
        have hn24 := HNE.out.1
        have hn24' := HNE.out.1.symm
        have HR := Aside0.mk (Kd.R_lower hR HK5.out.1)
        have HS6 := Aside0.mk hS6
        have HB6 := Aside0.mk hB6
        have HK6 := Aside0.mk (HK5.out.trans hK6 (.inl rfl))
        have HX46 := Aside0.mk hX46
        have HX26 := Aside0.mk hX26
        have HIf := Aside0.mk hIf
        clear hR hS6 hB6 hK6 hX46 hX26 hIf HX45 HX25 HS5 HB5 HK5
        have HM2 : Aside0 (∃ m, l' = l.drop m) := ⟨by
          have hIf := HIf.out
          unfold BytesIf at hIf
          split at hIf
          · exact ⟨n.toNat + (n2.toNat + u2.toNat), by rw [hIf.2.1, HRM.out, List.drop_drop, List.drop_drop]⟩
          · exact ⟨n.toNat + n2.toNat, by rw [hIf.2, HRM.out, List.drop_drop]⟩⟩
        have HIF : Aside0 (ItemIf l (⟨u % 4 + 1, u / 4, 0, y⟩ : Itm) l' bad') := ⟨by
          have hIf := HIf.out
          unfold BytesIf at hIf
          unfold ItemIf
          rw [HITEM.out]
          rw [HEB.out] at hIf
          by_cases he : e = 0
          · rw [if_neg (show ¬ e ≠ 0 by omega), if_neg k1, if_pos K2.out]
            by_cases he2 : e2 = 0
            · by_cases hlt : ((r.drop n2.toNat).length : Int) < u2
              · rw [if_pos (show e2 ≠ 0 ∨ _ from .inr hlt)]
                rw [if_neg (by omega)] at hIf
                exact hIf.1
              · rw [if_neg (show ¬ (e2 ≠ 0 ∨ ((r.drop n2.toNat).length : Int) < u2) by omega)]
                rw [if_pos (by omega)] at hIf
                obtain ⟨rfl, rfl, rfl⟩ := hIf
                exact ⟨rfl, rfl, by simp [he, he2]⟩
            · rw [if_pos (show e2 ≠ 0 ∨ _ from .inl he2)]
              split at hIf
              · obtain ⟨_, _, rfl⟩ := hIf; simp [he2]
              · exact hIf.1
          · rw [if_pos he]
            split at hIf
            · obtain ⟨_, _, rfl⟩ := hIf; simp [he]
            · exact hIf.1⟩
        obtain ⟨Av, cv, rfl⟩ := Kd.R_slice HR.out
        go_wp2
        have HFIN := item_close (W := w7.setCell ⟨b4, 3, none⟩ (.slice Av y.length cv)) (y := ⟨u % 4 + 1, u / 4, 0, y⟩) (v := .slice Av y.length cv) (l' := l') (bad' := bad')
          (blk_far HX26.out (p := ⟨b4, 3, none⟩) hn24 _) (HS6.out.far (p := ⟨b4, 3, none⟩) HNE.out.2 _) (HB6.out.setCell (p := ⟨b4, 3, none⟩) HW.out.2.1 _) (keep_far HK6.out (p := ⟨b4, 3, none⟩) HW.out.1 _) HNE2.out HW.out.2.2.1 HW.out.2.2.2 (Kd.R_set HR.out HX46.out (by decide) 3 _) HIF.out HM2.out rfl
        exact bodyPost_ret (results_cell_row rfl _ _ b2 30 _ (0, 0) _ rfl HFIN.1 Try.underlying30 rfl (by kernel_rfl)) rfl HFIN.2
      · have t2 : (u % 4 + 1 == 2) = false := beq_eq_false_iff_ne.2 k2
        obtain ⟨d1, d2, d3, d4, h1, h2, h3, h4⟩ := cells4 HX2.out
        have hne := HNE2.out
        have hne' := HNE2.out.symm
        have hn24 := HNE.out.1
        have hn24' := HNE.out.1.symm
        have HIF : Aside0 (ItemIf l (⟨u % 4 + 1, u / 4, 0, []⟩ : Itm) r eb) := ⟨by
          unfold ItemIf
          rw [HITEM.out, HEB.out]
          by_cases he : e = 0
          · rw [if_neg (show ¬ e ≠ 0 by omega), if_neg k1, if_neg k2]
            exact ⟨rfl, rfl, by simp [he]⟩
          · rw [if_pos he]; simp [he]⟩
        go_wp2
        have HFIN := item_close (W := w4) (y := ⟨u % 4 + 1, u / 4, 0, []⟩) (v := .slice none 0 0) (l' := r) (bad' := eb)
          HX2.out HS.out HB4.out HK.out HNE2.out HW.out.2.2.1 HW.out.2.2.2 (Kd.R_nil _ _ _ _ _) HIF.out ⟨n.toNat, HRM.out⟩ rfl
        exact bodyPost_ret (results_cell_row rfl _ _ b2 30 _ (0, 0) _ rfl HFIN.1 Try.underlying30 rfl (by kernel_rfl)) rfl HFIN.2
end Go.Proofs.Ytmiijakcmbolfaa.P
