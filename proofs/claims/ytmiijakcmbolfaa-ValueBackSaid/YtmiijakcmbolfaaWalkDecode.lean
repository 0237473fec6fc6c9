/- value.Decode: the record of any bytes, as plain mathematics says. -/
import Derived.Test.YtmiijakcmbolfaaWalkItem
import Derived.Test.YtmiijakcmbolfaaPx1
set_option linter.unusedVariables false
set_option linter.unusedSimpArgs false
namespace Go.Proofs.Ytmiijakcmbolfaa.P
open Go Go.RowKit Go.Proofs.Ytmiijakcmbolfaa.M Go.Proofs.Ytmiijakcmbolfaa.Link Go.Proofs.YtmiijakcmbolfaaW.PrintWords Go.Proofs.YtmiijakcmbolfaaW.PrintLast

theorem takeR_pos {b : List Int} (h : (takeR b).2.2 = 0) : 1 ≤ (takeR b).2.1 := by
  rcases takeR_cases b with ⟨n, r, hn, rfl, h1⟩ | ⟨_, h1⟩
  · rw [h1]; have := put_len_pos n; simp; omega
  · rw [h1] at h; simp at h
theorem itemR_rest {b r : List Int} {x : Itm} (h : itemR b = some (x, r)) : r.length < b.length ∧ ∃ n, r = b.drop n := by
  have hbd := takeR_bd b
  unfold itemR at h
  split at h
  · cases h
  · rename_i h0
    have h1 := takeR_pos (b := b) (by omega)
    have hl : (b.drop (takeR b).2.1.toNat).length < b.length := by rw [List.length_drop]; omega
    simp only at h
    split at h
    · split at h
      · cases h
      · cases h
        exact ⟨by rw [List.length_drop]; omega, _, List.drop_drop ..⟩
    · split at h
      · split at h
        · cases h
        · cases h
          refine ⟨by rw [List.length_drop, List.length_drop]; omega, (takeR b).2.1.toNat + ((takeR (b.drop (takeR b).2.1.toNat)).2.1.toNat + (takeR (b.drop (takeR b).2.1.toNat)).1.toNat), ?_⟩
          rw [List.drop_drop, List.drop_drop]
      · cases h
        exact ⟨hl, _, rfl⟩

/-- the items of bytes; none: they are none -/
def decR (b : List Int) : Option (List Itm) :=
  if b = [] then some [] else
  match itemR b with
  | none => none
  | some (x, r) => if r.length < b.length then (decR r).map (x :: ·) else none
termination_by b.length
theorem decR_nil : decR [] = some [] := by rw [decR]; simp
theorem decR_none {b : List Int} (hb : b ≠ []) (h : itemR b = none) : decR b = none := by rw [decR, if_neg hb, h]
theorem decR_some {b r : List Int} {x : Itm} (hb : b ≠ []) (h : itemR b = some (x, r)) : decR b = (decR r).map (x :: ·) := by
  rw [decR, if_neg hb, h]
  simp only
  rw [if_pos (itemR_rest h).1]
def decodeR (b : List Int) : List Itm × Int :=
  match decR b with
  | some l => if b.length ≤ 4096 ∧ rightAt 0 l = true then (l, 0) else ([], 2)
  | none => ([], 2)

structure Dinv (l0 : List Int) (acc : List Itm) (rest : List Int) (bad : Bool) : Prop where
  bytes : ∀ x ∈ rest, 0 ≤ x ∧ x < 256
  short : rest.length ≤ l0.length
  len : acc.length ≤ l0.length + 1
  fine : bad = false → acc.length + rest.length ≤ l0.length ∧ decR l0 = (decR rest).map (acc ++ ·)
  none : bad = true → decR l0 = none

theorem dinv_step {l0 : List Int} {acc : List Itm} {rest l' : List Int} {bad' : Bool} {y : Itm} (h : Dinv l0 acc rest false) (hne : rest ≠ []) (hif : ItemIf rest y l' bad') (hlen : l'.length ≤ rest.length) (hby : ∀ x ∈ l', 0 ≤ x ∧ x < 256) :
    Dinv l0 (acc ++ [y]) l' bad' ∧ (bad' = false → l'.length < rest.length) := by
  obtain ⟨h1, h2⟩ := h.fine rfl
  have hpos : 0 < rest.length := List.length_pos_iff.2 hne
  unfold ItemIf at hif
  cases hi : itemR rest with
  | none =>
    rw [hi] at hif
    refine ⟨⟨hby, by have := h.short; omega, by simp; omega, fun e => (by rw [hif] at e; cases e), fun _ => ?_⟩, fun e => (by rw [hif] at e; cases e)⟩
    rw [h2, decR_none hne hi]; rfl
  | some p =>
    obtain ⟨x, r⟩ := p
    rw [hi] at hif
    obtain ⟨rfl, rfl, rfl⟩ := hif
    have hr := (itemR_rest hi).1
    refine ⟨⟨hby, by have := h.short; omega, by simp; omega, fun _ => ⟨by simp; omega, ?_⟩, fun e => (by cases e)⟩, fun _ => hr⟩
    rw [h2, decR_some hne hi, Option.map_map]
    congr 1
    funext z
    simp

def DecPost (w : World) (l0 : List Int) (e : Ending) (w' : World) : Prop :=
  ∃ v : Value, e = .returned (.tuple #[v, .int .i64 (decodeR l0).2]) ∧ Kd.R k30 30 w' w.heap.size (fun _ => True) v (decodeR l0).1 ∧ Below w.heap.size w w'

set_option maxRecDepth 100000 in
set_option maxHeartbeats 4000000 in
theorem value_Decode.calls (A0 : Option Addr) (c0 : Nat) (l0 : List Int) (w : World) (hr0 : Kd.C (Kd.int .u8) w A0 l0.length l0) (hc0 : l0.length ≤ c0) (hby : ∀ x ∈ l0, 0 ≤ x ∧ x < 256) (hl : l0.length < 1099511627776) :
    Calls Try.prog 21 #[.slice A0 l0.length c0] w (DecPost w l0) := by
  have HR0 := Aside0.mk hr0
  have HC0 := Aside0.mk hc0
  have HBY := Aside0.mk hby
  have HL := Aside0.mk hl
  have HB := Aside0.mk (Below.refl w.heap.size w)
  clear hr0 hc0 hby hl
  go_enter Try.func21, Try.ntmps21
  go_wp2_with (first | ((with_reducible refine gate_dst (N := 8) rfl ?_); refine box_event ?hg (N := 8) ?hd (cs := #[.slice A0 l0.length c0, .bool false]) (t := 55) ?hr ?_; (case hd => rfl); (case hg => rfl); (case hr => first | (go_simp; done) | (go_simp; rfl)); intro g hg w1 hbox hb; have HG := Aside0.mk hg; have HX := Aside0.mk hbox; have HB1 := Aside0.mk hb; clear hg hbox hb))
  have HB01 := Aside0.mk (below_step HB.out HB1.out)
  have HGE := Aside0.mk (show w.heap.size ≤ g by have := HG.out; omega)
  have HS1 : Aside0 (IsR w w1 g l0 false) := ⟨A0, c0, HX.out, HGE.out, HC0.out, HR0.out⟩
  clear HX HB1 HG HB HR0 HC0
  go_loopg [4] (l0.length + 2) (fun kq v4 wr => ∃ (acc : List Itm) (rest : List Int) (bad : Bool), Aside0 (Kd.R k30 30 wr w.heap.size (fun k => k ≠ g) v4 acc) ∧ Aside0 (IsR w wr g rest bad) ∧ Aside0 (Below w.heap.size w wr) ∧ Aside0 (Dinv l0 acc rest bad) ∧ Aside0 ((if bad = true then 0 else rest.length) < kq))
  case atStart =>
    exact ⟨[], l0, false, ⟨Kd.R_nil _ _ _ _ _⟩, HS1, HB01, ⟨⟨HBY.out, Nat.le_refl _, by simp, fun _ => ⟨by simp, by simp⟩, fun e => by cases e⟩⟩, ⟨by simp⟩⟩
  case round =>
    clear HS1 HB01
    obtain ⟨acc, rest, bad, HO, HS, HB, HI, HK⟩ := hrel
    cases gk with
    | zero => exact absurd HK.out (by omega)
    | succ k3 =>
    cases bad with
    | true =>
      have hne := HI.out.none rfl
      have HD : Aside0 (decodeR l0 = ([], 2)) := ⟨by unfold decodeR; rw [hne]⟩
      obtain ⟨A, c, hb, hg, hc, hC⟩ := HS.out
      have c0 : wr.cell? ⟨g, 0, none⟩ = some (.slice A rest.length c) := (blk_cell hb 0).trans rfl
      have c1 : wr.cell? ⟨g, 1, none⟩ = some (.bool true) := (blk_cell hb 1).trans rfl
      clear hb hg hc hC hne
      cases rest with
      | nil =>
        go_wp2
        go_ret2
        exact ⟨.slice none 0 0, by rw [HD.out]; rfl, by rw [HD.out]; exact Kd.R_nil _ _ _ _ _, HB.out⟩
      | cons x r =>
        have t0 : decide ((0 : Int) < ((x :: r).length : Int)) = true := decide_eq_true (by simp)
        have t1 : decide (((x :: r).length : Int) > 0) = true := decide_eq_true (by simp)
        have t2 : decide (0 < (x :: r).length) = true := decide_eq_true (by simp)
        generalize (x :: r).length = n at c0 t0 t1 t2
        go_wp2
        go_ret2
        exact ⟨.slice none 0 0, by rw [HD.out]; rfl, by rw [HD.out]; exact Kd.R_nil _ _ _ _ _, HB.out⟩
    | false =>
      obtain ⟨A, c, hb, hg, hc, hC⟩ := HS.out
      have c0 : wr.cell? ⟨g, 0, none⟩ = some (.slice A rest.length c) := (blk_cell hb 0).trans rfl
      have c1 : wr.cell? ⟨g, 1, none⟩ = some (.bool false) := (blk_cell hb 1).trans rfl
      clear hb hg hc hC
      by_cases hr : rest = []
      · subst hr
        have hf := HI.out.fine rfl
        rw [decR_nil] at hf
        have HDR : Aside0 (decR l0 = some acc) := ⟨by rw [hf.2]; simp⟩
        have HAL : Aside0 (acc.length ≤ l0.length) := ⟨by have := hf.1; simp at this; exact this⟩
        clear hf
        by_cases hlen : (l0.length : Int) > 4096
        · have HD : Aside0 (decodeR l0 = ([], 2)) := ⟨by unfold decodeR; rw [HDR.out]; simp only; rw [if_neg (by omega)]⟩
          have t0 : decide ((l0.length : Int) > 4096) = true := decide_eq_true hlen
          have t1 : decide ((4096 : Int) < (l0.length : Int)) = true := decide_eq_true hlen
          have t2 : decide (4096 < l0.length) = true := decide_eq_true (by omega)
          go_wp2
          go_ret2
          exact ⟨.slice none 0 0, by rw [HD.out]; rfl, by rw [HD.out]; exact Kd.R_nil _ _ _ _ _, HB.out⟩
        · have t0 : decide ((l0.length : Int) > 4096) = false := decide_eq_false hlen
          have t1 : decide ((4096 : Int) < (l0.length : Int)) = false := decide_eq_false hlen
          have t2 : decide (4096 < l0.length) = false := decide_eq_false (by omega)
          obtain ⟨Av, cv, rfl⟩ := Kd.R_slice HO.out
          obtain ⟨tr, htr⟩ : ∃ t, t = rightAt 0 acc := ⟨_, rfl⟩
          have HRT := Aside0.mk (right_f (l := acc) (k := acc.length + 2) (by have := HAL.out; have := HL.out; omega) (Nat.le_refl _))
          rw [← htr] at HRT
          have HD : Aside0 (decodeR l0 = if tr = true then (acc, 0) else ([], 2)) := ⟨by unfold decodeR; rw [HDR.out, htr]; simp only; by_cases hh : rightAt 0 acc = true; rw [if_pos ⟨by omega, hh⟩, if_pos hh]; rw [if_neg (fun e => hh e.2), if_neg hh]⟩
          clear htr
          go_wp2_with fail
          refine (value_Right.calls (acc.length + 2) _ _ acc tr _ (Kd.R_reads' HO.out).2.2 (Kd.R_reads' HO.out).2.1 HRT.out).mono ?_
          rintro e w5 ⟨rfl, hb5⟩
          have HB5 := Aside0.mk (below_step HB.out hb5)
          have HO5 := Aside0.mk (Kd.R_step HO.out (fun k _ hlt => hb5.block k hlt))
          clear hb5
          cases tr with
          | true =>
            go_wp2
            go_ret2
            exact ⟨_, by rw [HD.out]; rfl, by rw [HD.out]; exact Kd.R_mono HO5.out (fun _ _ => trivial), HB5.out⟩
          | false =>
            go_wp2
            go_ret2
            exact ⟨.slice none 0 0, by rw [HD.out]; rfl, by rw [HD.out]; exact Kd.R_nil _ _ _ _ _, HB5.out⟩
      · have hpos : 0 < rest.length := List.length_pos_iff.2 hr
        have t0 : decide ((0 : Int) < (rest.length : Int)) = true := decide_eq_true (by omega)
        have t1 : decide ((rest.length : Int) > 0) = true := decide_eq_true (by omega)
        have t2 : decide (0 < rest.length) = true := decide_eq_true hpos
        have HR := Aside0.mk hr
        clear hr
        go_wp2_with fail
        have hi := HI.out
        refine (reader_item.calls w wr g rest HS.out HB.out hi.bytes (by have := hi.short; have := HL.out; omega)).mono ?_
        clear hi
        rintro e w5 ⟨y, v, l', bad', rfl, hR, hS5, hB5, hK5, hIf, m, hm⟩
        have hst := dinv_step HI.out HR.out hIf (by rw [hm, List.length_drop]; omega) (fun x hx => HI.out.bytes x (List.mem_of_mem_drop (hm ▸ hx)))
        have HST := Aside0.mk hst
        have HAL : Aside0 (acc.length < 1099511627776) := ⟨by have := (HI.out.fine rfl).1; have := HL.out; omega⟩
        have HLT := Aside0.mk (Kd.R_lt HO.out)
        have HGL := Aside0.mk HS.out.lt
        have HO5 := Aside0.mk (Kd.R_keep HO.out hK5 (fun _ h => h))
        have HWS := Aside0.mk HB.out.size
        obtain ⟨Av, cv, rfl⟩ := Kd.R_slice hR
        have HV := Aside0.mk (Kd.R_lower (Kd.R_mono (Kd.R_bound hR) (fun k hk => hk.2.1)) HB.out.size)
        have HS5 := Aside0.mk hS5
        have HB5 := Aside0.mk hB5
        have HKP : Aside0 ((if bad' = true then 0 else l'.length) < k3) := ⟨by
          have h1 := HK.out
          have h2 := hst.2
          cases bad' with
          | true => simp at h1 ⊢; omega
          | false => have := h2 rfl; simp at h1 ⊢; omega⟩
        clear hst hR hS5 hB5 hK5 hIf hm HI HK HS HB c0 c1 t0 t1 t2 hpos
        go_wp2_with (first | ((with_reducible refine gate_builtin (b := .append) (xs := #[.tmp 22, .tmp 25]) rfl ?_); at_builtin; refine Kd.R_append k30 (w0 := w) w.heap.size rfl (.tmp 22) (.tmp 25) 22 30 (.agg #[.int .i64 0, .int .i64 0, .int .i64 0, .slice none 0 0]) 48 rfl Try.underlying22 info30 rfl (by decide) (by omega) u4 acc y [.int .i64 y.f0, .int .i64 y.f1, .int .i64 y.f2, .slice Av y.f3.length cv] (fun k => k ≠ g) (fun k => wr.heap.size ≤ k) rfl rfl (k30_mkM _ _ _ _ HV.out) ?aP ?aF HO5.out HB5.out ?aS ?aL ?_; (case aP => exact fun k hk => ⟨by have := HGL.out; omega, fun e => by have := HLT.out k e.symm; omega⟩); (case aF => exact fun k hk => by have := HS5.out.lt; omega); (case aS => exact HB5.out.size); (case aL => have := HAL.out; omega); intro v6 w6 ho6 hb6 hg6 hat6; have HO6 := Aside0.mk ho6; have HB6 := Aside0.mk hb6; have HS6 := Aside0.mk (HS5.out.keep hg6 (fun e => HO5.out.1 g e.symm rfl)); clear ho6 hb6 hg6 hat6))
        go_roundg k3
        case measure => omega
        case rel => exact ⟨_, _, _, HO6, HS6, HB6, ⟨HST.out.1⟩, HKP⟩
end Go.Proofs.Ytmiijakcmbolfaa.P
