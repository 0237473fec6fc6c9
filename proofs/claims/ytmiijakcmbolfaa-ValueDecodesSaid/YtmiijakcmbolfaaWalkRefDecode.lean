/- The reference's Decode of chapter 2: the record of any bytes, as plain mathematics says. -/
import Derived.Test.YtmiijakcmbolfaaWalkRefItem
import Derived.Test.YtmiijakcmbolfaaLinkRefItems
import Derived.Test.YtmiijakcmbolfaaPx3
set_option linter.unusedVariables false
set_option linter.unusedSimpArgs false
namespace Go.Proofs.Ytmiijakcmbolfaa.P
open Go Go.RowKit Go.Proofs.Ytmiijakcmbolfaa.M Go.Proofs.Ytmiijakcmbolfaa.Link Go.Proofs.YtmiijakcmbolfaaW.PrintWords Go.Proofs.YtmiijakcmbolfaaW.PrintLast

set_option maxRecDepth 100000 in
set_option maxHeartbeats 4000000 in
theorem selvageref02_Decode.calls2 (A0 : Option Addr) (c0 : Nat) (l0 : List Int) (w : World) (hr0 : Kd.C (Kd.int .u8) w A0 l0.length l0) (hc0 : l0.length ≤ c0) (hby : ∀ x ∈ l0, 0 ≤ x ∧ x < 256) (hl : l0.length < 1099511627776) :
    Calls Try.prog 22 #[.slice A0 l0.length c0] w (DecPost w l0) := by
  have HR0 := Aside0.mk hr0
  have HC0 := Aside0.mk hc0
  have HBY := Aside0.mk hby
  have HL := Aside0.mk hl
  have HB := Aside0.mk (Below.refl w.heap.size w)
  clear hr0 hc0 hby hl
  by_cases hlen : (l0.length : Int) > 4096
  · have HD : Aside0 (decodeR l0 = ([], 2)) := ⟨by unfold decodeR; split; rw [if_neg (by omega)]; rfl⟩
    have t0 : decide ((l0.length : Int) > 4096) = true := decide_eq_true hlen
    have t1 : decide ((4096 : Int) < (l0.length : Int)) = true := decide_eq_true hlen
    have t2 : decide (4096 < l0.length) = true := decide_eq_true (by omega)
    go_enter Try.func22, Try.ntmps22
    go_wp2
    go_ret2
    exact ⟨.slice none 0 0, by rw [HD.out]; rfl, by rw [HD.out]; exact Kd.R_nil _ _ _ _ _, HB.out⟩
  · have HNL := Aside0.mk hlen
    have t0 : decide ((l0.length : Int) > 4096) = false := decide_eq_false hlen
    have t1 : decide ((4096 : Int) < (l0.length : Int)) = false := decide_eq_false hlen
    have t2 : decide (4096 < l0.length) = false := decide_eq_false (by omega)
    go_enter Try.func22, Try.ntmps22
    go_wp2
    clear t0 t1 t2 hlen
    go_loopg [0, 4] (l0.length + 1) (fun kq v0 v4 wr => ∃ (acc : List Itm) (rest : List Int) (A : Option Addr) (c : Nat), v0 = .slice A rest.length c ∧ Aside0 (Kd.C (Kd.int .u8) w A rest.length rest) ∧ Aside0 (rest.length ≤ c) ∧ Aside0 (Kd.R k30 30 wr w.heap.size (fun _ => True) v4 acc) ∧ Aside0 (Below w.heap.size w wr) ∧ Aside0 (Dinv l0 acc rest false) ∧ Aside0 (rest.length < kq))
    case atStart =>
      exact ⟨[], l0, A0, c0, rfl, HR0, HC0, ⟨Kd.R_nil _ _ _ _ _⟩, HB, ⟨⟨HBY.out, Nat.le_refl _, by simp, fun _ => ⟨by simp, by simp⟩, fun e => by cases e⟩⟩, ⟨by simp⟩⟩
    case round =>
      clear HB
      obtain ⟨acc, rest, A, c, rfl, HR, HC, HO, HB, HI, HK⟩ := hrel
      cases gk with
      | zero => exact absurd HK.out (by omega)
      | succ k3 =>
      by_cases hr : rest = []
      · subst hr
        have hf := HI.out.fine rfl
        rw [decR_nil] at hf
        have HDR : Aside0 (decR l0 = some acc) := ⟨by rw [hf.2]; simp⟩
        have HAL : Aside0 (acc.length ≤ l0.length) := ⟨by have := hf.1; simp at this; exact this⟩
        clear hf
        obtain ⟨Av, cv, rfl⟩ := Kd.R_slice HO.out
        obtain ⟨tr, htr⟩ : ∃ t, t = rightAt 0 acc := ⟨_, rfl⟩
        have HRT := Aside0.mk (refRight_f (l := acc) (k := 2 * acc.length + 2) (by have := HAL.out; have := HL.out; omega) (Nat.le_refl _))
        rw [← htr] at HRT
        have HD : Aside0 (decodeR l0 = if tr = true then (acc, 0) else ([], 2)) := ⟨by
          have := HNL.out
          unfold decodeR; rw [HDR.out, htr]; simp only; by_cases hh : rightAt 0 acc = true; rw [if_pos ⟨by omega, hh⟩, if_pos hh]; rw [if_neg (fun e => hh e.2), if_neg hh]⟩
        clear htr
        go_wp2_with fail
        refine (selvageref02_Right.calls (2 * acc.length + 2) _ _ acc tr _ (Kd.R_reads' HO.out).2.2 (Kd.R_reads' HO.out).2.1 HRT.out).mono ?_
        rintro e w5 ⟨rfl, hb5⟩
        have HB5 := Aside0.mk (below_step HB.out hb5)
        have HO5 := Aside0.mk (Kd.R_step HO.out (fun k _ hlt => hb5.block k hlt))
        clear hb5
        cases tr with
        | true =>
          go_wp2
          go_ret2
          exact ⟨_, by rw [HD.out]; rfl, by rw [HD.out]; exact HO5.out, HB5.out⟩
        | false =>
          go_wp2
          go_ret2
          exact ⟨.slice none 0 0, by rw [HD.out]; rfl, by rw [HD.out]; exact Kd.R_nil _ _ _ _ _, HB5.out⟩
      · have hpos : 0 < rest.length := List.length_pos_iff.2 hr
        have t0 : decide ((0 : Int) < (rest.length : Int)) = true := decide_eq_true (by omega)
        have t1 : decide ((rest.length : Int) > 0) = true := decide_eq_true (by omega)
        have t2 : decide (0 < rest.length) = true := decide_eq_true hpos
        have HRN := Aside0.mk hr
        clear hr
        go_wp2_with fail
        have hi := HI.out
        refine (selvageref02_item.calls2 A c rest w wr HB.out HR.out HC.out hi.bytes (by have := hi.short; have := HL.out; omega)).mono ?_
        clear hi
        rintro e w5 ⟨y, v, A', c', r, ok, rfl, hR, hC, hc, hb5, hIf⟩
        have HO5 := Aside0.mk (Kd.R_step HO.out (fun k _ hlt => hb5.block k hlt))
        have HLT := Aside0.mk (Kd.R_lt HO.out)
        have HB5 := Aside0.mk (below_step HB.out hb5)
        have HWS := Aside0.mk hb5.size
        obtain ⟨Av, cv, rfl⟩ := Kd.R_slice hR
        have HV := Aside0.mk (Kd.R_lower (Kd.R_mono (Kd.R_bound hR) (fun k hk => hk.2.1)) HB.out.size)
        have HC' := Aside0.mk hC
        have HCC := Aside0.mk hc
        have HIf := Aside0.mk hIf
        clear hR hC hc hb5 hIf HB HO
        cases ok with
        | false =>
          have HD : Aside0 (decodeR l0 = ([], 2)) := ⟨by
            have hIf := HIf.out
            have hfi := (HI.out.fine rfl).2
            unfold RefIf at hIf
            cases hi : itemR rest with
            | none => rw [decR_none HRN.out hi] at hfi; unfold decodeR; rw [hfi]; rfl
            | some p => rw [hi] at hIf; exact absurd hIf.2.2 (by simp)⟩
          go_wp2_with (first | ((with_reducible refine gate_dst (N := 5) rfl ?_); refine box_event ?hg (N := 5) ?hd (cs := #[.int .i64 0, .int .i64 0, .int .i64 0, .slice none 0 0]) (t := 30) ?hr ?_; (case hd => rfl); (case hg => rfl); (case hr => first | (go_simp; done) | (go_simp; rfl)); intro b5 hg w6 hbox hb; have HG5 := Aside0.mk hg; have HB6 := Aside0.mk hb; obtain ⟨c1, c2, c3, c4, f1, f2, f3, f4⟩ := cells4 hbox; clear hg hbox hb))
          go_ret2
          have hw : w.heap.size ≤ b5 := by have := HG5.out; have := HB5.out.size; omega
          exact ⟨.slice none 0 0, by rw [HD.out]; rfl, by rw [HD.out]; exact Kd.R_nil _ _ _ _ _, ((((below_step HB5.out HB6.out).setCell (p := ⟨b5, 0, none⟩) hw _).setCell (p := ⟨b5, 1, none⟩) hw _).setCell (p := ⟨b5, 2, none⟩) hw _).setCell (p := ⟨b5, 3, none⟩) hw _⟩
        | true =>
          have hi : itemR rest = some (y, r) := by
            have hIf := HIf.out
            unfold RefIf at hIf
            cases hi : itemR rest with
            | none => rw [hi] at hIf; exact absurd hIf (by simp)
            | some p => obtain ⟨x, q⟩ := p; rw [hi] at hIf; obtain ⟨rfl, rfl, _⟩ := hIf; rfl
          have hrr := itemR_rest hi
          have hst := dinv_step (y := y) (l' := r) (bad' := false) HI.out HRN.out (by unfold ItemIf; rw [hi]; exact ⟨rfl, rfl, rfl⟩) (by omega) (fun x hx => by obtain ⟨n, hn⟩ := hrr.2; exact HI.out.bytes x (List.mem_of_mem_drop (hn ▸ hx)))
          have HST := Aside0.mk hst.1
          have HKP : Aside0 (r.length < k3) := ⟨by have := HK.out; omega⟩
          have HAL : Aside0 (acc.length < 1099511627776) := ⟨by have := (HI.out.fine rfl).1; have := HL.out; omega⟩
          clear hi hrr hst HI HK HIf t0 t1 t2 hpos
          go_upto_region 8 with (first | ((with_reducible refine gate_dst (N := 5) rfl ?_); refine box_event ?hg (N := 5) ?hd (cs := #[.int .i64 0, .int .i64 0, .int .i64 0, .slice none 0 0]) (t := 30) ?hr ?_; (case hd => rfl); (case hg => rfl); (case hr => first | (go_simp; done) | (go_simp; rfl)); intro b5 hg w6 hbox hb; have HG5 := Aside0.mk hg; have HX5 := Aside0.mk hbox; have HB6 := Aside0.mk hb; obtain ⟨c1, c2, c3, c4, f1, f2, f3, f4⟩ := cells4 hbox; clear hg hbox hb))
          obtain ⟨w7, hw7⟩ : ∃ W, W = (((w6.setCell ⟨b5, 0, none⟩ (.int .i64 y.f0)).setCell ⟨b5, 1, none⟩ (.int .i64 y.f1)).setCell ⟨b5, 2, none⟩ (.int .i64 y.f2)).setCell ⟨b5, 3, none⟩ (.slice Av y.f3.length cv) := ⟨_, rfl⟩
          rw [← hw7]
          have X5 : w7.heap[b5]? = some (.cells #[.int .i64 y.f0, .int .i64 y.f1, .int .i64 y.f2, .slice Av y.f3.length cv] 30 (0, 0)) := by
            rw [hw7]
            exact blk_set (blk_set (blk_set (blk_set HX5.out 0 _) 1 _) 2 _) 3 _
          have hg5 : w5.heap.size ≤ b5 := Nat.le_of_eq HG5.out.symm
          have XB : Below w5.heap.size w5 w7 := by
            rw [hw7]
            exact (((HB6.out.setCell (p := ⟨b5, 0, none⟩) hg5 _).setCell (p := ⟨b5, 1, none⟩) hg5 _).setCell (p := ⟨b5, 2, none⟩) hg5 _).setCell (p := ⟨b5, 3, none⟩) hg5 _
          clear c1 c2 c3 c4 f1 f2 f3 f4 hw7 HX5 HB6
          obtain ⟨c1, c2, c3, c4, f1, f2, f3, f4⟩ := cells4 X5
          have HO7 := Aside0.mk (Kd.R_step HO5.out (fun k _ hlt => XB.block k hlt))
          have HV7 := Aside0.mk (Kd.R_step HV.out (fun k _ hlt => XB.block k hlt))
          have HB7 := Aside0.mk (below_step HB5.out XB)
          clear X5 XB hg5 HO5 HV HB5 w6
          go_wp2_with (first | ((with_reducible refine gate_builtin (b := .append) (xs := #[.tmp 23, .tmp 25]) rfl ?_); at_builtin; refine Kd.R_append k30 (w0 := w) w.heap.size rfl (.tmp 23) (.tmp 25) 22 30 (.agg #[.int .i64 0, .int .i64 0, .int .i64 0, .slice none 0 0]) 48 rfl Try.underlying22 info30 rfl (by decide) (by omega) u4 acc y [.int .i64 y.f0, .int .i64 y.f1, .int .i64 y.f2, .slice Av y.f3.length cv] (fun _ => True) (fun k => wr.heap.size ≤ k) rfl rfl (k30_mkM _ _ _ _ HV7.out) ?aP ?aF HO7.out HB7.out ?aS ?aL ?_; (case aP => exact fun k hk => ⟨trivial, fun e => by have := HLT.out k e.symm; omega⟩); (case aF => exact fun k hk => trivial); (case aS => exact HB7.out.size); (case aL => have := HAL.out; omega); intro v8 w8 ho8 hb8 hg8 hat8; have HO8 := Aside0.mk ho8; have HB8 := Aside0.mk hb8; clear ho8 hb8 hg8 hat8))
          go_roundg k3
          case measure => omega
          case rel => exact ⟨_, _, _, _, rfl, HC', HCC, HO8, HB8, HST, HKP⟩
end Go.Proofs.Ytmiijakcmbolfaa.P
