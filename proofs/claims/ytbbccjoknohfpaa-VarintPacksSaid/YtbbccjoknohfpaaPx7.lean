-- Printed by a program of this session over the kit's print: all laws of the seat in one namespace, some texts by hand.
import Derived.Test.YtbbccjoknohfpaaPx0
import Derived.Test.YtbbccjoknohfpaaPx1
import Derived.Test.YtbbccjoknohfpaaPx2
import Derived.Test.YtbbccjoknohfpaaLawRange
import Derived.Test.YtbbccjoknohfpaaLinkVarint
import Derived.Test.YtbbccjoknohfpaaMathUnpack
import Derived.Shelf.Abstract
import Derived.OwnWalkIn
import Derived.TacticsInMore
import Derived.LoopNIn
import Derived.LoopIn
import Derived.Maps.AppendAt
import Derived.Lib.Hide
namespace Go.Proofs.Ytbbccjoknohfpaa.P
open Go.RowKit Go.Proofs.YtbbccjoknohfpaaW.PrintWords Go.Proofs.YtbbccjoknohfpaaW.PrintLast Go.Proofs.YtbbccjoknohfpaaW.PrintMore
attribute [local go_sem] max2_int min2_int max_two min_two max_three min_three max_four min_four   -- for this text's walks alone
set_option linter.unusedVariables false
set_option linter.unusedSimpArgs false

--HAND Derived.Test.YtbbccjoknohfpaaLawRange Derived.Test.YtbbccjoknohfpaaLinkVarint Derived.Test.YtbbccjoknohfpaaMathUnpack Derived.Shelf.Abstract Derived.OwnWalkIn Derived.TacticsInMore Derived.LoopNIn Derived.LoopIn Derived.Maps.AppendAt Derived.Lib.Hide
/-! ### varint_Unpack: function 20, by hand -/
open Go.Shelf Go.Proofs.Ytbbccjoknohfpaa.R Go.Proofs.Ytbbccjoknohfpaa.M Go.Proofs.Ytbbccjoknohfpaa.Link
attribute [local go_sem] Oper.semAt_some

def isBytes (l : List Int) : Bool := l.all fun x => decide (0 ≤ x) && decide (x < 256)
theorem isBytes_mem {l : List Int} (h : isBytes l = true) : ∀ x ∈ l, 0 ≤ x ∧ x < 256 := by
  intro x hx
  have := List.all_eq_true.1 h x hx
  simpa using this
theorem mem_isBytes {l : List Int} (h : ∀ x ∈ l, 0 ≤ x ∧ x < 256) : isBytes l = true := by
  refine List.all_eq_true.2 fun x hx => ?_
  have := h x hx
  simpa using this

def varint_Unpack.f (l0 : List Int) : Option (List Int × Int) := if isBytes l0 = true then (if l0.length < 17592186044416 then some (unpackR l0) else none) else none

/-- what a round keeps: what lay below n₀, and the block of the iterator's own variable -/
def KeepsB (n₀ Bn : Nat) (W W' : World) : Prop := Below n₀ W W' ∧ W'.heap[Bn]? = W.heap[Bn]?

/-- the length of the slice in a variable: the loop's measure -/
def lenAt (W : World) (Bn : Nat) : Nat := match W.cell? ⟨Bn, 0, none⟩ with | some (.slice _ n _) => n | _ => 0

theorem grown_drewN (W : World) (a : Nat) : W.grownBy (W.drewN a) none := ⟨rfl, rfl, rfl, Nat.le_refl _, fun _ _ _ => rfl⟩

set_option maxRecDepth 100000 in
set_option maxHeartbeats 4000000 in
theorem varint_numbers1_in (l Bn : Nat) (w0 : World) (A0 : Option Addr) (c0 : Nat) (l0 : List Int) (hC : Kd.C (Kd.int .u8) w0 A0 l0.length l0) (hc0 : l0.length ≤ c0) (hby : ∀ x ∈ l0, 0 ≤ x ∧ x < 256) (hlt : l0.length < 17592186044416)
    (J Jx : List (Int × Bool) → World → Prop)
    (hJ : ∀ s W W', J s W → W.grownBy W' none → J s W') (hJs : StoresX (fun k => k = Bn) J)
    (hY : ∀ pre x W, J pre W → pre.length < (items l0).length → YieldAt Fence.wide 7 Try.prog l #[.int .i64 x.1, .bool x.2] W fun e W' =>
      (e = .returned (.bool true) ∧ J (pre ++ [x]) W' ∧ KeepsB w0.heap.size Bn W W') ∨ (e = .returned (.bool false) ∧ Jx (pre ++ [x]) W'))
    (W : World) (hB : Below w0.heap.size w0 W) (hBn : w0.heap.size ≤ Bn) (hX : Boxed W Bn 25 (.slice A0 l0.length c0)) (h0 : J [] W) :
    CallsIn Fence.wide 8 Try.prog 24 #[.func (.yield l) #[] #[], .pointer (some ⟨Bn, 0, none⟩)] W fun e W' => (∃ v, e = .returned v) ∧
      ((∃ ys, ys = items l0 ∧ J ys W') ∨ (∃ pre, pre <+: items l0 ∧ Jx pre W')) := by
  refine callsIn_of_wp Try.func24 rfl trivial ?_ rfl
  simp only [Try.ntmps24, List.size_toArray, List.length_cons, List.length_nil, Nat.reduceAdd, Nat.reduceSub, Array.replicate_succ, Array.replicate_zero, List.push_toArray, List.append_toArray, List.nil_append, List.cons_append]
  gi_wp2
  gi_loopw [3] (fun v3 wr => ∃ (pre : List (Int × Bool)) (r : List Int) (A' : Option Addr) (c' : Nat), items l0 = pre ++ items r ∧ Boxed wr Bn 25 (.slice A' r.length c') ∧ Kd.C (Kd.int .u8) w0 A' r.length r ∧ r.length ≤ c' ∧ (∀ x ∈ r, 0 ≤ x ∧ x < 256) ∧ r.length ≤ l0.length ∧ J pre wr ∧ Below w0.heap.size w0 wr)
    (fun v3 wr => lenAt wr Bn)
  case atStart => exact ⟨[], l0, A0, c0, rfl, hX, hC, hc0, hby, Nat.le_refl _, h0, hB⟩
  case round =>
    clear hX h0 hB hC hc0
    obtain ⟨pre, r, A', c', hit, hX, hCr, hcr, hbr, hrl, hJp, hBr⟩ := hrel
    by_cases hr0 : r = []
    · subst hr0
      have hc := hX.cell
      have t0 : decide (0 < ([] : List Int).length) = false := rfl
      have t1 : decide ((0 : Int) < (([] : List Int).length : Int)) = false := rfl
      gi_wp2
      go_end0
      rw [items_nil, List.append_nil] at hit
      exact ⟨⟨_, rfl⟩, .inl ⟨pre, hit.symm, hJp⟩⟩
    · have hpos : 0 < r.length := List.length_pos_iff.2 hr0
      have t0 : decide (0 < r.length) = true := decide_eq_true hpos
      have t1 : decide ((0 : Int) < (r.length : Int)) = true := decide_eq_true (by omega)
      have hX0 := hX
      have hc := hX.cell
      have hfz := hX.frozen
      have htk := take_f (k := 22) hbr (by omega) (Nat.le_refl _)
      have hCw := Kd.C_below hCr hBr
      rcases takeR_cases r with ⟨n, rest, hn, he, ht⟩ | ⟨_, ht⟩
      · -- a number
        have hti : items r = (zag n, true) :: items rest := by rw [he]; exact items_put hn rest
        rw [ht] at htk
        have hzf := zag_f (a := (n : Int)) (by omega) (by omega)
        rw [Int.toNat_natCast] at hzf
        have hlen : pre.length < (items l0).length := by rw [hit, hti]; simp
        have hdr : r.drop (put n).length = rest := by rw [he]; simp
        have hpl : (put n).length ≤ r.length := by rw [he]; simp
        have hpp := put_len_pos n
        obtain ⟨i0, hi0, _, hs0, _⟩ := info_parts info5
        obtain ⟨A2, hsl, hrd, hc2⟩ := print_drop_of (P := Try.prog) (Value.int .u8) 0 25 5 .i64 Try.underlying25 hi0 hs0 A' c' r ((put n).length : Int) (by omega) (by omega) hcr
        rw [Int.toNat_natCast, hdr] at hsl hrd hc2
        have hC2 : Kd.C (Kd.int .u8) w0 A2 rest.length rest := Kd.C_of_reads (h1 := fun _ => rfl) (hrd _ (Kd.reads_of_C hCr))
        have hrest : rest.length = r.length - (put n).length := by rw [← hdr]; simp
        have hrb : ∀ x ∈ rest, 0 ≤ x ∧ x < 256 := fun x hx => hbr x (by rw [he]; simp [hx])
        clear hrd hi0 hs0
        have HE := Lib.hid he; have HTI := Lib.hid hti; have HIT := Lib.hid hit; have HTK := Lib.hid htk; have HZF := Lib.hid hzf; have HT := Lib.hid ht; have HL := Lib.hid hlen; have HBR := Lib.hid hBr; have HDR := Lib.hid hdr; have HRE := Lib.hid hrest; have HRB := Lib.hid hrb
        clear he hti hit htk hzf ht hlen hBr hdr hrest hrb hbr
        gi_wp2_with fail
        refine ⟨trivial, (callsIn_wide.2 (varint_Take.calls 22 A' c' r (n : Int) ((put n).length : Int) 0 wr hCw hcr HTK.out)).mono ?_⟩
        rintro e w1 ⟨rfl, ⟨m1, rfl⟩⟩
        gi_wp2_with fail
        refine ⟨trivial, (callsIn_wide.2 (varint_Zag.calls (n : Int) (zag n) _ HZF.out)).mono ?_⟩
        rintro e w2 ⟨rfl, ⟨m2, rfl⟩⟩
        obtain ⟨fn, tmps, assign, body, hy, hR⟩ := hY pre (zag n, true) (wr.drewN (m1 + m2)) (hJ _ _ _ hJp (grown_drewN wr (m1 + m2))) HL.out
        dsimp only at hy
        gi_wp2
        refine hR.mono ?_
        rintro e W3 (⟨rfl, hJ3, hk3, hk4⟩ | ⟨rfl, hJx3⟩)
        · have hX3 : Boxed W3 Bn 25 (.slice A' r.length c') := hk4.trans hX
          have hc3 := hX3.cell
          have hfz3 := hX3.frozen
          clear hX hc hfz
          gi_wp2
          go_roundw
          case rel =>
            refine ⟨pre ++ [(zag n, true)], rest, A2, c' - (put n).length, ?_, hX3.set _, hC2, hc2, HRB.out, by have := HRE.out; omega, ?_, ?_⟩
            · rw [HIT.out, HTI.out]; simp
            · exact hJs _ _ _ _ rfl hJ3
            · exact ((HBR.out.trans (show Below w0.heap.size wr (wr.drewN (m1 + m2)) from ⟨rfl, rfl, rfl, Nat.le_refl _, fun _ _ => rfl⟩)).trans hk3).setCell (p := ⟨Bn, 0, none⟩) hBn _
          case measure =>
            have h1 := (hX3.set (.slice A2 rest.length (c' - (put n).length))).cell
            simp only [lenAt]
            rw [h1, hX0.cell]
            have := HRE.out
            simp only
            omega
        · gi_wp2
          refine bodyPost_ret (results_none rfl _ _ _) rfl ?_
          exact ⟨⟨_, rfl⟩, .inr ⟨pre ++ [(zag n, true)], ⟨items rest, by rw [HIT.out, HTI.out]; simp⟩, hJx3⟩⟩
      · -- none
        have hti : items r = [(0, false)] := items_bad hr0 ht
        rw [ht] at htk
        have hzf := zag_f (a := 0) (by omega) (by omega)
        have hz0 : zag (0 : Int).toNat = 0 := rfl
        rw [hz0] at hzf
        have hlen : pre.length < (items l0).length := by rw [hit, hti]; simp
        have HTI := Lib.hid hti; have HIT := Lib.hid hit; have HTK := Lib.hid htk; have HZF := Lib.hid hzf; have HL := Lib.hid hlen
        clear hti hit htk hzf ht hlen hbr hz0
        gi_wp2_with fail
        refine ⟨trivial, (callsIn_wide.2 (varint_Take.calls 22 A' c' r 0 0 2 wr hCw hcr HTK.out)).mono ?_⟩
        rintro e w1 ⟨rfl, ⟨m1, rfl⟩⟩
        gi_wp2_with fail
        refine ⟨trivial, (callsIn_wide.2 (varint_Zag.calls 0 0 _ HZF.out)).mono ?_⟩
        rintro e w2 ⟨rfl, ⟨m2, rfl⟩⟩
        obtain ⟨fn, tmps, assign, body, hy, hR⟩ := hY pre (0, false) (wr.drewN (m1 + m2)) (hJ _ _ _ hJp (grown_drewN wr (m1 + m2))) HL.out
        dsimp only at hy
        gi_wp2
        refine hR.mono ?_
        rintro e W3 (⟨rfl, hJ3, hk3, hk4⟩ | ⟨rfl, hJx3⟩)
        · gi_wp2
          refine bodyPost_ret (results_none rfl _ _ _) rfl ?_
          exact ⟨⟨_, rfl⟩, .inl ⟨pre ++ [(0, false)], by rw [HIT.out, HTI.out], hJ3⟩⟩
        · gi_wp2
          refine bodyPost_ret (results_none rfl _ _ _) rfl ?_
          exact ⟨⟨_, rfl⟩, .inr ⟨pre ++ [(0, false)], ⟨[], by rw [HIT.out, HTI.out]; simp⟩, hJx3⟩⟩

theorem varint_numbers_in (n : Nat) (A0 : Option Addr) (c0 : Nat) (k : Nat) (w : World) :
    CallsIn Fence.wide n Try.prog 23 #[.slice A0 k c0] w fun e w' => e = .returned (.func (.func 24) #[] #[.pointer (some ⟨w.heap.size, 0, none⟩)]) ∧ w' = w.alloc (.cells #[.slice A0 k c0] 25) := by
  refine callsIn_of_wp Try.func23 rfl trivial ?_ rfl
  simp only [Try.ntmps23, List.size_toArray, List.length_cons, List.length_nil, Nat.reduceAdd, Nat.reduceSub, Array.replicate_succ, Array.replicate_zero, List.push_toArray, List.append_toArray, List.nil_append, List.cons_append]
  gi_wp2
  go_ret
  exact ⟨rfl, rfl⟩

theorem unpack_stop {l0 : List Int} {pre : List (Int × Bool)} (h : pre <+: items l0) (hf : ∃ p ∈ pre, p.2 = false) : unpackR l0 = ([], 2) := by
  unfold unpackR
  rw [if_neg]
  intro ha
  obtain ⟨p, hp, hpf⟩ := hf
  obtain ⟨s, hs⟩ := h
  have := List.all_eq_true.1 ha p (by rw [← hs]; simp [hp])
  rw [hpf] at this
  cases this
theorem unpack_done {l0 : List Int} {pre : List (Int × Bool)} (h : pre = items l0) (hf : ∀ p ∈ pre, p.2 = true) : unpackR l0 = (pre.map (·.1), 0) := by
  unfold unpackR
  rw [← h, if_pos (List.all_eq_true.2 hf)]

theorem owns_slice {W : World} {base k size : Nat} {e : TypeId} {v : Value} {xs : List Value} (h : W.ownsRow base e size v k xs) : ∃ a n c, v = .slice a n c := by
  rcases h.2 with ⟨rfl, _⟩ | ⟨g, cap, cur, rfl, _⟩
  · exact ⟨_, _, _, rfl⟩
  · exact ⟨_, _, _, rfl⟩
/-- between two rounds: what the caller's variables hold -/
def UnpackI (w : World) (pre : List (Int × Bool)) (W : World) : Prop :=
  (∀ p ∈ pre, p.2 = true) ∧ (∃ v, Boxed W (w.heap.size + 1 + 1) 36 v ∧ W.ownsRow w.heap.size 3 1 v pre.length (pre.map fun p => Value.int .i64 p.1)) ∧ Boxed W w.heap.size 36 (.slice none 0 0) ∧ Boxed W (w.heap.size + 1) 31 (.int .i64 0) ∧
    (∃ u, Boxed W (w.heap.size + 1 + 1 + 1) 25 u) ∧ Below w.heap.size w W
/-- where a round has left -/
def UnpackX (w : World) (c : Code) (pre : List (Int × Bool)) (W : World) : Prop :=
  c = .ret ∧ (∃ p ∈ pre, p.2 = false) ∧ Boxed W w.heap.size 36 (.slice none 0 0) ∧ Boxed W (w.heap.size + 1) 31 (.int .i64 2) ∧ Below w.heap.size w W

theorem boxed_turn {W W' : World} {row : Option Nat} {B b : Nat} {t : TypeId} {v : Value} (h : Boxed W b t v) (hg : W.grownBy W' row) (hr : ∀ r, row = some r → B ≤ r ∧ ∃ o : Obj, W.heap[r]? = some o ∧ o.isCells = false) : Boxed W' b t v :=
  h.kept hg (fun e => by
    obtain ⟨_, o, ho, hc⟩ := hr b e.symm
    rw [show W.heap[b]? = _ from h] at ho
    cases ho; cases hc)
theorem owns_turn {W W' : World} {row : Option Nat} {B base k size : Nat} {e : TypeId} {v : Value} {xs : List Value} (h : W.ownsRow base e size v k xs) (hg : W.grownBy W' row) (hr : ∀ r, row = some r → B ≤ r ∧ ∃ o : Obj, W.heap[r]? = some o ∧ o.isCells = false) : W'.ownsRow base e size v k xs := by
  refine h.kept hg ?_
  rcases h.2 with ⟨rfl, _⟩ | ⟨g, cap, cur, rfl, _, hgb, _⟩
  · exact .inl rfl
  · refine .inr fun e' => ?_
    obtain ⟨_, o, ho, hc⟩ := hr g (by simpa [Value.ownBlock] using e'.symm)
    rw [hgb] at ho; cases ho; cases hc

theorem unpackI_own (w : World) (B : Nat) (hB : w.heap.size ≤ B) : OwnFrom B (UnpackI w) := by
  rintro s W W' row ⟨h1, ⟨v, hv, ho⟩, h3, h4, ⟨u, h5⟩, h6⟩ hg hr
  exact ⟨h1, ⟨v, boxed_turn hv hg hr, owns_turn ho hg hr⟩, boxed_turn h3 hg hr, boxed_turn h4 hg hr, ⟨u, boxed_turn h5 hg hr⟩, h6.grown hg h6.size (fun k e => Nat.le_trans hB (hr k e).1)⟩
theorem unpackI_stores (w : World) : StoresX (fun k => k = w.heap.size + 1 + 1 + 1) (UnpackI w) := by
  rintro s W k x rfl ⟨h1, ⟨v, hv, ho⟩, h3, h4, ⟨u, h5⟩, h6⟩
  exact ⟨h1, ⟨v, hv.other (by omega) _, ho.kept (grownBy_setCell' W _ x) (.inr (h5.not_row (by decide) ho).symm)⟩, h3.other (by omega) _, h4.other (by omega) _, ⟨x, h5.set x⟩, h6.setCell (p := ⟨w.heap.size + 1 + 1 + 1, 0, none⟩) (show w.heap.size ≤ w.heap.size + 1 + 1 + 1 by omega) _⟩
theorem unpackX_own (w : World) (B : Nat) (hB : w.heap.size ≤ B) (c : Code) : OwnFrom B (UnpackX w c) := by
  rintro s W W' row ⟨h1, h2, h3, h4, h6⟩ hg hr
  exact ⟨h1, h2, boxed_turn h3 hg hr, boxed_turn h4 hg hr, h6.grown hg h6.size (fun k e => Nat.le_trans hB (hr k e).1)⟩
theorem unpackX_stores (w : World) (c : Code) : StoresX (fun k => k = w.heap.size + 1 + 1 + 1) (UnpackX w c) := by
  rintro s W k x rfl ⟨h1, h2, h3, h4, h6⟩
  exact ⟨h1, h2, h3.other (by omega) _, h4.other (by omega) _, h6.setCell (p := ⟨w.heap.size + 1 + 1 + 1, 0, none⟩) (show w.heap.size ≤ w.heap.size + 1 + 1 + 1 by omega) _⟩

set_option maxRecDepth 100000 in
set_option maxHeartbeats 4000000 in
theorem varint_Unpack.calls (A0 : Option Addr) (c0 : Nat) (l0 : List Int) (r1 : List Int) (r2 : Int) (w : World) (hr0 : Kd.C (Kd.int .u8) w A0 l0.length l0) (hc0 : l0.length ≤ c0) (h : varint_Unpack.f l0 = some (r1, r2)) :
    Calls Try.prog 20 #[.slice A0 l0.length c0] w fun e w' => ∃ v0_ : Value, e = .returned (.tuple #[v0_, .int .i64 r2]) ∧ Kd.R (Kd.int .i64) 3 w' w.heap.size (fun _ => True) v0_ r1 ∧ Below w.heap.size w w' := by
  unfold varint_Unpack.f at h
  by_cases hby : isBytes l0 = true
  · rw [if_pos hby] at h
    by_cases hlt : l0.length < 17592186044416
    · rw [if_pos hlt] at h
      have HU := Lib.hid (Option.some.inj h)
      have HBY := Lib.hid (isBytes_mem hby)
      clear h hby
      have hil := items_len l0
      obtain ⟨i0, hi, hz0, hz1, hz2⟩ := info_parts info3
      refine (callsIn_wide (n := 9)).1 ?_
      refine callsIn_of_wp_marks Try.func20 rfl trivial ?_ rfl
      simp only [Try.ntmps20, List.size_toArray, List.length_cons, List.length_nil, Nat.reduceAdd, Nat.reduceSub, Array.replicate_succ, Array.replicate_zero, List.push_toArray, List.append_toArray, List.nil_append, List.cons_append]
      gi_wp2_with fail
      refine ⟨trivial, (varint_numbers_in _ A0 c0 _ _).mono ?_⟩
      rintro e w1 ⟨rfl, rfl⟩
      gi_wp2_with fail
      have b0 := Boxed.new w 36 (.slice none 0 0)
      have b1 := Boxed.new (w.alloc (.cells #[.slice none 0 0] 36)) 31 (.int .i64 0)
      have b2 := Boxed.new ((w.alloc (.cells #[.slice none 0 0] 36)).alloc (.cells #[.int .i64 0] 31)) 36 (.slice none 0 0)
      have b3 := Boxed.new (((w.alloc (.cells #[.slice none 0 0] 36)).alloc (.cells #[.int .i64 0] 31)).alloc (.cells #[.slice none 0 0] 36)) 25 (.slice A0 l0.length c0)
      simp only [World.size_alloc] at b1 b2 b3
      have hB0 : Below w.heap.size w ((((w.alloc (.cells #[.slice none 0 0] 36)).alloc (.cells #[.int .i64 0] 31)).alloc (.cells #[.slice none 0 0] 36)).alloc (.cells #[.slice A0 l0.length c0] 25)) :=
        ((((Below.refl _ w).alloc (Nat.le_refl _) _).alloc (by simp) _).alloc (by simp; omega) _).alloc (by simp; omega) _
      refine range_x (α := Int × Bool) (encs := fun x => #[.int .i64 x.1, .bool x.2]) (X := fun k => k = w.heap.size + 1 + 1 + 1) (Kp := KeepsB w.heap.size (w.heap.size + 1 + 1 + 1)) (S := fun ys => ys = items l0) (Sp := fun pre => pre <+: items l0) (N := (items l0).length)
        rfl (by decide) (gf := 24) (lb := #[.pointer (some ⟨w.heap.size + 1 + 1 + 1, 0, none⟩)]) rfl trivial (enters_of Try.func24 (by kernel_rfl) rfl) (w0 := _)
        (fun l J Jx W hW hJ hJs hJx hJxs hY h0 => varint_numbers1_in l (w.heap.size + 1 + 1 + 1) w A0 c0 l0 hr0 hc0 HBY.out hlt J Jx (fun s X Y hs hg => hJ s X Y none hs hg (fun r e => by cases e)) hJs hY W (hB0.trans (hW.mono (by simp; omega))) (by omega) ((hW.block _ (by simp)).trans b3) h0)
        (by intro k hk; rw [hk]; simp) (fun h k => ⟨h.1.trans k.1, k.2.trans h.2⟩) ?kb (Below.refl _ _) (fun _ => rfl) (UnpackI w) (UnpackX w) (unpackI_own w _ (by simp; omega)) (unpackI_stores w) (unpackX_own w _ (by simp; omega)) (unpackX_stores w)
        ⟨by simp, ⟨_, b2.alloc _, World.ownsRow_nil _ _ _ _⟩, ((b0.alloc _).alloc _).alloc _, (b1.alloc _).alloc _, ⟨_, b3⟩, hB0⟩
        (fun x => { tmps := #[.slice A0 l0.length c0, undef, .pointer (some ⟨w.heap.size, 0, none⟩), .pointer (some ⟨w.heap.size + 1, 0, none⟩), .pointer (some ⟨w.heap.size + 1 + 1, 0, none⟩), .int .i64 x.1, .bool x.2, .slice A0 l0.length c0, .func (.func 24) #[] #[.pointer (some ⟨w.heap.size + 1 + 1 + 1, 0, none⟩)], .int .i64 x.1, .bool x.2, undef, undef, undef, undef, undef, undef, undef], defers := [] }) ?assign ?body ?done ?stop
      case kb =>
        intro W l o o' hl ho hc _
        have hl' : w.heap.size + 1 + 1 + 1 < l := by simp at hl; omega
        exact ⟨⟨rfl, rfl, rfl, by simp, fun k hk => World.putObj_heap_other (by omega)⟩, World.putObj_heap_other (by omega)⟩
      case assign =>
        intro l x W K hK
        gi_wp2
        exact hK
      case body =>
        rintro l pre ⟨x, fine⟩ W ⟨h1, ⟨v, hv, ho⟩, h3, h4, ⟨u, h5⟩, h6⟩ hlen
        have hc := hv.cell
        have hc3 := h3.cell
        have hf3 := h3.frozen
        have hc4 := h4.cell
        have hf4 := h4.frozen
        cases fine with
        | false =>
          clear hr0 hc0 hil hB0 b0 b1 b2 b3
          gi_wp2
          refine ⟨((KeepsOthers.setCell _ _ _).trans (KeepsOthers.setCell _ _ _)).from _, rfl, ⟨(x, false), by simp, rfl⟩, (h3.set _).other (by omega) _, (h4.other (by omega) _).set _, ?_⟩
          exact (h6.setCell (p := ⟨w.heap.size, 0, none⟩) (Nat.le_refl _) _).setCell (p := ⟨w.heap.size + 1, 0, none⟩) (by show w.heap.size ≤ w.heap.size + 1; omega) _
        | true =>
          clear hr0 hc0 hB0 b0 b1 b2 b3
          gi_wp2_with (gi_at_builtin; refine wpListIn_append_own _ rfl _ _ 36 rfl w.heap.size 3 i0 (.int .i64 0) 1 8 Try.underlying36 hi hz0 hz1 hz2 rfl (by decide) _ _ _ rfl (ho.alloc _) ⟨W.heap.size, 0, none⟩ 1 1 [.int .i64 x] rfl rfl (cell_one_new _ _ _) (by simp [Value.oneCell']) (by simp only [maxLen]; omega) (by omega) (by have := h6.size; simp; omega) ?_; intro v' w1 hown' hgrow _; obtain ⟨g', cap', rfl⟩ := ownsRow_succ hown'; obtain ⟨hv1, hv2, hr2, hk2, hb2⟩ := hv.appended (by decide) ho h6.size (by omega) hown' hgrow; have hc1 := hv1.cell; have hf1 := hv1.frozen)
          have h5' : Boxed w1 (w.heap.size + 1 + 1 + 1) 25 u := (h5.alloc _).kept hgrow (h5.not_row (by decide) ho)
          have h3' : Boxed w1 w.heap.size 36 (.slice none 0 0) := (h3.alloc _).kept hgrow (h3.not_row (by decide) ho)
          have h4' : Boxed w1 (w.heap.size + 1) 31 (.int .i64 0) := (h4.alloc _).kept hgrow (h4.not_row (by decide) ho)
          refine ⟨hk2.from _, ⟨hb2, (h5'.other (by omega) _).trans h5.symm⟩, ?_, ⟨_, hv2, ?_⟩, h3'.other (by omega) _, h4'.other (by omega) _, ⟨u, h5'.other (by omega) _⟩, h6.trans hb2⟩
          · intro p hp
            rcases List.mem_append.1 hp with h | h
            · exact h1 p h
            · simp at h; rw [h]
          · simpa using hr2
      case done =>
        rintro D ys W hD hys ⟨h1, ⟨v, hv, ho⟩, h3, h4, ⟨u, h5⟩, h6⟩ hK
        have hc := hv.cell
        have hc3 := h3.cell
        have hf3 := h3.frozen
        have hc4 := h4.cell
        have hf4 := h4.frozen
        have hu := unpack_done hys h1
        rw [HU.out] at hu
        have HU2 := Lib.hid hu
        clear hu hys HU
        obtain ⟨av, mv, cv, rfl⟩ := owns_slice ho
        gi_wp2
        have g3 : Boxed ((W.setCell ⟨w.heap.size, 0, none⟩ (.slice av mv cv)).setCell ⟨w.heap.size + 1, 0, none⟩ (.int .i64 0)) w.heap.size 36 (.slice av mv cv) := (h3.set _).other (by omega) _
        have g4 : Boxed ((W.setCell ⟨w.heap.size, 0, none⟩ (.slice av mv cv)).setCell ⟨w.heap.size + 1, 0, none⟩ (.int .i64 0)) (w.heap.size + 1) 31 (.int .i64 0) := (h4.other (by omega) _).set _
        have hK2 := (KeepsOthers.setCell (W.setCell ⟨w.heap.size, 0, none⟩ (.slice av mv cv)) ⟨w.heap.size + 1, 0, none⟩ (.int .i64 0)).same D _ ((KeepsOthers.setCell W ⟨w.heap.size, 0, none⟩ (.slice av mv cv)).same D _ hK rfl) rfl
        have hB2 : Below w.heap.size w ((W.setCell ⟨w.heap.size, 0, none⟩ (.slice av mv cv)).setCell ⟨w.heap.size + 1, 0, none⟩ (.int .i64 0)) := (h6.setCell (p := ⟨w.heap.size, 0, none⟩) (Nat.le_refl _) _).setCell (p := ⟨w.heap.size + 1, 0, none⟩) (by show w.heap.size ≤ w.heap.size + 1; omega) _
        have hD' : w.heap.size + 1 + 1 + 1 < D := by simp at hD; omega
        have ho2 : ((W.setCell ⟨w.heap.size, 0, none⟩ (.slice av mv cv)).setCell ⟨w.heap.size + 1, 0, none⟩ (.int .i64 0)).ownsRow w.heap.size 3 1 (.slice av mv cv) ys.length (ys.map fun p => Value.int .i64 p.1) :=
          (ho.kept (grownBy_setCell' W _ _) (.inr (h3.not_row (by decide) ho).symm)).kept (grownBy_setCell' _ _ _) (.inr ((h4.other (by omega) _ : Boxed (W.setCell ⟨w.heap.size, 0, none⟩ (.slice av mv cv)) _ _ _).not_row (by decide) (ho.kept (grownBy_setCell' W _ _) (.inr (h3.not_row (by decide) ho).symm))).symm)
        revert hK2 hB2 ho2 g3 g4
        generalize (W.setCell ⟨w.heap.size, 0, none⟩ (.slice av mv cv)).setCell ⟨w.heap.size + 1, 0, none⟩ (.int .i64 0) = W2
        intro g3 g4 hK2 hB2 ho2
        refine ⟨by simp, .inl ⟨_, _, rfl, run_takeDeferred hK2, ?_⟩⟩
        have c3 := Boxed.cell ((World.putObj_heap_other (o := .deferred none) (show w.heap.size ≠ D by omega)).trans g3)
        have c4 := Boxed.cell ((World.putObj_heap_other (o := .deferred none) (show w.heap.size + 1 ≠ D by omega)).trans g4)
        refine ⟨.tuple #[.slice av mv cv, .int .i64 0], by simp [results, Try.results20, go_sem, c3, c4], ?_⟩
        have hu := HU2.out
        simp only [Prod.mk.injEq] at hu
        obtain ⟨rfl, rfl⟩ := hu
        refine ⟨_, rfl, Kd.R_of_own ?_ (fun _ _ => trivial), hB2.trans (belowK_b (w := w) (Nat.le_refl _) W2 D _ _ (by omega) hK2 rfl rfl)⟩
        have := ownsRow_putObj ho2 (.deferred none) hK2 rfl
        have he : encs (Value.int .i64) (ys.map (·.1)) = ys.map fun p => Value.int .i64 p.1 := by simp [encs, Function.comp_def]
        rw [he, List.length_map]
        exact this
      case stop =>
        rintro D c pre W hD hpre ⟨rfl, h2, h3, h4, h6⟩ hK
        have hu := unpack_stop hpre h2
        rw [HU.out] at hu
        have HU2 := Lib.hid hu
        clear hu HU
        have hD' : w.heap.size + 1 + 1 + 1 < D := by simp at hD; omega
        gi_wp2
        refine ⟨by simp, .inl ⟨_, _, rfl, run_takeDeferred hK, ?_⟩⟩
        have c3 := Boxed.cell ((World.putObj_heap_other (o := .deferred none) (show w.heap.size ≠ D by omega)).trans h3)
        have c4 := Boxed.cell ((World.putObj_heap_other (o := .deferred none) (show w.heap.size + 1 ≠ D by omega)).trans h4)
        refine ⟨.tuple #[.slice none 0 0, .int .i64 2], by simp [results, Try.results20, go_sem, c3, c4], ?_⟩
        have hu := HU2.out
        simp only [Prod.mk.injEq] at hu
        obtain ⟨rfl, rfl⟩ := hu
        exact ⟨_, rfl, Kd.R_nil _ _ _ _ _, h6.trans (belowK_b (w := w) (Nat.le_refl _) W D _ _ (by omega) hK rfl rfl)⟩
    · rw [if_neg hlt] at h
      cases h
  · rw [if_neg hby] at h
    cases h

end Go.Proofs.Ytbbccjoknohfpaa.P
