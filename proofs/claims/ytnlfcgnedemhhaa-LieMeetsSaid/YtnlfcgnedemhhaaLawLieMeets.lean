-- Printed by a program of this session over the kit's print: all laws of the seat in one namespace, some texts by hand.
import Derived.Test.YtnlfcgnedemhhaaRows
import Derived.Test.YtnlfcgnedemhhaaPx10
import Derived.Test.YtnlfcgnedemhhaaPureLieMeets
import Derived.Test.YtnlfcgnedemhhaaOpens
import Derived.WalkKit
import Derived.ProofKit
import Derived.OpenShut
import Derived.ShutString
import Derived.ChangeOld
import Derived.Below
import Derived.SizedLaws
namespace Go.Proofs.Ytnlfcgnedemhhaa.lieMeets
open Go.ChangeShapes Go.WideShapes Go.ChangeAt Go.RowKit Go.Proofs.YtnlfcgnedemhhaaW.PrintWords Go.Proofs.Ytnlfcgnedemhhaa.P
open Go.ChangeMaps (open_string shut_string)
set_option linter.unusedVariables false
theorem own : ownKnob Try.prog.godebug = none := by kernel_rfl
theorem laidOut : laidOutB Try.prog = true := by kernel_rfl
theorem opens23 : Go.Proofs.Ytnlfcgnedemhhaa.O.Opens Try.prog 23 k23 good23 :=
  Go.Proofs.Ytnlfcgnedemhhaa.O.opens_struct Try.underlying23 (by kernel_rfl) (Go.Proofs.Ytnlfcgnedemhhaa.O.opensF_cons rfl (by kernel_rfl) (Go.Proofs.Ytnlfcgnedemhhaa.O.opens_int Try.underlying3) (Go.Proofs.Ytnlfcgnedemhhaa.O.opensF_cons rfl (by kernel_rfl) (Go.Proofs.Ytnlfcgnedemhhaa.O.opens_int Try.underlying3) (Go.Proofs.Ytnlfcgnedemhhaa.O.opensF_cons rfl (by kernel_rfl) (Go.Proofs.Ytnlfcgnedemhhaa.O.opens_int Try.underlying3) (Go.Proofs.Ytnlfcgnedemhhaa.O.opensF_cons rfl (by kernel_rfl) (Go.Proofs.Ytnlfcgnedemhhaa.O.opens_int Try.underlying3) (Go.Proofs.Ytnlfcgnedemhhaa.O.opensF_cons rfl (by kernel_rfl) (Go.Proofs.Ytnlfcgnedemhhaa.O.opens_int Try.underlying3) (Go.Proofs.Ytnlfcgnedemhhaa.O.opensF_one rfl (by kernel_rfl) (Go.Proofs.Ytnlfcgnedemhhaa.O.opens_int Try.underlying3))))))) (fun x : S23 => (x.f0, x.f1, x.f2, x.f3, x.f4, x.f5)) (fun y => ⟨y.1, y.2.1, y.2.2.1, y.2.2.2.1, y.2.2.2.2.1, y.2.2.2.2.2⟩) (fun _ => rfl)
set_option maxRecDepth 100000 in
theorem lifted (os : Os) (started : os.Started) (H : Type) (enc : TypeId × Value → H) :
    ReturnsInHanded {} Try.checked os 4 .any (Rows.lieMeetsSpec.pre6 enc Try.prog Try.f4 Rows.lieMeetsRow.domain false) (Rows.lieMeetsSpec.post enc Try.prog Try.f4 false true false false) := by
  refine returnsInHanded_of_change_sized (C := Try.checked) own started (by kernel_rfl) Try.func4
    (ChangeSpec.witness6 (enc := enc) (C := Try.checked) false ⟨#[], #[.agg #[.int .i64 0, .int .i64 0, .int .i64 0, .int .i64 0, .int .i64 0, .int .i64 0], .agg #[.int .i64 0, .int .i64 0, .int .i64 0, .int .i64 0, .int .i64 0, .int .i64 0], .int .i64 0], []⟩ 8 (by kernel_rfl) (by kernel_rfl) (by kernel_rfl) (by kernel_rfl)) ?_
  intro W base args ds gs before hval0 hW hcnd hsz0 _
  have hsz : (DataW.weightsEach Try.prog (Try.f4.params.toList ++ Rows.lieMeetsSpec.plain.varTypes Try.prog) (ds ++ gs)).all (· ≤ reachBytes) = true := hsz0
  have hval : ∀ (j : Nat) t v, Try.f4.params[j]? = some t → args[j]? = some v → Value.okWide Try.prog W .any base t v := hval0
  have hW' := hW
  obtain ⟨p, q, hA0, hV, rfl, hfz, hnd⟩ := hW
  have hA : DataW.TrodAll enc Try.prog W 0 (fun _ => true) true Try.f4.params.toList args.toList ds p := hA0
  rw [Try.params4] at hA hval hsz
  obtain ⟨v0, vs0, d0, ds0, p0, q0, hargs, rfl, rfl, h0, r0⟩ := trodAll_cons hA
  obtain ⟨v1, vs1, d1, ds1, p1, q1, rfl, rfl, rfl, h1, r1⟩ := trodAll_cons r0
  obtain ⟨v2, vs2, d2, ds2, p2, q2, rfl, rfl, rfl, h2, r2⟩ := trodAll_cons r1
  obtain ⟨rfl, rfl, rfl⟩ := trodAll_nil r2
  obtain rfl : args = #[v0, v1, v2] := by cases args; simp_all
  obtain ⟨rfl, rfl⟩ := trodVars_none hV
  obtain ⟨x0, K0, g0⟩ := Go.Proofs.Ytnlfcgnedemhhaa.O.open_arg opens23 h0 hsz (j := 0) rfl rfl
  have k0 := h0
  have lt0 : ∀ x ∈ p0, x.block < W.heap.size := by obtain ⟨m, hm⟩ := k0; exact DataW.trod_lt m _ _ _ hm
  obtain ⟨cs0, rfl⟩ : ∃ cs, v0 = .agg cs := by
    have hq := (hval 0 23 v0 rfl rfl)
    simp only [Value.okWide, Try.underlying23] at hq
    obtain ⟨cs, rfl, _⟩ := hq
    exact ⟨cs, rfl⟩
  have e0 := k23_open (Kd.FK_now K0)
  obtain rfl := Array.toList_inj.1 (e0 : cs0.toList = (List.toArray _).toList)
  obtain ⟨x1, K1, g1⟩ := Go.Proofs.Ytnlfcgnedemhhaa.O.open_arg opens23 h1 hsz (j := 1) rfl rfl
  have k1 := h1
  have lt1 : ∀ x ∈ p1, x.block < W.heap.size := by obtain ⟨m, hm⟩ := k1; exact DataW.trod_lt m _ _ _ hm
  obtain ⟨cs1, rfl⟩ : ∃ cs, v1 = .agg cs := by
    have hq := (hval 1 23 v1 rfl rfl)
    simp only [Value.okWide, Try.underlying23] at hq
    obtain ⟨cs, rfl, _⟩ := hq
    exact ⟨cs, rfl⟩
  have e1 := k23_open (Kd.FK_now K1)
  obtain rfl := Array.toList_inj.1 (e1 : cs1.toList = (List.toArray _).toList)
  obtain ⟨a2, rfl, rfl, rfl, w2⟩ := open_int Try.underlying3 (hval 2 3 v2 rfl rfl) h2
  clear hA0 hval0 hsz0 hsz
  refine (P.selvagelaw09_LieMeets.walk Pure.LieMeets x0 x1 a2 W  g0 g1 w2 ).mono fun e W' ⟨he, bel⟩ => ?_
  subst he
  exact ⟨_, rfl, _, _, _, [], _, [], hW', trodAll_mk1 (shut_bool Try.underlying4 _), (trodAll_cons_mk (Below.trod laidOut (by kernel_rfl) (of_decide_eq_true (by kernel_rfl)) k0 bel lt0) (trodAll_cons_mk (Below.trod laidOut (by kernel_rfl) (of_decide_eq_true (by kernel_rfl)) k1 bel lt1) (trodAll_cons_mk (shut_int Try.underlying3 w2) trodAll_mk0))), rfl, bel.frame _, fun h => by cases h⟩
theorem over : Rows.lieMeetsRow.holds Try.pinned (OpenSpec.ofChange Rows.lieMeetsSpec) :=
  OpenClaim.holds_of_wide 4 Try.f4 rfl rfl rfl rfl rfl rfl rfl ⟨rfl, rfl, rfl, rfl, rfl⟩ rfl rfl rfl rfl rfl (by kernel_rfl) Try.func4 (by kernel_rfl)
    (of_decide_eq_true (by kernel_rfl)) (by unfold Func.isWrapper; first | (rw [if_pos (by decide +kernel)]; kernel_rfl) | (rw [if_neg (by decide +kernel)]; exact ⟨rfl, rfl⟩))
    (fun os started H enc _ => lifted os started H enc)
theorem proved : Rows.LieMeetsSaid := over
#print axioms proved
end Go.Proofs.Ytnlfcgnedemhhaa.lieMeets
namespace Go.Proofs.Ytnlfcgnedemhhaa
/-- The row, under a short name, for the claim. -/
theorem lieMeets_holds : Rows.LieMeetsSaid := lieMeets.proved
end Go.Proofs.Ytnlfcgnedemhhaa
