-- Printed by a program of this session over the kit's print: all laws of the seat in one namespace, some texts by hand.
import Derived.Test.YtmiijakcmbolfaaRows
import Derived.Test.YtmiijakcmbolfaaPx15
import Derived.Test.YtmiijakcmbolfaaPureValueBack
import Derived.Test.YtmiijakcmbolfaaOpens
import Derived.WalkKit
import Derived.ProofKit
import Derived.OpenShut
import Derived.ShutString
import Derived.ChangeOld
import Derived.Below
import Derived.SizedLaws
namespace Go.Proofs.Ytmiijakcmbolfaa.valueBack
open Go.ChangeShapes Go.WideShapes Go.ChangeAt Go.RowKit Go.Proofs.YtmiijakcmbolfaaW.PrintWords Go.Proofs.Ytmiijakcmbolfaa.P
open Go.ChangeMaps (open_string shut_string)
set_option linter.unusedVariables false
theorem own : ownKnob Try.prog.godebug = none := by kernel_rfl
theorem laidOut : laidOutB Try.prog = true := by kernel_rfl
theorem opens30 : Go.Proofs.Ytmiijakcmbolfaa.O.Opens Try.prog 30 k30 good30 :=
  Go.Proofs.Ytmiijakcmbolfaa.O.opens_struct Try.underlying30 (by kernel_rfl) (Go.Proofs.Ytmiijakcmbolfaa.O.opensF_cons rfl (by kernel_rfl) (Go.Proofs.Ytmiijakcmbolfaa.O.opens_int Try.underlying3) (Go.Proofs.Ytmiijakcmbolfaa.O.opensF_cons rfl (by kernel_rfl) (Go.Proofs.Ytmiijakcmbolfaa.O.opens_int Try.underlying3) (Go.Proofs.Ytmiijakcmbolfaa.O.opensF_cons rfl (by kernel_rfl) (Go.Proofs.Ytmiijakcmbolfaa.O.opens_int Try.underlying3) (Go.Proofs.Ytmiijakcmbolfaa.O.opensF_one rfl (by kernel_rfl) (Go.Proofs.Ytmiijakcmbolfaa.O.opens_slice Try.underlying25 (by kernel_rfl) (by kernel_rfl : Try.prog.bytesOf 5 = 1) (Go.Proofs.Ytmiijakcmbolfaa.O.opens_int Try.underlying5)))))) (fun x : S30 => (x.f0, x.f1, x.f2, x.f3)) (fun y => ⟨y.1, y.2.1, y.2.2.1, y.2.2.2⟩) (fun _ => rfl)
set_option maxRecDepth 100000 in
theorem lifted (os : Os) (started : os.Started) (H : Type) (enc : TypeId × Value → H) :
    ReturnsInHanded {} Try.checked os 9 .any (Rows.valueBackSpec.pre6 enc Try.prog Try.f9 Rows.valueBackRow.domain false) (Rows.valueBackSpec.post enc Try.prog Try.f9 false true false false) := by
  refine returnsInHanded_of_change_sized (C := Try.checked) own started (by kernel_rfl) Try.func9
    (ChangeSpec.witness6 (enc := enc) (C := Try.checked) false ⟨#[], #[.slice none 0 0, .slice none 0 0], []⟩ 8 (by kernel_rfl) (by kernel_rfl) (by kernel_rfl) (by kernel_rfl)) ?_
  intro W base args ds gs before hval0 hW hcnd hsz0 _
  have hsz : (DataW.weightsEach Try.prog (Try.f9.params.toList ++ Rows.valueBackSpec.plain.varTypes Try.prog) (ds ++ gs)).all (· ≤ reachBytes) = true := hsz0
  have hval : ∀ (j : Nat) t v, Try.f9.params[j]? = some t → args[j]? = some v → Value.okWide Try.prog W .any base t v := hval0
  have hW' := hW
  obtain ⟨p, q, hA0, hV, rfl, hfz, hnd⟩ := hW
  have hA : DataW.TrodAll enc Try.prog W 0 (fun _ => true) true Try.f9.params.toList args.toList ds p := hA0
  rw [Try.params9] at hA hval hsz
  obtain ⟨v0, vs0, d0, ds0, p0, q0, hargs, rfl, rfl, h0, r0⟩ := trodAll_cons hA
  obtain ⟨v1, vs1, d1, ds1, p1, q1, rfl, rfl, rfl, h1, r1⟩ := trodAll_cons r0
  obtain ⟨rfl, rfl, rfl⟩ := trodAll_nil r1
  obtain rfl : args = #[v0, v1] := by cases args; simp_all
  obtain ⟨rfl, rfl⟩ := trodVars_none hV
  obtain ⟨x0, K0, g0⟩ := Go.Proofs.Ytmiijakcmbolfaa.O.open_arg (Go.Proofs.Ytmiijakcmbolfaa.O.opens_slice Try.underlying22 (by kernel_rfl) (by kernel_rfl : Try.prog.bytesOf 30 = 48) opens30) h0 hsz (j := 0) rfl rfl
  have k0 := h0
  have lt0 : ∀ x ∈ p0, x.block < W.heap.size := by obtain ⟨m, hm⟩ := k0; exact DataW.trod_lt m _ _ _ hm
  obtain ⟨a0, len0, cap0, rfl⟩ := okWide_slice Try.underlying22 (hval 0 22 v0 rfl rfl)
  obtain ⟨rfl, hc0, hr0⟩ := Go.Proofs.Ytmiijakcmbolfaa.O.openF_slice K0
  obtain ⟨x1, K1, g1⟩ := Go.Proofs.Ytmiijakcmbolfaa.O.open_arg (Go.Proofs.Ytmiijakcmbolfaa.O.opens_slice Try.underlying25 (by kernel_rfl) (by kernel_rfl : Try.prog.bytesOf 5 = 1) (Go.Proofs.Ytmiijakcmbolfaa.O.opens_int Try.underlying5)) h1 hsz (j := 1) rfl rfl
  have k1 := h1
  have lt1 : ∀ x ∈ p1, x.block < W.heap.size := by obtain ⟨m, hm⟩ := k1; exact DataW.trod_lt m _ _ _ hm
  obtain ⟨a1, len1, cap1, rfl⟩ := okWide_slice Try.underlying25 (hval 1 25 v1 rfl rfl)
  obtain ⟨rfl, hc1, hr1⟩ := Go.Proofs.Ytmiijakcmbolfaa.O.openF_slice K1
  clear hA0 hval0 hsz0 hsz
  refine (P.selvagelaw02_ValueBack.walk Pure.ValueBack x0 x1 W _ _ _ _ g0 g1 hr0 hc0 hr1 hc1).mono fun e W' ⟨he, bel⟩ => ?_
  subst he
  exact ⟨_, rfl, _, _, _, [], _, [], hW', trodAll_mk1 (shut_bool Try.underlying4 _), (trodAll_cons_mk (Below.trod laidOut (by kernel_rfl) (of_decide_eq_true (by kernel_rfl)) k0 bel lt0) (trodAll_cons_mk (Below.trod laidOut (by kernel_rfl) (of_decide_eq_true (by kernel_rfl)) k1 bel lt1) trodAll_mk0)), rfl, bel.frame _, fun h => by cases h⟩
theorem over : Rows.valueBackRow.holds Try.pinned (OpenSpec.ofChange Rows.valueBackSpec) :=
  OpenClaim.holds_of_wide 9 Try.f9 rfl rfl rfl rfl rfl rfl rfl ⟨rfl, rfl, rfl, rfl, rfl⟩ rfl rfl rfl rfl rfl (by kernel_rfl) Try.func9 (by kernel_rfl)
    (of_decide_eq_true (by kernel_rfl)) (by unfold Func.isWrapper; first | (rw [if_pos (by decide +kernel)]; kernel_rfl) | (rw [if_neg (by decide +kernel)]; exact ⟨rfl, rfl⟩))
    (fun os started H enc _ => lifted os started H enc)
theorem proved : Rows.ValueBackSaid := over
#print axioms proved
end Go.Proofs.Ytmiijakcmbolfaa.valueBack
namespace Go.Proofs.Ytmiijakcmbolfaa
/-- The row, under a short name, for the claim. -/
theorem valueBack_holds : Rows.ValueBackSaid := valueBack.proved
end Go.Proofs.Ytmiijakcmbolfaa
