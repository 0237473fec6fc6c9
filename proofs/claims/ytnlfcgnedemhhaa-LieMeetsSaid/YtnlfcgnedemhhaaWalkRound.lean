/- Two ends hear one another. -/
import Derived.Test.YtnlfcgnedemhhaaWalkTake2
import Derived.Test.YtnlfcgnedemhhaaPx7
set_option linter.unusedVariables false
set_option linter.unusedSimpArgs false
namespace Go.Proofs.Ytnlfcgnedemhhaa.P
open Go Go.RowKit Go.Proofs.YtnlfcgnedemhhaaW.PrintWords Go.Proofs.YtnlfcgnedemhhaaW.PrintLast Go.Proofs.YtnlfcgnedemhhaaW.PrintMore

def Kept2 (w w' : World) (g1 g2 : Nat) : Prop := w.heap.size ≤ w'.heap.size ∧ ∀ i, i < w.heap.size → i ≠ g1 → i ≠ g2 → w'.heap[i]? = w.heap[i]?
theorem Kept2.one {w w1 w2 : World} {g1 g2 : Nat} (h : Kept2 w w1 g1 g2) {g : Nat} (hg : g = g1 ∨ g = g2) (k : KeepBut w1 w2 g none) : Kept2 w w2 g1 g2 :=
  ⟨Nat.le_trans h.1 k.1, fun i hi h1 h2 => (k.2 i (Nat.lt_of_lt_of_le hi h.1) (fun e => by rcases hg with rfl | rfl; exact h1 e; exact h2 e) (by simp)).trans (h.2 i hi h1 h2)⟩
theorem Kept2.below {w w1 w2 : World} {g1 g2 : Nat} (h : Kept2 w w1 g1 g2) (k : Below w1.heap.size w1 w2) : Kept2 w w2 g1 g2 :=
  ⟨Nat.le_trans h.1 k.size, fun i hi h1 h2 => (k.block i (Nat.lt_of_lt_of_le hi h.1)).trans (h.2 i hi h1 h2)⟩
theorem Kept2.refl (w : World) (g1 g2 : Nat) : Kept2 w w g1 g2 := ⟨Nat.le_refl _, fun _ _ _ _ => rfl⟩
theorem IsL.other {w0 w w' : World} {g g' : Nat} {s : L.St} (h : IsL w0 w g s) (k : KeepBut w w' g' none) (hne : g ≠ g') : IsL w0 w' g s := ⟨k.blk h.1 hne (by simp), h.2⟩

theorem tick_level (s : L.St) (now : Int) : (L.tick s now).2.port = s.port := by
  unfold L.tick; split; rfl; simp only; split <;> rfl
theorem take_port (s : L.St) (x : L.Say) (now : Int) : (L.take s x now).2.port = s.port := by
  unfold L.take
  split; rfl
  split; rfl
  split
  · simp only; split <;> rfl
  split; rfl
  split <;> rfl

def RoundPost (w0 w : World) (g1 g2 : Nat) (r : L.St × L.St) (e : Ending) (w' : World) : Prop := e = .returned (.tuple #[]) ∧ IsL w0 w' g1 r.1 ∧ IsL w0 w' g2 r.2 ∧ Below w0.heap.size w0 w' ∧ Kept2 w w' g1 g2

set_option maxRecDepth 100000 in
set_option maxHeartbeats 4000000 in
theorem round_q (w0 w : World) (g1 g2 : Nat) (a b : L.St) (now : Int) (hne : g1 ≠ g2) (h1 : IsL w0 w g1 a) (h2 : IsL w0 w g2 b) (hB : Below w0.heap.size w0 w)
    (ha : -9223372036854775808 ≤ a.port.level ∧ a.port.level < 9223372036854775808) (hb : -9223372036854775808 ≤ b.port.level ∧ b.port.level < 9223372036854775808) :
    Calls Try.prog 14 #[.pointer (some ⟨g1, 0, none⟩), .pointer (some ⟨g2, 0, none⟩), .int .i64 now] w (RoundPost w0 w g1 g2 (L.round a b now)) := by
  have HPO : Aside0 (∀ w', IsL w0 w' g1 (L.round a b now).1 → IsL w0 w' g2 (L.round a b now).2 → Below w0.heap.size w0 w' → Kept2 w w' g1 g2 → RoundPost w0 w g1 g2 (L.round a b now) (.returned (.tuple #[])) w') := ⟨fun w' k1 k2 k3 k4 => ⟨rfl, k1, k2, k3, k4⟩⟩
  generalize RoundPost w0 w g1 g2 (L.round a b now) = post at HPO ⊢
  unfold L.round at HPO
  simp only at HPO
  have HNE := Aside0.mk hne
  have H1 := Aside0.mk h1
  have H2 := Aside0.mk h2
  have HB := Aside0.mk hB
  have HA := Aside0.mk ha
  have HBB := Aside0.mk hb
  clear hne h1 h2 hB ha hb
  go_enter Try.func14, Try.ntmps14
  go_wp2_with fail
  refine (tick_q w0 w g1 a now H1.out HB.out).mono ?_
  rintro e w1 ⟨rfl, k1, k2, k3⟩
  have K1 := Aside0.mk k1
  have KB1 := Aside0.mk k2
  have KK1 := Aside0.mk ((Kept2.refl w g1 g2).one (.inl rfl) k3)
  have K2 := Aside0.mk (IsL.other H2.out k3 HNE.out.symm)
  have HP1 := Aside0.mk (tick_level a now)
  clear k1 k2 k3 H1 H2 HB
  generalize (L.tick a now).1 = ra
  generalize (L.tick a now).2 = a1 at K1 HPO HP1
  go_wp2_with fail
  refine (tick_q w0 w1 g2 b now K2.out KB1.out).mono ?_
  rintro e w2 ⟨rfl, k1, k2, k3⟩
  have K3 := Aside0.mk k1
  have KB2 := Aside0.mk k2
  have KK2 := Aside0.mk (KK1.out.one (.inr rfl) k3)
  have K4 := Aside0.mk (IsL.other K1.out k3 HNE.out)
  have HP2 := Aside0.mk (tick_level b now)
  clear k1 k2 k3 K1 K2 KB1 KK1
  generalize (L.tick b now).1 = rb
  generalize (L.tick b now).2 = b1 at K3 HPO HP2
  go_wp2_with fail
  refine (say_q w0 w2 g1 a1 K4.out).mono ?_
  rintro e w3 ⟨rfl, hbl⟩
  have K5 := Aside0.mk (K3.out.below hbl)
  have K6 := Aside0.mk (K4.out.below hbl)
  have KB3 := Aside0.mk (below_step KB2.out hbl)
  have KK3 := Aside0.mk (KK2.out.below hbl)
  clear hbl K3 K4 KB2 KK2
  generalize L.say a1 = x1 at HPO ⊢
  go_wp2_with fail
  refine (take_q w0 w3 g2 b1 x1 now K5.out KB3.out (by rw [HP2.out]; exact HBB.out)).mono ?_
  rintro e w4 ⟨rfl, k1, k2, k3⟩
  have K7 := Aside0.mk k1
  have KB4 := Aside0.mk k2
  have KK4 := Aside0.mk (KK3.out.one (.inr rfl) k3)
  have K8 := Aside0.mk (IsL.other K6.out k3 HNE.out)
  clear k1 k2 k3 K5 K6 KB3 KK3
  generalize (L.take b1 x1 now).1 = rc
  generalize (L.take b1 x1 now).2 = b2 at K7 HPO
  go_wp2_with fail
  refine (say_q w0 w4 g2 b2 K7.out).mono ?_
  rintro e w5 ⟨rfl, hbl⟩
  have K9 := Aside0.mk (K7.out.below hbl)
  have K10 := Aside0.mk (K8.out.below hbl)
  have KB5 := Aside0.mk (below_step KB4.out hbl)
  have KK5 := Aside0.mk (KK4.out.below hbl)
  clear hbl K7 K8 KB4 KK4
  generalize L.say b2 = x2 at HPO ⊢
  go_wp2_with fail
  refine (take_q w0 w5 g1 a1 x2 now K10.out KB5.out (by rw [HP1.out]; exact HA.out)).mono ?_
  rintro e w6 ⟨rfl, k1, k2, k3⟩
  have K11 := Aside0.mk k1
  have KB6 := Aside0.mk k2
  have KK6 := Aside0.mk (KK5.out.one (.inl rfl) k3)
  have K12 := Aside0.mk (IsL.other K9.out k3 HNE.out.symm)
  clear k1 k2 k3 K9 K10 KB5 KK5
  generalize (L.take a1 x2 now).1 = rd
  go_wp2
  first | go_end0 | skip
  exact HPO.out _ K11.out K12.out KB6.out KK6.out
end Go.Proofs.Ytnlfcgnedemhhaa.P
