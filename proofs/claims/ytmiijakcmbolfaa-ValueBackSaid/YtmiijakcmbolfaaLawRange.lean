/- A range over a function whose iterator keeps a state of its own in cells (a captured variable that it writes between two rounds): the caller's law, over the library's (L2). 'X': the blocks that the iterator writes by itself. -/
import Derived.RangeFuncNested
import Derived.RangeFuncBound
import Derived.RangeFuncCalls
import Derived.RangeFuncLeaves
import Derived.RangeFuncBox
namespace Go.Proofs.Ytmiijakcmbolfaa.R
open Go Go.RowKit

/-- The caller's invariant: it abides new blocks and a turn of what is no cells and lies at or behind B (the library's OwnFrom); and what the iterator stores into a variable of its own. -/
def StoresX {β : Type} (X : Nat → Prop) (I : β → World → Prop) : Prop := ∀ s W k v, X k → I s W → I s (W.setCell ⟨k, 0, none⟩ v)

/-- An iterator's contract: as the library's SeqStopsK, with blocks of its own, and with what it may say of the next element ('Ok'). -/
def SeqX {α : Type} (F : Fence) (n : Nat) (P : Program) (g : Nat) (lb : Array Value) (encs : α → Array Value) (X : Nat → Prop) (Kp : World → World → Prop) (S Sp : List α → Prop) (Ok : List α → α → Prop) (w : World) : Prop :=
  ∀ (l : Nat) (J Jx : List α → World → Prop) (W : World), Below w.heap.size w W → AbidesFrom W.heap.size J → StoresX X J → AbidesFrom W.heap.size Jx → StoresX X Jx →
    (∀ pre x W1, J pre W1 → Ok pre x → YieldAt F (n - 1) P l (encs x) W1 fun e W' =>
      (e = .returned (.bool true) ∧ J (pre ++ [x]) W' ∧ Kp W1 W') ∨ (e = .returned (.bool false) ∧ Jx (pre ++ [x]) W')) →
    J [] W →
    CallsIn F n P g (#[.func (.yield l) #[] #[]] ++ lb) W fun e W' => (∃ v, e = .returned v) ∧ ((∃ xs, S xs ∧ J xs W') ∨ (∃ pre, Sp pre ∧ Jx pre W'))

/-- What the two blocks that the loop lays hold: its record, and the rounds' deferred calls. -/
def Held (b : Nat) (r : Loop) (W : World) : Prop := W.heap[b + 1]? = some (.loop r) ∧ W.heap[b]? = some (.deferred (some []))

theorem Held.put {b : Nat} {r r' : Loop} {W : World} (h : Held b r W) : Held b r' (W.putObj (b + 1) (.loop r')) :=
  ⟨World.putObj_heap_same (Array.getElem?_eq_some_iff.1 h.1).1, (World.putObj_heap_other (by omega)).trans h.2⟩
theorem Held.kept {b : Nat} {r : Loop} {W W' : World} (h : Held b r W) (k : KeepsFrom b W W') : Held b r W' :=
  ⟨k.same _ _ (by omega) h.1 rfl, k.same _ _ (Nat.le_refl _) h.2 rfl⟩
theorem Held.grown {b : Nat} {r : Loop} {W W' : World} {row : Option Nat} (h : Held b r W) (hg : W.grownBy W' row) (h1 : row ≠ some (b + 1)) (h0 : row ≠ some b) : Held b r W' :=
  ⟨(hg.block _ (Array.getElem?_eq_some_iff.1 h.1).1 (fun e => h1 e.symm)).trans h.1, (hg.block _ (Array.getElem?_eq_some_iff.1 h.2).1 (fun e => h0 e.symm)).trans h.2⟩

variable {F : Fence} {n : Nat} {P : Program}

theorem range_x {α : Type} {g : Operand} {ps : Array Tmp} {assign body : Code} {Q : Exit → Act → World → Prop} {a : Act} {w : World}
    (hro : F.round = none) (h1 : 1 ≤ n) {gf : Nat} {lb : Array Value} (hg : a.eval g = .func (.func gf) #[] lb) (hFg : F.fn gf) (eg : ∀ args w, (callFunc gf args).run P w = .ok (.enter gf args) w)
    {encs : α → Array Value} {X : Nat → Prop} {Kp : World → World → Prop} {S Sp : List α → Prop} {Ok : List α → α → Prop} {w0 : World} (hseq : SeqX F (n - 1) P gf lb encs X Kp S Sp Ok w0) (hX : ∀ k, X k → k < w.heap.size)
    (hKt : ∀ {A B C : World}, Kp A B → Kp B C → Kp A C) (hKb : ∀ (W : World) (l : Nat) (o o' : Obj), w.heap.size ≤ l → W.heap[l]? = some o → o.isCells = false → o.isWalk = false → Kp W (W.putObj l o')) (hb0 : Below w0.heap.size w0 w) (hps : ∀ x, (encs x).size = ps.size)
    (I : List α → World → Prop) (Ix : Code → List α → World → Prop) (hI : OwnFrom w.heap.size I) (hIs : StoresX X I) (hIx : ∀ c, OwnFrom w.heap.size (Ix c)) (hIxs : ∀ c, StoresX X (Ix c)) (h0 : I [] w) (a₁ : α → Act)
    (hassign : ∀ (l : Nat) (x : α) (W : World) (K : Act → World → Prop), K (a₁ x) W →
      assign.wpIn (F.inRound l) (n - 1 - 1) P (Exit.then K (fun _ _ _ => False)) { tmps := (ps.zip (encs x)).foldl (fun t (p, v) => t.setIfInBounds p v) a.tmps, defers := [] } W)
    (hbody : ∀ (l : Nat) (pre : List α) (x : α) (W : World), I pre W → Ok pre x → body.wpIn (F.inRound l) (n - 1 - 1) P (ownPostG w.heap.size Kp I Ix (pre ++ [x]) W) (a₁ x) W)
    (hdone : ∀ (D : Nat) (xs : List α) (W : World), w.heap.size ≤ D → S xs → I xs W → W.heap[D]? = some (.deferred (some [])) → Q .normal { a with defers := { target := .collected D, args := #[] } :: a.defers } W)
    (hstop : ∀ (D : Nat) (c : Code) (pre : List α) (W : World), w.heap.size ≤ D → Sp pre → Ix c pre W → W.heap[D]? = some (.deferred (some [])) → c.wpIn F n P Q { a with defers := { target := .collected D, args := #[] } :: a.defers } W) :
    (Code.rangeFunc g ps assign body).wpIn F n P Q a w := by
  refine wpIn_rangeFunc fun fn hfn => ?_
  rw [hro]
  generalize hb : w.heap.size = b at *
  -- the record, in each of its states
  let rec_ : LoopState → Option Code → Loop := fun st pe => { state := st, pending := pe, fn, tmps := a.tmps, params := ps, assign, body, defers := b }
  let W1 : World := (w.alloc (.deferred (some []))).alloc (.loop (rec_ .ready none))
  have hz1 : W1.heap.size = b + 2 := by simp [W1, hb]
  have hH1 : Held b (rec_ .ready none) W1 := by
    constructor
    · have := World.alloc_heap_new (w.alloc (.deferred (some []))) (.loop (rec_ .ready none))
      rwa [World.size_alloc, hb] at this
    · refine (Below.heap_alloc _ _ _ (by simp [hb])).trans ?_
      have := World.alloc_heap_new w (.deferred (some []))
      rwa [hb] at this
  have hI1 : I [] W1 := hI.alloc _ (hI.alloc _ h0)
  have hb1 : Below w0.heap.size w0 W1 := hb0.trans ((((Below.refl _ w).alloc (Nat.le_refl _) _).alloc (by simp) _).mono hb0.size)
  -- what the loop's own bookkeeping abides
  have away : ∀ {W : World} {row : Option Nat} {st : LoopState} {pe : Option Code}, Held b (rec_ st pe) W → (∀ r, row = some r → W1.heap.size ≤ r ∧ ∃ o : Obj, W.heap[r]? = some o ∧ o.isWalk = true) → row ≠ some (b + 1) ∧ row ≠ some b := by
    intro W row st pe hh hr
    constructor <;> (rintro rfl; have := (hr _ rfl).1; omega)
  have weak : ∀ {W : World} {row : Option Nat}, (∀ r, row = some r → W1.heap.size ≤ r ∧ ∃ o : Obj, W.heap[r]? = some o ∧ o.isWalk = true) → ∀ r, row = some r → b ≤ r ∧ ∃ o : Obj, W.heap[r]? = some o ∧ o.isCells = false := by
    intro W row hr r e
    obtain ⟨h, o, ho, hw⟩ := hr r e
    exact ⟨by omega, o, ho, Obj.not_cells_of_walk hw⟩
  have stored : ∀ {W : World} {st : LoopState} {pe : Option Code} (k : Nat) (v : Value), X k → Held b (rec_ st pe) W → Held b (rec_ st pe) (W.setCell ⟨k, 0, none⟩ v) := by
    intro W st pe k v hk hh
    have := hX k hk
    exact hh.grown (grownBy_setCell' W k v) (by simp; omega) (by simp; omega)
  refine ⟨b + 1, [{ target := .collected b, args := #[] }], W1, { target := .fn (.func gf) lb, args := #[.func (.yield (b + 1)) #[] #[]] }, W1, gf, #[.func (.yield (b + 1)) #[] #[]] ++ lb, W1, ?_, ?_, ?_, ?_, fun _ => h1, ?_⟩
  · have := run_enterLoop_outer (P := P) (w := w) fn a.tmps ps assign body
    rwa [hb] at this
  · simp only [resolve, hg]
    simp [go_sem]
  · intro f' hf'
    simp [Target.leads] at hf'
    subst hf'
    exact hFg
  · simp [invoke, go_sem, eg]
  · refine (hseq (b + 1) (fun pre W => I pre W ∧ Held b (rec_ .ready none) W) (fun pre W => ∃ c, Ix c pre W ∧ Held b (rec_ .done (some c)) W) W1 hb1 ?_ (fun s W k v hk hs => ⟨hIs s W k v hk hs.1, stored k v hk hs.2⟩) ?_ (fun s W k v hk hs => by obtain ⟨c, hc, hh⟩ := hs; exact ⟨c, hIxs c s W k v hk hc, stored k v hk hh⟩) ?_ ⟨hI1, hH1⟩).mono ?_
    · rintro s A B row ⟨hi, hh⟩ hg' hr
      have hw := away hh hr
      exact ⟨hI s A B row hi hg' (weak hr), hh.grown hg' hw.1 hw.2⟩
    · rintro s A B row ⟨c, hi, hh⟩ hg' hr
      have hw := away hh hr
      exact ⟨c, hIx c s A B row hi hg' (weak hr), hh.grown hg' hw.1 hw.2⟩
    · -- one round
      rintro pre x W ⟨hi, hh⟩ hlen
      refine ⟨fn, _, assign, body, run_yield (P := P) (args := encs x) hh.1 (hps x), roundIn_of_wpIn hfn (hassign _ x W _ ⟨_, run_beginRound hh.1 rfl, ?_⟩)⟩
      have hh2 : Held b { rec_ .ready none with state := .busy } (W.putObj (b + 1) (.loop { rec_ .ready none with state := .busy })) := hh.put
      have hk2 : Kp W (W.putObj (b + 1) (.loop { rec_ .ready none with state := .busy })) := hKb _ _ _ _ (by omega) hh.1 rfl rfl
      refine wpIn_mono (hbody _ pre x _ (hI.putObj _ hi (by omega) hh.1 rfl) hlen) ?_
      rintro e a3 W3 hp
      have ends : ∀ (jump : Option Code), KeepsFrom b (W.putObj (b + 1) (.loop { rec_ .ready none with state := .busy })) W3 →
          (Instr.endRound (b + 1) jump).run P W3 = .ok (.bool jump.isNone) (W3.putObj (b + 1) (.loop (rec_ (if jump.isNone then .ready else .done) jump))) ∧ Held b { rec_ .ready none with state := .busy } W3 := by
        intro jump hk
        have hh3 := hh2.kept hk
        exact ⟨run_endRound (P := P) jump hh3.1, hh3⟩
      cases e with
      | normal =>
        obtain ⟨hk3, hp3, hi3⟩ := hp
        obtain ⟨hr, hh3⟩ := ends none hk3
        exact ⟨_, _, hr, .inl ⟨rfl, ⟨hI.putObj _ hi3 (by omega) hh3.1 rfl, hh3.put⟩, hKt (hKt hk2 hp3) (hKb _ _ _ _ (by omega) hh3.1 rfl rfl)⟩⟩
      | ret =>
        obtain ⟨hk3, hi3⟩ := hp
        obtain ⟨hr, hh3⟩ := ends (some .ret) hk3
        exact ⟨_, _, hr, .inr ⟨rfl, .ret, (hIx _).putObj _ hi3 (by omega) hh3.1 rfl, hh3.put⟩⟩
      | exit id =>
        obtain ⟨hk3, hi3⟩ := hp
        obtain ⟨hr, hh3⟩ := ends (some (.exit id)) hk3
        exact ⟨_, _, hr, .inr ⟨rfl, .exit id, (hIx _).putObj _ hi3 (by omega) hh3.1 rfl, hh3.put⟩⟩
      | goto t =>
        obtain ⟨hk3, hi3⟩ := hp
        obtain ⟨hr, hh3⟩ := ends (some (.goto t)) hk3
        exact ⟨_, _, hr, .inr ⟨rfl, .goto t, (hIx _).putObj _ hi3 (by omega) hh3.1 rfl, hh3.put⟩⟩
      | panic ch => exact hp.elim
      | outgrown => exact hp.elim
    · -- behind the iterator
      rintro e W2 ⟨⟨v, rfl⟩, (⟨xs, hS, hi, hh⟩ | ⟨pre, hSp, c, hi, hh⟩)⟩
      · exact ⟨none, _, run_endLoop (P := P) hh.1 (by simp [rec_]), hdone b xs _ (Nat.le_refl _) hS (hI.putObj _ hi (by omega) hh.1 rfl) ((World.putObj_heap_other (by omega)).trans hh.2)⟩
      · exact ⟨some c, _, run_endLoop (P := P) hh.1 (by simp [rec_]), hstop b c pre _ (Nat.le_refl _) hSp ((hIx c).putObj _ hi (by omega) hh.1 rfl) ((World.putObj_heap_other (by omega)).trans hh.2)⟩

end Go.Proofs.Ytmiijakcmbolfaa.R
