/- Arguments of whatever kind, opened: what reads as data (DataW.trod) is a row of cells of the print's kind (Kd), each number in its bounds, each slice no longer than its weight allows. -/
import Derived.Test.YtnlfcgnedemhhaaWWords
import Derived.Test.YtnlfcgnedemhhaaWShare
import Derived.SizedLaws
import Derived.ChangeArms
import Derived.Deep.Slices
namespace Go.Proofs.Ytnlfcgnedemhhaa.O
open Go Go.RowKit Go.Deep Go.Proofs.YtnlfcgnedemhhaaW.PrintWords
set_option linter.unusedVariables false

def Light {H : Type} (P : Program) (t : TypeId) (d : DataW H) : Prop := ∀ n ∈ d.weights P t, n ≤ reachBytes

/-- Whatever reads as data of type t is of kind d, and good. -/
def Opens {α : Type} (P : Program) (t : TypeId) (d : Kd α) (good : α → Prop) : Prop :=
  ∀ (H : Type) (enc : TypeId × Value → H) (W : World) (fuel : Nat) (cs : List Value) (x : DataW H × List MemPlace), DataW.trod enc P W 0 (fun _ => true) true fuel t cs = some x → Light P t x.1 → ∃ y, Kd.FK d W (fun _ => True) y cs ∧ good y

section
variable {P : Program} {t e : TypeId}

theorem opens_int {k : IntKind} (hu : P.underlying t = some (.int k)) : Opens P t (Kd.int k) (fun x => (Lit.int k x).wf = true) := by
  intro H enc W fuel cs x h _
  obtain ⟨n, rfl, rfl, hn⟩ := DataW.trod_int hu h
  exact ⟨n, fun W' _ => rfl, hn⟩

theorem opens_bool (hu : P.underlying t = some .bool) : Opens P t Kd.bool (fun _ => True) := by
  intro H enc W fuel cs x h _
  obtain ⟨b, rfl, rfl⟩ := DataW.trod_bool hu h
  exact ⟨b, fun W' _ => rfl, trivial⟩

theorem weightsAll_mem {H : Type} {P : Program} {e : TypeId} : ∀ {l : List (DataW H)} {d : DataW H}, d ∈ l → ∀ n ∈ d.weights P e, n ∈ DataW.weightsAll P e l
  | a :: r, d, hd, n, hn => by
    simp only [DataW.weightsAll, List.mem_append]
    rcases List.mem_cons.1 hd with rfl | hd
    · exact .inl hn
    · exact .inr (weightsAll_mem hd n hn)

theorem choose_list {α : Type} {n : Nat} {p : Nat → α → Prop} (h : ∀ i, i < n → ∃ x, p i x) : ∃ l : List α, l.length = n ∧ ∀ i x, l[i]? = some x → p i x := by
  induction n with
  | zero => exact ⟨[], rfl, by simp⟩
  | succ n ih =>
    obtain ⟨l, hl, hp⟩ := ih (fun i hi => h i (by omega))
    obtain ⟨x, hx⟩ := h n (by omega)
    refine ⟨l ++ [x], by simp [hl], fun i y hy => ?_⟩
    by_cases hi : i < l.length
    · rw [List.getElem?_append_left hi] at hy
      exact hp i y hy
    · have hlt := (List.getElem?_eq_some_iff.1 hy).1
      simp at hlt
      obtain rfl : i = l.length := by omega
      simp at hy
      subst hy
      rw [hl]
      exact hx

theorem agree_cell {W W' : World} (h : ∀ k, (fun _ => True) k → k < W.heap.size → W'.heap[k]? = W.heap[k]?) {a : Addr} {u : Value} (hc : W.cell? a = some u) : W'.cell? a = some u := by
  have hlt := World.block_lt_of_cell? W a hc
  rw [← hc]
  unfold World.cell?
  rw [h a.block trivial hlt]

theorem opens_slice {α : Type} {d : Kd α} {good : α → Prop} {B : Nat} (hu : P.underlying t = some (.slice e)) (hc : P.cellsOf e = d.sz) (hB : P.bytesOf e = B) (h : Opens P e d good) :
    Opens P t (Kd.slice e d) (fun xs => xs.length ≤ maxLen ∧ xs.length * B ≤ 140737488351232 ∧ ∀ x ∈ xs, good x) := by
  intro H enc W fuel cs x hx hw
  rcases open_slice hu hx with ⟨rfl, rfl⟩ | ⟨a, len, cap, m, n, D, Pl, rfl, _, hl, hm, hmm, rfl, hel⟩
  · exact ⟨[], fun W' _ => ⟨none, 0, rfl, Nat.le_refl _, rfl, Nat.zero_le _, fun h => absurd h (Nat.lt_irrefl 0)⟩, by simp, by simp, by simp⟩
  · have hmc : m = cap := by simpa using hmm
    subst hmc
    have hwl : (len + (m - len)) * B ≤ reachBytes := by
      have := hw ((((List.range len).map D).length + ((List.range (m - len)).map fun j => D (len + j)).length) * P.bytesOf e) (by simp [DataW.weights, hu])
      simpa [hB] using this
    have hlB : len * B ≤ 140737488351232 := Nat.le_trans (Nat.mul_le_mul_right _ (by omega)) hwl
    obtain ⟨xs, hxl, hxs⟩ := choose_list (n := len) (p := fun i y => ∃ c : List Value, c.length = d.sz ∧ Kd.FK d W (fun _ => True) y c ∧ good y ∧ ∀ j u, c[j]? = some u → W.cell? (a.add (i * d.sz + j)) = some u) (fun i hi => by
      obtain ⟨cs', h1, h2⟩ := hel i (by omega)
      obtain ⟨_, hlen, hcell⟩ := World.cells?_some h1
      obtain ⟨y, hK, hg⟩ := h H enc W n cs' (D i, Pl i) h2 (fun z hz => hw z (by
        simp only [DataW.weights, hu, List.mem_cons, List.mem_append]
        refine .inr (.inl (weightsAll_mem (d := D i) ?_ z hz))
        exact List.mem_map.2 ⟨i, by simpa using hi, rfl⟩))
      refine ⟨y, cs', by rw [hlen, hc], hK, hg, fun j u hj => ?_⟩
      have hjl : j < P.cellsOf e := by rw [← hlen]; exact (List.getElem?_eq_some_iff.1 hj).1
      have := hcell j hjl
      rw [hj, Go.Deep.add_add, hc] at this
      exact this)
    subst hxl
    refine ⟨xs, fun W' hW' => ⟨some a, m, rfl, hl, rfl, ?_, fun hn => ⟨a, rfl, fun j p hj => ?_⟩⟩, by omega, hlB, fun y hy => ?_⟩
    · unfold maxLen at hm; omega
    · obtain ⟨c, h1, h2, _, h4⟩ := hxs j p hj
      exact ⟨c, h1, h2 W' hW', fun i u hu => agree_cell hW' (h4 i u hu)⟩
    · obtain ⟨i, hi⟩ := List.getElem?_of_mem hy
      obtain ⟨_, _, _, h3, _⟩ := hxs i y hi
      exact h3

/-- Of a slice's cell: the slice that it is. -/
theorem openF_slice {α : Type} {d : Kd α} {W : World} {ok : Nat → Prop} {xs : List α} {a : Option Addr} {n c : Nat} (h : Kd.FK (Kd.slice e d) W ok xs [.slice a n c]) : n = xs.length ∧ xs.length ≤ c ∧ Kd.F d W ok a xs.length xs := by
  have h0 := h W (fun _ _ _ => rfl)
  obtain ⟨A, c', he, hl, _⟩ := h0
  simp only [List.cons.injEq, Value.slice.injEq, and_true] at he
  obtain ⟨rfl, rfl, rfl⟩ := he
  refine ⟨rfl, hl, fun W' hW' => ?_⟩
  obtain ⟨A, c', he, _, hC⟩ := h W' hW'
  simp only [List.cons.injEq, Value.slice.injEq, and_true] at he
  obtain ⟨rfl, _, rfl⟩ := he
  exact hC

/-- A struct's fields from one on, at their places. -/
def OpensF {α : Type} (P : Program) (fs : List Field) (off : Nat) (d : Kd α) (good : α → Prop) : Prop :=
  ∀ (H : Type) (enc : TypeId × Value → H) (W : World) (fuel : Nat) (cs : List Value) (xs : List (DataW H × List MemPlace)), cs.length = off + d.sz → xs.length = fs.length →
    (∀ (i : Nat) (f : Field), fs[i]? = some f → DataW.trod enc P W 0 (fun _ => true) true fuel f.type ((cs.drop f.offset).take (P.cellsOf f.type)) = xs[i]?) →
    (∀ n ∈ DataW.weightsEach P (fs.map (·.type)) (xs.map (·.1)), n ≤ reachBytes) → ∃ y, Kd.FK d W (fun _ => True) y (cs.drop off) ∧ good y

theorem opensF_one {α : Type} {f : Field} {off : Nat} {d : Kd α} {good : α → Prop} (ho : f.offset = off) (hc : P.cellsOf f.type = d.sz) (h : Opens P f.type d good) : OpensF P [f] off d good := by
  intro H enc W fuel cs xs hl hx he hw
  match xs, hx with
  | [x], _ =>
    have h1 := he 0 f rfl
    rw [ho, hc, List.take_of_length_le (by simp; omega)] at h1
    exact h H enc W fuel _ x h1 (fun n hn => hw n (by simp [DataW.weightsEach, hn]))

theorem opensF_cons {α β : Type} {f : Field} {fs : List Field} {off : Nat} {d : Kd α} {d' : Kd β} {good : α → Prop} {good' : β → Prop} (ho : f.offset = off) (hc : P.cellsOf f.type = d.sz) (h : Opens P f.type d good)
    (h' : OpensF P fs (off + d.sz) d' good') : OpensF P (f :: fs) off (Kd.pair d d') (fun x => good x.1 ∧ good' x.2) := by
  intro H enc W fuel cs xs hl hx he hw
  match xs, hx with
  | x :: xs, hx =>
    have hsz : (Kd.pair d d').sz = d.sz + d'.sz := rfl
    rw [hsz] at hl
    have h1 := he 0 f rfl
    rw [ho, hc] at h1
    obtain ⟨y, hy, hg⟩ := h H enc W fuel _ x h1 (fun n hn => hw n (by simp only [List.map_cons, DataW.weightsEach, List.mem_append]; exact .inl hn))
    obtain ⟨z, hz, hg'⟩ := h' H enc W fuel cs xs (by omega) (by simpa using hx) (fun i f hf => he (i + 1) f (by simpa using hf)) (fun n hn => hw n (by simp only [List.map_cons, DataW.weightsEach, List.mem_append]; exact .inr hn))
    refine ⟨(y, z), fun W' hW' => ⟨_, _, ?_, hy W' hW', hz W' hW'⟩, hg, hg'⟩
    rw [← List.drop_drop, List.take_append_drop]

theorem opens_struct {α β : Type} {fs : Array Field} {d : Kd α} {good : α → Prop} (hu : P.underlying t = some (.struct fs)) (hc : P.cellsOf t = d.sz) (h : OpensF P fs.toList 0 d good) (f : β → α) (g : α → β) (hfg : ∀ x, f (g x) = x) :
    Opens P t (Kd.iso d f) (fun x => good (f x)) := by
  intro H enc W fuel cs x hx hw
  obtain ⟨xs, n, rfl, rfl, hlen, hxl, he⟩ := DataW.trod_struct hu hx
  obtain ⟨y, hy, hg⟩ := h H enc W n cs xs (by rw [hlen, hc]; omega) (by simpa using hxl) (fun i f hf => he i f (by simpa using hf)) (fun k hk => hw k (by simpa [DataW.weights, hu] using hk))
  rw [List.drop_zero] at hy
  refine ⟨g y, ?_, ?_⟩
  · intro W' hW'
    show d.K W' (f (g y)) cs
    rw [hfg]; exact hy W' hW'
  · show good (f (g y))
    rw [hfg]; exact hg

end

/-- An argument, opened. -/
theorem open_arg {α : Type} {H : Type} {enc : TypeId × Value → H} {P : Program} {t : TypeId} {d : Kd α} {good : α → Prop} (h : Opens P t d good) {W : World} {v : Value} {dt : DataW H} {ps : List MemPlace} {ts : List TypeId} {ds : List (DataW H)} {j : Nat}
    (ht : DataW.Trod enc P W 0 (fun _ => true) true t v dt ps) (hsz : (DataW.weightsEach P ts ds).all (· ≤ reachBytes) = true) (hj : ts[j]? = some t) (hd : ds[j]? = some dt) : ∃ y, Kd.FK d W (fun _ => True) y v.cells.toList ∧ good y := by
  obtain ⟨fuel, hf⟩ := ht
  refine h H enc W fuel _ _ hf (fun n hn => ?_)
  have := List.all_eq_true.1 hsz n (DataW.weights_mem_each hj hd n hn)
  simpa using this

end Go.Proofs.Ytnlfcgnedemhhaa.O
