/- Plain facts of bits: what Go's operators on bits tell of whole numbers. No program in sight. -/
import Derived.Laws.BitsLemmas
import Derived.RowKit
namespace Go.Proofs.Ytmiijakcmbolfaa.M
open Go Go.RowKit
set_option linter.unusedVariables false
set_option linter.unusedSimpArgs false

/-- The same as Option.bind_some, but no rule that Lean takes for one by sight: its kernel, asked to see (some a).bind f = f a anew, may set out to reckon a. -/
theorem bs {α β : Type} (a : α) (f : α → Option β) : (some a).bind f = f a := if h : True then rfl else absurd trivial h

theorem wrap_u8 (n : Int) : IntKind.u8.wrap n = n % 256 := by simp [IntKind.wrap, IntKind.bits, IntKind.signed]
theorem wrap_u32 (n : Int) : IntKind.u32.wrap n = n % 4294967296 := by simp [IntKind.wrap, IntKind.bits, IntKind.signed]
theorem wrap_u64 (n : Int) : IntKind.u64.wrap n = n % 18446744073709551616 := by simp [IntKind.wrap, IntKind.bits, IntKind.signed]
theorem wrap64_id {n : Int} (h0 : -9223372036854775808 ≤ n) (h1 : n < 9223372036854775808) : wrap64 n = n := by unfold wrap64; omega

theorem wf_u64 {n : Int} (h : (Lit.int .u64 n).wf = true) : 0 ≤ n ∧ n < 18446744073709551616 := by
  simp [Lit.wf, IntKind.min, IntKind.max, IntKind.signed, IntKind.bits] at h; omega
theorem wf_u32 {n : Int} (h : (Lit.int .u32 n).wf = true) : 0 ≤ n ∧ n < 4294967296 := by
  simp [Lit.wf, IntKind.min, IntKind.max, IntKind.signed, IntKind.bits] at h; omega
theorem wf_u8 {n : Int} (h : (Lit.int .u8 n).wf = true) : 0 ≤ n ∧ n < 256 := by
  simp [Lit.wf, IntKind.min, IntKind.max, IntKind.signed, IntKind.bits] at h; omega
theorem wf_i64 {n : Int} (h : (Lit.int .i64 n).wf = true) : -9223372036854775808 ≤ n ∧ n < 9223372036854775808 := by
  simp [Lit.wf, IntKind.min, IntKind.max, IntKind.signed, IntKind.bits] at h; omega

/-- the operators on numbers that are natural -/
theorem bits_nat_u (op : BinOp) (k : IntKind) (hs : k.signed = false) (a b : Nat) (ha : a < 2 ^ k.bits) (hb : b < 2 ^ k.bits) :
    bits op k a b = (match op with | .and => a &&& b | .or => a ||| b | .xor => a ^^^ b | _ => a &&& (2 ^ k.bits - 1 - b) : Nat) := by
  have ha' : a % 2 ^ k.bits = a := Nat.mod_eq_of_lt ha
  have hb' : b % 2 ^ k.bits = b := Nat.mod_eq_of_lt hb
  have hw : ∀ n : Nat, n < 2 ^ k.bits → k.wrap (n : Int) = (n : Int) := by
    intro n hn
    have hn' : ((n : Int)) < (2 ^ k.bits : Int) := by exact_mod_cast hn
    simp only [IntKind.wrap, hs, Bool.false_and]
    rw [Int.emod_eq_of_lt (Int.natCast_nonneg _) hn']
    simp
  have key : ∀ v : BitVec k.bits, k.wrap ((v.toNat : Nat) : Int) = ((v.toNat : Nat) : Int) := fun v => hw _ v.isLt
  unfold bits
  rw [key]
  congr 1
  cases op <;> simp [BitVec.ofInt_natCast, BitVec.toNat_and, BitVec.toNat_or, BitVec.toNat_xor, BitVec.toNat_ofNat, BitVec.toNat_not, ha', hb']

theorem u8_nat (x : Int) (h0 : 0 ≤ x) (h1 : x < 256) : ∃ n : Nat, n < 256 ∧ x = n := ⟨x.toNat, by omega, by omega⟩
theorem or128 {x : Int} (h0 : 0 ≤ x) (h1 : x < 256) : bits .or .u8 x 128 = x % 128 + 128 := by
  obtain ⟨n, hn, rfl⟩ := u8_nat x h0 h1
  have := bits_nat_u .or .u8 rfl n 128 (by simpa [IntKind.bits] using hn) (by decide)
  rw [show ((128 : Nat) : Int) = 128 from rfl] at this
  rw [this]
  have key : ∀ m : Fin 256, (m.val ||| 128) = m.val % 128 + 128 := by decide +kernel
  have := key ⟨n, hn⟩
  simp only at this ⊢
  rw [this]; omega
theorem andNot128 {x : Int} (h0 : 0 ≤ x) (h1 : x < 256) : bits .andNot .u8 x 128 = x % 128 := by
  obtain ⟨n, hn, rfl⟩ := u8_nat x h0 h1
  have := bits_nat_u .andNot .u8 rfl n 128 (by simpa [IntKind.bits] using hn) (by decide)
  rw [show ((128 : Nat) : Int) = 128 from rfl] at this
  rw [this]
  have key : ∀ m : Fin 256, (m.val &&& (2 ^ 8 - 1 - 128)) = m.val % 128 := by decide +kernel
  have := key ⟨n, hn⟩
  simp only [IntKind.bits] at this ⊢
  rw [this]; omega

theorem xor_zero_u64 {x : Int} (h0 : 0 ≤ x) (h1 : x < 18446744073709551616) : bits .xor .u64 x 0 = x := by
  obtain ⟨n, rfl⟩ := Int.eq_ofNat_of_zero_le h0
  have := bits_nat_u .xor .u64 rfl n 0 (by simp [IntKind.bits]; omega) (by decide)
  rw [show ((0 : Nat) : Int) = 0 from rfl] at this
  rw [this]; simp
theorem xor_ones_u64 {x : Int} (h0 : 0 ≤ x) (h1 : x < 18446744073709551616) : bits .xor .u64 x 18446744073709551615 = 18446744073709551615 - x := by
  obtain ⟨n, rfl⟩ := Int.eq_ofNat_of_zero_le h0
  have hn : n < 2 ^ 64 := by omega
  have := bits_nat_u .xor .u64 rfl n 18446744073709551615 hn (by decide)
  rw [show ((18446744073709551615 : Nat) : Int) = 18446744073709551615 from rfl] at this
  rw [this]
  have e : (~~~ (BitVec.ofNat 64 n)).toNat = 2 ^ 64 - 1 - n := by rw [BitVec.toNat_not, BitVec.toNat_ofNat, Nat.mod_eq_of_lt hn]
  rw [← BitVec.xor_allOnes, BitVec.toNat_xor, BitVec.toNat_allOnes, BitVec.toNat_ofNat, Nat.mod_eq_of_lt hn] at e
  simp only at e ⊢
  rw [show (18446744073709551615 : Nat) = 2 ^ 64 - 1 from rfl, e]
  omega
theorem and_one_u64 {x : Int} (h0 : 0 ≤ x) (h1 : x < 18446744073709551616) : bits .and .u64 x 1 = x % 2 := by
  obtain ⟨n, rfl⟩ := Int.eq_ofNat_of_zero_le h0
  have := bits_nat_u .and .u64 rfl n 1 (by simp [IntKind.bits]; omega) (by decide)
  rw [show ((1 : Nat) : Int) = 1 from rfl] at this
  rw [this]; simp only [Nat.and_one_is_mod]; omega
theorem xor_zero_i64 {x : Int} (h0 : 0 ≤ x) (h1 : x < 9223372036854775808) : bits .xor .i64 x 0 = x := by
  obtain ⟨n, rfl⟩ := Int.eq_ofNat_of_zero_le h0
  have hn : n < 2 ^ 64 := by omega
  have e : bits .xor .i64 (n : Int) 0 = IntKind.i64.wrap (((BitVec.ofNat 64 n ^^^ 0#64).toNat : Nat) : Int) := by
    simp only [bits, IntKind.bits, BitVec.ofInt_natCast]; rfl
  rw [e, BitVec.xor_zero, BitVec.toNat_ofNat, Nat.mod_eq_of_lt hn, IntKind.wrap_i64]; omega
theorem xor_ones_i64 {x : Int} (h0 : 0 ≤ x) (h1 : x < 9223372036854775808) : bits .xor .i64 x (-1) = -x - 1 := by
  obtain ⟨n, rfl⟩ := Int.eq_ofNat_of_zero_le h0
  have hn : n < 2 ^ 64 := by omega
  have e : bits .xor .i64 (n : Int) (-1) = IntKind.i64.wrap (((BitVec.ofNat 64 n ^^^ BitVec.allOnes 64).toNat : Nat) : Int) := by
    simp only [bits, IntKind.bits, BitVec.ofInt_natCast]; rfl
  rw [e, BitVec.xor_allOnes, BitVec.toNat_not, BitVec.toNat_ofNat, Nat.mod_eq_of_lt hn, IntKind.wrap_i64]; omega

/-- what lies in other bits is added -/
theorem or_add_u64 {x y : Int} {i : Nat} (hx0 : 0 ≤ x) (hx : x < 2 ^ i) (hy0 : 0 ≤ y) (hy : y % 2 ^ i = 0) (hx1 : x < 18446744073709551616) (hy1 : y < 18446744073709551616) : bits .or .u64 x y = x + y := by
  obtain ⟨a, rfl⟩ := Int.eq_ofNat_of_zero_le hx0
  obtain ⟨b, rfl⟩ := Int.eq_ofNat_of_zero_le hy0
  have hx' : a < 2 ^ i := by exact_mod_cast hx
  have hy' : b % 2 ^ i = 0 := by exact_mod_cast hy
  have := bits_nat_u .or .u64 rfl a b (by simp [IntKind.bits]; omega) (by simp [IntKind.bits]; omega)
  rw [this]
  have hq : b = 2 ^ i * (b / 2 ^ i) := by have := Nat.div_add_mod b (2 ^ i); omega
  simp only
  rw [hq, Nat.or_comm, ← Nat.two_pow_add_eq_or_of_lt hx']
  omega

end Go.Proofs.Ytmiijakcmbolfaa.M
