/- Plain laws of bits: the lowest bit of a word, its place by the table, bytes as one number with a bit turned. -/
import Derived.Test.YtnhjohcgnmogaaaDoorWireBBt
set_option linter.unusedVariables false
set_option linter.unusedSimpArgs false
set_option linter.unusedSectionVars false
namespace Go.Proofs.YtnhjohcgnmogaaaDoor
open Go Go.RowKit

/-! ### The lowest bit -/
theorem low_form : ∀ {x : Nat}, x ≠ 0 → ∃ t q, x = 2 ^ t * (2 * q + 1) := by
  intro x
  induction x using Nat.strongRecOn with
  | ind x ih =>
    intro h
    by_cases e : x % 2 = 1
    · exact ⟨0, x / 2, by rw [Nat.pow_zero, Nat.one_mul]; omega⟩
    · obtain ⟨t, q, hq⟩ := ih (x / 2) (by omega) (by omega)
      exact ⟨t + 1, q, by rw [Nat.pow_succ, Nat.mul_assoc, Nat.mul_left_comm, ← hq]; omega⟩
theorem mul_and (t a b : Nat) : (2 ^ t * a) &&& (2 ^ t * b) = 2 ^ t * (a &&& b) := by
  apply Nat.eq_of_testBit_eq
  intro i
  rw [Nat.testBit_and, Nat.testBit_two_pow_mul, Nat.testBit_two_pow_mul, Nat.testBit_two_pow_mul, Nat.testBit_and]
  cases decide (i ≥ t) <;> simp
theorem odd_and (a b : Nat) : (2 * a + 1) &&& (2 * b + 1) = 2 * (a &&& b) + 1 := by
  apply Nat.eq_of_testBit_eq
  intro i
  cases i with
  | zero => rw [Nat.testBit_and]; simp
  | succ i =>
    rw [Nat.testBit_and, Nat.testBit_succ, Nat.testBit_succ, Nat.testBit_succ, show (2 * a + 1) / 2 = a by omega, show (2 * b + 1) / 2 = b by omega, show (2 * (a &&& b) + 1) / 2 = (a &&& b) by omega, Nat.testBit_and]
theorem and_compl {n q : Nat} (h : q < 2 ^ n) : q &&& (2 ^ n - (q + 1)) = 0 := by
  apply Nat.eq_of_testBit_eq
  intro i
  rw [Nat.testBit_and, Nat.testBit_two_pow_sub_succ h, Nat.zero_testBit]
  cases q.testBit i <;> simp
theorem low_bit {t q : Nat} (h : 2 ^ t * (2 * q + 1) < 4294967296) : t < 32 ∧ (2 ^ t * (2 * q + 1)) &&& (4294967296 - 2 ^ t * (2 * q + 1)) = 2 ^ t := by
  have ht : t < 32 := by
    refine Nat.lt_of_not_le fun h32 => ?_
    have h1 : (2 : Nat) ^ 32 ≤ 2 ^ t := Nat.pow_le_pow_right (by decide) h32
    have h2 : 2 ^ t * 1 ≤ 2 ^ t * (2 * q + 1) := Nat.mul_le_mul_left _ (by omega)
    have h3 : (2 : Nat) ^ 32 = 4294967296 := by decide
    omega
  refine ⟨ht, ?_⟩
  obtain ⟨n, hn⟩ : ∃ n, 32 = t + (n + 1) := ⟨31 - t, by omega⟩
  have h32 : (4294967296 : Nat) = 2 ^ t * (2 * 2 ^ n) := by
    have : (2 : Nat) ^ 32 = 2 ^ t * (2 * 2 ^ n) := by rw [hn, Nat.pow_add, Nat.pow_succ, Nat.mul_comm (2 ^ n) 2]
    rw [← this]
  have hq : q < 2 ^ n := by
    rw [h32] at h
    have := Nat.lt_of_mul_lt_mul_left h
    omega
  have e : 4294967296 - 2 ^ t * (2 * q + 1) = 2 ^ t * (2 * (2 ^ n - (q + 1)) + 1) := by
    rw [h32, ← Nat.mul_sub]
    congr 1
    omega
  rw [e, mul_and, odd_and, and_compl hq, Nat.mul_zero, Nat.zero_add, Nat.mul_one]
theorem low_off (t q : Nat) : (2 ^ t * (2 * q + 1)) &&& (2 ^ t * (2 * q + 1) - 1) = 2 ^ t * (2 * q) := by
  have hp : 0 < 2 ^ t := Nat.two_pow_pos t
  have e : 2 ^ t * (2 * q + 1) - 1 = 2 ^ t * (2 * q) + (2 ^ t - 1) := by
    rw [Nat.mul_add, Nat.mul_one]; omega
  rw [e, Nat.two_pow_add_eq_or_of_lt (by omega)]
  apply Nat.eq_of_testBit_eq
  intro i
  rw [Nat.testBit_and, Nat.testBit_or, Nat.testBit_two_pow_mul, Nat.testBit_two_pow_mul, Nat.testBit_two_pow_sub_one]
  by_cases hi : i < t
  · simp [hi, show ¬ t ≤ i by omega]
  · simp only [show i ≥ t by omega, hi, decide_true, decide_false, Bool.true_and, Bool.or_false]
    cases hj : i - t with
    | zero => simp
    | succ j => rw [Nat.testBit_succ, Nat.testBit_succ, show (2 * q + 1) / 2 = q by omega, show 2 * q / 2 = q by omega, Bool.and_self]
theorem low_xor (t q : Nat) : 2 ^ t * (2 * q + 1) = 2 ^ t ^^^ (2 ^ t * (2 * q)) := by
  apply Nat.eq_of_testBit_eq
  intro i
  rw [Nat.testBit_xor, Nat.testBit_two_pow_mul, Nat.testBit_two_pow_mul, Nat.testBit_two_pow]
  by_cases hi : t ≤ i
  · simp only [show i ≥ t from hi, decide_true, Bool.true_and]
    cases hj : i - t with
    | zero => simp [show t = i by omega]
    | succ j => rw [Nat.testBit_succ, Nat.testBit_succ, show (2 * q + 1) / 2 = q by omega, show 2 * q / 2 = q by omega]; simp [show ¬ t = i by omega]
  · simp [show ¬ (i ≥ t) from hi, show ¬ t = i by omega]
/-! ### Bytes as one number -/
theorem mul_xorN (k a b : Nat) : 2 ^ k * (a ^^^ b) = (2 ^ k * a) ^^^ (2 ^ k * b) := numN_app.mul_xor k a b
theorem numN_set {y : UInt8} : ∀ {l : List UInt8} {i : Nat} {x : UInt8}, l[i]? = some x → numN (l.set i y) = numN l ^^^ (2 ^ (8 * i) * (x.toNat ^^^ y.toNat))
  | [], i, x, h => by cases h
  | c :: r, 0, x, h => by
    obtain rfl : c = x := by simpa using h
    rw [List.set_cons_zero, numN, numN, Nat.mul_zero, Nat.pow_zero, Nat.one_mul]
    apply Nat.eq_of_testBit_eq
    intro i
    simp only [Nat.testBit_xor]
    cases c.toNat.testBit i <;> cases y.toNat.testBit i <;> cases (2 ^ 8 * numN r).testBit i <;> rfl
  | c :: r, i + 1, x, h => by
    rw [List.set_cons_succ, numN, numN_set (l := r) (i := i) (x := x) (by simpa using h), numN, mul_xorN, Nat.xor_assoc, ← Nat.mul_assoc, ← Nat.pow_add, show 8 + 8 * i = 8 * (i + 1) by omega]
theorem numN_inj : ∀ {a b : List UInt8}, a.length = b.length → numN a = numN b → a = b
  | [], [], _, _ => rfl
  | [], c :: r, h, _ => by cases h
  | c :: r, [], h, _ => by cases h
  | c :: r, d :: s, h, e => by
    rw [numN, numN] at e
    have hc := c.toNat_lt
    have hd := d.toNat_lt
    have e1 : ∀ (x : UInt8) (n : Nat), (x.toNat ^^^ (2 ^ 8 * n)) % 256 = x.toNat := fun x n => by
      have hx := x.toNat_lt
      rw [show (256 : Nat) = 2 ^ 8 from rfl, Nat.xor_mod_two_pow, Nat.mul_mod_right, Nat.xor_zero, Nat.mod_eq_of_lt (by omega)]
    have e2 : ∀ (x : UInt8) (n : Nat), (x.toNat ^^^ (2 ^ 8 * n)) / 256 = n := fun x n => by
      have hx := x.toNat_lt
      rw [show (256 : Nat) = 2 ^ 8 from rfl, Nat.xor_div_two_pow, Nat.mul_div_cancel_left _ (by decide), Nat.div_eq_of_lt (by omega), Nat.zero_xor]
    have h1 := e1 c (numN r)
    have h2 := e2 c (numN r)
    rw [e, e1] at h1
    rw [e, e2] at h2
    have hcd : c = d := by rw [← UInt8.toNat_inj]; exact h1.symm
    rw [hcd, numN_inj (by simpa using h) h2.symm]
end Go.Proofs.YtnhjohcgnmogaaaDoor
