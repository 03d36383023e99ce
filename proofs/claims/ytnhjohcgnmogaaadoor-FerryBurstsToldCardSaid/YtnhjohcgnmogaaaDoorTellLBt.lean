/- The plain law of FerryBurstsTold: sealed bytes open again; turned in a burst they are refused; a cut record is none. -/
import Derived.Test.YtnhjohcgnmogaaaDoorBitLBt
set_option linter.unusedVariables false
set_option linter.unusedSimpArgs false
set_option linter.unusedSectionVars false
namespace Go.Proofs.YtnhjohcgnmogaaaDoor
open Go Go.RowKit

theorem bitAnd_nat {a b : Nat} (ha : a < 4294967296) (hb : b < 4294967296) : bitAnd .u32 (a : Int) (b : Int) = ((a &&& b : Nat) : Int) := by
  have h : (BitVec.ofInt IntKind.u32.bits (a : Int) &&& BitVec.ofInt IntKind.u32.bits (b : Int)).toNat = a &&& b := by
    rw [show IntKind.u32.bits = 32 from rfl, BitVec.toNat_and, BitVec.ofInt_natCast, BitVec.ofInt_natCast, BitVec.toNat_ofNat, BitVec.toNat_ofNat, Nat.mod_eq_of_lt (by omega), Nat.mod_eq_of_lt (by omega)]
  unfold bitAnd
  rw [h]
  exact wrap_u32 (Nat.lt_of_le_of_lt Nat.and_le_left ha)
theorem wrap_negU {x : Nat} (h0 : x ≠ 0) (h : x < 4294967296) : IntKind.u32.wrap (0 - (x : Int)) = ((4294967296 - x : Nat) : Int) := by
  have e : IntKind.u32.wrap (0 - (x : Int)) = (0 - (x : Int)) % 4294967296 := by simp [IntKind.wrap, IntKind.signed, IntKind.bits]
  rw [e]; omega
theorem wrap_predU {x : Nat} (h0 : x ≠ 0) (h : x < 4294967296) : IntKind.u32.wrap ((x : Int) - 1) = ((x - 1 : Nat) : Int) := by
  have e : IntKind.u32.wrap ((x : Int) - 1) = ((x : Int) - 1) % 4294967296 := by simp [IntKind.wrap, IntKind.signed, IntKind.bits]
  rw [e]; omega
theorem tz_tab : ∀ t : Fin 32, rdV tab13 (shR .u32 (IntKind.u32.wrap (((2 ^ t.val : Nat) : Int) * 125613361)) 27) = some (UInt8.ofNat t.val) := by decide +kernel
theorem tz_at {t q : Nat} (h : 2 ^ t * (2 * q + 1) < 4294967296) : g_math_bits_TrailingZeros32 (((2 ^ t * (2 * q + 1) : Nat)) : Int) = some ((t : Nat) : Int) := by
  obtain ⟨ht, hb⟩ := low_bit h
  have h0 : 2 ^ t * (2 * q + 1) ≠ 0 := Nat.mul_ne_zero (Nat.pos_iff_ne_zero.1 (Nat.two_pow_pos _)) (by omega)
  generalize hx : 2 ^ t * (2 * q + 1) = x at *
  have e1 := wrap_negU h0 h
  have e2 : bitAnd .u32 (x : Int) ((4294967296 - x : Nat) : Int) = ((2 ^ t : Nat) : Int) := by rw [bitAnd_nat h (by omega), hb]
  have e3 := tz_tab ⟨t, ht⟩
  simp only at e3
  have e4 : ¬ ((x : Int) = 0) := by omega
  have e5 : ((UInt8.ofNat t).toNat : Int) = (t : Int) := by rw [UInt8.toNat_ofNat']; omega
  simp only [g_math_bits_TrailingZeros32, e1, e2, e3, e4, decide_false, cond_false, Option.bind_some, e5]
def lenT : ByteArray := ⟨#[0, 1, 2, 2, 3, 3, 3, 3, 4, 4, 4, 4, 4, 4, 4, 4, 5, 5, 5, 5, 5, 5, 5, 5, 5, 5, 5, 5, 5, 5, 5, 5, 6, 6, 6, 6, 6, 6, 6, 6, 6, 6, 6, 6, 6, 6, 6, 6, 6, 6, 6, 6, 6, 6, 6, 6, 6, 6, 6, 6, 6, 6, 6, 6, 7, 7, 7, 7, 7, 7, 7, 7, 7, 7, 7, 7, 7, 7, 7, 7, 7, 7, 7, 7, 7, 7, 7, 7, 7, 7, 7, 7, 7, 7, 7, 7, 7, 7, 7, 7, 7, 7, 7, 7, 7, 7, 7, 7, 7, 7, 7, 7, 7, 7, 7, 7, 7, 7, 7, 7, 7, 7, 7, 7, 7, 7, 7, 7, 8, 8, 8, 8, 8, 8, 8, 8, 8, 8, 8, 8, 8, 8, 8, 8, 8, 8, 8, 8, 8, 8, 8, 8, 8, 8, 8, 8, 8, 8, 8, 8, 8, 8, 8, 8, 8, 8, 8, 8, 8, 8, 8, 8, 8, 8, 8, 8, 8, 8, 8, 8, 8, 8, 8, 8, 8, 8, 8, 8, 8, 8, 8, 8, 8, 8, 8, 8, 8, 8, 8, 8, 8, 8, 8, 8, 8, 8, 8, 8, 8, 8, 8, 8, 8, 8, 8, 8, 8, 8, 8, 8, 8, 8, 8, 8, 8, 8, 8, 8, 8, 8, 8, 8, 8, 8, 8, 8, 8, 8, 8, 8, 8, 8, 8, 8, 8, 8, 8, 8, 8, 8, 8, 8, 8, 8, 8, 8]⟩
theorem J1_eq (z n : Int) : g_math_bits_Len32_J1 (z, n) = (rdS lenT (IntKind.u8.wrap z)).bind fun c => some (IntKind.i64.wrap (n + IntKind.i64.wrap c)) := rfl
theorem len_tab : ∀ x : Fin 256, rdS lenT ((x.val : Nat) : Int) = some (((if x.val = 0 then 0 else Nat.log2 x.val + 1 : Nat)) : Int) := by decide +kernel
theorem len_J1 {z n : Nat} (h0 : z ≠ 0) (h : z < 256) (hn : n ≤ 24) : g_math_bits_Len32_J1 ((z : Int), (n : Int)) = some (((Nat.log2 z + 1 + n : Nat)) : Int) := by
  have e := len_tab ⟨z, h⟩
  simp only at e
  rw [if_neg h0] at e
  have w : IntKind.u8.wrap (z : Int) = (z : Int) := by rw [wrap_u8n, Nat.mod_eq_of_lt h]
  have hl : Nat.log2 z < 8 := (Nat.log2_lt h0).2 (by omega)
  have w1 : IntKind.i64.wrap (((Nat.log2 z + 1 : Nat)) : Int) = ((Nat.log2 z + 1 : Nat) : Int) := wrap64_eq ⟨by omega, by omega⟩
  have w2 : IntKind.i64.wrap ((n : Int) + ((Nat.log2 z + 1 : Nat) : Int)) = ((Nat.log2 z + 1 + n : Nat) : Int) := by rw [wrap64_eq ⟨by omega, by omega⟩]; omega
  rw [J1_eq, w, e, Option.bind_some, w1, w2]
theorem log2_shift {m k : Nat} (h : 2 ^ k ≤ m) : Nat.log2 m = Nat.log2 (m / 2 ^ k) + k := by
  have hp := Nat.two_pow_pos k
  have hd : m / 2 ^ k ≠ 0 := Nat.pos_iff_ne_zero.1 (Nat.div_pos h hp)
  have hm : m ≠ 0 := by omega
  have l1 := Nat.log2_self_le hd
  have l2 : m / 2 ^ k < 2 ^ (Nat.log2 (m / 2 ^ k) + 1) := Nat.lt_log2_self
  have a1 : 2 ^ (Nat.log2 (m / 2 ^ k) + k) ≤ m := by
    rw [Nat.pow_add]
    exact Nat.le_trans (Nat.mul_le_mul_right _ l1) (Nat.div_mul_le_self _ _)
  have a2 : m < 2 ^ (Nat.log2 (m / 2 ^ k) + 1 + k) := by
    rw [Nat.pow_add]
    exact (Nat.div_lt_iff_lt_mul hp).1 l2
  have b1 : Nat.log2 (m / 2 ^ k) + k ≤ Nat.log2 m := (Nat.le_log2 hm).2 a1
  have b2 : Nat.log2 m < Nat.log2 (m / 2 ^ k) + 1 + k := (Nat.log2_lt hm).2 a2
  omega
theorem len_J2 {z n : Nat} (h0 : z ≠ 0) (h : z < 65536) (hn : n ≤ 16) : g_math_bits_Len32_J2 ((z : Int), n) = some (((Nat.log2 z + 1 + n : Nat)) : Int) := by
  by_cases h1 : 256 ≤ z
  · have e1 : (256 : Int) ≤ (z : Int) := by omega
    have e2 : shR .u32 (z : Int) 8 = ((z / 256 : Nat) : Int) := shR_nat z 8 (by decide)
    have e3 : IntKind.i64.wrap (((n : Nat) : Int) + 8) = ((n + 8 : Nat) : Int) := by rw [wrap64_eq ⟨by omega, by omega⟩]; omega
    have e4 := len_J1 (z := z / 256) (n := n + 8) (by omega) (by omega) (by omega)
    have e5 := log2_shift (m := z) (k := 8) h1
    have e6 : Nat.log2 (z / 256) + 1 + (n + 8) = Nat.log2 z + 1 + n := by
      have e7 : Nat.log2 z = Nat.log2 (z / 256) + 8 := e5
      omega
    rw [e6] at e4
    simp only [g_math_bits_Len32_J2, e1, decide_true, cond_true, Option.bind_some, e2, e3, e4]
  · have e1 : ¬ (256 : Int) ≤ (z : Int) := by omega
    simp only [g_math_bits_Len32_J2, e1, decide_false, cond_false, Option.bind_some, len_J1 h0 (by omega : z < 256) (by omega : n ≤ 24)]
theorem len_at {m : Nat} (h0 : m ≠ 0) (h : m < 4294967296) : g_math_bits_Len32 (m : Int) = some (((Nat.log2 m + 1 : Nat)) : Int) := by
  by_cases h1 : 65536 ≤ m
  · have e1 : (65536 : Int) ≤ (m : Int) := by omega
    have e2 : shR .u32 (m : Int) 16 = ((m / 65536 : Nat) : Int) := shR_nat m 16 (by decide)
    have e4 := len_J2 (z := m / 65536) (n := 16) (by omega) (by omega) (by omega)
    have e5 := log2_shift (m := m) (k := 16) h1
    have e6 : Nat.log2 (m / 65536) + 1 + 16 = Nat.log2 m + 1 := by
      have e7 : Nat.log2 m = Nat.log2 (m / 65536) + 16 := e5
      omega
    rw [e6] at e4
    simp only [g_math_bits_Len32, e1, decide_true, cond_true, Option.bind_some, e2, e4]
  · have e1 : ¬ (65536 : Int) ≤ (m : Int) := by omega
    simp only [g_math_bits_Len32, e1, decide_false, cond_false, Option.bind_some, len_J2 h0 (by omega : m < 65536) (by omega : 0 ≤ 16), Nat.add_zero]
/-! ### A burst is turned -/
theorem shl8 : ∀ j : Fin 8, shL .u8 1 ((j.val : Nat) : Int) = ((2 ^ j.val : Nat) : Int) := by decide
theorem place_of {a t : Nat} (ht : t < 64) (ha : a < 4611686018427387904) :
    IntKind.i64.wrap ((IntKind.i64.wrap (Int.tdiv (a : Int) 8)) + (IntKind.i64.wrap (Int.tdiv (IntKind.i64.wrap ((Int.tmod (a : Int) 8) + ((t : Nat) : Int))) 8))) = (((a + t) / 8 : Nat) : Int) ∧ Int.tmod (IntKind.i64.wrap ((Int.tmod (a : Int) 8) + ((t : Nat) : Int))) 8 = (((a + t) % 8 : Nat) : Int) := by
  have d1 : Int.tdiv (a : Int) 8 = ((a / 8 : Nat) : Int) := by rw [Int.tdiv_eq_ediv_of_nonneg (by omega)]; omega
  have m1 : Int.tmod (a : Int) 8 = ((a % 8 : Nat) : Int) := by rw [Int.tmod_eq_emod_of_nonneg (by omega)]; omega
  have w1 : IntKind.i64.wrap (((a / 8 : Nat) : Int)) = ((a / 8 : Nat) : Int) := wrap64_eq ⟨by omega, by omega⟩
  have w2 : IntKind.i64.wrap (((a % 8 : Nat) : Int) + ((t : Nat) : Int)) = ((a % 8 + t : Nat) : Int) := by rw [wrap64_eq ⟨by omega, by omega⟩]; omega
  have d2 : Int.tdiv (((a % 8 + t : Nat)) : Int) 8 = (((a % 8 + t) / 8 : Nat) : Int) := by rw [Int.tdiv_eq_ediv_of_nonneg (by omega)]; omega
  have m2 : Int.tmod (((a % 8 + t : Nat)) : Int) 8 = (((a % 8 + t) % 8 : Nat) : Int) := by rw [Int.tmod_eq_emod_of_nonneg (by omega)]; omega
  have w3 : IntKind.i64.wrap ((((a % 8 + t) / 8 : Nat)) : Int) = (((a % 8 + t) / 8 : Nat) : Int) := wrap64_eq ⟨by omega, by omega⟩
  have w4 : IntKind.i64.wrap (((a / 8 : Nat) : Int) + (((a % 8 + t) / 8 : Nat) : Int)) = (((a + t) / 8 : Nat) : Int) := by rw [wrap64_eq ⟨by omega, by omega⟩]; omega
  rw [d1, m1, w1, w2, d2, m2, w3, w4]
  exact ⟨rfl, by omega⟩
theorem turn_loop (a s : Nat) (ha : a < 4611686018427387904) (hs : s ≤ 32) : ∀ (z : Nat) (l : List UInt8), z < 2 ^ s → a + s ≤ 8 * l.length →
    ∃ c, iter (g_crc_Turn_L2 (a : Int)) ((z : Int), l) = some c ∧ c.length = l.length ∧ numN c = numN l ^^^ (2 ^ a * z) := by
  intro z
  induction z using Nat.strongRecOn with
  | ind z ih =>
    intro l hz hl
    by_cases h0 : z = 0
    · subst h0
      exact ⟨l, iter_inr (by simp [g_crc_Turn_L2]), rfl, by simp⟩
    · obtain ⟨t, q, rfl⟩ := low_form h0
      have h32 : 2 ^ t * (2 * q + 1) < 4294967296 := by
        have : (2 : Nat) ^ s ≤ 2 ^ 32 := Nat.pow_le_pow_right (by decide) hs
        have e : (2 : Nat) ^ 32 = 4294967296 := by decide
        omega
      have hts : t < s := by
        refine Nat.lt_of_not_le fun h => ?_
        have h1 : (2 : Nat) ^ s ≤ 2 ^ t := Nat.pow_le_pow_right (by decide) h
        have h2 : 2 ^ t * 1 ≤ 2 ^ t * (2 * q + 1) := Nat.mul_le_mul_left _ (by omega)
        omega
      have htz := tz_at h32
      obtain ⟨p1, p2⟩ := place_of (a := a) (t := t) (by omega) ha
      have hi : (a + t) / 8 < l.length := by omega
      have hx : l[(a + t) / 8]? = some l[(a + t) / 8] := List.getElem?_eq_getElem hi
      generalize l[(a + t) / 8] = x at hx
      have hr : rdI l (((a + t) / 8 : Nat) : Int) = some x := by rw [rdI_nat]; exact hx
      have hj : (a + t) % 8 < 8 := by omega
      have hsh := shl8 ⟨(a + t) % 8, hj⟩
      simp only at hsh
      have hp8 : 2 ^ ((a + t) % 8) < 256 := by
        have : (2 : Nat) ^ ((a + t) % 8) ≤ 2 ^ 7 := Nat.pow_le_pow_right (by decide) (by omega)
        have e : (2 : Nat) ^ 7 = 128 := by decide
        omega
      have hxb := x.toNat_lt
      have hxor : bitXor .u8 (x.toNat : Int) ((2 ^ ((a + t) % 8) : Nat) : Int) = ((x.toNat ^^^ 2 ^ ((a + t) % 8) : Nat) : Int) := bitXor_nat8 (by omega) hp8
      have hlt : x.toNat ^^^ 2 ^ ((a + t) % 8) < 256 := Nat.xor_lt_two_pow (n := 8) (by omega) (by omega)
      have hy : (byteOf ((x.toNat ^^^ 2 ^ ((a + t) % 8) : Nat) : Int)).toNat = x.toNat ^^^ 2 ^ ((a + t) % 8) := by rw [byteOf_nat, Nat.mod_eq_of_lt hlt]
      have hand : bitAnd .u32 ((2 ^ t * (2 * q + 1) : Nat) : Int) (IntKind.u32.wrap (((2 ^ t * (2 * q + 1) : Nat) : Int) - 1)) = ((2 ^ t * (2 * q) : Nat) : Int) := by
        rw [wrap_predU h0 h32, bitAnd_nat h32 (by omega), low_off]
      have hne : ¬ (((2 ^ t * (2 * q + 1) : Nat) : Int) = 0) := by omega
      have h8 : (0 : Int) ≤ (((a + t) % 8 : Nat) : Int) := by omega
      have hstep : g_crc_Turn_L2 (a : Int) (((2 ^ t * (2 * q + 1) : Nat) : Int), l) = some (.inl (((2 ^ t * (2 * q) : Nat) : Int), l.set ((a + t) / 8) (byteOf ((x.toNat ^^^ 2 ^ ((a + t) % 8) : Nat) : Int)))) := by
        simp only [g_crc_Turn_L2, hne, decide_false, Bool.not_false, cond_true, htz, Option.bind_some, p1, p2, hr, chk, h8, if_true, hsh, hxor, hand, Int.toNat_natCast]
      have hlt2 : 2 ^ t * (2 * q) < 2 ^ t * (2 * q + 1) := Nat.mul_lt_mul_of_pos_left (by omega) (Nat.two_pow_pos t)
      obtain ⟨c, h1, h2, h3⟩ := ih _ hlt2 (l.set ((a + t) / 8) (byteOf ((x.toNat ^^^ 2 ^ ((a + t) % 8) : Nat) : Int))) (by omega) (by rw [List.length_set]; exact hl)
      refine ⟨c, by rw [iter_inl hstep]; exact h1, by rw [h2, List.length_set], ?_⟩
      rw [h3, numN_set hx, hy, ← Nat.xor_assoc x.toNat, Nat.xor_self, Nat.zero_xor, ← Nat.pow_add, show 8 * ((a + t) / 8) + (a + t) % 8 = a + t by omega, Nat.xor_assoc, Nat.pow_add, ← mul_xorN, ← low_xor]
theorem turn_yes {b : List UInt8} {a m : Nat} (hb : b.length ≤ 140737488355328) (h0 : m ≠ 0) (hm : m < 4294967296) (ha : a + Nat.log2 m + 1 ≤ 8 * b.length) :
    ∃ c, g_crc_Turn b (a : Int) (m : Int) = some (c, .nil) ∧ c.length = b.length ∧ numN c = numN b ^^^ (2 ^ a * m) := by
  have hl32 : Nat.log2 m < 32 := (Nat.log2_lt h0).2 (by omega)
  obtain ⟨c, h1, h2, h3⟩ := turn_loop a (Nat.log2 m + 1) (by omega) (by omega) m b Nat.lt_log2_self (by omega)
  have e1 : ¬ ((m : Int) = 0) := by omega
  have e2 : ¬ ((a : Int) < 0) := by omega
  have d1 : Int.tdiv (a : Int) 8 = ((a / 8 : Nat) : Int) := by rw [Int.tdiv_eq_ediv_of_nonneg (by omega)]; omega
  have w1 : IntKind.i64.wrap (((a / 8 : Nat) : Int)) = ((a / 8 : Nat) : Int) := wrap64_eq ⟨by omega, by omega⟩
  have e3 : ¬ (((b.length : Nat) : Int) ≤ ((a / 8 : Nat) : Int)) := by omega
  have hln := len_at h0 hm
  have m1 : Int.tmod (a : Int) 8 = ((a % 8 : Nat) : Int) := by rw [Int.tmod_eq_emod_of_nonneg (by omega)]; omega
  have w2 : IntKind.i64.wrap (((a % 8 : Nat) : Int) + ((Nat.log2 m + 1 : Nat) : Int)) = ((a % 8 + Nat.log2 m + 1 : Nat) : Int) := by rw [wrap64_eq ⟨by omega, by omega⟩]; omega
  have w3 : IntKind.i64.wrap (((a % 8 + Nat.log2 m + 1 : Nat) : Int) - 1) = ((a % 8 + Nat.log2 m : Nat) : Int) := by rw [wrap64_eq ⟨by omega, by omega⟩]; omega
  have d2 : Int.tdiv (((a % 8 + Nat.log2 m : Nat)) : Int) 8 = (((a % 8 + Nat.log2 m) / 8 : Nat) : Int) := by rw [Int.tdiv_eq_ediv_of_nonneg (by omega)]; omega
  have w4 : IntKind.i64.wrap ((((a % 8 + Nat.log2 m) / 8 : Nat)) : Int) = (((a % 8 + Nat.log2 m) / 8 : Nat) : Int) := wrap64_eq ⟨by omega, by omega⟩
  have w5 : IntKind.i64.wrap (((a / 8 : Nat) : Int) + (((a % 8 + Nat.log2 m) / 8 : Nat) : Int)) = (((a + Nat.log2 m) / 8 : Nat) : Int) := by rw [wrap64_eq ⟨by omega, by omega⟩]; omega
  have e4 : ¬ (((b.length : Nat) : Int) ≤ (((a + Nat.log2 m) / 8 : Nat) : Int)) := by omega
  have hc : (([] : List UInt8).length + b.length) * 1 ≤ 140737488355328 := by simp; omega
  refine ⟨c, ?_, h2, h3⟩
  simp only [g_crc_Turn, g_crc_Turn_J3, e1, e2, e3, e4, d1, w1, hln, m1, w2, w3, d2, w4, w5, decide_false, cond_false, Option.bind_some, g_bytes_Clone, chk, hc, if_true, List.nil_append, h1]
theorem turn_no {b : List UInt8} {at_ : Int} {m : Nat} (hb : b.length ≤ 140737488355328) (hat : at_ < 9223372036854775808) (hm : m < 4294967296) (h : ¬ (m ≠ 0 ∧ 0 ≤ at_ ∧ at_ + (Nat.log2 m : Int) + 1 ≤ 8 * (b.length : Int))) :
    g_crc_Turn b at_ (m : Int) = some ([], .v gArg) := by
  by_cases h0 : m = 0
  · subst h0
    simp [g_crc_Turn, g_crc_Turn_J3]
  · have e1 : ¬ ((m : Int) = 0) := by omega
    by_cases h1 : at_ < 0
    · simp only [g_crc_Turn, g_crc_Turn_J3, e1, h1, decide_true, decide_false, cond_true, cond_false, Option.bind_some]
    · obtain ⟨a, rfl⟩ := Int.eq_ofNat_of_zero_le (show 0 ≤ at_ by omega)
      have hl32 : Nat.log2 m < 32 := (Nat.log2_lt h0).2 (by omega)
      have d1 : Int.tdiv (a : Int) 8 = ((a / 8 : Nat) : Int) := by rw [Int.tdiv_eq_ediv_of_nonneg (by omega)]; omega
      have w1 : IntKind.i64.wrap (((a / 8 : Nat) : Int)) = ((a / 8 : Nat) : Int) := wrap64_eq ⟨by omega, by omega⟩
      by_cases h2 : b.length ≤ a / 8
      · have e3 : ((b.length : Nat) : Int) ≤ ((a / 8 : Nat) : Int) := by omega
        simp only [g_crc_Turn, g_crc_Turn_J3, e1, h1, d1, w1, e3, decide_true, decide_false, cond_true, cond_false, Option.bind_some]
      · have e3 : ¬ (((b.length : Nat) : Int) ≤ ((a / 8 : Nat) : Int)) := by omega
        have hln := len_at h0 hm
        have m1 : Int.tmod (a : Int) 8 = ((a % 8 : Nat) : Int) := by rw [Int.tmod_eq_emod_of_nonneg (by omega)]; omega
        have w2 : IntKind.i64.wrap (((a % 8 : Nat) : Int) + ((Nat.log2 m + 1 : Nat) : Int)) = ((a % 8 + Nat.log2 m + 1 : Nat) : Int) := by rw [wrap64_eq ⟨by omega, by omega⟩]; omega
        have w3 : IntKind.i64.wrap (((a % 8 + Nat.log2 m + 1 : Nat) : Int) - 1) = ((a % 8 + Nat.log2 m : Nat) : Int) := by rw [wrap64_eq ⟨by omega, by omega⟩]; omega
        have d2 : Int.tdiv (((a % 8 + Nat.log2 m : Nat)) : Int) 8 = (((a % 8 + Nat.log2 m) / 8 : Nat) : Int) := by rw [Int.tdiv_eq_ediv_of_nonneg (by omega)]; omega
        have w4 : IntKind.i64.wrap ((((a % 8 + Nat.log2 m) / 8 : Nat)) : Int) = (((a % 8 + Nat.log2 m) / 8 : Nat) : Int) := wrap64_eq ⟨by omega, by omega⟩
        have w5 : IntKind.i64.wrap (((a / 8 : Nat) : Int) + (((a % 8 + Nat.log2 m) / 8 : Nat) : Int)) = (((a + Nat.log2 m) / 8 : Nat) : Int) := by rw [wrap64_eq ⟨by omega, by omega⟩]; omega
        have h3 : ¬ (a + Nat.log2 m + 1 ≤ 8 * b.length) := fun hh => h ⟨h0, by omega, by omega⟩
        have e4 : ((b.length : Nat) : Int) ≤ (((a + Nat.log2 m) / 8 : Nat) : Int) := by omega
        simp only [g_crc_Turn, g_crc_Turn_J3, e1, h1, e3, e4, d1, w1, hln, m1, w2, w3, d2, w4, w5, decide_true, decide_false, cond_true, cond_false, Option.bind_some]
/-! ### Sealed, opened -/
theorem seal_at (b : List UInt8) (h : b.length ≤ 140737488355324) : g_crc_Seal b = some (b ++ laidB (sSum b)) := by
  have c1 : (([] : List UInt8).length + b.length) * 1 ≤ 140737488355328 := by simp; omega
  have c2 : (([] ++ b).length + (laidB (sSum b)).length) * 1 ≤ 140737488355328 := by simp [laidB]; omega
  have e : g_crc_laid (sSum b) = some (laidB (sSum b)) := rfl
  simp only [g_crc_Seal, g_bytes_Clone, crc_Sum, e, chk, c1, c2, if_true, Option.bind_some]
  rfl
theorem strB_eq {a b : List UInt8} : strB a = strB b ↔ a = b := ⟨fun h => by
  have := congrArg (fun s : ByteArray => s.data.toList) h
  simpa [strB] using this, fun h => by rw [h]⟩
theorem open_at (s : List UInt8) (hs : s.length ≤ 140737488355328) (h4 : 4 ≤ s.length) : g_crc_Open s = some (if laidB (sSum (s.take (s.length - 4))) = s.drop (s.length - 4) then (s.take (s.length - 4), .nil) else ([], .v gSum)) := by
  have e1 : ¬ s.length < 4 := by omega
  have w1 : IntKind.i64.wrap (((s.length : Nat) : Int) - 4) = ((s.length - 4 : Nat) : Int) := by rw [wrap64_eq ⟨by omega, by omega⟩]; omega
  have hl : (s.take (s.length - 4)).length = s.length - 4 := by rw [List.length_take]; omega
  have c1 : (0 : Int) ≤ ((s.length - 4 : Nat) : Int) ∧ ((s.length - 4 : Nat) : Int) ≤ ((s.length : Nat) : Int) := ⟨by omega, by omega⟩
  have c2 : (0 : Int) ≤ ((s.length - 4 : Nat) : Int) ∧ ((s.length - 4 : Nat) : Int) ≤ ((s.length : Nat) : Int) ∧ ((s.length : Nat) : Int) ≤ ((s.length : Nat) : Int) := ⟨by omega, by omega, by omega⟩
  have hd : (s.drop (s.length - 4)).take (s.length - (s.length - 4)) = s.drop (s.length - 4) := List.take_of_length_le (by rw [List.length_drop]; omega)
  have el : g_crc_laid (sSum (s.take (s.length - 4))) = some (laidB (sSum (s.take (s.length - 4)))) := rfl
  have c3 : (([] : List UInt8).length + (s.take (s.length - 4)).length) * 1 ≤ 140737488355328 := by rw [hl]; simp; omega
  rw [hl] at c3
  have eq : g_bytes_Equal (laidB (sSum (s.take (s.length - 4)))) (s.drop (s.length - 4)) = some (decide (laidB (sSum (s.take (s.length - 4))) = s.drop (s.length - 4))) := by
    simp only [g_bytes_Equal, strB_eq]
  by_cases h : laidB (sSum (s.take (s.length - 4))) = s.drop (s.length - 4)
  · rw [if_pos h]
    rw [decide_eq_true h] at eq
    simp only [g_crc_Open, e1, w1, Int.toNat_natCast, hl, chk, c1, c2, and_self, if_true, crc_Sum, el, hd, eq, decide_true, decide_false, cond_false, Bool.not_true, Option.bind_some, g_bytes_Clone, c3, List.nil_append]
  · rw [if_neg h]
    rw [decide_eq_false h] at eq
    simp only [g_crc_Open, e1, w1, Int.toNat_natCast, hl, chk, c1, c2, and_self, if_true, crc_Sum, el, hd, eq, decide_true, decide_false, cond_false, cond_true, Bool.not_false, Option.bind_some]
/-! ### The highest bit, from above -/
theorem top_loop (x : GTopHurt) (m : Nat) (hx : x.Mask = (m : Int)) : ∀ k : Nat, k ≤ 31 → m < 2 ^ (k + 1) → iter (g_top_FerryBurstsTold_L11 x) (k : Int) = some ((Nat.log2 m : Nat) : Int)
  | 0, _, h => by
    have e : Nat.log2 m = 0 := by
      rcases (by omega : m = 0 ∨ m = 1) with rfl | rfl <;> decide
    rw [e]
    exact iter_inr (by simp [g_top_FerryBurstsTold_L11, g_top_FerryBurstsTold_J10])
  | k + 1, hk, h => by
    have e1 : (0 : Int) < ((k + 1 : Nat) : Int) := by omega
    have e2 : (0 : Int) ≤ ((k + 1 : Nat) : Int) := by omega
    have e3 : shR .u32 x.Mask ((k + 1 : Nat) : Int) = ((m / 2 ^ (k + 1) : Nat) : Int) := by rw [hx]; exact shR_nat m (k + 1) (by omega)
    by_cases hm : m < 2 ^ (k + 1)
    · have e4 : ((m / 2 ^ (k + 1) : Nat) : Int) = 0 := by rw [Nat.div_eq_of_lt hm]; rfl
      have w : IntKind.i64.wrap (((k + 1 : Nat) : Int) - 1) = (k : Int) := by rw [wrap64_eq ⟨by omega, by omega⟩]; omega
      rw [iter_inl (show g_top_FerryBurstsTold_L11 x ((k + 1 : Nat) : Int) = some (.inl (k : Int)) by
        simp only [g_top_FerryBurstsTold_L11, g_top_FerryBurstsTold_J10, e1, e2, e3, e4, w, chk, if_true, decide_true, cond_true, Option.bind_some])]
      exact top_loop x m hx k (by omega) hm
    · have hp := Nat.two_pow_pos (k + 1)
      have e4 : ¬ (((m / 2 ^ (k + 1) : Nat) : Int) = 0) := by
        have := Nat.div_pos (show 2 ^ (k + 1) ≤ m by omega) hp
        omega
      have e5 : Nat.log2 m = k + 1 := by
        have hm0 : m ≠ 0 := by omega
        have b1 : k + 1 ≤ Nat.log2 m := (Nat.le_log2 hm0).2 (by omega)
        have b2 : Nat.log2 m < k + 2 := (Nat.log2_lt hm0).2 h
        omega
      rw [e5]
      exact iter_inr (by
        simp only [g_top_FerryBurstsTold_L11, g_top_FerryBurstsTold_J10, e1, e2, e3, e4, chk, if_true, decide_true, decide_false, cond_true, cond_false, Option.bind_some])
/-! ### A record, and one that is cut -/
theorem open_sees (l : List UInt8) (hl : l.length ≤ 140737488355328) : g_wire_Open l = some ⟨l, 0, (l.length : Int)⟩ ∧ Sees ⟨l, 0, (l.length : Int)⟩ l := by
  have c1 : (([] : List UInt8).length + l.length) * 1 ≤ 140737488355328 := by simp; omega
  refine ⟨by simp only [g_wire_Open, g_slices_Clone_byte, chk, c1, if_true, Option.bind_some, List.nil_append], ⟨by simp, by simp, by simp, hl⟩, ?_⟩
  simp [cut]
theorem body_of {d : GWireCursor} {b : List UInt8} (h : Sees d b) : g_wire_Cursor_body d = some (b, d) := by
  obtain ⟨⟨h1, h2, h3, h4⟩, he⟩ := h
  have hc : 0 ≤ d.at_ ∧ d.at_ ≤ d.bound_ ∧ d.bound_ ≤ ((d.b_.length : Nat) : Int) := ⟨h1, h2, h3⟩
  have hn : d.bound_.toNat - d.at_.toNat = (d.bound_ - d.at_).toNat := by omega
  have e : (d.b_.drop d.at_.toNat).take (d.bound_.toNat - d.at_.toNat) = b := by rw [hn]; exact he
  have hb : b.length ≤ d.b_.length := by rw [← e, List.length_take, List.length_drop]; omega
  have c1 : (([] : List UInt8).length + b.length) * 1 ≤ 140737488355328 := by simp; omega
  simp only [g_wire_Cursor_body, chk, hc, and_self, if_true, e, g_slices_Clone_byte, c1, Option.bind_some, List.nil_append, cur_eta]
theorem split_one {t : Int} {b : List UInt8} (h0 : 1 ≤ t) (h1 : t ≤ 255) (hb : b.length ≤ 65535) : g_wire_Split (recB t b) = some ([⟨t, b⟩], .nil) := by
  obtain ⟨ho, hs⟩ := open_sees (recB t b) (by rw [recB_len]; omega)
  have hs' : Sees ⟨recB t b, 0, ((recB t b).length : Int)⟩ (recB t b ++ []) := by rw [List.append_nil]; exact hs
  obtain ⟨d, hn, hd, hdb, hr⟩ := hs'.next h0 h1 hb
  have hN := cur_Next _ hs.ok
  rw [hn] at hN
  have hl1 := cur_Left _ hs.ok
  have hl2 := cur_Left _ hr.ok
  have hr0 := hr.left
  have hln := hs.left
  have hB := body_of hd
  have hrl := recB_len t b
  have p1 : (0 : Int) < ((recB t b).length : Int) - 0 := by rw [hrl]; omega
  have p2 : ¬ (0 : Int) < ((recB t b).length : Int) - (0 + (3 + (b.length : Int))) := by rw [hrl]; omega
  have c1 : (([] : List GWireRec).length + 1) * 32 ≤ 140737488355328 := by simp
  have ed : (⟨recB t b, d.at_, d.bound_⟩ : GWireCursor) = d := by
    have : d.b_ = recB t b := hdb
    rw [← this]
  simp only at hl1 hl2 hN
  have s1 : g_wire_Split_L1 ⟨recB t b, 0, ((recB t b).length : Int)⟩ ([], 0, ((recB t b).length : Int)) = some (.inl ([⟨t, b⟩], 0 + (3 + (b.length : Int)), ((recB t b).length : Int))) := by
    simp only [g_wire_Split_L1, hl1, hN, p1, decide_true, cond_true, Bool.not_true, cond_false, Option.bind_some, ed, hB, chk, c1, if_true, List.nil_append]
  have s2 : g_wire_Split_L1 ⟨recB t b, 0, ((recB t b).length : Int)⟩ ([⟨t, b⟩], 0 + (3 + (b.length : Int)), ((recB t b).length : Int)) = some (.inr (.inl [⟨t, b⟩])) := by
    simp only [g_wire_Split_L1, hl2, p2, decide_false, cond_false, Option.bind_some]
  simp only [g_wire_Split, ho, Option.bind_some, iter_inl s1, iter_inr s2]
theorem split_cut {t : Int} {b : List UInt8} {n : Nat} (h0 : 1 ≤ t) (h1 : t ≤ 255) (hb : b.length ≤ 65535) (hn0 : 1 ≤ n) (hn : n < (recB t b).length) : ∃ r, g_wire_Split ((recB t b).take n) = some r ∧ r.2 ≠ .nil := by
  have hrl := recB_len t b
  have hl : ((recB t b).take n).length = n := by rw [List.length_take]; omega
  obtain ⟨ho, hs⟩ := open_sees ((recB t b).take n) (by omega)
  rw [hl] at ho hs
  have hl1 := cur_Left _ hs.ok
  have hN := cur_Next _ hs.ok
  simp only at hl1 hN
  have p1 : (0 : Int) < (n : Int) - 0 := by omega
  have hE : (nextS ⟨(recB t b).take n, 0, (n : Int)⟩).2.2.1 ≠ .nil := by
    unfold nextS
    simp only
    by_cases h3 : (n : Int) - 0 < 3
    · rw [if_pos h3]; intro h; cases h
    · rw [if_neg h3]
      obtain ⟨o2, s2⟩ := open_sees (recB t b) (by omega)
      have e : recB t b = be t 1 ++ (be (b.length : Int) 2 ++ b) := rfl
      rw [e] at s2
      have c1 := cut_app s2.eq
      rw [be_len] at c1
      have k1 := s2.behind
      rw [be_len] at k1
      have c2 := cut_app k1.eq
      rw [be_len] at c2
      simp only [← e] at c1 c2
      have n1 : cut ((recB t b).take n) 0 1 = cut (recB t b) 0 1 := by
        rw [cut, cut, List.drop_zero, List.drop_zero, List.take_take, Nat.min_eq_left (by omega)]
      have n2 : cut ((recB t b).take n) (0 + 1) 2 = cut (recB t b) 1 2 := by
        rw [cut, cut, List.drop_take, List.take_take, Nat.min_eq_left (by omega)]
      have v1 : beNat (cut ((recB t b).take n) 0 1) = t := by
        rw [n1]; refine (congrArg beNat c1).trans ?_
        exact beNat_be (m := 255) (by omega) (by omega) h1 (by decide)
      have v2 : beNat (cut ((recB t b).take n) (0 + 1) 2) = (b.length : Int) := by
        rw [n2]; refine (congrArg beNat c2).trans ?_
        exact beNat_be (m := 65535) (by omega) (by omega) (by omega) (by decide)
      have z0 : (0 : Int).toNat = 0 := rfl
      rw [z0, v1, v2, if_neg (by omega), if_pos (by omega)]
      intro h; cases h
  refine ⟨([], (nextS ⟨(recB t b).take n, 0, (n : Int)⟩).2.2.1), ?_, hE⟩
  have s1 : g_wire_Split_L1 ⟨(recB t b).take n, 0, (n : Int)⟩ ([], 0, (n : Int)) = some (.inr (.inr ([], (nextS ⟨(recB t b).take n, 0, (n : Int)⟩).2.2.1))) := by
    simp only [g_wire_Split_L1, hl1, hN, p1, hE, decide_true, decide_false, cond_true, Bool.not_false, Option.bind_some]
  simp only [g_wire_Split, ho, Option.bind_some, iter_inr s1]
theorem join_one {t : Int} {b : List UInt8} (h0 : 1 ≤ t) (h1 : t ≤ 255) (hb : b.length ≤ 65535) : g_wire_Join [⟨t, b⟩] = some (recB t b, .nil) := by
  have hr := record_wr (t := t) [] b (by simp) h0 h1 hb
  rw [List.nil_append] at hr
  have s1 : g_wire_Join_L1 [⟨t, b⟩] (0, [], .nil) = some (.inl (1, recB t b, .nil)) := by
    have e : (⟨[], .nil⟩ : GWireWriter) = wr [] := rfl
    simp only [g_wire_Join_L1, List.length_cons, List.length_nil, Nat.zero_add, Nat.lt_add_one, decide_true, cond_true, List.getElem?_cons_zero, Option.bind_some, e, hr]
  have s2 : g_wire_Join_L1 [⟨t, b⟩] (1, recB t b, .nil) = some (.inr (recB t b, .nil)) := by
    simp [g_wire_Join_L1]
  have hd := done_wr (recB t b) (by rw [recB_len]; omega)
  simp only [g_wire_Join, g_wire_NewWriter, Option.bind_some, iter_inl s1, iter_inr s2]
  rw [show (⟨recB t b, .nil⟩ : GWireWriter) = wr (recB t b) from rfl, hd]
  rfl
theorem record_cut (b : List UInt8) (c : Int) (hb : b.length ≤ 140737488355328) (hc : -9223372036854775808 ≤ c ∧ c < 9223372036854775808) : g_top_recordCut b c = some true := by
  have key : ∀ l : List UInt8, l.length ≤ 60000 → g_top_recordCut_J4 c l = some true := by
    intro l hl
    have c1 : (([] : List UInt8).length + l.length) * 1 ≤ 140737488355328 := by simp; omega
    have hj := join_one (t := 7) (b := l) (by decide) (by decide) (by omega)
    have hs := split_one (t := 7) (b := l) (by decide) (by decide) (by omega)
    have hrl := recB_len 7 l
    generalize hr : recB 7 l = r at *
    have w1 : IntKind.i64.wrap (((l.length : Nat) : Int) + 3) = ((r.length : Nat) : Int) := by rw [wrap64_eq ⟨by omega, by omega⟩]; omega
    have c2 : (([] : List UInt8).length + r.length) * 1 ≤ 140737488355328 := by simp; omega
    have c3 : ((r.length : Nat) : Int) ≠ 0 := by omega
    have hJ2 : ∀ z : Int, 1 ≤ z → g_top_recordCut_J2 (r, .nil) z = some true := by
      intro z hz
      by_cases h : ((r.length : Nat) : Int) ≤ z
      · simp only [g_top_recordCut_J2, h, decide_true, cond_true]
      · obtain ⟨n, rfl⟩ := Int.eq_ofNat_of_zero_le (show 0 ≤ z by omega)
        have c4 : (0 : Int) ≤ (n : Int) ∧ (n : Int) ≤ ((r.length : Nat) : Int) := ⟨by omega, by omega⟩
        have c5 : (([] : List UInt8).length + (r.take n).length) * 1 ≤ 140737488355328 := by simp; omega
        obtain ⟨q, hq, hq2⟩ := split_cut (t := 7) (b := l) (n := n) (by decide) (by decide) (by omega) (by omega) (by rw [hr]; omega)
        rw [hr] at hq
        have c6 : (0 : Int) ≤ (n : Int) ∧ n ≤ r.length := ⟨by omega, by omega⟩
        simp only [g_top_recordCut_J2, h, decide_false, cond_false, chk, c4, c6, and_self, if_true, Int.toNat_natCast, c5, List.nil_append, hq, Option.bind_some, hq2, Bool.not_false]
    have d1 : l.length * 1 ≤ 140737488355328 := by omega
    have d2 : r.length * 1 ≤ 140737488355328 := by omega
    simp only [g_top_recordCut_J4, chk, c1, d1, d2, if_true, List.nil_append, hj, Option.bind_some, w1, decide_true, Bool.not_true, Bool.or_self, cond_false, c2, hs, List.length_cons, List.length_nil, Nat.zero_add, List.getElem?_cons_zero, g_top_recordCut_J3, c3, ne_eq, not_false_eq_true]
    by_cases h : Int.tmod c ((r.length : Nat) : Int) < 1
    · simp only [h, decide_true, cond_true, Option.bind_some, hJ2 1 (by decide)]
    · simp only [h, decide_false, cond_false, Option.bind_some, hJ2 _ (Int.not_lt.1 h)]
  by_cases h : 60000 < b.length
  · have c1 : (0 : Int) ≤ 60000 ∧ (60000 : Int) ≤ ((b.length : Nat) : Int) := ⟨by decide, by omega⟩
    have e : (60000 : Int).toNat = 60000 := rfl
    simp only [g_top_recordCut, h, decide_true, cond_true, chk, c1, and_self, if_true, Option.bind_some, e]
    exact key _ (by rw [List.length_take]; omega)
  · simp only [g_top_recordCut, h, decide_false, cond_false, Option.bind_some]
    exact key _ (by omega)
/-! ### The law -/
theorem nine_sum : sSum [byteOf 49, byteOf 50, byteOf 51, byteOf 52, byteOf 53, byteOf 54, byteOf 55, byteOf 56, byteOf 57] = 3421780262 := by kernel_rfl
theorem told_law (x : GTopHurt) (m : Nat) (hm : m < 4294967296) (hx : x.Mask = (m : Int)) (hB : x.B.length ≤ 140737488351232) (hat : -9223372036854775808 ≤ x.At ∧ x.At < 9223372036854775808) (hc : -9223372036854775808 ≤ x.Cut ∧ x.Cut < 9223372036854775808) : g_top_FerryBurstsTold x = some true := by
  have hS := seal_at x.B (by omega)
  have hop := seal_opens x.B
  have hsl : (x.B ++ laidB (sSum x.B)).length = x.B.length + 4 := by rw [List.length_append]; rfl
  have htk : (x.B ++ laidB (sSum x.B)).take ((x.B ++ laidB (sSum x.B)).length - 4) = x.B := by rw [hsl, Nat.add_sub_cancel, List.take_left]
  have hO := open_at (x.B ++ laidB (sSum x.B)) (by omega) (by omega)
  rw [if_pos hop.2.symm, htk] at hO
  generalize hs : x.B ++ laidB (sSum x.B) = s at *
  have c1 : (([] : List UInt8).length + x.B.length) * 1 ≤ 140737488355328 := by simp; omega
  have c2 : (([] : List UInt8).length + s.length) * 1 ≤ 140737488355328 := by simp; omega
  have w1 : IntKind.i64.wrap (((x.B.length : Nat) : Int) + 4) = ((s.length : Nat) : Int) := by rw [wrap64_eq ⟨by omega, by omega⟩]; omega
  have hT := top_loop x m hx 31 (by decide) (by omega)
  have hT' : iter (g_top_FerryBurstsTold_L11 x) 31 = some ((Nat.log2 m : Nat) : Int) := hT
  have hl31 : Nat.log2 m ≤ 31 := by
    by_cases h0 : m = 0
    · subst h0; decide
    · have : Nat.log2 m < 32 := (Nat.log2_lt h0).2 (by omega)
      omega
  have hrec := record_cut x.B x.Cut (by omega) hc
  have w2 : IntKind.i64.wrap (8 * ((s.length : Nat) : Int)) = 8 * ((s.length : Nat) : Int) := wrap64_eq ⟨by omega, by omega⟩
  have w3 : IntKind.i64.wrap (8 * ((s.length : Nat) : Int) - 1) = 8 * ((s.length : Nat) : Int) - 1 := wrap64_eq ⟨by omega, by omega⟩
  have w4 : IntKind.i64.wrap (8 * ((s.length : Nat) : Int) - 1 - ((Nat.log2 m : Nat) : Int)) = 8 * ((s.length : Nat) : Int) - 1 - ((Nat.log2 m : Nat) : Int) := wrap64_eq ⟨by omega, by omega⟩
  have main : g_top_FerryBurstsTold_J12 x s false = some true := by
    simp only [g_top_FerryBurstsTold_J12, cond_false, hT', Option.bind_some, chk, c2, if_true, List.nil_append, w2, w3, w4, hx]
    by_cases hf : m ≠ 0 ∧ 0 ≤ x.At ∧ x.At + (Nat.log2 m : Int) + 1 ≤ 8 * (s.length : Int)
    · obtain ⟨h0, ha, hfit⟩ := hf
      obtain ⟨a, hae⟩ := Int.eq_ofNat_of_zero_le ha
      obtain ⟨t, ht, htl, htn⟩ := turn_yes (b := s) (a := a) (m := m) (by omega) h0 hm (by omega)
      have e1 : ¬ ((m : Int) = 0) := by omega
      have e3 : (a : Int) ≤ 8 * ((s.length : Nat) : Int) - 1 - ((Nat.log2 m : Nat) : Int) := by omega
      have e2 : (0 : Int) ≤ (a : Int) := by omega
      have hO2 := open_at t (by omega) (by omega)
      rw [if_neg (fun he => h0 (burst_told (s := s) (s' := t) (k := a) (m := m) hop ⟨by omega, he.symm⟩ htl htn hm))] at hO2
      have c3 : (([] : List UInt8).length + t.length) * 1 ≤ 140737488355328 := by simp; omega
      obtain ⟨u, hu, hul, hun⟩ := turn_yes (b := t) (a := a) (m := m) (by omega) h0 hm (by omega)
      have hus : u = s := numN_inj (by omega) (by rw [hun, htn, Nat.xor_assoc, Nat.xor_self, Nat.xor_zero])
      have k6 : (ErrM.v gSum).code = 6 := by decide
      subst hus
      simp only [hae, ht, e1, e2, e3, decide_true, decide_false, Bool.not_false, Bool.not_true, Bool.and_self, cond_false, cond_true, Option.bind_some, c3, hO2, k6, g_top_FerryBurstsTold_J9, hx, hu, hrec, if_true]
    · have ht := turn_no (b := s) (at_ := x.At) (m := m) (by omega) hat.2 hm hf
      have e : (((!decide ((m : Int) = 0)) && decide (0 ≤ x.At)) && decide (x.At ≤ 8 * ((s.length : Nat) : Int) - 1 - ((Nat.log2 m : Nat) : Int))) = false := by
        by_cases h0 : m = 0
        · simp [h0]
        · by_cases h1 : 0 ≤ x.At
          · have : ¬ (x.At ≤ 8 * ((s.length : Nat) : Int) - 1 - ((Nat.log2 m : Nat) : Int)) := fun h => hf ⟨h0, h1, by omega⟩
            simp [this]
          · simp [h1]
      have k12 : (ErrM.v gArg).code = 12 := by decide
      simp only [ht, e, Bool.not_false, cond_true, Option.bind_some, k12, decide_true, hrec, g_top_FerryBurstsTold_J7]
  simp only [g_top_FerryBurstsTold, crc_Sum, nine_sum, Option.bind_some, decide_true, Bool.not_true, cond_false, chk, c1, if_true, List.nil_append, hS, c2, hO, w1, main]
end Go.Proofs.YtnhjohcgnmogaaaDoor
