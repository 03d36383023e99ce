/- Plain laws of the wire's writer and of the check sum: what they put, what they come to. -/
import Derived.Test.YtpnmaabhjgiggaaGreatDoorPlanLPz
set_option linter.unusedVariables false
set_option linter.unusedSimpArgs false
set_option linter.unusedSectionVars false
namespace Go.Proofs.YtpnmaabhjgiggaaGreatDoor
open Go Go.RowKit

/-! ### The writer -/
/-- A writer that is not spoilt, with so much put. -/
abbrev wr (b : List UInt8) : GWireWriter := ⟨b, .nil⟩
theorem put_wr (a b : List UInt8) (h : a.length + b.length ≤ 100000000) : g_wire_Writer_put (wr a) b = some (wr (a ++ b)) := by
  have hc : (a.length + b.length) * 1 ≤ 140737488355328 := by omega
  simp only [g_wire_Writer_put, decide_true, cond_true, chk, hc, if_true]
/-- A number's bytes, the highest first. -/
def be (n : Int) : Nat → List UInt8
  | 0 => []
  | k + 1 => byteOf (shR .i64 n (((8 * k : Nat) : Int))) :: be n k
theorem be_len (n : Int) : ∀ k, (be n k).length = k
  | 0 => rfl
  | k + 1 => by rw [be, List.length_cons, be_len n k]
theorem num_loop (n : Int) : ∀ (k : Nat) (a : List UInt8), k ≤ 4 → a.length + k ≤ 1000000 → iter (g_wire_Writer_num_L2 n) (((k : Nat) : Int) - 1, a, .nil) = some (a ++ be n k, .nil)
  | 0, a, _, _ => by
    have h : ¬ (0 : Int) ≤ ((0 : Nat) : Int) - 1 := by omega
    rw [be, List.append_nil]
    exact iter_inr (by simp only [g_wire_Writer_num_L2, h, decide_false, cond_false])
  | k + 1, a, hk, ha => by
    have e0 : ((k + 1 : Nat) : Int) - 1 = (k : Int) := by omega
    have e1 : (0 : Int) ≤ (k : Int) := by omega
    have e2 : IntKind.i64.wrap (8 * (k : Int)) = ((8 * k : Nat) : Int) := by rw [wrap64_eq ⟨by omega, by omega⟩]; omega
    have e3 : (0 : Int) ≤ ((8 * k : Nat) : Int) := by omega
    have e4 : IntKind.i64.wrap ((k : Int) - 1) = (k : Int) - 1 := wrap64_eq ⟨by omega, by omega⟩
    have hp := put_wr a [byteOf (shR .i64 n ((8 * k : Nat) : Int))] (by simp; omega)
    have hs : g_wire_Writer_num_L2 n ((k : Int), a, .nil) = some (.inl ((k : Int) - 1, a ++ [byteOf (shR .i64 n ((8 * k : Nat) : Int))], .nil)) := by
      simp only [g_wire_Writer_num_L2, e1, e2, e3, e4, hp, decide_true, cond_true, chk, if_true, Option.bind_some]
    rw [e0, iter_inl hs, num_loop n k _ (by omega) (by simp; omega), be, List.append_assoc, List.singleton_append]
theorem most1 : g_wire_most 1 = some 255 := by
  have h : (0 : Int) ≤ IntKind.i64.wrap (8 * 1) := by decide
  simp only [g_wire_most, chk, h, if_true]; rfl
theorem most2 : g_wire_most 2 = some 65535 := by
  have h : (0 : Int) ≤ IntKind.i64.wrap (8 * 2) := by decide
  simp only [g_wire_most, chk, h, if_true]; rfl
theorem most4 : g_wire_most 4 = some 4294967295 := by
  have h : (0 : Int) ≤ IntKind.i64.wrap (8 * 4) := by decide
  simp only [g_wire_most, chk, h, if_true]; rfl
theorem num_wr {n m : Int} {k : Nat} (hm : g_wire_most (k : Int) = some m) (a : List UInt8) (hk : k ≤ 4) (ha : a.length ≤ 900000) (h0 : 0 ≤ n) (h1 : n ≤ m) : g_wire_Writer_num (wr a) n (k : Int) = some (wr (a ++ be n k)) := by
  have e1 : ¬ n < 0 := by omega
  have e2 : ¬ m < n := by omega
  have e3 : IntKind.i64.wrap ((k : Int) - 1) = (k : Int) - 1 := wrap64_eq ⟨by omega, by omega⟩
  simp only [g_wire_Writer_num, g_wire_Writer_num_J3, hm, e1, e2, e3, num_loop n k a hk (by omega), decide_false, cond_false, Option.bind_some]
/-! ### The check sum -/
def sStep (z : Int) : Int := if bitAnd .u32 z 1 = 1 then bitXor .u32 (shR .u32 z 1) 3988292384 else shR .u32 z 1
theorem crc_step (z : Int) : g_crc_step z = some (sStep z) := by
  unfold g_crc_step sStep
  by_cases h : bitAnd .u32 z 1 = 1 <;> simp [h]
def sTab (z : Int) : Int := sStep (sStep (sStep (sStep (sStep (sStep (sStep (sStep z)))))))
theorem crc_row (z : Int) : iter g_crc_table_L3 (z, 0) = some (sTab z) := by
  have hs : ∀ z (i : Nat), i < 8 → g_crc_table_L3 (z, i) = some (.inl (sStep z, i + 1)) := fun z i h => by
    simp only [g_crc_table_L3, h, crc_step, decide_true, cond_true, Option.bind_some]
  rw [iter_inl (hs _ 0 (by omega)), iter_inl (hs _ 1 (by omega)), iter_inl (hs _ 2 (by omega)), iter_inl (hs _ 3 (by omega)), iter_inl (hs _ 4 (by omega)), iter_inl (hs _ 5 (by omega)), iter_inl (hs _ 6 (by omega)), iter_inl (hs _ 7 (by omega))]
  exact iter_inr (by simp [g_crc_table_L3]; rfl)
def tabTo (k : Nat) : Vector Int 256 := Vector.ofFn fun j : Fin 256 => if j.val < k then sTab (IntKind.u32.wrap (j.val : Int)) else 0
theorem tabTo_get (k i : Nat) (h : i < 256) : (tabTo k)[i] = if i < k then sTab (IntKind.u32.wrap (i : Int)) else 0 := by simp [tabTo]
theorem crc_table : g_crc_table = some (tabTo 256) := by
  have key : ∀ (m k : Nat) (y : Vector Int 256), k + m = 256 → (∀ (j : Nat) (h : j < 256), j < k → y[j] = sTab (IntKind.u32.wrap (j : Int))) → iter g_crc_table_L4 (k, y) = some (tabTo 256) := by
    intro m
    induction m with
    | zero =>
      intro k y hk hy
      obtain rfl : k = 256 := by omega
      have e : y = tabTo 256 := by
        apply Vector.ext
        intro i hi
        rw [hy i hi hi, tabTo_get _ _ hi, if_pos hi]
      rw [e]
      exact iter_inr (by simp [g_crc_table_L4])
    | succ m ih =>
      intro k y hk hy
      have hlt : k < 256 := by omega
      have hr : rdV y (k : Int) = some y[k] := by rw [rdV_nat]; simp [hlt]
      have hs : g_crc_table_L4 (k, y) = some (.inl (k + 1, y.setIfInBounds k (sTab (IntKind.u32.wrap (k : Int))))) := by
        simp only [g_crc_table_L4, hlt, crc_row, hr, decide_true, cond_true, Option.bind_some, Int.toNat_natCast]
      rw [iter_inl hs]
      refine ih (k + 1) _ (by omega) fun j h hj => ?_
      rw [Vector.getElem_setIfInBounds h]
      by_cases e : k = j
      · subst e; simp
      · rw [if_neg e]; exact hy j h (by omega)
  unfold g_crc_table
  rw [key 256 0 _ rfl (fun j h hj => absurd hj (Nat.not_lt_zero _))]
  rfl
def sMove (z : Int) (c : UInt8) : Int := bitXor .u32 (sTab (IntKind.u32.wrap (bitXor .u8 (IntKind.u8.wrap z) (c.toNat : Int)))) (shR .u32 z 8)
theorem xor8 (a b : Int) : 0 ≤ bitXor .u8 a b ∧ bitXor .u8 a b < 256 := by
  unfold bitXor
  generalize ((BitVec.ofInt IntKind.u8.bits a ^^^ BitVec.ofInt IntKind.u8.bits b).toNat : Int) = z
  have h : IntKind.u8.wrap z = z % 256 := by simp [IntKind.wrap, IntKind.signed, IntKind.bits]
  rw [h]; omega
theorem crc_move (z : Int) (b : List UInt8) : g_crc_move z b = some (b.foldl sMove z) := by
  by_cases h : b.length = 0
  · have : b = [] := List.length_eq_zero_iff.1 h
    subst this
    simp [g_crc_move]
  have hL := iter_fold (L := g_crc_move_L1 b (tabTo 256)) (l := b) (g := sMove) (I := fun _ _ => True) (z := z) trivial (fun i x z hi hx _ => ⟨by
    obtain ⟨h0, h1⟩ := xor8 (IntKind.u8.wrap z) (x.toNat : Int)
    have hr : rdV (tabTo 256) (bitXor .u8 (IntKind.u8.wrap z) (x.toNat : Int)) = some (sTab (IntKind.u32.wrap (bitXor .u8 (IntKind.u8.wrap z) (x.toNat : Int)))) := by
      unfold rdV
      rw [if_pos h0]
      have hlt : (bitXor .u8 (IntKind.u8.wrap z) (x.toNat : Int)).toNat < 256 := by omega
      rw [Vector.getElem?_eq_getElem hlt, tabTo_get _ _ hlt, if_pos hlt, Int.toNat_of_nonneg h0]
    simp only [g_crc_move_L1, hi, hx, hr, decide_true, cond_true, Option.bind_some, sMove], trivial⟩) (fun z _ => by simp [g_crc_move_L1])
  simp only [g_crc_move, h, crc_table, hL.1, decide_false, cond_false, Option.bind_some]
def sSum (b : List UInt8) : Int := notK .u32 (b.foldl sMove (notK .u32 0))
theorem crc_Sum (b : List UInt8) : g_crc_Sum b = some (sSum b) := by
  simp only [g_crc_Sum, g_crc_More, crc_move, Option.bind_some, notK]; rfl
end Go.Proofs.YtpnmaabhjgiggaaGreatDoor
