/- What pointers lead to: an array's place written, facts that last while a call writes. No program is named here. -/
import Derived.Test.YtpnmaabhjgiggaaGreatDoorCpy
set_option linter.unusedVariables false
set_option linter.unusedSimpArgs false
set_option linter.unusedSectionVars false
namespace Go.Proofs.YtpnmaabhjgiggaaGreatDoor
open Go Go.RowKit

theorem vec_setO {α : Type} {n : Nat} (v : Vector α n) (f : α → Value) (i : Nat) (y : α) : (v.toList.map f).set (0 + i) (f y) = (v.setIfInBounds i y).toList.map f := by rw [Nat.zero_add]; exact vec_set v f i y
theorem arr_at1O {α : Type} {n : Nat} {v : Vector α n} {f : α → Value} {i : Nat} {x : α} (h : v[i]? = some x) : (v.toList.map f)[0 + i]? = some (f x) := by rw [Nat.zero_add]; exact arr_at1 h
theorem rdS_byte {s : ByteArray} {z c : Int} (h : rdS s z = some c) : c = ((byteOf c).toNat : Int) := by
  obtain ⟨h0, h1, rfl⟩ := rdS_some h
  rw [byteOf_toNat]
  have := (s[z.toNat]'h1).toNat_lt
  omega
theorem vec_setA {α : Type} {n k : Nat} {pre : List Value} {u : Value} (hp : pre.length = k) (v : Vector α n) (f : α → Value) (i : Nat) (y : α) (hu : u = f y) : (pre ++ v.toList.map f).set (k + i) u = pre ++ (v.setIfInBounds i y).toList.map f := by
  subst hu hp
  rw [List.set_append_right _ _ (by omega), Nat.add_sub_cancel_left, vec_set]
/-- The first of a slice's elements. -/
theorem SlR.takeV {α : Type} {w : World} {k : Nat} {R : World → List Value → α → Prop} {v : Value} {xs : List α} {A : Option Addr} {n c : Nat} {z : Int} (h : SlR w k R v xs) (hv : v = .slice A n c) (h0 : 0 ≤ z) (h1 : z ≤ ((xs.length : Nat) : Int)) : SlR w k R (.slice A z.toNat c) (xs.take z.toNat) := by
  obtain ⟨A', c', g1, g2, g3, g4, g5⟩ := h
  have e := g1.symm.trans hv
  cases e
  refine ⟨A, c, by rw [List.length_take, Nat.min_eq_left (by omega)], by rw [List.length_take]; omega, g3, fun hA => ?_, fun ad ha i x hx => ?_⟩
  · obtain ⟨e1, e2⟩ := g4 hA
    exact ⟨by rw [e1]; simp, e2⟩
  · rw [List.getElem?_take] at hx
    split at hx
    · exact g5 ad ha i x hx
    · cases hx
end Go.Proofs.YtpnmaabhjgiggaaGreatDoor
