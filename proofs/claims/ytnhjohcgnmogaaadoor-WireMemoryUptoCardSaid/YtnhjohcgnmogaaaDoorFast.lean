/- Steps that are taken ahead of the names for the frame: several of them stand in one term. No program is named here. -/
import Derived.Test.YtnhjohcgnmogaaaDoorNest
set_option linter.unusedVariables false
set_option linter.unusedSimpArgs false
set_option linter.unusedSectionVars false
namespace Go.Proofs.YtnhjohcgnmogaaaDoor
open Go Go.RowKit

section
variable {P : Program} {ops : Array Oper} {Q : Exit → Act → World → Prop} {rest : List Oper} {n : Nat} {l : List (Nat × Option Value)} {lc : List (Nat × (Nat × Bool) × Value)} {w : World}
  {op : Op} {ty : TypeId} {pos : String} {af : Array Edge} {d : Nat} {v : Value}
theorem W_q (q : Q1 P (lo l) op (Ext w) v) (hd : Nat.blt d n = true) (h : ∀ a', Has a' n ((d, some v) :: l) → wpList P ops Q rest a' w) : ∀ a, Has a n l → wpList P ops Q (⟨some d, op, ty, pos, af, none⟩ :: rest) a w :=
  fun a H => n_q H q hd h
theorem W_no {j t : Nat} {want b : Bool} (hj : (ops[j]?).bind (·.dst) = some t) (ht : lk l t = some (.bool b)) (hb : b ≠ want) (hd : Nat.blt d n = true) (h : ∀ a', Has a' n ((d, some undef) :: l) → wpList P ops Q rest a' w) :
    ∀ a, Has a n l → wpList P ops Q (⟨some d, op, ty, pos, af, some (j, want)⟩ :: rest) a w := fun a H => n_no H hj ht hb hd h
theorem W_noU {j t : Nat} {want : Bool} (hj : (ops[j]?).bind (·.dst) = some t) (ht : lk l t = some undef) (hd : Nat.blt d n = true) (h : ∀ a', Has a' n ((d, some undef) :: l) → wpList P ops Q rest a' w) :
    ∀ a, Has a n l → wpList P ops Q (⟨some d, op, ty, pos, af, some (j, want)⟩ :: rest) a w := fun a H => n_noU H hj ht hd h
theorem W_yes {dst : Option Nat} {j t : Nat} {want : Bool} (hj : (ops[j]?).bind (·.dst) = some t) (ht : lk l t = some (.bool want)) (h : ∀ a, Has a n l → wpList P ops Q (⟨dst, op, ty, pos, af, none⟩ :: rest) a w) :
    ∀ a, Has a n l → wpList P ops Q (⟨dst, op, ty, pos, af, some (j, want)⟩ :: rest) a w := fun a H => n_yes H hj ht (h a H)
theorem V_q (q : Q1 P (lo l) op (Ext w) v) (hd : Nat.blt d n = true) (hk : okc ops d lc = true) (h : ∀ a', HasC ops a' n ((d, some v) :: l) lc → wpList P ops Q rest a' w) :
    ∀ a, HasC ops a n l lc → wpList P ops Q (⟨some d, op, ty, pos, af, none⟩ :: rest) a w := fun a H => nc_q H q hd hk h
theorem V_g {g : Nat × Bool} (q : Q1 P (loc l lc g) op (Ext w) v) (hd : Nat.blt d n = true) (hk : okc ops d lc = true)
    (hg : (match (ops[g.1]?).bind (·.dst) with | some t => !(Nat.beq t d) | none => true) = true) (h : ∀ a', HasC ops a' n ((d, none) :: l) ((d, g, v) :: lc) → wpList P ops Q rest a' w) :
    ∀ a, HasC ops a n l lc → wpList P ops Q (⟨some d, op, ty, pos, af, some g⟩ :: rest) a w := fun a H => nc_g H q hd hk hg h
theorem V_and {j t r : Nat} {b u : Bool} (hj : (ops[j]?).bind (·.dst) = some t) (ht : lk l t = some (.bool b)) (hr : loc l lc (j, true) (.tmp r) = some (.bool u)) (hd : Nat.blt d n = true) (hk : okc ops d lc = true)
    (h : ∀ a', HasC ops a' n ((d, some (.bool (b && u))) :: l) lc → wpList P ops Q rest a' w) :
    ∀ a, HasC ops a n l lc → wpList P ops Q (⟨some d, .pick (.tmp t) (.tmp r) (.const (.bool false)), ty, pos, af, none⟩ :: rest) a w := fun a H => nc_and H hj ht hr hd hk h
theorem V_or {j t r : Nat} {b u : Bool} (hj : (ops[j]?).bind (·.dst) = some t) (ht : lk l t = some (.bool b)) (hr : loc l lc (j, false) (.tmp r) = some (.bool u)) (hd : Nat.blt d n = true) (hk : okc ops d lc = true)
    (h : ∀ a', HasC ops a' n ((d, some (.bool (b || u))) :: l) lc → wpList P ops Q rest a' w) :
    ∀ a, HasC ops a n l lc → wpList P ops Q (⟨some d, .pick (.tmp t) (.const (.bool true)) (.tmp r), ty, pos, af, none⟩ :: rest) a w := fun a H => nc_or H hj ht hr hd hk h
end
end Go.Proofs.YtnhjohcgnmogaaaDoor
