/- What was read before a drawn region stands in all worlds that its order may bring. No program is named here. -/
import Derived.Test.YtnhjohcgnmogaaaDoorGua
set_option linter.unusedVariables false
set_option linter.unusedSectionVars false
namespace Go.Proofs.YtnhjohcgnmogaaaDoor
open Go Go.RowKit
theorem ChgF.agr0 {B : List Nat} {h0 : Nat} {w0 w w' : World} (hx : Ext w0 w) (hh : w0.heap.size ≤ h0) (hn : ∀ b ∈ B, w0.heap.size ≤ b) (hw : ChgF B h0 w w') : Agr w0 w' := fun k hk =>
  (hw.block k (Nat.lt_of_lt_of_le hk hx.size) (Nat.lt_of_lt_of_le hk hh) fun hm => by have := hn k hm; omega).trans (hx.block k hk)
/-- For a text out of bytes (q_str) in a drawn region with calls. -/
theorem SlR.old {B : List Nat} {h0 : Nat} {w0 w : World} {v : Value} {xs : List UInt8} (h : SlR w0 1 (Flat eB) v xs) (hx : Ext w0 w) (hh : w0.heap.size ≤ h0) (hn : ∀ b ∈ B, w0.heap.size ≤ b) : ∀ w', ChgF B h0 w w' → SlR w' 1 (Flat eB) v xs := fun w' hw => h.agr (Flat.mono _) (ChgF.agr0 hx hh hn hw)
end Go.Proofs.YtnhjohcgnmogaaaDoor
