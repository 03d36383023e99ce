/- Ways that meet again within a drawn region. No program is named here. -/
import Derived.Test.YtpnmaabhjgiggaaGreatDoorFast
set_option linter.unusedVariables false
set_option linter.unusedSimpArgs false
set_option linter.unusedSectionVars false
namespace Go.Proofs.YtpnmaabhjgiggaaGreatDoor
open Go Go.RowKit

section
variable {P : Program} {ops : Array Oper} {Q : Exit → Act → World → Prop} {a : Act} {n : Nat} {l : List (Nat × Option Value)} {w : World} {B : List Nat} {k0 h0 fuel : Nat} {listed : Array Bool}
end
section
variable {fp : Nat → Prop} {w0 w : World} {rs : List Rs} {r0 r1 r2 r3 r4 r5 r6 r7 r8 r9 r10 r11 : Rs}
theorem St.tk0 (h : St fp w0 w (rs)) : St fp w0 w [] := h.take 0
theorem St.tk1 (h : St fp w0 w (r0 :: rs)) : St fp w0 w [r0] := h.take 1
theorem St.tk2 (h : St fp w0 w (r0 :: r1 :: rs)) : St fp w0 w [r0, r1] := h.take 2
theorem St.tk3 (h : St fp w0 w (r0 :: r1 :: r2 :: rs)) : St fp w0 w [r0, r1, r2] := h.take 3
theorem St.tk4 (h : St fp w0 w (r0 :: r1 :: r2 :: r3 :: rs)) : St fp w0 w [r0, r1, r2, r3] := h.take 4
theorem St.tk5 (h : St fp w0 w (r0 :: r1 :: r2 :: r3 :: r4 :: rs)) : St fp w0 w [r0, r1, r2, r3, r4] := h.take 5
theorem St.tk6 (h : St fp w0 w (r0 :: r1 :: r2 :: r3 :: r4 :: r5 :: rs)) : St fp w0 w [r0, r1, r2, r3, r4, r5] := h.take 6
theorem St.tk7 (h : St fp w0 w (r0 :: r1 :: r2 :: r3 :: r4 :: r5 :: r6 :: rs)) : St fp w0 w [r0, r1, r2, r3, r4, r5, r6] := h.take 7
theorem St.tk8 (h : St fp w0 w (r0 :: r1 :: r2 :: r3 :: r4 :: r5 :: r6 :: r7 :: rs)) : St fp w0 w [r0, r1, r2, r3, r4, r5, r6, r7] := h.take 8
theorem St.tk9 (h : St fp w0 w (r0 :: r1 :: r2 :: r3 :: r4 :: r5 :: r6 :: r7 :: r8 :: rs)) : St fp w0 w [r0, r1, r2, r3, r4, r5, r6, r7, r8] := h.take 9
theorem St.pk1 (h : St fp w0 w (r0 :: r1 :: rs)) : St fp w0 w (r1 :: r0 :: rs) := h.pick 1 rfl
theorem St.pk2 (h : St fp w0 w (r0 :: r1 :: r2 :: rs)) : St fp w0 w (r2 :: r0 :: r1 :: rs) := h.pick 2 rfl
theorem St.pk3 (h : St fp w0 w (r0 :: r1 :: r2 :: r3 :: rs)) : St fp w0 w (r3 :: r0 :: r1 :: r2 :: rs) := h.pick 3 rfl
theorem St.pk4 (h : St fp w0 w (r0 :: r1 :: r2 :: r3 :: r4 :: rs)) : St fp w0 w (r4 :: r0 :: r1 :: r2 :: r3 :: rs) := h.pick 4 rfl
theorem St.pk5 (h : St fp w0 w (r0 :: r1 :: r2 :: r3 :: r4 :: r5 :: rs)) : St fp w0 w (r5 :: r0 :: r1 :: r2 :: r3 :: r4 :: rs) := h.pick 5 rfl
theorem St.pk6 (h : St fp w0 w (r0 :: r1 :: r2 :: r3 :: r4 :: r5 :: r6 :: rs)) : St fp w0 w (r6 :: r0 :: r1 :: r2 :: r3 :: r4 :: r5 :: rs) := h.pick 6 rfl
theorem St.pk7 (h : St fp w0 w (r0 :: r1 :: r2 :: r3 :: r4 :: r5 :: r6 :: r7 :: rs)) : St fp w0 w (r7 :: r0 :: r1 :: r2 :: r3 :: r4 :: r5 :: r6 :: rs) := h.pick 7 rfl
theorem St.pk8 (h : St fp w0 w (r0 :: r1 :: r2 :: r3 :: r4 :: r5 :: r6 :: r7 :: r8 :: rs)) : St fp w0 w (r8 :: r0 :: r1 :: r2 :: r3 :: r4 :: r5 :: r6 :: r7 :: rs) := h.pick 8 rfl
theorem St.pk9 (h : St fp w0 w (r0 :: r1 :: r2 :: r3 :: r4 :: r5 :: r6 :: r7 :: r8 :: r9 :: rs)) : St fp w0 w (r9 :: r0 :: r1 :: r2 :: r3 :: r4 :: r5 :: r6 :: r7 :: r8 :: rs) := h.pick 9 rfl
theorem St.pk10 (h : St fp w0 w (r0 :: r1 :: r2 :: r3 :: r4 :: r5 :: r6 :: r7 :: r8 :: r9 :: r10 :: rs)) : St fp w0 w (r10 :: r0 :: r1 :: r2 :: r3 :: r4 :: r5 :: r6 :: r7 :: r8 :: r9 :: rs) := h.pick 10 rfl
end
end Go.Proofs.YtpnmaabhjgiggaaGreatDoor
