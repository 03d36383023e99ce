/- Closed facts of the row validRules (written by wip/tools) -/
import Derived.Test.YtjoihegnjjjdaaaGreatDoorCards
import Derived.ChangeSame
import Derived.ChangeVars
import Derived.JoinedOf
import Derived.JoinedCond
import Derived.RowKit
import Derived.RowKitTokens
import Derived.LaidLaws
import Derived.LaidHandle
import Derived.LaidSub
import Derived.Stop.Joined
import Derived.Deep.DeepHandedRow
import Derived.OpenShut
import Derived.Test.YtjoihegnjjjdaaaGreatDoorChecked
set_option linter.unusedVariables false
set_option linter.unusedSimpArgs false
set_option maxRecDepth 10000
namespace Go.Proofs.YtjoihegnjjjdaaaGreatDoor
open Go Go.RowKit
open Go.ChangeShapes Go.WideShapes Go.ChangeAt


theorem validRules_f_inPlace : (Rows.validRulesRow.inPlace == Tryz.pinned.checked.prog.inPlace 3) = true := by kernel_rfl
theorem validRules_f_unfollowed : (Rows.validRulesRow.unfollowed == Tryz.pinned.checked.prog.unfollowed 3) = true := by kernel_rfl
theorem validRules_f_recurses : (Rows.validRulesRow.recurses == Tryz.pinned.checked.prog.recurses 3) = true := by kernel_rfl
theorem validRules_f_named : (Rows.validRulesRow.named == Tryz.pinned.checked.prog.varsNamed 3) = true := by kernel_rfl
theorem validRules_f_lifted : (Rows.validRulesRow.lifted == Tryz.pinned.checked.prog.liftsFinal) = true := by kernel_rfl
theorem validRules_fClosed : joinedFacts Tryz.pinned.checked.prog 3 Tryz.f3 Rows.validRulesSpec Rows.validRulesRow = true := by
  unfold joinedFacts
  rw [validRules_f_inPlace, validRules_f_unfollowed, validRules_f_recurses, validRules_f_named, validRules_f_lifted]
  kernel_rfl
theorem validRules_fNamed : Tryz.pinned.checked.prog.funcNamed Rows.validRulesRow.func = some 3 := by kernel_rfl
theorem validRules_fInst : Tryz.f3.isInstance Tryz.pinned.checked.prog Rows.validRulesRow.origin Rows.validRulesRow.targs := of_decide_eq_true (by kernel_rfl)
theorem validRules_fWrap : Tryz.f3.isWrapper Tryz.pinned.checked.prog Rows.validRulesRow.wrapper Rows.validRulesRow.mainSum := by unfold Func.isWrapper; first | (rw [if_pos (by decide +kernel)]; kernel_rfl) | (rw [if_neg (by decide +kernel)]; exact ⟨rfl, rfl⟩)
end Go.Proofs.YtjoihegnjjjdaaaGreatDoor
