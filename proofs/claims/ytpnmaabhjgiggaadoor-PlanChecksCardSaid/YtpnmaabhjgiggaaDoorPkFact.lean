/- Closed facts of the row planChecks (written by wip/tools) -/
import Derived.Test.YtpnmaabhjgiggaaDoorCards
import Derived.ChangeSame
import Derived.ChangeVars
import Derived.JoinedOf
import Derived.JoinedCond
import Derived.RowKit
import Derived.RowKitTokens
import Derived.LaidLaws
import Derived.LaidHandle
import Derived.LaidSub
import Derived.Stop.Joined
import Derived.Deep.DeepHandedRow
import Derived.OpenShut
import Derived.Test.YtpnmaabhjgiggaaDoorChecked
set_option linter.unusedVariables false
set_option linter.unusedSimpArgs false
set_option maxRecDepth 10000
namespace Go.Proofs.YtpnmaabhjgiggaaDoor
open Go Go.RowKit
open Go.ChangeShapes Go.WideShapes Go.ChangeAt


theorem planChecks_f_inPlace : (Rows.planChecksRow.inPlace == Tryd.pinned.checked.prog.inPlace 4) = true := by kernel_rfl
theorem planChecks_f_unfollowed : (Rows.planChecksRow.unfollowed == Tryd.pinned.checked.prog.unfollowed 4) = true := by kernel_rfl
theorem planChecks_f_recurses : (Rows.planChecksRow.recurses == Tryd.pinned.checked.prog.recurses 4) = true := by kernel_rfl
theorem planChecks_f_named : (Rows.planChecksRow.named == Tryd.pinned.checked.prog.varsNamed 4) = true := by kernel_rfl
theorem planChecks_f_lifted : (Rows.planChecksRow.lifted == Tryd.pinned.checked.prog.liftsFinal) = true := by kernel_rfl
theorem planChecks_fClosed : joinedFacts Tryd.pinned.checked.prog 4 Tryd.f4 Rows.planChecksSpec Rows.planChecksRow = true := by
  unfold joinedFacts
  rw [planChecks_f_inPlace, planChecks_f_unfollowed, planChecks_f_recurses, planChecks_f_named, planChecks_f_lifted]
  kernel_rfl
theorem planChecks_fNamed : Tryd.pinned.checked.prog.funcNamed Rows.planChecksRow.func = some 4 := by kernel_rfl
theorem planChecks_fInst : Tryd.f4.isInstance Tryd.pinned.checked.prog Rows.planChecksRow.origin Rows.planChecksRow.targs := of_decide_eq_true (by kernel_rfl)
theorem planChecks_fWrap : Tryd.f4.isWrapper Tryd.pinned.checked.prog Rows.planChecksRow.wrapper Rows.planChecksRow.mainSum := by unfold Func.isWrapper; first | (rw [if_pos (by decide +kernel)]; kernel_rfl) | (rw [if_neg (by decide +kernel)]; exact ⟨rfl, rfl⟩)
end Go.Proofs.YtpnmaabhjgiggaaDoor
