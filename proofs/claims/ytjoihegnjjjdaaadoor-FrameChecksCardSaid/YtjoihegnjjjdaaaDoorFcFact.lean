/- Closed facts of the row of FrameChecks (written by wip/tools) -/
import Derived.Test.YtjoihegnjjjdaaaDoorCards
import Derived.ChangeSame
import Derived.ChangeVars
import Derived.JoinedOf
import Derived.JoinedCond
import Derived.RowKit
import Derived.RowKitTokens
import Derived.LaidLaws
import Derived.LaidHandle
import Derived.LaidSub
import Derived.Stop.Joined
import Derived.Deep.DeepHandedRow
import Derived.OpenShut
import Derived.Test.YtjoihegnjjjdaaaDoorChecked
set_option linter.unusedVariables false
set_option linter.unusedSimpArgs false
set_option maxRecDepth 10000
namespace Go.Proofs.YtjoihegnjjjdaaaDoor
open Go Go.RowKit
open Go.ChangeShapes Go.WideShapes Go.ChangeAt


theorem frameChecks_f_inPlace : (Rows.frameChecksRow.inPlace == Tryd.pinned.checked.prog.inPlace 9) = true := by kernel_rfl
theorem frameChecks_f_unfollowed : (Rows.frameChecksRow.unfollowed == Tryd.pinned.checked.prog.unfollowed 9) = true := by kernel_rfl
theorem frameChecks_f_recurses : (Rows.frameChecksRow.recurses == Tryd.pinned.checked.prog.recurses 9) = true := by kernel_rfl
theorem frameChecks_f_named : (Rows.frameChecksRow.named == Tryd.pinned.checked.prog.varsNamed 9) = true := by kernel_rfl
theorem frameChecks_f_lifted : (Rows.frameChecksRow.lifted == Tryd.pinned.checked.prog.liftsFinal) = true := by kernel_rfl
theorem frameChecks_fClosed : joinedFacts Tryd.pinned.checked.prog 9 Tryd.f9 Rows.frameChecksSpec Rows.frameChecksRow = true := by
  unfold joinedFacts
  rw [frameChecks_f_inPlace, frameChecks_f_unfollowed, frameChecks_f_recurses, frameChecks_f_named, frameChecks_f_lifted]
  kernel_rfl
theorem frameChecks_fNamed : Tryd.pinned.checked.prog.funcNamed Rows.frameChecksRow.func = some 9 := by kernel_rfl
theorem frameChecks_fInst : Tryd.f9.isInstance Tryd.pinned.checked.prog Rows.frameChecksRow.origin Rows.frameChecksRow.targs := of_decide_eq_true (by kernel_rfl)
theorem frameChecks_fWrap : Tryd.f9.isWrapper Tryd.pinned.checked.prog Rows.frameChecksRow.wrapper Rows.frameChecksRow.mainSum := by unfold Func.isWrapper; first | (rw [if_pos (by decide +kernel)]; kernel_rfl) | (rw [if_neg (by decide +kernel)]; exact ⟨rfl, rfl⟩)
end Go.Proofs.YtjoihegnjjjdaaaDoor
