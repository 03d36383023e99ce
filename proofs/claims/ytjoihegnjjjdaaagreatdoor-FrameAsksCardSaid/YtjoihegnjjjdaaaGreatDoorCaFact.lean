/- Closed facts of the row frameAsks (written by wip/tools) -/
import Derived.Test.YtjoihegnjjjdaaaGreatDoorCards
import Derived.ChangeSame
import Derived.ChangeVars
import Derived.JoinedOf
import Derived.JoinedCond
import Derived.RowKit
import Derived.RowKitTokens
import Derived.LaidLaws
import Derived.LaidHandle
import Derived.LaidSub
import Derived.Stop.Joined
import Derived.Deep.DeepHandedRow
import Derived.OpenShut
import Derived.Test.YtjoihegnjjjdaaaGreatDoorChecked
set_option linter.unusedVariables false
set_option linter.unusedSimpArgs false
set_option maxRecDepth 10000
namespace Go.Proofs.YtjoihegnjjjdaaaGreatDoor
open Go Go.RowKit
open Go.ChangeShapes Go.WideShapes Go.ChangeAt


theorem frameAsks_f_inPlace : (Rows.frameAsksRow.inPlace == Tryz.pinned.checked.prog.inPlace 4) = true := by kernel_rfl
theorem frameAsks_f_unfollowed : (Rows.frameAsksRow.unfollowed == Tryz.pinned.checked.prog.unfollowed 4) = true := by kernel_rfl
theorem frameAsks_f_recurses : (Rows.frameAsksRow.recurses == Tryz.pinned.checked.prog.recurses 4) = true := by kernel_rfl
theorem frameAsks_f_named : (Rows.frameAsksRow.named == Tryz.pinned.checked.prog.varsNamed 4) = true := by kernel_rfl
theorem frameAsks_f_lifted : (Rows.frameAsksRow.lifted == Tryz.pinned.checked.prog.liftsFinal) = true := by kernel_rfl
theorem frameAsks_fClosed : joinedFacts Tryz.pinned.checked.prog 4 Tryz.f4 Rows.frameAsksSpec Rows.frameAsksRow = true := by
  unfold joinedFacts
  rw [frameAsks_f_inPlace, frameAsks_f_unfollowed, frameAsks_f_recurses, frameAsks_f_named, frameAsks_f_lifted]
  kernel_rfl
theorem frameAsks_fNamed : Tryz.pinned.checked.prog.funcNamed Rows.frameAsksRow.func = some 4 := by kernel_rfl
theorem frameAsks_fInst : Tryz.f4.isInstance Tryz.pinned.checked.prog Rows.frameAsksRow.origin Rows.frameAsksRow.targs := of_decide_eq_true (by kernel_rfl)
theorem frameAsks_fWrap : Tryz.f4.isWrapper Tryz.pinned.checked.prog Rows.frameAsksRow.wrapper Rows.frameAsksRow.mainSum := by unfold Func.isWrapper; first | (rw [if_pos (by decide +kernel)]; kernel_rfl) | (rw [if_neg (by decide +kernel)]; exact ⟨rfl, rfl⟩)
end Go.Proofs.YtjoihegnjjjdaaaGreatDoor
