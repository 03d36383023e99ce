/- Closed facts of the row frameTicks (written by wip/tools) -/
import Derived.Test.YtjoihegnjjjdaaaDoorCards
import Derived.ChangeSame
import Derived.ChangeVars
import Derived.JoinedOf
import Derived.JoinedCond
import Derived.RowKit
import Derived.RowKitTokens
import Derived.LaidLaws
import Derived.LaidHandle
import Derived.LaidSub
import Derived.Stop.Joined
import Derived.Deep.DeepHandedRow
import Derived.OpenShut
import Derived.Test.YtjoihegnjjjdaaaDoorChecked
set_option linter.unusedVariables false
set_option linter.unusedSimpArgs false
set_option maxRecDepth 10000
namespace Go.Proofs.YtjoihegnjjjdaaaDoor
open Go Go.RowKit
open Go.ChangeShapes Go.WideShapes Go.ChangeAt


theorem frameTicks_f_inPlace : (Rows.frameTicksRow.inPlace == Tryd.pinned.checked.prog.inPlace 8) = true := by kernel_rfl
theorem frameTicks_f_unfollowed : (Rows.frameTicksRow.unfollowed == Tryd.pinned.checked.prog.unfollowed 8) = true := by kernel_rfl
theorem frameTicks_f_recurses : (Rows.frameTicksRow.recurses == Tryd.pinned.checked.prog.recurses 8) = true := by kernel_rfl
theorem frameTicks_f_named : (Rows.frameTicksRow.named == Tryd.pinned.checked.prog.varsNamed 8) = true := by kernel_rfl
theorem frameTicks_f_lifted : (Rows.frameTicksRow.lifted == Tryd.pinned.checked.prog.liftsFinal) = true := by kernel_rfl
theorem frameTicks_fClosed : joinedFacts Tryd.pinned.checked.prog 8 Tryd.f8 Rows.frameTicksSpec Rows.frameTicksRow = true := by
  unfold joinedFacts
  rw [frameTicks_f_inPlace, frameTicks_f_unfollowed, frameTicks_f_recurses, frameTicks_f_named, frameTicks_f_lifted]
  kernel_rfl
theorem frameTicks_fNamed : Tryd.pinned.checked.prog.funcNamed Rows.frameTicksRow.func = some 8 := by kernel_rfl
theorem frameTicks_fInst : Tryd.f8.isInstance Tryd.pinned.checked.prog Rows.frameTicksRow.origin Rows.frameTicksRow.targs := of_decide_eq_true (by kernel_rfl)
theorem frameTicks_fWrap : Tryd.f8.isWrapper Tryd.pinned.checked.prog Rows.frameTicksRow.wrapper Rows.frameTicksRow.mainSum := by unfold Func.isWrapper; first | (rw [if_pos (by decide +kernel)]; kernel_rfl) | (rw [if_neg (by decide +kernel)]; exact ⟨rfl, rfl⟩)
end Go.Proofs.YtjoihegnjjjdaaaDoor
