/- Closed facts of the row validOrder (written by wip/tools) -/
import Derived.Test.YtjoihegnjjjdaaaDoorCards
import Derived.ChangeSame
import Derived.ChangeVars
import Derived.JoinedOf
import Derived.JoinedCond
import Derived.RowKit
import Derived.RowKitTokens
import Derived.LaidLaws
import Derived.LaidHandle
import Derived.LaidSub
import Derived.Stop.Joined
import Derived.Deep.DeepHandedRow
import Derived.OpenShut
import Derived.Test.YtjoihegnjjjdaaaDoorChecked
set_option linter.unusedVariables false
set_option linter.unusedSimpArgs false
set_option maxRecDepth 10000
namespace Go.Proofs.YtjoihegnjjjdaaaDoor
open Go Go.RowKit
open Go.ChangeShapes Go.WideShapes Go.ChangeAt


theorem validOrder_f_inPlace : (Rows.validOrderRow.inPlace == Tryd.pinned.checked.prog.inPlace 6) = true := by kernel_rfl
theorem validOrder_f_unfollowed : (Rows.validOrderRow.unfollowed == Tryd.pinned.checked.prog.unfollowed 6) = true := by kernel_rfl
theorem validOrder_f_recurses : (Rows.validOrderRow.recurses == Tryd.pinned.checked.prog.recurses 6) = true := by kernel_rfl
theorem validOrder_f_named : (Rows.validOrderRow.named == Tryd.pinned.checked.prog.varsNamed 6) = true := by kernel_rfl
theorem validOrder_f_lifted : (Rows.validOrderRow.lifted == Tryd.pinned.checked.prog.liftsFinal) = true := by kernel_rfl
theorem validOrder_fClosed : joinedFacts Tryd.pinned.checked.prog 6 Tryd.f6 Rows.validOrderSpec Rows.validOrderRow = true := by
  unfold joinedFacts
  rw [validOrder_f_inPlace, validOrder_f_unfollowed, validOrder_f_recurses, validOrder_f_named, validOrder_f_lifted]
  kernel_rfl
theorem validOrder_fNamed : Tryd.pinned.checked.prog.funcNamed Rows.validOrderRow.func = some 6 := by kernel_rfl
theorem validOrder_fInst : Tryd.f6.isInstance Tryd.pinned.checked.prog Rows.validOrderRow.origin Rows.validOrderRow.targs := of_decide_eq_true (by kernel_rfl)
theorem validOrder_fWrap : Tryd.f6.isWrapper Tryd.pinned.checked.prog Rows.validOrderRow.wrapper Rows.validOrderRow.mainSum := by unfold Func.isWrapper; first | (rw [if_pos (by decide +kernel)]; kernel_rfl) | (rw [if_neg (by decide +kernel)]; exact ⟨rfl, rfl⟩)
end Go.Proofs.YtjoihegnjjjdaaaDoor
