/- Closed facts of the row validBoots (written by wip/tools) -/
import Derived.Test.YtjoihegnjjjdaaaDoorCards
import Derived.ChangeSame
import Derived.ChangeVars
import Derived.JoinedOf
import Derived.JoinedCond
import Derived.RowKit
import Derived.RowKitTokens
import Derived.LaidLaws
import Derived.LaidHandle
import Derived.LaidSub
import Derived.Stop.Joined
import Derived.Deep.DeepHandedRow
import Derived.OpenShut
import Derived.Test.YtjoihegnjjjdaaaDoorChecked
set_option linter.unusedVariables false
set_option linter.unusedSimpArgs false
set_option maxRecDepth 10000
namespace Go.Proofs.YtjoihegnjjjdaaaDoor
open Go Go.RowKit
open Go.ChangeShapes Go.WideShapes Go.ChangeAt


theorem validBoots_f_inPlace : (Rows.validBootsRow.inPlace == Tryd.pinned.checked.prog.inPlace 10) = true := by kernel_rfl
theorem validBoots_f_unfollowed : (Rows.validBootsRow.unfollowed == Tryd.pinned.checked.prog.unfollowed 10) = true := by kernel_rfl
theorem validBoots_f_recurses : (Rows.validBootsRow.recurses == Tryd.pinned.checked.prog.recurses 10) = true := by kernel_rfl
theorem validBoots_f_named : (Rows.validBootsRow.named == Tryd.pinned.checked.prog.varsNamed 10) = true := by kernel_rfl
theorem validBoots_f_lifted : (Rows.validBootsRow.lifted == Tryd.pinned.checked.prog.liftsFinal) = true := by kernel_rfl
theorem validBoots_fClosed : joinedFacts Tryd.pinned.checked.prog 10 Tryd.f10 Rows.validBootsSpec Rows.validBootsRow = true := by
  unfold joinedFacts
  rw [validBoots_f_inPlace, validBoots_f_unfollowed, validBoots_f_recurses, validBoots_f_named, validBoots_f_lifted]
  kernel_rfl
theorem validBoots_fNamed : Tryd.pinned.checked.prog.funcNamed Rows.validBootsRow.func = some 10 := by kernel_rfl
theorem validBoots_fInst : Tryd.f10.isInstance Tryd.pinned.checked.prog Rows.validBootsRow.origin Rows.validBootsRow.targs := of_decide_eq_true (by kernel_rfl)
theorem validBoots_fWrap : Tryd.f10.isWrapper Tryd.pinned.checked.prog Rows.validBootsRow.wrapper Rows.validBootsRow.mainSum := by unfold Func.isWrapper; first | (rw [if_pos (by decide +kernel)]; kernel_rfl) | (rw [if_neg (by decide +kernel)]; exact ⟨rfl, rfl⟩)
end Go.Proofs.YtjoihegnjjjdaaaDoor
