/- Closed facts of the row ferryBurstsTold (written by wip/tools) -/
import Derived.Test.YtnhjohcgnmogaaaDoorCards
import Derived.ChangeSame
import Derived.ChangeVars
import Derived.JoinedOf
import Derived.JoinedCond
import Derived.RowKit
import Derived.RowKitTokens
import Derived.LaidLaws
import Derived.LaidHandle
import Derived.LaidSub
import Derived.Stop.Joined
import Derived.Deep.DeepHandedRow
import Derived.OpenShut
import Derived.Test.YtnhjohcgnmogaaaDoorChecked
set_option linter.unusedVariables false
set_option linter.unusedSimpArgs false
set_option maxRecDepth 10000
namespace Go.Proofs.YtnhjohcgnmogaaaDoor
open Go Go.RowKit
open Go.ChangeShapes Go.WideShapes Go.ChangeAt


theorem ferryBurstsTold_f_inPlace : (Rows.ferryBurstsToldRow.inPlace == Tryd.pinned.checked.prog.inPlace 5) = true := by kernel_rfl
theorem ferryBurstsTold_f_unfollowed : (Rows.ferryBurstsToldRow.unfollowed == Tryd.pinned.checked.prog.unfollowed 5) = true := by kernel_rfl
theorem ferryBurstsTold_f_recurses : (Rows.ferryBurstsToldRow.recurses == Tryd.pinned.checked.prog.recurses 5) = true := by kernel_rfl
theorem ferryBurstsTold_f_named : (Rows.ferryBurstsToldRow.named == Tryd.pinned.checked.prog.varsNamed 5) = true := by kernel_rfl
theorem ferryBurstsTold_f_lifted : (Rows.ferryBurstsToldRow.lifted == Tryd.pinned.checked.prog.liftsFinal) = true := by kernel_rfl
theorem ferryBurstsTold_fClosed : joinedFacts Tryd.pinned.checked.prog 5 Tryd.f5 Rows.ferryBurstsToldSpec Rows.ferryBurstsToldRow = true := by
  unfold joinedFacts
  rw [ferryBurstsTold_f_inPlace, ferryBurstsTold_f_unfollowed, ferryBurstsTold_f_recurses, ferryBurstsTold_f_named, ferryBurstsTold_f_lifted]
  kernel_rfl
theorem ferryBurstsTold_fNamed : Tryd.pinned.checked.prog.funcNamed Rows.ferryBurstsToldRow.func = some 5 := by kernel_rfl
theorem ferryBurstsTold_fInst : Tryd.f5.isInstance Tryd.pinned.checked.prog Rows.ferryBurstsToldRow.origin Rows.ferryBurstsToldRow.targs := of_decide_eq_true (by kernel_rfl)
theorem ferryBurstsTold_fWrap : Tryd.f5.isWrapper Tryd.pinned.checked.prog Rows.ferryBurstsToldRow.wrapper Rows.ferryBurstsToldRow.mainSum := by unfold Func.isWrapper; first | (rw [if_pos (by decide +kernel)]; kernel_rfl) | (rw [if_neg (by decide +kernel)]; exact ⟨rfl, rfl⟩)
end Go.Proofs.YtnhjohcgnmogaaaDoor
