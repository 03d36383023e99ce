/- Closed facts of the row planGrows (written by wip/tools) -/
import Derived.Test.YtpnmaabhjgiggaaDoorCards
import Derived.ChangeSame
import Derived.ChangeVars
import Derived.JoinedOf
import Derived.JoinedCond
import Derived.RowKit
import Derived.RowKitTokens
import Derived.LaidLaws
import Derived.LaidHandle
import Derived.LaidSub
import Derived.Stop.Joined
import Derived.Deep.DeepHandedRow
import Derived.OpenShut
import Derived.Test.YtpnmaabhjgiggaaDoorChecked
set_option linter.unusedVariables false
set_option linter.unusedSimpArgs false
set_option maxRecDepth 10000
namespace Go.Proofs.YtpnmaabhjgiggaaDoor
open Go Go.RowKit
open Go.ChangeShapes Go.WideShapes Go.ChangeAt


theorem planGrows_f_inPlace : (Rows.planGrowsRow.inPlace == Tryd.pinned.checked.prog.inPlace 3) = true := by kernel_rfl
theorem planGrows_f_unfollowed : (Rows.planGrowsRow.unfollowed == Tryd.pinned.checked.prog.unfollowed 3) = true := by kernel_rfl
theorem planGrows_f_recurses : (Rows.planGrowsRow.recurses == Tryd.pinned.checked.prog.recurses 3) = true := by kernel_rfl
theorem planGrows_f_named : (Rows.planGrowsRow.named == Tryd.pinned.checked.prog.varsNamed 3) = true := by kernel_rfl
theorem planGrows_f_lifted : (Rows.planGrowsRow.lifted == Tryd.pinned.checked.prog.liftsFinal) = true := by kernel_rfl
theorem planGrows_fClosed : joinedFacts Tryd.pinned.checked.prog 3 Tryd.f3 Rows.planGrowsSpec Rows.planGrowsRow = true := by
  unfold joinedFacts
  rw [planGrows_f_inPlace, planGrows_f_unfollowed, planGrows_f_recurses, planGrows_f_named, planGrows_f_lifted]
  kernel_rfl
theorem planGrows_fNamed : Tryd.pinned.checked.prog.funcNamed Rows.planGrowsRow.func = some 3 := by kernel_rfl
theorem planGrows_fInst : Tryd.f3.isInstance Tryd.pinned.checked.prog Rows.planGrowsRow.origin Rows.planGrowsRow.targs := of_decide_eq_true (by kernel_rfl)
theorem planGrows_fWrap : Tryd.f3.isWrapper Tryd.pinned.checked.prog Rows.planGrowsRow.wrapper Rows.planGrowsRow.mainSum := by unfold Func.isWrapper; first | (rw [if_pos (by decide +kernel)]; kernel_rfl) | (rw [if_neg (by decide +kernel)]; exact ⟨rfl, rfl⟩)
end Go.Proofs.YtpnmaabhjgiggaaDoor
