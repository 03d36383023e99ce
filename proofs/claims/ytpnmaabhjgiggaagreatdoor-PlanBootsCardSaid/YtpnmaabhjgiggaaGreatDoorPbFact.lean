/- Closed facts of the row planBoots (written by wip/tools) -/
import Derived.Test.YtpnmaabhjgiggaaGreatDoorCards
import Derived.ChangeSame
import Derived.ChangeVars
import Derived.JoinedOf
import Derived.JoinedCond
import Derived.RowKit
import Derived.RowKitTokens
import Derived.LaidLaws
import Derived.LaidHandle
import Derived.LaidSub
import Derived.Stop.Joined
import Derived.Deep.DeepHandedRow
import Derived.OpenShut
import Derived.Test.YtpnmaabhjgiggaaGreatDoorChecked
set_option linter.unusedVariables false
set_option linter.unusedSimpArgs false
set_option maxRecDepth 10000
namespace Go.Proofs.YtpnmaabhjgiggaaGreatDoor
open Go Go.RowKit
open Go.ChangeShapes Go.WideShapes Go.ChangeAt


theorem planBoots_f_inPlace : (Rows.planBootsRow.inPlace == Tryz.pinned.checked.prog.inPlace 3) = true := by kernel_rfl
theorem planBoots_f_unfollowed : (Rows.planBootsRow.unfollowed == Tryz.pinned.checked.prog.unfollowed 3) = true := by kernel_rfl
theorem planBoots_f_recurses : (Rows.planBootsRow.recurses == Tryz.pinned.checked.prog.recurses 3) = true := by kernel_rfl
theorem planBoots_f_named : (Rows.planBootsRow.named == Tryz.pinned.checked.prog.varsNamed 3) = true := by kernel_rfl
theorem planBoots_f_lifted : (Rows.planBootsRow.lifted == Tryz.pinned.checked.prog.liftsFinal) = true := by kernel_rfl
theorem planBoots_fClosed : joinedFacts Tryz.pinned.checked.prog 3 Tryz.f3 Rows.planBootsSpec Rows.planBootsRow = true := by
  unfold joinedFacts
  rw [planBoots_f_inPlace, planBoots_f_unfollowed, planBoots_f_recurses, planBoots_f_named, planBoots_f_lifted]
  kernel_rfl
theorem planBoots_fNamed : Tryz.pinned.checked.prog.funcNamed Rows.planBootsRow.func = some 3 := by kernel_rfl
theorem planBoots_fInst : Tryz.f3.isInstance Tryz.pinned.checked.prog Rows.planBootsRow.origin Rows.planBootsRow.targs := of_decide_eq_true (by kernel_rfl)
theorem planBoots_fWrap : Tryz.f3.isWrapper Tryz.pinned.checked.prog Rows.planBootsRow.wrapper Rows.planBootsRow.mainSum := by unfold Func.isWrapper; first | (rw [if_pos (by decide +kernel)]; kernel_rfl) | (rw [if_neg (by decide +kernel)]; exact ⟨rfl, rfl⟩)
end Go.Proofs.YtpnmaabhjgiggaaGreatDoor
