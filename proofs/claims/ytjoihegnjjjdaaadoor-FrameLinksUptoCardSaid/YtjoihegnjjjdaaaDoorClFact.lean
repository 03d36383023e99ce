/- Closed facts of the row frameLinksUpto (written by wip/tools) -/
import Derived.Test.YtjoihegnjjjdaaaDoorCards
import Derived.ChangeSame
import Derived.ChangeVars
import Derived.JoinedOf
import Derived.JoinedCond
import Derived.RowKit
import Derived.RowKitTokens
import Derived.LaidLaws
import Derived.LaidHandle
import Derived.LaidSub
import Derived.Stop.Joined
import Derived.Deep.DeepHandedRow
import Derived.OpenShut
import Derived.Test.YtjoihegnjjjdaaaDoorChecked
set_option linter.unusedVariables false
set_option linter.unusedSimpArgs false
set_option maxRecDepth 10000
namespace Go.Proofs.YtjoihegnjjjdaaaDoor
open Go Go.RowKit
open Go.ChangeShapes Go.WideShapes Go.ChangeAt


theorem frameLinksUpto_f_inPlace : (Rows.frameLinksUptoRow.inPlace == Tryd.pinned.checked.prog.inPlace 4) = true := by kernel_rfl
theorem frameLinksUpto_f_unfollowed : (Rows.frameLinksUptoRow.unfollowed == Tryd.pinned.checked.prog.unfollowed 4) = true := by kernel_rfl
theorem frameLinksUpto_f_recurses : (Rows.frameLinksUptoRow.recurses == Tryd.pinned.checked.prog.recurses 4) = true := by kernel_rfl
theorem frameLinksUpto_f_named : (Rows.frameLinksUptoRow.named == Tryd.pinned.checked.prog.varsNamed 4) = true := by kernel_rfl
theorem frameLinksUpto_f_lifted : (Rows.frameLinksUptoRow.lifted == Tryd.pinned.checked.prog.liftsFinal) = true := by kernel_rfl
theorem frameLinksUpto_fClosed : joinedFacts Tryd.pinned.checked.prog 4 Tryd.f4 (Rows.OpenSpec.upto Rows.frameLinksSpec).bare Rows.frameLinksUptoRow = true := by
  unfold joinedFacts
  rw [frameLinksUpto_f_inPlace, frameLinksUpto_f_unfollowed, frameLinksUpto_f_recurses, frameLinksUpto_f_named, frameLinksUpto_f_lifted]
  kernel_rfl
theorem frameLinksUpto_fNamed : Tryd.pinned.checked.prog.funcNamed Rows.frameLinksUptoRow.func = some 4 := by kernel_rfl
theorem frameLinksUpto_fInst : Tryd.f4.isInstance Tryd.pinned.checked.prog Rows.frameLinksUptoRow.origin Rows.frameLinksUptoRow.targs := of_decide_eq_true (by kernel_rfl)
theorem frameLinksUpto_fWrap : Tryd.f4.isWrapper Tryd.pinned.checked.prog Rows.frameLinksUptoRow.wrapper Rows.frameLinksUptoRow.mainSum := by unfold Func.isWrapper; first | (rw [if_pos (by decide +kernel)]; kernel_rfl) | (rw [if_neg (by decide +kernel)]; exact ⟨rfl, rfl⟩)
end Go.Proofs.YtjoihegnjjjdaaaDoor
