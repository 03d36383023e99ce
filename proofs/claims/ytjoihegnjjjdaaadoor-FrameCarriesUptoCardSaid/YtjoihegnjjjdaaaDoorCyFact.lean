/- Closed facts of the row frameCarriesUpto (written by wip/tools) -/
import Derived.Test.YtjoihegnjjjdaaaDoorCards
import Derived.ChangeSame
import Derived.ChangeVars
import Derived.JoinedOf
import Derived.JoinedCond
import Derived.RowKit
import Derived.RowKitTokens
import Derived.LaidLaws
import Derived.LaidHandle
import Derived.LaidSub
import Derived.Stop.Joined
import Derived.Deep.DeepHandedRow
import Derived.OpenShut
import Derived.Test.YtjoihegnjjjdaaaDoorChecked
set_option linter.unusedVariables false
set_option linter.unusedSimpArgs false
set_option maxRecDepth 10000
namespace Go.Proofs.YtjoihegnjjjdaaaDoor
open Go Go.RowKit
open Go.ChangeShapes Go.WideShapes Go.ChangeAt


theorem frameCarriesUpto_f_inPlace : (Rows.frameCarriesUptoRow.inPlace == Tryd.pinned.checked.prog.inPlace 3) = true := by kernel_rfl
theorem frameCarriesUpto_f_unfollowed : (Rows.frameCarriesUptoRow.unfollowed == Tryd.pinned.checked.prog.unfollowed 3) = true := by kernel_rfl
theorem frameCarriesUpto_f_recurses : (Rows.frameCarriesUptoRow.recurses == Tryd.pinned.checked.prog.recurses 3) = true := by kernel_rfl
theorem frameCarriesUpto_f_named : (Rows.frameCarriesUptoRow.named == Tryd.pinned.checked.prog.varsNamed 3) = true := by kernel_rfl
theorem frameCarriesUpto_f_lifted : (Rows.frameCarriesUptoRow.lifted == Tryd.pinned.checked.prog.liftsFinal) = true := by kernel_rfl
theorem frameCarriesUpto_fClosed : joinedFacts Tryd.pinned.checked.prog 3 Tryd.f3 (Rows.OpenSpec.upto Rows.frameCarriesSpec).bare Rows.frameCarriesUptoRow = true := by
  unfold joinedFacts
  rw [frameCarriesUpto_f_inPlace, frameCarriesUpto_f_unfollowed, frameCarriesUpto_f_recurses, frameCarriesUpto_f_named, frameCarriesUpto_f_lifted]
  kernel_rfl
theorem frameCarriesUpto_fNamed : Tryd.pinned.checked.prog.funcNamed Rows.frameCarriesUptoRow.func = some 3 := by kernel_rfl
theorem frameCarriesUpto_fInst : Tryd.f3.isInstance Tryd.pinned.checked.prog Rows.frameCarriesUptoRow.origin Rows.frameCarriesUptoRow.targs := of_decide_eq_true (by kernel_rfl)
theorem frameCarriesUpto_fWrap : Tryd.f3.isWrapper Tryd.pinned.checked.prog Rows.frameCarriesUptoRow.wrapper Rows.frameCarriesUptoRow.mainSum := by unfold Func.isWrapper; first | (rw [if_pos (by decide +kernel)]; kernel_rfl) | (rw [if_neg (by decide +kernel)]; exact ⟨rfl, rfl⟩)
end Go.Proofs.YtjoihegnjjjdaaaDoor
