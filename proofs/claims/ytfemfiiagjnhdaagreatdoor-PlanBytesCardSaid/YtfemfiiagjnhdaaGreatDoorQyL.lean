/- Part of a claim, shortened by a program from its texts: PyFact. -/
import Derived.Test.YtfemfiiagjnhdaaGreatDoorCards
import Derived.ChangeSame
import Derived.ChangeVars
import Derived.JoinedOf
import Derived.JoinedCond
import Derived.RowKit
import Derived.RowKitTokens
import Derived.LaidLaws
import Derived.LaidHandle
import Derived.LaidSub
import Derived.Stop.Joined
import Derived.Deep.DeepHandedRow
import Derived.OpenShut
import Derived.Test.YtfemfiiagjnhdaaGreatDoorChecked
set_option linter.unusedVariables false
set_option linter.unusedSimpArgs false
set_option maxRecDepth 10000
namespace Go.Proofs.YtfemfiiagjnhdaaGreatDoor
open Go Go.RowKit
open Go.ChangeShapes Go.WideShapes Go.ChangeAt
theorem Ze7 : (Rows.planBytesRow.inPlace == Tryz.pinned.checked.prog.inPlace 9)=true:=by kernel_rfl
theorem Zdt : (Rows.planBytesRow.unfollowed == Tryz.pinned.checked.prog.unfollowed 9)=true:=by kernel_rfl
theorem Zed : (Rows.planBytesRow.recurses == Tryz.pinned.checked.prog.recurses 9)=true:=by kernel_rfl
theorem Zgo : (Rows.planBytesRow.named == Tryz.pinned.checked.prog.varsNamed 9)=true:=by kernel_rfl
theorem Zf3 : (Rows.planBytesRow.lifted == Tryz.pinned.checked.prog.liftsFinal)=true:=by kernel_rfl
theorem Zgp : joinedFacts Tryz.pinned.checked.prog 9 Tryz.f9 Rows.planBytesSpec Rows.planBytesRow=true:=by
  unfold joinedFacts
  rw [Ze7,Zdt,Zed,Zgo,Zf3]
  kernel_rfl
theorem Zg7 : Tryz.pinned.checked.prog.funcNamed Rows.planBytesRow.func=some 9:=by kernel_rfl
theorem Zig : Tryz.f9.isInstance Tryz.pinned.checked.prog Rows.planBytesRow.origin Rows.planBytesRow.targs:=of_decide_eq_true (by kernel_rfl)
theorem Zih : Tryz.f9.isWrapper Tryz.pinned.checked.prog Rows.planBytesRow.wrapper Rows.planBytesRow.mainSum:=by unfold Func.isWrapper;first | (rw [if_pos (by decide +kernel)];kernel_rfl) | (rw [if_neg (by decide +kernel)];exact⟨rfl,rfl⟩)
end Go.Proofs.YtfemfiiagjnhdaaGreatDoor
