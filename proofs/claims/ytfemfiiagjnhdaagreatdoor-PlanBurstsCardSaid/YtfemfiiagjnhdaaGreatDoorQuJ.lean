/- Part of a claim, shortened by a program from its texts: PuFact. -/
import Derived.Test.YtfemfiiagjnhdaaGreatDoorCards
import Derived.ChangeSame
import Derived.ChangeVars
import Derived.JoinedOf
import Derived.JoinedCond
import Derived.RowKit
import Derived.RowKitTokens
import Derived.LaidLaws
import Derived.LaidHandle
import Derived.LaidSub
import Derived.Stop.Joined
import Derived.Deep.DeepHandedRow
import Derived.OpenShut
import Derived.Test.YtfemfiiagjnhdaaGreatDoorChecked
set_option linter.unusedVariables false
set_option linter.unusedSimpArgs false
set_option maxRecDepth 10000
namespace Go.Proofs.YtfemfiiagjnhdaaGreatDoor
open Go Go.RowKit
open Go.ChangeShapes Go.WideShapes Go.ChangeAt
theorem Zbo : (Rows.planBurstsRow.inPlace == Tryz.pinned.checked.prog.inPlace 7)=true:=by kernel_rfl
theorem Zas : (Rows.planBurstsRow.unfollowed == Tryz.pinned.checked.prog.unfollowed 7)=true:=by kernel_rfl
theorem Zbe : (Rows.planBurstsRow.recurses == Tryz.pinned.checked.prog.recurses 7)=true:=by kernel_rfl
theorem Zcx : (Rows.planBurstsRow.named == Tryz.pinned.checked.prog.varsNamed 7)=true:=by kernel_rfl
theorem Zb8 : (Rows.planBurstsRow.lifted == Tryz.pinned.checked.prog.liftsFinal)=true:=by kernel_rfl
theorem Zcy : joinedFacts Tryz.pinned.checked.prog 7 Tryz.f7 Rows.planBurstsSpec Rows.planBurstsRow=true:=by
  unfold joinedFacts
  rw [Zbo,Zas,Zbe,Zcx,Zb8]
  kernel_rfl
theorem Zdd : Tryz.pinned.checked.prog.funcNamed Rows.planBurstsRow.func=some 7:=by kernel_rfl
theorem Zdx : Tryz.f7.isInstance Tryz.pinned.checked.prog Rows.planBurstsRow.origin Rows.planBurstsRow.targs:=of_decide_eq_true (by kernel_rfl)
theorem Zdy : Tryz.f7.isWrapper Tryz.pinned.checked.prog Rows.planBurstsRow.wrapper Rows.planBurstsRow.mainSum:=by unfold Func.isWrapper;first | (rw [if_pos (by decide +kernel)];kernel_rfl) | (rw [if_neg (by decide +kernel)];exact⟨rfl,rfl⟩)
end Go.Proofs.YtfemfiiagjnhdaaGreatDoor
