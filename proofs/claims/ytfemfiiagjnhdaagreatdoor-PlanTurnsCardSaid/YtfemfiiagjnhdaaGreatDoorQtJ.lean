/- Part of a claim, shortened by a program from its texts: PtFact. -/
import Derived.Test.YtfemfiiagjnhdaaGreatDoorCards
import Derived.ChangeSame
import Derived.ChangeVars
import Derived.JoinedOf
import Derived.JoinedCond
import Derived.RowKit
import Derived.RowKitTokens
import Derived.LaidLaws
import Derived.LaidHandle
import Derived.LaidSub
import Derived.Stop.Joined
import Derived.Deep.DeepHandedRow
import Derived.OpenShut
import Derived.Test.YtfemfiiagjnhdaaGreatDoorChecked
set_option linter.unusedVariables false
set_option linter.unusedSimpArgs false
set_option maxRecDepth 10000
namespace Go.Proofs.YtfemfiiagjnhdaaGreatDoor
open Go Go.RowKit
open Go.ChangeShapes Go.WideShapes Go.ChangeAt
theorem Zcf : (Rows.planTurnsRow.inPlace == Tryz.pinned.checked.prog.inPlace 10)=true:=by kernel_rfl
theorem Za1 : (Rows.planTurnsRow.unfollowed == Tryz.pinned.checked.prog.unfollowed 10)=true:=by kernel_rfl
theorem Zbs : (Rows.planTurnsRow.recurses == Tryz.pinned.checked.prog.recurses 10)=true:=by kernel_rfl
theorem Zdv : (Rows.planTurnsRow.named == Tryz.pinned.checked.prog.varsNamed 10)=true:=by kernel_rfl
theorem Zdc : (Rows.planTurnsRow.lifted == Tryz.pinned.checked.prog.liftsFinal)=true:=by kernel_rfl
theorem Zdw : joinedFacts Tryz.pinned.checked.prog 10 Tryz.f10 Rows.planTurnsSpec Rows.planTurnsRow=true:=by
  unfold joinedFacts
  rw [Zcf,Za1,Zbs,Zdv,Zdc]
  kernel_rfl
theorem Zee : Tryz.pinned.checked.prog.funcNamed Rows.planTurnsRow.func=some 10:=by kernel_rfl
theorem Ze9 : Tryz.f10.isInstance Tryz.pinned.checked.prog Rows.planTurnsRow.origin Rows.planTurnsRow.targs:=of_decide_eq_true (by kernel_rfl)
theorem Zfa : Tryz.f10.isWrapper Tryz.pinned.checked.prog Rows.planTurnsRow.wrapper Rows.planTurnsRow.mainSum:=by unfold Func.isWrapper;first | (rw [if_pos (by decide +kernel)];kernel_rfl) | (rw [if_neg (by decide +kernel)];exact⟨rfl,rfl⟩)
end Go.Proofs.YtfemfiiagjnhdaaGreatDoor
