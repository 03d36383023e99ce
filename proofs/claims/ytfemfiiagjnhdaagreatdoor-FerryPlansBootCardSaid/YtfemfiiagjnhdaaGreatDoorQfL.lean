/- Part of a claim, shortened by a program from its texts: PfFact. -/
import Derived.Test.YtfemfiiagjnhdaaGreatDoorCards
import Derived.ChangeSame
import Derived.ChangeVars
import Derived.JoinedOf
import Derived.JoinedCond
import Derived.RowKit
import Derived.RowKitTokens
import Derived.LaidLaws
import Derived.LaidHandle
import Derived.LaidSub
import Derived.Stop.Joined
import Derived.Deep.DeepHandedRow
import Derived.OpenShut
import Derived.Test.YtfemfiiagjnhdaaGreatDoorChecked
set_option linter.unusedVariables false
set_option linter.unusedSimpArgs false
set_option maxRecDepth 10000
namespace Go.Proofs.YtfemfiiagjnhdaaGreatDoor
open Go Go.RowKit
open Go.ChangeShapes Go.WideShapes Go.ChangeAt
theorem Zct : (Rows.ferryPlansBootRow.inPlace == Tryz.pinned.checked.prog.inPlace 11)=true:=by kernel_rfl
theorem Zbu : (Rows.ferryPlansBootRow.unfollowed == Tryz.pinned.checked.prog.unfollowed 11)=true:=by kernel_rfl
theorem Zcc : (Rows.ferryPlansBootRow.recurses == Tryz.pinned.checked.prog.recurses 11)=true:=by kernel_rfl
theorem Zdg : (Rows.ferryPlansBootRow.named == Tryz.pinned.checked.prog.varsNamed 11)=true:=by kernel_rfl
theorem Zc8 : (Rows.ferryPlansBootRow.lifted == Tryz.pinned.checked.prog.liftsFinal)=true:=by kernel_rfl
theorem Zdh : joinedFacts Tryz.pinned.checked.prog 11 Tryz.f11 Rows.ferryPlansBootSpec Rows.ferryPlansBootRow=true:=by
  unfold joinedFacts
  rw [Zct,Zbu,Zcc,Zdg,Zc8]
  kernel_rfl
theorem Zd4 : Tryz.pinned.checked.prog.funcNamed Rows.ferryPlansBootRow.func=some 11:=by kernel_rfl
theorem Zei : Tryz.f11.isInstance Tryz.pinned.checked.prog Rows.ferryPlansBootRow.origin Rows.ferryPlansBootRow.targs:=of_decide_eq_true (by kernel_rfl)
theorem Zej : Tryz.f11.isWrapper Tryz.pinned.checked.prog Rows.ferryPlansBootRow.wrapper Rows.ferryPlansBootRow.mainSum:=by unfold Func.isWrapper;first | (rw [if_pos (by decide +kernel)];kernel_rfl) | (rw [if_neg (by decide +kernel)];exact⟨rfl,rfl⟩)
end Go.Proofs.YtfemfiiagjnhdaaGreatDoor
