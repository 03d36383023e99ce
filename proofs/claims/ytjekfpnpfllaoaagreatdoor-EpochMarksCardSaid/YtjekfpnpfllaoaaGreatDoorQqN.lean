/- Part of a claim, shortened by a program from its texts: EnFact. -/
import Derived.Test.YtjekfpnpfllaoaaGreatDoorCards
import Derived.ChangeSame
import Derived.ChangeVars
import Derived.JoinedOf
import Derived.JoinedCond
import Derived.RowKit
import Derived.RowKitTokens
import Derived.LaidLaws
import Derived.LaidHandle
import Derived.LaidSub
import Derived.Stop.Joined
import Derived.Deep.DeepHandedRow
import Derived.OpenShut
import Derived.Test.YtjekfpnpfllaoaaGreatDoorChecked
set_option linter.unusedVariables false
set_option linter.unusedSimpArgs false
set_option maxRecDepth 10000
namespace Go.Proofs.YtjekfpnpfllaoaaGreatDoor
open Go Go.RowKit
open Go.ChangeShapes Go.WideShapes Go.ChangeAt
theorem Zho : (Rows.epochMarksRow.inPlace == Tryz.pinned.checked.prog.inPlace 4)=true:=by kernel_rfl
theorem Zge : (Rows.epochMarksRow.unfollowed == Tryz.pinned.checked.prog.unfollowed 4)=true:=by kernel_rfl
theorem Zhh : (Rows.epochMarksRow.recurses == Tryz.pinned.checked.prog.recurses 4)=true:=by kernel_rfl
theorem Ziy : (Rows.epochMarksRow.named == Tryz.pinned.checked.prog.varsNamed 4)=true:=by kernel_rfl
theorem Zic : (Rows.epochMarksRow.lifted == Tryz.pinned.checked.prog.liftsFinal)=true:=by kernel_rfl
theorem Ziz : joinedFacts Tryz.pinned.checked.prog 4 Tryz.f4 Rows.epochMarksSpec Rows.epochMarksRow=true:=by
  unfold joinedFacts;rw [Zho,Zge,Zhh,Ziy,Zic]
  kernel_rfl
theorem Zi9 : Tryz.pinned.checked.prog.funcNamed Rows.epochMarksRow.func=some 4:=by kernel_rfl
theorem Zjt : Tryz.f4.isInstance Tryz.pinned.checked.prog Rows.epochMarksRow.origin Rows.epochMarksRow.targs:=of_decide_eq_true (by kernel_rfl)
theorem Zju : Tryz.f4.isWrapper Tryz.pinned.checked.prog Rows.epochMarksRow.wrapper Rows.epochMarksRow.mainSum:=by unfold Func.isWrapper;first | (rw [if_pos (by decide +kernel)];kernel_rfl) | (rw [if_neg (by decide +kernel)];exact⟨rfl,rfl⟩)
end Go.Proofs.YtjekfpnpfllaoaaGreatDoor
