/- Part of a claim, shortened by a program from its texts: EoFact. -/
import Derived.Test.YtjekfpnpfllaoaaGreatDoorCards
import Derived.ChangeSame
import Derived.ChangeVars
import Derived.JoinedOf
import Derived.JoinedCond
import Derived.RowKit
import Derived.RowKitTokens
import Derived.LaidLaws
import Derived.LaidHandle
import Derived.LaidSub
import Derived.Stop.Joined
import Derived.Deep.DeepHandedRow
import Derived.OpenShut
import Derived.Test.YtjekfpnpfllaoaaGreatDoorChecked
set_option linter.unusedVariables false
set_option linter.unusedSimpArgs false
set_option maxRecDepth 10000
namespace Go.Proofs.YtjekfpnpfllaoaaGreatDoor
open Go Go.RowKit
open Go.ChangeShapes Go.WideShapes Go.ChangeAt
theorem Zg3 : (Rows.epochLaysRow.inPlace == Tryz.pinned.checked.prog.inPlace 3)=true:=by kernel_rfl
theorem Zfg : (Rows.epochLaysRow.unfollowed == Tryz.pinned.checked.prog.unfollowed 3)=true:=by kernel_rfl
theorem Zgc : (Rows.epochLaysRow.recurses == Tryz.pinned.checked.prog.recurses 3)=true:=by kernel_rfl
theorem Zhw : (Rows.epochLaysRow.named == Tryz.pinned.checked.prog.varsNamed 3)=true:=by kernel_rfl
theorem Zhk : (Rows.epochLaysRow.lifted == Tryz.pinned.checked.prog.liftsFinal)=true:=by kernel_rfl
theorem Zhx : joinedFacts Tryz.pinned.checked.prog 3 Tryz.f3 Rows.epochLaysSpec Rows.epochLaysRow=true:=by
  unfold joinedFacts;rw [Zg3,Zfg,Zgc,Zhw,Zhk]
  kernel_rfl
theorem Zig : Tryz.pinned.checked.prog.funcNamed Rows.epochLaysRow.func=some 3:=by kernel_rfl
theorem Zjn : Tryz.f3.isInstance Tryz.pinned.checked.prog Rows.epochLaysRow.origin Rows.epochLaysRow.targs:=of_decide_eq_true (by kernel_rfl)
theorem Zjo : Tryz.f3.isWrapper Tryz.pinned.checked.prog Rows.epochLaysRow.wrapper Rows.epochLaysRow.mainSum:=by unfold Func.isWrapper;first | (rw [if_pos (by decide +kernel)];kernel_rfl) | (rw [if_neg (by decide +kernel)];exact⟨rfl,rfl⟩)
end Go.Proofs.YtjekfpnpfllaoaaGreatDoor
