/- Part of a claim, shortened by a program from its texts: EdFact. -/
import Derived.Test.YtjekfpnpfllaoaaGreatDoorCards
import Derived.ChangeSame
import Derived.ChangeVars
import Derived.JoinedOf
import Derived.JoinedCond
import Derived.RowKit
import Derived.RowKitTokens
import Derived.LaidLaws
import Derived.LaidHandle
import Derived.LaidSub
import Derived.Stop.Joined
import Derived.Deep.DeepHandedRow
import Derived.OpenShut
import Derived.Test.YtjekfpnpfllaoaaGreatDoorChecked
set_option linter.unusedVariables false
set_option linter.unusedSimpArgs false
set_option maxRecDepth 10000
namespace Go.Proofs.YtjekfpnpfllaoaaGreatDoor
open Go Go.RowKit
open Go.ChangeShapes Go.WideShapes Go.ChangeAt
theorem Zel : (Rows.epochChainsUptoRow.inPlace == Tryz.pinned.checked.prog.inPlace 5)=true:=by kernel_rfl
theorem Zdb : (Rows.epochChainsUptoRow.unfollowed == Tryz.pinned.checked.prog.unfollowed 5)=true:=by kernel_rfl
theorem Zea : (Rows.epochChainsUptoRow.recurses == Tryz.pinned.checked.prog.recurses 5)=true:=by kernel_rfl
theorem Zfs : (Rows.epochChainsUptoRow.named == Tryz.pinned.checked.prog.varsNamed 5)=true:=by kernel_rfl
theorem Ze5 : (Rows.epochChainsUptoRow.lifted == Tryz.pinned.checked.prog.liftsFinal)=true:=by kernel_rfl
theorem Zft : joinedFacts Tryz.pinned.checked.prog 5 Tryz.f5 (Rows.OpenSpec.upto Rows.epochChainsSpec).bare Rows.epochChainsUptoRow=true:=by
  unfold joinedFacts;rw [Zel,Zdb,Zea,Zfs,Ze5]
  kernel_rfl
theorem Zf4 : Tryz.pinned.checked.prog.funcNamed Rows.epochChainsUptoRow.func=some 5:=by kernel_rfl
theorem Zgw : Tryz.f5.isInstance Tryz.pinned.checked.prog Rows.epochChainsUptoRow.origin Rows.epochChainsUptoRow.targs:=of_decide_eq_true (by kernel_rfl)
theorem Zgx : Tryz.f5.isWrapper Tryz.pinned.checked.prog Rows.epochChainsUptoRow.wrapper Rows.epochChainsUptoRow.mainSum:=by unfold Func.isWrapper;first | (rw [if_pos (by decide +kernel)];kernel_rfl) | (rw [if_neg (by decide +kernel)];exact⟨rfl,rfl⟩)
end Go.Proofs.YtjekfpnpfllaoaaGreatDoor
