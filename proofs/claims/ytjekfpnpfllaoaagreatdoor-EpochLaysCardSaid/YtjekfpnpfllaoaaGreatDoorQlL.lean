/- Part of a claim, shortened by a program from its texts: ElL1. -/
import Derived.Test.YtjekfpnpfllaoaaGreatDoorQlK
set_option linter.unusedVariables false
set_option linter.unusedSimpArgs false
set_option maxRecDepth 10000
namespace Go.Proofs.YtjekfpnpfllaoaaGreatDoor
open Go Go.RowKit
end Go.Proofs.YtjekfpnpfllaoaaGreatDoor
