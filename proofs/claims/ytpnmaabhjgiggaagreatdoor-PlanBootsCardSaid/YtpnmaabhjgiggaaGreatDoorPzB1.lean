/- Pz (written by wip/tools) -/
import Derived.Test.YtpnmaabhjgiggaaGreatDoorPzF
set_option linter.unusedVariables false
set_option linter.unusedSimpArgs false
set_option maxRecDepth 10000
namespace Go.Proofs.YtpnmaabhjgiggaaGreatDoor
open Go Go.RowKit



end Go.Proofs.YtpnmaabhjgiggaaGreatDoor
