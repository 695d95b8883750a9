/- Engines: whether an attestation fits. -/
import Derived.Test.YtgnidooihignfaaGreatDoorP8
set_option linter.unusedSimpArgs false
set_option maxRecDepth 10000
namespace Go.Proofs.YtgnidooihignfaaGreatDoor
open Go Go.Ab
end Go.Proofs.YtgnidooihignfaaGreatDoor
