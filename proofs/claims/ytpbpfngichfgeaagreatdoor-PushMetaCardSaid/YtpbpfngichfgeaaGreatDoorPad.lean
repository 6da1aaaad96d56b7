/-
  entry.Pad by a contract.
-/
import Derived.Test.YtpbpfngichfgeaaGreatDoorEntries
namespace Go.Proofs.YtpbpfngichfgeaaGreatDoor
set_option linter.unusedVariables false
set_option linter.unusedSimpArgs false
open Go.RowKit

end Go.Proofs.YtpbpfngichfgeaaGreatDoor
