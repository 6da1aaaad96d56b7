/-
  strings.Builder's copyCheck and WriteString by contracts (the shelf's own don't fit this program's text).
-/
import Derived.Test.YtpbpfngichfgeaaGreatDoorUtil
import Derived.Test.YtpbpfngichfgeaaGreatDoorShelf
import Derived.WalkSmall
namespace Go.Proofs.YtpbpfngichfgeaaGreatDoor
set_option linter.unusedVariables false
set_option linter.unusedSimpArgs false
open Go.RowKit

abbrev BT : TypeId := 109
abbrev BP : TypeId := 107
end Go.Proofs.YtpbpfngichfgeaaGreatDoor
