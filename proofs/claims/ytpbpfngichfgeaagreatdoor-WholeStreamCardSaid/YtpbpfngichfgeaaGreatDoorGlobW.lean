/-
  PushGlobal, walked: records for all, records for the next one alone.
-/
import Derived.Test.YtpbpfngichfgeaaGreatDoorGlobR
import Derived.Test.YtpbpfngichfgeaaGreatDoorEndsW
namespace Go.Proofs.YtpbpfngichfgeaaGreatDoor
set_option linter.unusedVariables false
set_option linter.unusedSectionVars false
set_option linter.unusedSimpArgs false
set_option linter.unnecessarySimpa false
open Go Go.RowKit Go.Proofs.YtpbpfngichfgeaaGreatDoorW.PrintWords Go.Proofs.YtpbpfngichfgeaaGreatDoorW.PrintLast Go.Proofs.YtpbpfngichfgeaaGreatDoorW.PrintMore

theorem tl_nil {s : ByteArray} (h : s.toList = []) : s = ⟨#[]⟩ := str_of (by rw [h]; simp)
end Go.Proofs.YtpbpfngichfgeaaGreatDoor
