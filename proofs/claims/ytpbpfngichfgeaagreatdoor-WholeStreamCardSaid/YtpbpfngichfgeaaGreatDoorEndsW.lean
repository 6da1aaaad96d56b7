/-
  PushEnds, walked: the archive of a beginning is a beginning of the archive.
-/
import Derived.Test.YtpbpfngichfgeaaGreatDoorFedX
namespace Go.Proofs.YtpbpfngichfgeaaGreatDoor
set_option linter.unusedVariables false
set_option linter.unusedSectionVars false
set_option linter.unusedSimpArgs false
set_option linter.unnecessarySimpa false
open Go Go.RowKit Go.Proofs.YtpbpfngichfgeaaGreatDoorW.PrintWords Go.Proofs.YtpbpfngichfgeaaGreatDoorW.PrintLast Go.Proofs.YtpbpfngichfgeaaGreatDoorW.PrintMore
attribute [local go_sem high] Go.Proofs.YtpbpfngichfgeaaGreatDoor.PFed.eqA41 Go.Proofs.YtpbpfngichfgeaaGreatDoor.PFed.eqA57

def Yes (w : World) (e : Ending) (w' : World) : Prop := e = .returned (.bool true) ∧ Below w.heap.size w w'
theorem et_below {w w1 : World} (he : EnvE w) (hb : Below w.heap.size w w1) (hg : w.cell? ⟨0, 0, none⟩ = some etype) : w1.cell? ⟨0, 0, none⟩ = some etype :=
  cell_below hb (by show 0 < _; exact Nat.lt_of_lt_of_le (by decide) (ng_of_env he)) hg
end Go.Proofs.YtpbpfngichfgeaaGreatDoor
