/-
  A row of numbers that came in, opened.
-/
import Derived.Test.YtpbpfngichfgeaaGreatDoorLaidP
import Derived.Test.YtpbpfngichfgeaaGreatDoorWords
namespace Go.Proofs.YtpbpfngichfgeaaGreatDoor
open Go.ChangeShapes Go.WideShapes Go.ChangeAt Go.RowKit Go.Proofs.YtpbpfngichfgeaaGreatDoorW.PrintWords
section
variable {H : Type} {enc : TypeId × Value → H} {W : World} {base : Nat} {spare : Nat → Bool} {held : Bool}
end
end Go.Proofs.YtpbpfngichfgeaaGreatDoor
