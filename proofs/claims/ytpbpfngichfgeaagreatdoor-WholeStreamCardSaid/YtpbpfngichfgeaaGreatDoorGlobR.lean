/-
  Several texts in one: YtpbpfngichfgeaaGreatDoorPaxP1, YtpbpfngichfgeaaGreatDoorGlobP.
-/
import Derived.Test.YtpbpfngichfgeaaGreatDoorPaxes
import Derived.Test.YtpbpfngichfgeaaGreatDoorFedA
import Derived.Test.YtpbpfngichfgeaaGreatDoorPushEL
namespace Go.Proofs.YtpbpfngichfgeaaGreatDoor
set_option linter.unusedVariables false
set_option linter.unusedSimpArgs false

end Go.Proofs.YtpbpfngichfgeaaGreatDoor

namespace Go.Proofs.YtpbpfngichfgeaaGreatDoor
set_option linter.unusedVariables false
set_option linter.unusedSimpArgs false
open Go Go.RowKit Go.Proofs.YtpbpfngichfgeaaGreatDoorW.PrintWords Go.Proofs.YtpbpfngichfgeaaGreatDoorW.PrintLast Go.Proofs.YtpbpfngichfgeaaGreatDoorW.PrintMore

abbrev uname : ByteArray := ⟨#[117, 110, 97, 109, 101]⟩
def gBody (v : ByteArray) : List Int := (recT uname v).data.toList.map fun b => (b.toNat : Int)
/-- The entries that PushGlobal's headers say. -/
def dirEn (user : ByteArray) : En := ⟨⟨#[97]⟩, ⟨#[]⟩, 4, 0, 0, 0, 0, 0, user, ⟨#[]⟩⟩
/-- A record of all, or of the next one alone, as it is written. -/
def gRec (typ : Int) (v : ByteArray) : List Int := hdrL ⟨#[112]⟩ ⟨#[]⟩ ⟨#[]⟩ ⟨#[]⟩ ⟨#[]⟩ typ 0 0 0 (gBody v).length 0 ++ (gBody v ++ List.replicate ((512 - (gBody v).length % 512) % 512) 0)
def dHdr : List Int := hdrL ⟨#[97]⟩ ⟨#[]⟩ ⟨#[]⟩ ⟨#[117]⟩ ⟨#[]⟩ 53 0 0 0 0 0
def dHdrs : Nat → List Int
  | 0 => []
  | n + 1 => dHdr ++ dHdrs n
end Go.Proofs.YtpbpfngichfgeaaGreatDoor
