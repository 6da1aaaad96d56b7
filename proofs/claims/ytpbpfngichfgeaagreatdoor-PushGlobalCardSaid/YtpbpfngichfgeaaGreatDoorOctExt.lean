/-
  strings.Contains at a byte 0, as the printed texts ask it.
-/
import Derived.Test.YtpbpfngichfgeaaGreatDoorPOctx0
import Derived.Test.YtpbpfngichfgeaaGreatDoorEnv
namespace Go.Proofs.YtpbpfngichfgeaaGreatDoor
/-- Is there a byte 0 in a text? -/
def has0 (s : ByteArray) : Bool := decide (0 ≤ Lib.indexByte s.data.toList 0)
end Go.Proofs.YtpbpfngichfgeaaGreatDoor
namespace Go.Proofs.YtpbpfngichfgeaaGreatDoor.POct
set_option linter.unusedVariables false
open Go.RowKit Go.Proofs.YtpbpfngichfgeaaGreatDoor

def strings_Contains.f (a0 a1 : ByteArray) : Option Bool := if a1 = ⟨#[0]⟩ then some (has0 a0) else none
theorem strings_Contains.calls (a0 a1 : ByteArray) (r : Bool) (w : World) (h : strings_Contains.f a0 a1 = some r) :
    Calls Tryz.prog 58 #[.string a0, .string a1] w fun e w' => e = .returned (.bool r) ∧ Below w.heap.size w w' := by
  unfold strings_Contains.f at h
  split at h
  · rename_i he
    subst he
    have h2 := Option.some.inj h
    subst h2
    exact (Tryz.strings_Contains_one a0 0 w).mono fun e w' ⟨a, b⟩ => ⟨a, by subst b; exact Below.refl _ _⟩
  · cases h
end Go.Proofs.YtpbpfngichfgeaaGreatDoor.POct
