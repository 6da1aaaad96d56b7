/-
  strings.Contains at a byte 0, as the printed texts ask it.
-/
import Derived.Test.YtpbpfngichfgeaaDoorPOctx0
import Derived.Test.YtpbpfngichfgeaaDoorEnv
namespace Go.Proofs.YtpbpfngichfgeaaDoor
/-- Is there a byte 0 in a text? -/
def has0 (s : ByteArray) : Bool := decide (0 ≤ Lib.indexByte s.data.toList 0)
end Go.Proofs.YtpbpfngichfgeaaDoor
namespace Go.Proofs.YtpbpfngichfgeaaDoor.POct
set_option linter.unusedVariables false
open Go.RowKit Go.Proofs.YtpbpfngichfgeaaDoor

def strings_Contains.f (a0 a1 : ByteArray) : Option Bool := if a1 = ⟨#[0]⟩ then some (has0 a0) else none
theorem strings_Contains.calls (a0 a1 : ByteArray) (r : Bool) (w : World) (h : strings_Contains.f a0 a1 = some r) :
    Calls Tryd.prog 22 #[.string a0, .string a1] w fun e w' => e = .returned (.bool r) ∧ Below w.heap.size w w' := by
  unfold strings_Contains.f at h
  split at h
  · rename_i he
    subst he
    have h2 := Option.some.inj h
    subst h2
    exact (Tryd.strings_Contains_one a0 0 w).mono fun e w' ⟨a, b⟩ => ⟨a, by subst b; exact Below.refl _ _⟩
  · cases h
end Go.Proofs.YtpbpfngichfgeaaDoor.POct
