/-
  strings.IndexByte by a contract, in the form in which the printed texts ask for it.
-/
import Derived.Test.YtbkhhmgpfjemcaaDoorPAskAx0
import Derived.Test.YtbkhhmgpfjemcaaDoorAskW
namespace Go.Proofs.YtbkhhmgpfjemcaaDoor.PAskA
set_option linter.unusedVariables false
open Go.RowKit Go.Proofs.YtbkhhmgpfjemcaaDoor

def strings_IndexByte.f (a0 : ByteArray) (a1 : Int) : Option Int := some (Lib.indexByte a0.data.toList a1.toNat.toUInt8)
theorem strings_IndexByte.calls (a0 : ByteArray) (a1 : Int) (r : Int) (w : World) (h : strings_IndexByte.f a0 a1 = some r) :
    Calls Tryd.prog 32 #[.string a0, .int .u8 a1] w fun e w' => e = .returned (.int .i64 r) ∧ Below w.heap.size w w' := by
  cases h
  exact (Tryd.strings_IndexByte a0 a1 w).mono fun e w' ⟨a, b⟩ => ⟨a, by rw [b]; exact Below.refl _ _⟩
end Go.Proofs.YtbkhhmgpfjemcaaDoor.PAskA
