/-
  What the printed texts of EntryMakes ask: the contract of pannierref07.Number (and, later, of entry.Make and makes).
-/
import Derived.Test.YthmleoceakonjaaDoorPEntMx0
import Derived.Test.YthmleoceakonjaaDoorMade
import Derived.Test.YthmleoceakonjaaDoorRefNum
namespace Go.Proofs.YthmleoceakonjaaDoor.PEntM
set_option linter.unusedVariables false
set_option linter.unusedSimpArgs false
open Go.RowKit Go.Proofs.YthmleoceakonjaaDoor Go.Proofs.YthmleoceakonjaaDoorW.PrintWords Go.Proofs.YthmleoceakonjaaDoorW.PrintLast Go.Proofs.YthmleoceakonjaaDoorW.PrintMore

def pannierref07_Number.f (a0 : ByteArray) : Option (Int × Bool) := if a0.size ≤ 281474976710656 then some (refNum a0.data.toList) else none
theorem pannierref07_Number.calls (a0 : ByteArray) (r1 : Int) (r2 : Bool) (w : World) (h : pannierref07_Number.f a0 = some (r1, r2)) :
    Calls Tryd.prog 23 #[.string a0] w fun e w' => e = .returned (.tuple #[.int .i64 r1, .bool r2]) ∧ Below w.heap.size w w' := by
  unfold pannierref07_Number.f at h
  split at h
  · have h2 := Option.some.inj h
    refine (refNumber_any a0 (by assumption) w).mono fun e w' ⟨a, b⟩ => ⟨?_, by subst b; exact Below.refl _ _⟩
    rw [h2] at a
    exact a
  · cases h
end Go.Proofs.YthmleoceakonjaaDoor.PEntM
