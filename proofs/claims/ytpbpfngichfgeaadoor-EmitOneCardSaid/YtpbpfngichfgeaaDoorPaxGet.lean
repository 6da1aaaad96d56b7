/-
  pax.Get by a contract: the value of the last record that has the key.
-/
import Derived.Test.YtpbpfngichfgeaaDoorProg
import Derived.Test.YtpbpfngichfgeaaDoorUtil
import Derived.Outline
namespace Go.Proofs.YtpbpfngichfgeaaDoor
open Go.RowKit

abbrev Rec := ByteArray × ByteArray
/-- The records of a slice: each is two cells. -/
def Recs (w : World) (A : Option Addr) (l : List Rec) : Prop :=
  l = [] ∨ ∃ b off, A = some ⟨b, off, none⟩ ∧ b < w.heap.size ∧ ∀ i, i < l.length → w.cell? ⟨b, off + i * 2, none⟩ = some (.string (l.getD i default).1) ∧ w.cell? ⟨b, off + i * 2 + 1, none⟩ = some (.string (l.getD i default).2)
theorem Recs.below {w w' : World} {A : Option Addr} {l : List Rec} (h : Recs w A l) (hb : Below w.heap.size w w') : Recs w' A l := by
  rcases h with h | ⟨b, off, rfl, hlt, hc⟩
  · exact .inl h
  · exact .inr ⟨b, off, rfl, Nat.lt_of_lt_of_le hlt hb.size, fun i hi => ⟨(hb.cell (p := ⟨b, _, none⟩) hlt).trans (hc i hi).1, (hb.cell (p := ⟨b, _, none⟩) hlt).trans (hc i hi).2⟩⟩

def getUpto (l : List Rec) (key : ByteArray) : Nat → Option ByteArray
  | 0 => none
  | i + 1 => if (l.getD i default).1 = key then some (l.getD i default).2 else getUpto l key i

def GetEnd (r : Option ByteArray) (w : World) (e : Ending) (w' : World) : Prop := e = .returned (.tuple #[.string (r.getD ⟨#[]⟩), .bool r.isSome]) ∧ w = w'

end Go.Proofs.YtpbpfngichfgeaaDoor
