/-
 pax.Encode, walked: records as bytes.
-/
import Derived.Test.YtpbpfngichfgeaaGreatDoorPaxOne
import Derived.Laws.Rows
import Derived.RegionTactic
import Derived.Test.YtpbpfngichfgeaaGreatDoorBuild
import Derived.Deep.RegionHeld3
import Derived.Deep.LoopGhost
import Derived.Lib.ConvBytes
import Derived.Outline
namespace Go.Proofs.YtpbpfngichfgeaaGreatDoor
set_option linter.unusedVariables false
set_option linter.unusedSimpArgs false
open Go.RowKit Go.Sort

def recT (k v : ByteArray) : ByteArray := itoaS (lenOf k v) ++ ⟨#[32]⟩ ++ k ++ ⟨#[61]⟩ ++ v ++ ⟨#[10]⟩
def encL (l : List Rec) : List UInt8 := (l.map fun r => (recT r.1 r.2).data.toList).flatten
/-- The cells of a list of records. -/
def RecC (w : World) (A : Option Addr) (l : List Rec) : Prop :=
 ∀ i, i < l.length → ∃ b off, A = some ⟨b, off, none⟩ ∧ b < w.heap.size ∧ w.cell? ⟨b, off + i * 2, none⟩ = some (.string (l.getD i default).1) ∧ w.cell? ⟨b, off + i * 2 + 1, none⟩ = some (.string (l.getD i default).2)
/-- The first error of a list of records. -/
def chkL : List Rec → Int
 | [] => 0
 | r :: l => if chkOf r.1 r.2 = 0 then chkL l else chkOf r.1 r.2
def encOf (l : List Rec) : List UInt8 × Int := if 64 < l.length then ([], 2) else if chkL l = 0 then (encL l, 0) else ([], chkL l)

/-- A slice of bytes of the call's own making, to be read. -/
def BytesAt (w w' : World) (v : Value) (l : List UInt8) : Prop :=
 ∃ A c, v = .slice A l.length c ∧ l.length ≤ c ∧ (l = [] ∨ ∃ g cs t fr, A = some ⟨g, 0, none⟩ ∧ w.heap.size ≤ g ∧ w'.heap[g]? = some (.cells cs t fr) ∧ ∀ j, j < l.length → cs[j]? = some (.int .u8 ((l.getD j 0).toNat : Nat)))
def EncEnd (l : List Rec) (w : World) (e : Ending) (w' : World) : Prop :=
 ∃ v, e = .returned (.tuple #[v, .int .i64 (encOf l).2]) ∧ BytesAt w w' v (encOf l).1 ∧ Below w.heap.size w w'
end Go.Proofs.YtpbpfngichfgeaaGreatDoor
