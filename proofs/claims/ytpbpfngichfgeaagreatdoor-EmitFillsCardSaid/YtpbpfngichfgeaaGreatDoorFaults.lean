/-
  Several texts in one: YtpbpfngichfgeaaGreatDoorFaultAs, YtpbpfngichfgeaaGreatDoorFaultAs2, YtpbpfngichfgeaaGreatDoorFaultAs3, YtpbpfngichfgeaaGreatDoorFaultAs4, YtpbpfngichfgeaaGreatDoorFaultCP.
-/
import Derived.Test.YtpbpfngichfgeaaGreatDoorProg
import Derived.WalkKit
import Derived.LaidEql
import Derived.Stop.Asserts
import Derived.RowKitTokens
import Derived.Lib.Hide
namespace Go.Proofs.YtpbpfngichfgeaaGreatDoor
open Go.RowKit Go.Extern.Stop Go.Stop Go.Extern

/-- The value of an error: places outermost first, then the number. -/
inductive Chain (code : Int) : List Int → Value → Prop
  | leaf : Chain code [] (.iface 27 (.int .i64 code))
  | wrap (p : Int) (ps : List Int) (u : TypeId) (x : Value) : Chain code ps (.iface u x) → Chain code (p :: ps) (.iface 105 (.agg #[.int .i64 p, .iface u x]))
theorem Chain.shape {code : Int} {ps : List Int} {E : Value} (h : Chain code ps E) : ∃ u x, E = .iface u x := by cases h <;> exact ⟨_, _, rfl⟩

def etype : Value := .iface 169 (.agg #[.pointer (some ⟨7, 30, none⟩)])

/-- errors.As(nil, target). -/
theorem as_nil (t : Value) (w : World) :
    Calls Tryz.prog 31 #[.nilIface, t] w fun e w' => e = .returned (.bool false) ∧ w = w' := by
  go_enter Tryz.func31, Tryz.ntmps31
  go_wp2
  go_ret
  exact ⟨rfl, rfl⟩

/-! ### closed facts on the entries for internal/reflectlite: pE the pointer type, E the element type -/
-- the pointers' Values
end Go.Proofs.YtpbpfngichfgeaaGreatDoor

namespace Go.Proofs.YtpbpfngichfgeaaGreatDoor
open Go.RowKit Go.Extern.Stop Go.Stop Go.Extern

theorem cell_lt {W : World} {a : Addr} {v : Value} (h : W.cell? a = some v) : a.block < W.heap.size := by
  rcases Nat.lt_or_ge a.block W.heap.size with hl | hl
  · exact hl
  · simp [World.cell?, Array.getElem?_eq_none hl] at h

def V42 (a : Addr) : Value := .agg #[.pointer (some ⟨7, 79, none⟩), .pointer (some a), .int .u64 150]
def Hit (W : World) (ta : Addr) (code : Int) (e : Ending) (w' : World) : Prop := e = .returned (.bool true) ∧ ∃ W2, Below W.heap.size W W2 ∧ w' = W2.setCell ta (.int .i64 code)

end Go.Proofs.YtpbpfngichfgeaaGreatDoor

namespace Go.Proofs.YtpbpfngichfgeaaGreatDoor
open Go.RowKit Go.Extern.Stop Go.Stop Go.Extern

def Hit39 (W : World) (t : Nat) (p : Int) (u : TypeId) (x : Value) (e : Ending) (w' : World) : Prop :=
  e = .returned (.bool true) ∧ ∃ W2, Below W.heap.size W W2 ∧ w' = (W2.setCell ⟨t, 0, none⟩ (.int .i64 p)).setCell ⟨t, 1, none⟩ (.iface u x)

def Miss (W : World) (e : Ending) (w' : World) : Prop := e = .returned (.bool false) ∧ Below W.heap.size W w'
/-! ### errors.As itself -/
theorem cell_old {w : World} {o : Obj} {a : Addr} {v : Value} (h : w.cell? a = some v) : (w.alloc o).cell? a = some v := by
  rw [World.cell?_alloc_lt _ _ a (cell_lt h)]; exact h
end Go.Proofs.YtpbpfngichfgeaaGreatDoor

namespace Go.Proofs.YtpbpfngichfgeaaGreatDoor
open Go.RowKit Go.Extern.Stop Go.Stop Go.Extern

end Go.Proofs.YtpbpfngichfgeaaGreatDoor

namespace Go.Proofs.YtpbpfngichfgeaaGreatDoor
open Go.RowKit Go.Extern.Stop Go.Stop Go.Extern

theorem code_nil (w : World) : Calls Tryz.prog 13 #[.nilIface] w fun e w' => e = .returned (.int .i64 0) ∧ Below w.heap.size w w' := by
  go_enter Tryz.func13, Tryz.ntmps13
  go_wp2_with (go_at_call 31; refine (as_nil _ _).mono ?_; rintro e w1 ⟨rfl, rfl⟩)
  go_ret
  exact ⟨rfl, (Below.refl _ _).alloc (Nat.le_refl _) _⟩
def CodeEnd (w : World) (code : Int) (e : Ending) (w' : World) : Prop := e = .returned (.int .i64 code) ∧ Below w.heap.size w w'

end Go.Proofs.YtpbpfngichfgeaaGreatDoor
