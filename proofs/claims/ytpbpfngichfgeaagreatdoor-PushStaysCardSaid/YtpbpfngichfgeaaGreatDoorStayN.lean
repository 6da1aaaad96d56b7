/-
  PushStays: At; Code and Place of what End says, whatever it is.
-/
import Derived.Test.YtpbpfngichfgeaaGreatDoorPushN
import Derived.Test.YtpbpfngichfgeaaGreatDoorFaults
namespace Go.Proofs.YtpbpfngichfgeaaGreatDoor
set_option linter.unusedVariables false
set_option linter.unusedSimpArgs false
open Go Go.RowKit Go.Proofs.YtpbpfngichfgeaaGreatDoorW.PrintWords Go.Proofs.YtpbpfngichfgeaaGreatDoorW.PrintLast Go.Proofs.YtpbpfngichfgeaaGreatDoorW.PrintMore
open Go.Extern.Stop Go.Stop Go.Extern
section
variable (w0 : World) (F0 : Nat → Prop) (w : World) (g : Nat) (s : PSt) (vb vt vg vl vo : Value) (h : PSx w0 F0 w g s vb vt vg vl vo)
include h
set_option maxHeartbeats 2000000 in
set_option maxRecDepth 100000 in
theorem sat_any : Calls Tryz.prog 18 #[.pointer (some ⟨g, 0, none⟩)] w fun e w' => e = .returned (.int .i64 s.at_) ∧ w' = w := by
  have k2 : w.cell? ⟨g, 2, none⟩ = some (.int .i64 s.at_) := h.blk.cell 2
  clear h
  go_enter Tryz.func18, Tryz.ntmps18
  go_wp2
  go_ret
  exact ⟨rfl, rfl⟩
end
theorem sas_nil (t : Value) (w : World) :
    Calls Tryz.prog 31 #[.nilIface, t] w fun e w' => e = .returned (.bool false) ∧ w = w' := by
  go_enter Tryz.func31, Tryz.ntmps31
  go_wp2
  go_ret
  exact ⟨rfl, rfl⟩
theorem scode_nil (w : World) : Calls Tryz.prog 13 #[.nilIface] w fun e w' => e = .returned (.int .i64 0) ∧ Below w.heap.size w w' := by
  go_enter Tryz.func13, Tryz.ntmps13
  go_wp2_with (go_at_call 31; refine (sas_nil _ _).mono ?_; rintro e w1 ⟨rfl, rfl⟩)
  go_ret
  exact ⟨rfl, (Below.refl _ _).alloc (Nat.le_refl _) _⟩
theorem splace_nil (w : World) : Calls Tryz.prog 24 #[.nilIface] w fun e w' => e = .returned (.int .i64 (-1)) ∧ Below w.heap.size w w' := by
  go_enter Tryz.func24, Tryz.ntmps24
  go_wp2_with (go_at_call 31; refine (sas_nil _ _).mono ?_; rintro e w1 ⟨rfl, rfl⟩)
  go_ret
  exact ⟨rfl, (Below.refl _ _).alloc (Nat.le_refl _) _⟩
/-- The number, the place, of what End says. -/
def cdOf : Option (Int × Int) → Int
  | none => 0
  | some (c, _) => c
def plOf : Option (Int × Int) → Int
  | none => -1
  | some (_, a) => a
theorem code_end (o : Option (Int × Int)) (w : World) (hg : w.cell? ⟨0, 0, none⟩ = some etype) : Calls Tryz.prog 13 #[errV o] w fun e w' => e = .returned (.int .i64 (cdOf o)) ∧ Below w.heap.size w w' := by
  rcases o with _ | ⟨c, a⟩
  · exact scode_nil w
  · exact code_any c [a] _ _ (.wrap a [] _ _ .leaf) w hg
theorem place_end (o : Option (Int × Int)) (w : World) (hg : w.cell? ⟨0, 0, none⟩ = some etype) : Calls Tryz.prog 24 #[errV o] w fun e w' => e = .returned (.int .i64 (plOf o)) ∧ Below w.heap.size w w' := by
  rcases o with _ | ⟨c, a⟩
  · exact splace_nil w
  · exact place_any a _ _ w hg
end Go.Proofs.YtpbpfngichfgeaaGreatDoor
