/-
  push.New, the parser's methods At and End, walked; a Feed behind a Feed.
-/
import Derived.Test.YtpbpfngichfgeaaGreatDoorPushF
namespace Go.Proofs.YtpbpfngichfgeaaGreatDoor
set_option linter.unusedVariables false
set_option linter.unusedSimpArgs false
open Go Go.RowKit Go.Proofs.YtpbpfngichfgeaaGreatDoorW.PrintWords Go.Proofs.YtpbpfngichfgeaaGreatDoorW.PrintLast Go.Proofs.YtpbpfngichfgeaaGreatDoorW.PrintMore

/-- A new parser: its block. -/
abbrev newCells : Array Value := #[.int .i64 0, .slice none 0 0, .int .i64 0, .int .i64 0, .bool false, .int .i64 0, .slice none 0 0, .slice none 0 0, .slice none 0 0, .string ⟨#[]⟩, .string ⟨#[]⟩, .int .i64 0, .int .i64 0, .nilIface, .bool false, .slice none 0 0]
set_option maxHeartbeats 2000000 in
set_option maxRecDepth 100000 in
theorem new_any (w : World) : Calls Tryz.prog 12 #[] w fun e w' => e = .returned (.pointer (some ⟨w.heap.size, 0, none⟩)) ∧ w' = w.alloc (.cells newCells 77) := by
  go_enter Tryz.func12, Tryz.ntmps12
  go_wp2
  go_ret
  exact ⟨rfl, rfl⟩
theorem wfs0 : WFs ps0 := by
  constructor <;> first | (simp [ps0]; done) | decide
theorem wfm0 : WFm ps0 := by
  constructor <;> simp [ps0]
theorem PSx.new (w : World) : PSx (w.alloc (.cells newCells 77)) (fun k => k = w.heap.size) (w.alloc (.cells newCells 77)) w.heap.size ps0 (.slice none 0 0) (.slice none 0 0) (.slice none 0 0) (.slice none 0 0) (.slice none 0 0) :=
  ⟨Frm.refl _ _, (Blk.new w 77 newCells).lt, rfl, Blk.new w _ newCells, ⟨Kd.R_nil _ _ _ _ _, Kd.R_nil _ _ _ _ _, Kd.R_nil _ _ _ _ _, Kd.R_nil _ _ _ _ _, Kd.R_nil _ _ _ _ _⟩⟩
/-- The blocks of the parser. -/
def Own (g : Nat) (vb vt vg vl : Value) (k : Nat) : Prop := k = g ∨ some k = vb.ownBlock ∨ some k = vt.ownBlock ∨ some k = vg.ownBlock ∨ some k = vl.ownBlock
section
variable (w0 : World) (F0 : Nat → Prop) (w : World) (g : Nat) (s : PSt) (vb vt vg vl vo : Value) (h : PSx w0 F0 w g s vb vt vg vl vo)
include h
set_option maxHeartbeats 4000000 in
set_option maxRecDepth 100000 in
theorem end_any : Calls Tryz.prog 14 #[.pointer (some ⟨g, 0, none⟩)] w fun e w' => e = .returned (errV s.endE) ∧ w' = w := by
  have k2 : w.cell? ⟨g, 2, none⟩ = some (.int .i64 s.at_) := h.blk.cell 2
  have k13 : w.cell? ⟨g, 13, none⟩ = some (errV s.err) := h.blk.cell 13
  have k14 : w.cell? ⟨g, 14, none⟩ = some (.bool s.done) := h.blk.cell 14
  clear h
  unfold PSt.endE
  rcases he : s.err with _ | ⟨ec, ep⟩
  · rw [he] at k13
    cases hd : s.done with
    | true =>
      rw [hd] at k14
      go_enter Tryz.func14, Tryz.ntmps14
      go_wp2
      go_ret
      exact ⟨rfl, rfl⟩
    | false =>
      rw [hd] at k14
      go_enter Tryz.func14, Tryz.ntmps14
      go_wp2_with ((go_at_call 32; (with_reducible refine (fnew_any _ _ _ (by decide)).mono ?_); rintro e w1 ⟨rfl, rfl⟩))
      go_ret
      exact ⟨rfl, rfl⟩
  · rw [he] at k13
    go_enter Tryz.func14, Tryz.ntmps14
    go_wp2
    go_ret
    exact ⟨rfl, rfl⟩
end
end Go.Proofs.YtpbpfngichfgeaaGreatDoor
