/-
  One word for what package fault asks of a world and leaves: nothing that stood has turned, and errors' own variable is there. The contracts once more, in that word.
-/
import Derived.Test.YtnhffkdabdilpaaDoorFaultFns
import Derived.Deep.Draws
namespace Go.Proofs.YtnhffkdabdilpaaDoor
open Go.RowKit Go.Extern.Stop Go.Stop Go.Extern

structure Inv (W w : World) : Prop where
  below : Below W.heap.size W w
  et : w.cell? ⟨0, 0, none⟩ = some etype
theorem Inv.next {W w w' : World} (h : Inv W w) (hb : Below w.heap.size w w') : Inv W w' :=
  ⟨h.below.trans (hb.mono h.below.size), (hb.cell (cell_lt h.et)).trans h.et⟩
theorem Inv.drew {W w : World} (h : Inv W w) : Inv W w.drew := ⟨h.below.drew, h.et⟩
theorem Inv.drewN {W w : World} (h : Inv W w) (n : Nat) : Inv W (w.drewN n) := ⟨⟨h.below.os, h.below.tape, h.below.output, h.below.size, h.below.block⟩, h.et⟩
theorem Inv.alloc {W w : World} (h : Inv W w) (o : Obj) : Inv W (w.alloc o) := h.next ((Below.refl _ _).alloc (Nat.le_refl _) _)

section
variable {W w : World}
theorem Inv.code_nil (h : Inv W w) : Calls Tryd.prog 12 #[.nilIface] w fun e w' => e = .returned (.int .i64 0) ∧ Inv W w' := (Proofs.YtnhffkdabdilpaaDoor.code_nil w).mono fun _ _ ⟨a, b⟩ => ⟨a, h.next b⟩
theorem Inv.place_nil (h : Inv W w) : Calls Tryd.prog 13 #[.nilIface] w fun e w' => e = .returned (.int .i64 (-1)) ∧ Inv W w' := (Proofs.YtnhffkdabdilpaaDoor.place_nil w).mono fun _ _ ⟨a, b⟩ => ⟨a, h.next b⟩
theorem Inv.depth_nil (h : Inv W w) : Calls Tryd.prog 14 #[.nilIface] w fun e w' => e = .returned (.int .i64 0) ∧ Inv W w' := (Proofs.YtnhffkdabdilpaaDoor.depth_nil w).mono fun _ _ ⟨a, b⟩ => ⟨a, h.next b⟩
theorem Inv.code (h : Inv W w) {code : Int} {ps : List Int} {u : TypeId} {x : Value} (hE : Chain code ps (.iface u x)) : Calls Tryd.prog 12 #[.iface u x] w fun e w' => e = .returned (.int .i64 code) ∧ Inv W w' := (code_any code ps u x hE w h.et).mono fun _ _ ⟨a, b⟩ => ⟨a, h.next b⟩
theorem Inv.place (h : Inv W w) {code p : Int} {ps : List Int} {u : TypeId} {x : Value} (hE : Chain code (p :: ps) (.iface u x)) : Calls Tryd.prog 13 #[.iface u x] w fun e w' => e = .returned (.int .i64 p) ∧ Inv W w' := by
  cases hE with
  | wrap _ _ u x hx => exact (place_any p u x w h.et).mono fun _ _ ⟨a, b⟩ => ⟨a, h.next b⟩
theorem Inv.place_leaf (h : Inv W w) {code : Int} : Calls Tryd.prog 13 #[.iface 24 (.int .i64 code)] w fun e w' => e = .returned (.int .i64 (-1)) ∧ Inv W w' := (place_none code w h.et).mono fun _ _ ⟨a, b⟩ => ⟨a, h.next b⟩
theorem Inv.depth (h : Inv W w) {code : Int} {ps : List Int} {u : TypeId} {x : Value} (hE : Chain code ps (.iface u x)) (hl : ps.length ≤ 1000000) : Calls Tryd.prog 14 #[.iface u x] w fun e w' => e = .returned (.int .i64 ps.length) ∧ Inv W w' := (depth_any code ps u x hE hl w).mono fun _ _ ⟨a, b⟩ => ⟨a, h.next b⟩
theorem Inv.is_zero (h : Inv W w) (E : Value) : Calls Tryd.prog 15 #[E, .int .i64 0] w fun e w' => e = .returned (.bool false) ∧ Inv W w' := (isf_zero E w).mono fun _ _ ⟨a, b⟩ => ⟨a, h.next b⟩
theorem Inv.is_nil (h : Inv W w) (c : Int) : Calls Tryd.prog 15 #[.nilIface, .int .i64 c] w fun e w' => e = .returned (.bool false) ∧ Inv W w' := by
  by_cases hc : c = 0
  · subst hc; exact h.is_zero _
  · exact (isf_nil c (by simpa using hc) w).mono fun _ _ ⟨a, b⟩ => ⟨a, h.next b⟩
theorem Inv.is (h : Inv W w) {code : Int} (c : Int) {ps : List Int} {u : TypeId} {x : Value} (hE : Chain code ps (.iface u x)) (b : Bool) (hb : (c != 0 && code == c) = b) : Calls Tryd.prog 15 #[.iface u x, .int .i64 c] w fun e w' => e = .returned (.bool b) ∧ Inv W w' := by
  subst hb
  by_cases hc : c = 0
  · subst hc; exact (h.is_zero _).mono fun _ _ ⟨a, b⟩ => ⟨by rw [a]; rfl, b⟩
  · have hc' : (c != 0) = true := by simpa using hc
    exact (isf_any code c ps u x hE hc' w).mono fun _ _ ⟨a, b⟩ => ⟨by rw [a, hc']; rfl, h.next b⟩
end
theorem leaf_ (c : Int) : Chain c [] (.iface 24 (.int .i64 c)) := .leaf
theorem one_ (c p : Int) : Chain c [p] (.iface 39 (.agg #[.int .i64 p, .iface 24 (.int .i64 c)])) := .wrap _ _ _ _ .leaf
theorem two_ (c p q : Int) : Chain c [q, p] (.iface 39 (.agg #[.int .i64 q, .iface 39 (.agg #[.int .i64 p, .iface 24 (.int .i64 c)])])) := .wrap _ _ _ _ (.wrap _ _ _ _ .leaf)

theorem len0 : ([] : List Int).length ≤ 1000000 := by decide
theorem len1 (p : Int) : [p].length ≤ 1000000 := by simp
theorem len2 (p q : Int) : [q, p].length ≤ 1000000 := by simp
/-- tells() -/
theorem tells_any {W w : World} (h : Inv W w) : Calls Tryd.prog 9 #[] w fun e w' => e = .returned (.bool true) ∧ Inv W w' := by
  go_enter Tryd.func9, Tryd.ntmps9
  go_wp2_with (first
    | (go_at_call 10; refine (new_any 50 7 _ (by decide)).mono ?_; rintro e w1 ⟨rfl, rfl⟩)
    | (go_at_call 12; refine ((by assumption : Inv W _).code (one_ 50 7)).mono ?_; rintro e w1 ⟨rfl, hi1⟩)
    | (go_at_call 13; refine ((by assumption : Inv W _).place (one_ 50 7)).mono ?_; rintro e w2 ⟨rfl, hi2⟩)
    | (go_at_call 15; refine ((by assumption : Inv W _).is 50 (one_ 50 7) true (by decide)).mono ?_; rintro e w3 ⟨rfl, hi3⟩)
    | (go_at_call 14; refine ((by assumption : Inv W _).depth (one_ 50 7) (by decide)).mono ?_; rintro e w4 ⟨rfl, hi4⟩))
  go_ret
  exact ⟨rfl, by assumption⟩
end Go.Proofs.YtnhffkdabdilpaaDoor
