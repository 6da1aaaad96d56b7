/-
 The contracts of what push's small functions call, in the form in which the printed texts (wip/print2) ask for them.
-/
import Derived.Test.YtpbpfngichfgeaaGreatDoorPPuax0
import Derived.Test.YtpbpfngichfgeaaGreatDoorSumS
import Derived.Test.YtpbpfngichfgeaaGreatDoorOctB
import Derived.Test.YtpbpfngichfgeaaGreatDoorPaxes
namespace Go.Proofs.YtpbpfngichfgeaaGreatDoor.PPua
set_option linter.unusedVariables false
set_option linter.unusedSimpArgs false
open Go.RowKit Go.Proofs.YtpbpfngichfgeaaGreatDoor Go.Proofs.YtpbpfngichfgeaaGreatDoorW.PrintWords Go.Proofs.YtpbpfngichfgeaaGreatDoorW.PrintLast Go.Proofs.YtpbpfngichfgeaaGreatDoorW.PrintMore

def strings_Cut.f (a0 a1 : ByteArray) : Option (ByteArray × ByteArray × Bool) := if a0.size < 4294967281 then some (⟨(Lib.cut a0.data.toList a1.data.toList).1.toArray⟩, ⟨(Lib.cut a0.data.toList a1.data.toList).2.1.toArray⟩, (Lib.cut a0.data.toList a1.data.toList).2.2) else none
theorem strings_Cut.calls (a0 a1 : ByteArray) (r1 r2 : ByteArray) (r3 : Bool) (w : World) (hE_ : EnvE w) (h : strings_Cut.f a0 a1 = some (r1, r2, r3)) :
  Calls Tryz.prog 66 #[.string a0, .string a1] w fun e w' => e = .returned (.tuple #[.string r1, .string r2, .bool r3]) ∧ Below w.heap.size w w' := by
 unfold strings_Cut.f at h
 split at h
 ·rename_i hs
  have h2 := Option.some.inj h
  simp only [Prod.mk.injEq] at h2
  obtain ⟨rfl, rfl, rfl⟩ := h2
  exact cut_any a0 a1 hs w hE_.env _ _ _ (by simp)
 ·cases h
def pax_one.f (a0 : ByteArray) : Option (ByteArray × ByteArray × ByteArray × Int) := if a0.size < 4294967281 then some (oneOf a0) else none
theorem pax_one.calls (a0 : ByteArray) (r1 : ByteArray) (r2 : ByteArray) (r3 : ByteArray) (r4 : Int) (w : World) (hE_ : EnvE w) (h : pax_one.f a0 = some (r1, r2, r3, r4)) :
  Calls Tryz.prog 97 #[.string a0] w fun e w' => e = .returned (.tuple #[.agg #[.string r1, .string r2], .string r3, .int .i64 r4]) ∧ Below w.heap.size w w' := by
 unfold pax_one.f at h
 split at h
 ·have h2 := Option.some.inj h
  have := one_any cany_any a0 (by assumption) w hE_
  rw [oneW, h2] at this
  exact this
 ·cases h
/-- Are these bytes? -/
def bytesB (l : List Int) : Bool := l.all fun x => decide (0 ≤ x) && decide (x < 256)
theorem bytesB_of {l : List Int} (h : bytesB l = true) : ∀ x ∈ l, 0 ≤ x ∧ x < 256 := by
 intro x hx
 have := List.all_eq_true.1 h x hx
 simpa using this
theorem bytesB_mk {l : List Int} (h : ∀ x ∈ l, 0 ≤ x ∧ x < 256) : bytesB l = true := List.all_eq_true.2 fun x hx => by simpa using h x hx
def sum_Plain.f (l0 : List Int) : Option Int := if bytesB l0 = true ∧ 0 < l0.length ∧ l0.length ≤ 1000000 then some (psum l0 l0.length) else none
theorem sum_Plain.calls (A0 : Option Addr) (c0 : Nat) (l0 : List Int) (r : Int) (w : World) (hr0 : Kd.C (Kd.int .u8) w A0 l0.length l0) (hc0 : l0.length ≤ c0) (h : sum_Plain.f l0 = some r) :
  Calls Tryz.prog 60 #[.slice A0 l0.length c0] w fun e w' => e = .returned (.int .i64 r) ∧ Below w.heap.size w w' := by
 unfold sum_Plain.f at h
 split at h
 ·rename_i hs
  have h2 := Option.some.inj h
  subst h2
  exact (plain_any A0 c0 l0 w hr0 (bytesB_of hs.1) hs.2.1 hs.2.2).mono fun e w' ⟨a, b⟩ => ⟨a, by subst b; exact Below.refl _ _⟩
 ·cases h
def sum_Signed.f (l0 : List Int) : Option Int := if bytesB l0 = true ∧ 0 < l0.length ∧ l0.length ≤ 1000000 then some (ssum l0 l0.length) else none
theorem sum_Signed.calls (A0 : Option Addr) (c0 : Nat) (l0 : List Int) (r : Int) (w : World) (hr0 : Kd.C (Kd.int .u8) w A0 l0.length l0) (hc0 : l0.length ≤ c0) (h : sum_Signed.f l0 = some r) :
  Calls Tryz.prog 107 #[.slice A0 l0.length c0] w fun e w' => e = .returned (.int .i64 r) ∧ Below w.heap.size w w' := by
 unfold sum_Signed.f at h
 split at h
 ·rename_i hs
  have h2 := Option.some.inj h
  subst h2
  exact (signed_any A0 c0 l0 w hr0 (bytesB_of hs.1) hs.2.1 hs.2.2).mono fun e w' ⟨a, b⟩ => ⟨a, by subst b; exact Below.refl _ _⟩
 ·cases h
def octal_binary.f : List Int → Option (Int × Int)
 | [] => none
 | f :: r => if bytesB r = true ∧ 0 < r.length ∧ r.length ≤ 1000000 then some (binT f r) else none
theorem octal_binary.calls (A0 : Option Addr) (c0 : Nat) (l0 : List Int) (r1 : Int) (r2 : Int) (w : World) (hr0 : Kd.C (Kd.int .u8) w A0 l0.length l0) (hc0 : l0.length ≤ c0) (h : octal_binary.f l0 = some (r1, r2)) :
  Calls Tryz.prog 108 #[.slice A0 l0.length c0] w fun e w' => e = .returned (.tuple #[.int .i64 r1, .int .i64 r2]) ∧ Below w.heap.size w w' := by
 cases l0 with
 | nil => cases h
 | cons f r =>
  simp only [octal_binary.f] at h
  by_cases hs : bytesB r = true ∧ 0 < r.length ∧ r.length ≤ 1000000
  ·rw [if_pos hs] at h
   have h2 := Option.some.inj h
   have := binary_any A0 c0 f r w hr0 hs.2.1 hs.2.2 hc0 (bytesB_of hs.1)
   rw [h2] at this
   exact this
  ·rw [if_neg hs] at h; cases h
end Go.Proofs.YtpbpfngichfgeaaGreatDoor.PPua
