/-
  A row of numbers that came in, opened.
-/
import Derived.Test.YtpbpfngichfgeaaGreatDoorLaidP
import Derived.Test.YtpbpfngichfgeaaGreatDoorWords
namespace Go.Proofs.YtpbpfngichfgeaaGreatDoor
open Go.ChangeShapes Go.WideShapes Go.ChangeAt Go.RowKit Go.Proofs.YtpbpfngichfgeaaGreatDoorW.PrintWords
section
variable {H : Type} {enc : TypeId × Value → H} {W : World} {base : Nat} {spare : Nat → Bool} {held : Bool}
set_option maxRecDepth 100000 in
theorem open_row {r : Reach} {b0 : Nat} (t e : TypeId) (k : IntKind) (ht : Tryz.prog.underlying t = some (.slice e)) (he : Tryz.prog.underlying e = some (.int k)) (hc : Tryz.prog.cellsOf e = 1) {v : Value} {d : DataW H} {p : List MemPlace}
    (hv : Value.okWide Tryz.prog W r b0 t v) (h : DataW.Trod enc Tryz.prog W base spare held t v d p) : ∃ A zs c, v = .slice A zs.length c ∧ zs.length ≤ c ∧ Kd.C (Kd.int k) W A zs.length zs ∧ ∀ x ∈ zs, (Lit.int k x).wf = true := by
  obtain ⟨A1, len1, cap1, rfl⟩ := okWide_slice ht hv
  obtain ⟨fuel, hf⟩ := h
  rcases open_ints ht he hc hf with ⟨hcs, _⟩ | ⟨a, len', cap', zs, hcs, _, hl, hm, hz, _, hcell, hwf⟩
  · simp [Value.cells] at hcs
    obtain ⟨rfl, rfl, rfl⟩ := hcs
    exact ⟨none, [], 0, rfl, by simp, ⟨rfl, by simp, fun h => by simp at h⟩, fun x hx => by simp at hx⟩
  · simp [Value.cells] at hcs
    obtain ⟨rfl, rfl, rfl⟩ := hcs
    have hzl : len1 ≤ zs.length := by rw [hz]; split <;> omega
    have hlen : (zs.take len1).length = len1 := by rw [List.length_take]; omega
    refine ⟨some a, zs.take len1, cap1, by rw [hlen], by rw [hlen]; exact hl, ⟨rfl, by rw [hlen]; unfold maxLen at hm; omega, fun _ => ⟨a, rfl, fun j p hp => ⟨[.int k p], rfl, rfl, ?_⟩⟩⟩, fun x hx => hwf x (List.mem_of_mem_take hx)⟩
    intro i u hu
    obtain ⟨hi, hu2⟩ := List.getElem?_eq_some_iff.1 hu
    have hi0 : i = 0 := by simpa using hi
    subst hi0
    have hu3 : u = .int k p := by simpa using hu2.symm
    subst hu3
    obtain ⟨hj, hp2⟩ := List.getElem?_eq_some_iff.1 hp
    rw [hlen] at hj
    have := hcell j (by omega)
    rw [List.getElem_take] at hp2
    rw [List.getD_eq_getElem?_getD, List.getElem?_eq_getElem (by omega)] at this
    simp only [Option.getD_some, hp2] at this
    have ej : j * (Kd.int k).sz + 0 = j := by show j * 1 + 0 = j; omega
    rw [ej]
    exact this
end
theorem cells_u8 : Tryz.prog.cellsOf 5 = 1 := by kernel_rfl
end Go.Proofs.YtpbpfngichfgeaaGreatDoor
