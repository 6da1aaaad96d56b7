/-
  Several texts in one: YtpbpfngichfgeaaGreatDoorOpenR, YtpbpfngichfgeaaGreatDoorOpenS.
-/
import Derived.Test.YtpbpfngichfgeaaGreatDoorLaidP
import Derived.Test.YtpbpfngichfgeaaGreatDoorWords
import Derived.SliceStrings
import Derived.Deep.Matrix
namespace Go.Proofs.YtpbpfngichfgeaaGreatDoor
open Go.ChangeShapes Go.WideShapes Go.ChangeAt Go.RowKit Go.Proofs.YtpbpfngichfgeaaGreatDoorW.PrintWords
section
variable {H : Type} {enc : TypeId × Value → H} {W : World} {base : Nat} {spare : Nat → Bool} {held : Bool}
set_option maxRecDepth 100000 in
theorem open_row {r : Reach} {b0 : Nat} (t e : TypeId) (k : IntKind) (ht : Tryz.prog.underlying t = some (.slice e)) (he : Tryz.prog.underlying e = some (.int k)) (hc : Tryz.prog.cellsOf e = 1) {v : Value} {d : DataW H} {p : List MemPlace}
    (hv : Value.okWide Tryz.prog W r b0 t v) (h : DataW.Trod enc Tryz.prog W base spare held t v d p) : ∃ A zs c, v = .slice A zs.length c ∧ zs.length ≤ c ∧ Kd.C (Kd.int k) W A zs.length zs ∧ ∀ x ∈ zs, (Lit.int k x).wf = true := by
  obtain ⟨A1, len1, cap1, rfl⟩ := okWide_slice ht hv
  obtain ⟨fuel, hf⟩ := h
  rcases open_ints ht he hc hf with ⟨hcs, _⟩ | ⟨a, len', cap', zs, hcs, _, hl, hm, hz, _, hcell, hwf⟩
  · simp [Value.cells] at hcs
    obtain ⟨rfl, rfl, rfl⟩ := hcs
    exact ⟨none, [], 0, rfl, by simp, ⟨rfl, by simp, fun h => by simp at h⟩, fun x hx => by simp at hx⟩
  · simp [Value.cells] at hcs
    obtain ⟨rfl, rfl, rfl⟩ := hcs
    have hzl : len1 ≤ zs.length := by rw [hz]; split <;> omega
    have hlen : (zs.take len1).length = len1 := by rw [List.length_take]; omega
    refine ⟨some a, zs.take len1, cap1, by rw [hlen], by rw [hlen]; exact hl, ⟨rfl, by rw [hlen]; unfold maxLen at hm; omega, fun _ => ⟨a, rfl, fun j p hp => ⟨[.int k p], rfl, rfl, ?_⟩⟩⟩, fun x hx => hwf x (List.mem_of_mem_take hx)⟩
    intro i u hu
    obtain ⟨hi, hu2⟩ := List.getElem?_eq_some_iff.1 hu
    have hi0 : i = 0 := by simpa using hi
    subst hi0
    have hu3 : u = .int k p := by simpa using hu2.symm
    subst hu3
    obtain ⟨hj, hp2⟩ := List.getElem?_eq_some_iff.1 hp
    rw [hlen] at hj
    have := hcell j (by omega)
    rw [List.getElem_take] at hp2
    rw [List.getD_eq_getElem?_getD, List.getElem?_eq_getElem (by omega)] at this
    simp only [Option.getD_some, hp2] at this
    have ej : j * (Kd.int k).sz + 0 = j := by show j * 1 + 0 = j; omega
    rw [ej]
    exact this
end
theorem cells_u8 : Tryz.prog.cellsOf 5 = 1 := by kernel_rfl
theorem cells_int : Tryz.prog.cellsOf 3 = 1 := by kernel_rfl
end Go.Proofs.YtpbpfngichfgeaaGreatDoor

namespace Go.Proofs.YtpbpfngichfgeaaGreatDoor
open Go.ChangeShapes Go.WideShapes Go.ChangeAt Go.RowKit Go.Deep Go.Proofs.YtpbpfngichfgeaaGreatDoorW.PrintWords
section
variable {H : Type} {enc : TypeId × Value → H} {W : World} {base : Nat} {held : Bool}
set_option maxRecDepth 100000 in
theorem open_strs {r : Reach} {b0 : Nat} (t e : TypeId) (ht : Tryz.prog.underlying t = some (.slice e)) (he : Tryz.prog.underlying e = some .string) (hc : Tryz.prog.cellsOf e = 1) {v : Value} {d : DataW H} {p : List MemPlace}
    (hv : Value.okWide Tryz.prog W r b0 t v) (h : DataW.Trod enc Tryz.prog W base (fun _ => true) held t v d p) : ∃ A n zs c, v = .slice A n c ∧ n ≤ c ∧ Kd.C Kd.string W A n zs := by
  obtain ⟨A1, len1, cap1, rfl⟩ := okWide_slice ht hv
  obtain ⟨fuel, hf⟩ := h
  rcases open_strings ht he hc hf with ⟨hcs, _⟩ | ⟨a, len', cap', zs, hcs, _, hl, hm, hz, _, hcell, _⟩
  · simp [Value.cells] at hcs
    obtain ⟨rfl, rfl, rfl⟩ := hcs
    exact ⟨none, 0, [], 0, rfl, Nat.le_refl _, ⟨rfl, by simp, fun h => by simp at h⟩⟩
  · simp [Value.cells] at hcs
    obtain ⟨rfl, rfl, rfl⟩ := hcs
    have hzl : len1 ≤ zs.length := by rw [hz]; split <;> omega
    have hlen : (zs.take len1).length = len1 := by rw [List.length_take]; omega
    refine ⟨some a, len1, zs.take len1, cap1, rfl, hl, ⟨hlen, by unfold maxLen at hm; omega, fun _ => ⟨a, rfl, fun j p hp => ⟨[.string p], rfl, rfl, ?_⟩⟩⟩⟩
    intro i u hu
    have hi0 : i = 0 := by rcases i with _ | i; rfl; simp at hu
    subst hi0
    obtain rfl : Value.string p = u := by simpa using hu
    obtain ⟨hj, hp2⟩ := List.getElem?_eq_some_iff.1 hp
    rw [hlen] at hj
    have := hcell j (by omega)
    rw [List.getElem_take] at hp2
    rw [List.getD_eq_getElem?_getD, List.getElem?_eq_getElem (by omega)] at this
    simp only [Option.getD_some, hp2] at this
    have ej : j * Kd.string.sz + 0 = j := by show j * 1 + 0 = j; omega
    rw [ej]
    exact this
set_option maxRecDepth 100000 in
theorem open_rows {r : Reach} {b0 : Nat} (t e q : TypeId) (ht : Tryz.prog.underlying t = some (.slice e)) (he : Tryz.prog.underlying e = some (.slice q)) (hq : Tryz.prog.underlying q = some (.int .u8)) (ce : Tryz.prog.cellsOf e = 1) (cq : Tryz.prog.cellsOf q = 1) {v : Value} {d : DataW H} {p : List MemPlace}
    (hv : Value.okWide Tryz.prog W r b0 t v) (h : DataW.Trod enc Tryz.prog W base (fun _ => true) held t v d p) : ∃ A n zs c, v = .slice A n c ∧ n ≤ c ∧ Kd.C (Kd.slice q (Kd.int .u8)) W A n zs ∧ ∀ z ∈ zs, ∀ x ∈ z, 0 ≤ x ∧ x < 256 := by
  obtain ⟨A1, len1, cap1, rfl⟩ := okWide_slice ht hv
  obtain ⟨fuel, hf⟩ := h
  rcases Go.Deep.open_int_rows ht he hq ce cq hf with ⟨hcs, _⟩ | ⟨a, len', cap', A, L, C, Z, hcs, _, hl, hm, _, hx⟩
  · simp [Value.cells] at hcs
    obtain ⟨rfl, rfl, rfl⟩ := hcs
    exact ⟨none, 0, [], 0, rfl, Nat.le_refl _, ⟨rfl, by simp, fun h => by simp at h⟩, fun z hz => by cases hz⟩
  · simp [Value.cells] at hcs
    obtain ⟨rfl, rfl, rfl⟩ := hcs
    have hlen : ((List.range len1).map fun r => (Z r).take (L r)).length = len1 := by simp
    refine ⟨some a, len1, (List.range len1).map fun r => (Z r).take (L r), cap1, rfl, hl, ⟨hlen, by unfold maxLen at hm; omega, fun _ => ⟨a, rfl, fun j p hp => ?_⟩⟩, fun z hz => ?_⟩
    · have hj : j < len1 := by have := (List.getElem?_eq_some_iff.1 hp).1; rwa [hlen] at this
      obtain rfl : p = (Z j).take (L j) := by simp [hj] at hp; exact hp.symm
      obtain ⟨h1, h2, h3, h4, h5, h6, h7⟩ := hx j (by omega)
      have hl2 : ((Z j).take (L j)).length = L j := by rw [List.length_take]; omega
      refine ⟨[.slice (A j) ((Z j).take (L j)).length (C j)], rfl, ⟨A j, C j, rfl, by rw [hl2]; exact h2, ?_⟩, fun i u hu => ?_⟩
      · rw [hl2]
        refine ⟨hl2, by unfold maxLen at h3; omega, fun h0 => ?_⟩
        cases hA : A j with
        | none => exact absurd (h6 hA) (by omega)
        | some a' =>
          refine ⟨a', rfl, fun i x hix => ?_⟩
          obtain ⟨_, hc⟩ := h7 a' hA
          have hi : i < L j := by have := (List.getElem?_eq_some_iff.1 hix).1; rwa [hl2] at this
          refine ⟨[.int .u8 x], rfl, rfl, fun i' u hu => ?_⟩
          have hi0 : i' = 0 := by rcases i' with _ | i'; rfl; simp at hu
          subst hi0
          obtain rfl : Value.int .u8 x = u := by simpa using hu
          have := hc i (by omega)
          have e0 : (Z j).getD i 0 = x := by
            rw [List.getElem?_take_of_lt hi] at hix
            rw [List.getD_eq_getElem?_getD, hix]
            rfl
          rw [e0] at this
          simpa [Kd.int, Kd.scalar] using this
      · have hi0 : i = 0 := by rcases i with _ | i; rfl; simp at hu
        subst hi0
        obtain rfl : Value.slice (A j) ((Z j).take (L j)).length (C j) = u := by simpa using hu
        rw [hl2]
        simpa [Kd.slice] using h1
    · obtain ⟨j, hj, rfl⟩ := List.mem_map.1 hz
      intro x hxx
      obtain ⟨h1, h2, h3, h4, h5, h6, h7⟩ := hx j (by have := List.mem_range.1 hj; omega)
      have := bounds_u8 (h5 x (List.mem_of_mem_take hxx))
      omega
end
end Go.Proofs.YtpbpfngichfgeaaGreatDoor
