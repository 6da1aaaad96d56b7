/-
  entry.Pad by a contract.
-/
import Derived.Test.YthmleoceakonjaaDoorEntryB
namespace Go.Proofs.YthmleoceakonjaaDoor
open Go.RowKit

theorem pad_any (n : Int) (h0 : 0 ≤ n) (_h1 : n ≤ 4611686018427387904) (w : World) : Calls Tryd.prog 11 #[.int .i64 n] w fun e w' => e = .returned (.int .i64 (-(n % 512) % 512)) ∧ w = w' := by
  have r1 : Int.tmod n 512 = n % 512 := Int.tmod_eq_emod_of_nonneg h0
  have r2 : Int.tmod (512 - n % 512) 512 = (512 - n % 512) % 512 := Int.tmod_eq_emod_of_nonneg (by omega)
  go_enter Tryd.func11, Tryd.ntmps11
  go_wp2
  go_ret
  exact ⟨rfl, rfl⟩

theorem and_4095 (m : Int) : bits .and .i64 m 4095 = m % 4096 := by
  show IntKind.i64.wrap (((BitVec.ofInt 64 m &&& BitVec.ofInt 64 4095).toNat : Nat) : Int) = _
  have h : (BitVec.ofInt 64 m &&& BitVec.ofInt 64 4095).toNat = (m % 18446744073709551616).toNat % 4096 := by
    rw [BitVec.toNat_and]
    have e : (BitVec.ofInt 64 4095).toNat = 2 ^ 12 - 1 := by decide
    rw [e, Nat.and_two_pow_sub_one_eq_mod, BitVec.toNat_ofInt]
    rfl
  rw [h, IntKind.wrap_i64]
  omega
theorem size_pos {s : ByteArray} (h : s ≠ ⟨#[]⟩) : 0 < s.size := by
  rcases Nat.eq_zero_or_pos s.size with h0 | h0
  · exact absurd (by cases s with | mk a => simp [ByteArray.size] at h0; simp [h0]) h
  · exact h0
/-- A text's last byte, as 's[len(s)-1]' reads it. -/
theorem last_of {s : ByteArray} (h : s ≠ ⟨#[]⟩) : ∃ c : Int, 0 ≤ c ∧ c < 256 ∧ (∀ (P : Program) (wx : World) (t : TypeId), P.underlying t = some .string → (Instr.index t (.string s) (.int .i64 ((s.size : Int) - 1))).run P wx = .ok (.int .u8 c) wx) ∧ Lib.hasSuffix s.data.toList [47] = (c == 47) := by
  have hp := size_pos h
  have hb : s.size - 1 < s.size := by omega
  refine ⟨((s[s.size - 1]'hb).toNat : Nat), by omega, by have := (s[s.size - 1]'hb).toNat_lt; omega, fun P wx t ht => ?_, ?_⟩
  · rw [run_index_string wx t s .i64 _ ht, dif_pos ⟨by omega, by omega⟩]
    have e : ((s.size : Int) - 1).toNat = s.size - 1 := by omega
    simp only [e]
  · have hl : s.data.toList.length = s.size := by rw [Array.length_toList]; rfl
    rw [Lib.getD_at s _ hb]
    generalize s.data.toList = l at *
    obtain ⟨r, x, rfl⟩ : ∃ r x, l = r ++ [x] := ⟨l.dropLast, l.getLast (by intro h0; subst h0; simp at hl; omega), (List.dropLast_concat_getLast _).symm⟩
    have e2 : (r ++ [x]).getD (s.size - 1) 0 = x := by
      have : s.size - 1 = r.length := by simp at hl; omega
      rw [this]
      simp
    rw [e2]
    simp only [Lib.hasSuffix, List.isSuffixOf, List.reverse_append, List.reverse_cons, List.reverse_nil, List.nil_append, List.singleton_append, List.isPrefixOf, Bool.and_true]
    rw [Bool.eq_iff_iff]
    simp only [beq_iff_eq]
    constructor
    · rintro rfl; rfl
    · intro h1
      apply UInt8.toNat_inj.1
      have h2 : x.toNat = 47 := by exact_mod_cast h1
      rw [h2]; rfl
end Go.Proofs.YthmleoceakonjaaDoor
