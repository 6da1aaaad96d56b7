/-
  The plain law of package pax: a record's bytes.
-/
import Derived.Test.YtpbpfngichfgeaaGreatDoorPaxEnc
import Derived.Test.YtpbpfngichfgeaaGreatDoorPaxP0
import Derived.Lib.IndexBytes
namespace Go.Proofs.YtpbpfngichfgeaaGreatDoor
set_option linter.unusedVariables false
set_option linter.unusedSimpArgs false

theorem indexByte_at {a r : List UInt8} {c : UInt8} (h : ∀ b ∈ a, b ≠ c) : Lib.indexByte (a ++ c :: r) c = a.length := by
  induction a with
  | nil => simp [Lib.indexByte]
  | cons b a ih =>
    have hb : (b == c) = false := by rw [beq_eq_false_iff_ne]; exact h b (by simp)
    have := ih (fun x hx => h x (by simp [hx]))
    have h2 : ((a.length : Int) == -1) = false := by rw [beq_eq_false_iff_ne]; omega
    simp only [List.cons_append, Lib.indexByte, hb, this, h2, Bool.false_eq_true, if_false, List.length_cons]
    omega
theorem indexByte_not {a : List UInt8} {c : UInt8} (h : ∀ b ∈ a, b ≠ c) : Lib.indexByte a c = -1 := by
  induction a with
  | nil => rfl
  | cons b a ih =>
    have hb : (b == c) = false := by rw [beq_eq_false_iff_ne]; exact h b (by simp)
    have := ih (fun x hx => h x (by simp [hx]))
    simp [Lib.indexByte, hb, this]
theorem cut_at {a r : List UInt8} {c : UInt8} (h : ∀ b ∈ a, b ≠ c) : Lib.cut (a ++ c :: r) [c] = (a, r, true) := by
  unfold Lib.cut
  rw [Lib.index_one, indexByte_at h, if_pos (by omega)]
  simp
theorem cut_not {a : List UInt8} {c : UInt8} (h : ∀ b ∈ a, b ≠ c) : Lib.cut a [c] = (a, [], false) := by
  unfold Lib.cut
  rw [Lib.index_one, indexByte_not h, if_neg (by omega)]

structure LenFacts (n : Nat) (L : Nat) : Prop where
  len : (Lib.itoa (L : Int)).length + n = L
  atoi : Lib.atoi (Lib.itoa (L : Int)) = some (L : Int)
  dig : ∀ b ∈ Lib.itoa (L : Int), 48 ≤ b.toNat ∧ b.toNat ≤ 57
  le : (Lib.itoa (L : Int)).length ≤ 5
  pos : 1 ≤ (Lib.itoa (L : Int)).length
  val : (Lib.itoa (L : Int)).foldl (fun (a : Nat) b => 10 * a + (b.toNat - 48)) 0 = L
theorem chk_zero {k v : ByteArray} (h : chkOf k v = 0) : k ≠ ⟨#[]⟩ ∧ badKey k = false ∧ k.size + v.size ≤ 4096 := by
  unfold chkOf at h
  split at h
  · omega
  · split at h
    · omega
    · split at h
      · omega
      · rename_i a b c
        exact ⟨a, by simpa using b, by omega⟩
end Go.Proofs.YtpbpfngichfgeaaGreatDoor
