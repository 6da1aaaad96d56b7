/-
  The plain law of package pax: what is written is read.
-/
import Derived.Test.YtcgopeneoignpaaDoorPaxEnc
import Derived.Test.YtcgopeneoignpaaDoorPaxP0
import Derived.Lib.IndexBytes
namespace Go.Proofs.YtcgopeneoignpaaDoor
set_option linter.unusedVariables false
set_option linter.unusedSimpArgs false

theorem lenOf_nat (k v : ByteArray) : lenOf k v = (lenN (k.size + v.size + 3) : Nat) := by
  have e : ((k.size : Int) + v.size + 3) = ((k.size + v.size + 3 : Nat) : Int) := by omega
  simp only [lenOf, lenN, itoaS_size, e]
  have e2 : (((k.size + v.size + 3 : Nat) : Int) + ((Lib.itoa ((k.size + v.size + 3 : Nat) : Int)).length : Int)) = ((k.size + v.size + 3 + (Lib.itoa ((k.size + v.size + 3 : Nat) : Int)).length : Nat) : Int) := by omega
  rw [e2]
  by_cases h : (Lib.itoa ((k.size + v.size + 3 : Nat) : Int)).length < (Lib.itoa ((k.size + v.size + 3 + (Lib.itoa ((k.size + v.size + 3 : Nat) : Int)).length : Nat) : Int)).length
  · rw [if_pos h, if_pos (by omega)]; omega
  · rw [if_neg h, if_neg (by omega)]

theorem indexByte_at {a r : List UInt8} {c : UInt8} (h : ∀ b ∈ a, b ≠ c) : Lib.indexByte (a ++ c :: r) c = a.length := by
  induction a with
  | nil => simp [Lib.indexByte]
  | cons b a ih =>
    have hb : (b == c) = false := by rw [beq_eq_false_iff_ne]; exact h b (by simp)
    have := ih (fun x hx => h x (by simp [hx]))
    have h2 : ((a.length : Int) == -1) = false := by rw [beq_eq_false_iff_ne]; omega
    simp only [List.cons_append, Lib.indexByte, hb, this, h2, Bool.false_eq_true, if_false, List.length_cons]
    omega
theorem indexByte_not {a : List UInt8} {c : UInt8} (h : ∀ b ∈ a, b ≠ c) : Lib.indexByte a c = -1 := by
  induction a with
  | nil => rfl
  | cons b a ih =>
    have hb : (b == c) = false := by rw [beq_eq_false_iff_ne]; exact h b (by simp)
    have := ih (fun x hx => h x (by simp [hx]))
    simp [Lib.indexByte, hb, this]
theorem cut_at {a r : List UInt8} {c : UInt8} (h : ∀ b ∈ a, b ≠ c) : Lib.cut (a ++ c :: r) [c] = (a, r, true) := by
  unfold Lib.cut
  rw [Lib.index_one, indexByte_at h, if_pos (by omega)]
  simp
theorem cut_not {a : List UInt8} {c : UInt8} (h : ∀ b ∈ a, b ≠ c) : Lib.cut a [c] = (a, [], false) := by
  unfold Lib.cut
  rw [Lib.index_one, indexByte_not h, if_neg (by omega)]

structure LenFacts (n : Nat) (L : Nat) : Prop where
  len : (Lib.itoa (L : Int)).length + n = L
  atoi : Lib.atoi (Lib.itoa (L : Int)) = some (L : Int)
  dig : ∀ b ∈ Lib.itoa (L : Int), 48 ≤ b.toNat ∧ b.toNat ≤ 57
  le : (Lib.itoa (L : Int)).length ≤ 5
  pos : 1 ≤ (Lib.itoa (L : Int)).length
  val : (Lib.itoa (L : Int)).foldl (fun (a : Nat) b => 10 * a + (b.toNat - 48)) 0 = L
theorem lenFacts {n : Nat} (h : n < 4100) : LenFacts n (lenN n) := by
  have := lenOk_at h
  simp only [lenOk, Bool.and_eq_true, decide_eq_true_eq, beq_iff_eq, List.all_eq_true] at this
  obtain ⟨⟨⟨⟨⟨a, b⟩, c⟩, d⟩, e⟩, f⟩ := this
  exact ⟨a, b, fun x hx => by simpa using c x hx, d, e, f⟩
theorem chk_zero {k v : ByteArray} (h : chkOf k v = 0) : k ≠ ⟨#[]⟩ ∧ badKey k = false ∧ k.size + v.size ≤ 4096 := by
  unfold chkOf at h
  split at h
  · omega
  · split at h
    · omega
    · split at h
      · omega
      · rename_i a b c
        exact ⟨a, by simpa using b, by omega⟩
theorem badKey_not {k : ByteArray} (h : badKey k = false) : ∀ b ∈ k.data.toList, b ≠ 61 ∧ b ≠ 0 ∧ b ≠ 10 := by
  intro b hb
  simp only [badKey, List.any_eq_false] at h
  have := h b hb
  simpa [and_assoc] using this

theorem toList_mk (l : List UInt8) : (⟨l.toArray⟩ : ByteArray).data.toList = l := rfl
theorem recT_list (k v : ByteArray) (n : Nat) (hn : n = k.size + v.size + 3) : (recT k v).data.toList = Lib.itoa (lenN n : Nat) ++ 32 :: (k.data.toList ++ 61 :: (v.data.toList ++ [10])) := by
  subst hn
  simp only [recT, itoaS, lenOf_nat, ByteArray.data_append, Array.toList_append]
  simp
theorem bytes_ext {a b : ByteArray} (h : a.data.toList = b.data.toList) : a = b := by
  obtain ⟨⟨x⟩⟩ := a
  obtain ⟨⟨y⟩⟩ := b
  simp at h
  rw [h]
/-- The record at the beginning of what was written. -/
theorem one_rec (k v : ByteArray) (rest : List UInt8) (s : ByteArray) (hs : s.data.toList = (recT k v).data.toList ++ rest) (h : chkOf k v = 0) : oneOf s = (k, v, ⟨rest.toArray⟩, 0) := by
  obtain ⟨h1, h2, h3⟩ := chk_zero h
  obtain ⟨n, hn⟩ : ∃ n, n = k.size + v.size + 3 := ⟨_, rfl⟩
  have hf := lenFacts (n := n) (by omega)
  have hL := lenOf_nat k v
  rw [← hn] at hL
  rw [recT_list k v n hn] at hs
  obtain ⟨L, hLL⟩ : ∃ L, lenN n = L := ⟨_, rfl⟩
  rw [hLL] at hf hL hs
  obtain ⟨len, atoi, dig, le, pos, val⟩ := hf
  obtain ⟨t, ht⟩ : ∃ t, Lib.itoa (L : Int) = t := ⟨_, rfl⟩
  rw [ht] at len atoi dig le pos hs
  have hs1 : s.data.toList = t ++ 32 :: (k.data.toList ++ 61 :: (v.data.toList ++ 10 :: rest)) := by rw [hs]; simp
  have hd32 : ∀ b ∈ t, b ≠ 32 := fun b hb he => by have := dig b hb; rw [he] at this; simp at this
  have hc : Lib.cut s.data.toList [32] = (t, k.data.toList ++ 61 :: (v.data.toList ++ 10 :: rest), true) := by rw [hs1]; exact cut_at hd32
  have hsz : s.size = t.length + 1 + k.size + 1 + v.size + 1 + rest.length := by
    rw [Lib.size_eq s, hs1]
    simp only [List.length_append, List.length_cons]
    have := Lib.size_eq k
    have := Lib.size_eq v
    omega
  unfold oneOf
  simp only [hc]
  rw [if_neg (by decide), if_neg (by omega)]
  simp only [atoi]
  rw [if_neg (fun h => h ht), if_neg (by omega), if_neg (by omega)]
  have e1 : (L : Int).toNat = L := by omega
  have e2 : ((L : Int) - 1).toNat = L - 1 := by omega
  have hx : s.data.toList.getD ((L : Int) - 1).toNat 0 = 10 := by
    rw [e2, hs1]
    have : L - 1 = (t ++ 32 :: (k.data.toList ++ 61 :: v.data.toList)).length := by
      simp only [List.length_append, List.length_cons]
      have := Lib.size_eq k
      have := Lib.size_eq v
      omega
    rw [this]
    have e : t ++ 32 :: (k.data.toList ++ 61 :: (v.data.toList ++ 10 :: rest)) = (t ++ 32 :: (k.data.toList ++ 61 :: v.data.toList)) ++ 10 :: rest := by simp
    rw [e]
    simp
  rw [if_neg (fun h => h hx)]
  have hkv : (s.extract (t.length + 1) ((L : Int).toNat - 1)).data.toList = k.data.toList ++ 61 :: v.data.toList := by
    rw [e1]
    simp only [ByteArray.data_extract, Array.toList_extract, hs1, List.extract_eq_take_drop]
    have e : t ++ 32 :: (k.data.toList ++ 61 :: (v.data.toList ++ 10 :: rest)) = (t ++ [32]) ++ ((k.data.toList ++ 61 :: v.data.toList) ++ 10 :: rest) := by simp
    have hl : (k.data.toList ++ 61 :: v.data.toList).length = L - 1 - (t.length + 1) := by
      simp only [List.length_append, List.length_cons]
      have := Lib.size_eq k
      have := Lib.size_eq v
      omega
    rw [e, List.drop_left' (by simp), List.take_left' hl]
  rw [hkv]
  have hc2 : Lib.cut (k.data.toList ++ 61 :: v.data.toList) [61] = (k.data.toList, v.data.toList, true) := cut_at fun b hb => (badKey_not h2 b hb).1
  simp only [hc2]
  rw [if_neg (by decide)]
  have hk : (⟨k.data.toList.toArray⟩ : ByteArray) = k := bytes_ext rfl
  have hv : (⟨v.data.toList.toArray⟩ : ByteArray) = v := bytes_ext rfl
  rw [hk, hv, if_neg (fun h => h hL), if_neg (fun h' => h' h)]
  congr 2
  have hr : s.extract (L : Int).toNat s.size = ⟨rest.toArray⟩ := by
    apply bytes_ext
    rw [e1]
    simp only [ByteArray.data_extract, Array.toList_extract, hs1, List.extract_eq_take_drop]
    have e : t ++ 32 :: (k.data.toList ++ 61 :: (v.data.toList ++ 10 :: rest)) = (t ++ 32 :: (k.data.toList ++ 61 :: (v.data.toList ++ [10]))) ++ rest := by simp
    have hl : (t ++ 32 :: (k.data.toList ++ 61 :: (v.data.toList ++ [10]))).length = L := by
      simp only [List.length_append, List.length_cons, List.length_nil]
      have := Lib.size_eq k
      have := Lib.size_eq v
      omega
    rw [e, List.drop_left' hl]
    exact List.take_of_length_le (by omega)
  rw [hr]
end Go.Proofs.YtcgopeneoignpaaDoor
