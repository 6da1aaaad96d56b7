/-
  Several texts in one: YtpbpfngichfgeaaGreatDoorHdrOne, YtpbpfngichfgeaaGreatDoorHdrRT.
-/
import Derived.Test.YtpbpfngichfgeaaGreatDoorEnc
import Derived.Lib.IndexLaws
import Derived.Laws.CopyOwn
import Derived.Test.YtpbpfngichfgeaaGreatDoorHdDec
namespace Go.Proofs.YtpbpfngichfgeaaGreatDoor
set_option linter.unusedVariables false
set_option linter.unusedSectionVars false
set_option linter.unusedSimpArgs false
open Go Go.RowKit
theorem splice_get {α : Type} (L : List α) (off : Nat) (cs : List α) (h : off ≤ L.length) (i : Nat) :
    (splice L off cs)[i]? = if i < off then L[i]? else if i < off + cs.length then cs[i - off]? else L[i]? := by
  unfold splice
  by_cases h1 : i < off
  · rw [if_pos h1, List.getElem?_append_left (by simp; omega), List.getElem?_take, if_pos h1]
  · rw [if_neg h1, List.getElem?_append_right (by simp; omega)]
    have e : i - (List.take off L).length = i - off := by simp; omega
    rw [e]
    by_cases h2 : i < off + cs.length
    · rw [if_pos h2, List.getElem?_append_left (by omega)]
    · rw [if_neg h2, List.getElem?_append_right (by omega), List.getElem?_drop]
      congr 1; omega
/-- A text's byte at a place of a field that is filled up with bytes 0. -/
def txAt (s : ByteArray) (i : Nat) : Int := if h : i < s.size then ((s[i]'h).toNat : Int) else 0
theorem splice_out {α : Type} (L : List α) (off : Nat) (cs : List α) (h : off ≤ L.length) (i : Nat) (hi : i < off ∨ off + cs.length ≤ i) : (splice L off cs)[i]? = L[i]? := by
  rw [splice_get L off cs h i]
  rcases hi with hi | hi
  · rw [if_pos hi]
  · rw [if_neg (by omega), if_neg (by omega)]
theorem splice_in {α : Type} (L : List α) (off : Nat) (cs : List α) (h : off ≤ L.length) (i : Nat) (h1 : off ≤ i) (h2 : i < off + cs.length) : (splice L off cs)[i]? = cs[i - off]? := by
  rw [splice_get L off cs h i, if_neg (by omega), if_pos h2]
theorem strI_get (s : ByteArray) (i : Nat) (h : i < s.size) : (strI s)[i]? = some (txAt s i) := by
  unfold strI txAt
  rw [dif_pos h, List.getElem?_map]
  have hl : i < s.data.toList.length := by simpa using h
  rw [List.getElem?_eq_getElem hl]
  simp [ByteArray.getElem_eq_getElem_data]
/-- A text's field, in what the texts have written so far. -/
theorem field_get (L : List Int) (off N : Nat) (s : ByteArray) (hL : L.length = 512) (hN : off + N ≤ 512) (hs : s.size ≤ N) (h0 : ∀ i, off ≤ i → i < off + N → L[i]? = some 0) (i : Nat) (h1 : off ≤ i) (h2 : i < off + N) :
    (splice L off (strI s))[i]? = some (txAt s (i - off)) := by
  by_cases h : i < off + s.size
  · rw [splice_in L off _ (by omega) i h1 (by rw [strI_length]; exact h), strI_get s _ (by omega)]
  · rw [splice_out L off _ (by omega) i (.inr (by rw [strI_length]; omega)), h0 i h1 h2]
    unfold txAt
    rw [dif_neg (by omega)]
section
variable {name link pre user group : ByteArray} (hs : ∀ k, k < 5 → (tabS name link pre user group k).size ≤ tabTo k - tabFr k)
include hs
/-- Where no text up to so far stands, there is a 0. -/
theorem textsH_zero : ∀ k, k ≤ 5 → ∀ i, i < 512 → (∀ j, j < k → i < tabFr j ∨ tabTo j ≤ i) → (textsH name link pre user group k)[i]? = some 0
  | 0, _, i, hi, _ => by rw [textsH, List.getElem?_replicate, if_pos hi]
  | k + 1, hk, i, hi, hj => by
    have hl := textsH_length hs k (by omega)
    have hb : tabFr k ≤ 512 ∧ tabFr k ≤ tabTo k := by
      have : ∀ k, k < 5 → tabFr k ≤ 512 ∧ tabFr k ≤ tabTo k := by decide
      exact this k (by omega)
    have hsk := hs k (by omega)
    rw [textsH, splice_out _ _ _ (by omega) i (by rw [strI_length]; rcases hj k (by omega) with h | h; exact .inl h; exact .inr (by omega))]
    exact textsH_zero k (by omega) i hi (fun j h => hj j (by omega))
theorem textsH_at : ∀ n k, n + (k + 1) = 5 → ∀ m, m ≤ n → ∀ i, tabFr k ≤ i → i < tabTo k → (textsH name link pre user group (k + 1 + m))[i]? = some (txAt (tabS name link pre user group k) (i - tabFr k)) := by
  intro n k hn m
  have hap' : ∀ a, a < 5 → ∀ b, b < 5 → a ≠ b → tabTo a ≤ tabFr b ∨ tabTo b ≤ tabFr a := by decide
  have hap : ∀ a b, a < 5 → b < 5 → a ≠ b → tabTo a ≤ tabFr b ∨ tabTo b ≤ tabFr a := fun a b ha hb => hap' a ha b hb
  have hb : ∀ k, k < 5 → tabFr k ≤ tabTo k ∧ tabTo k ≤ 512 := by decide
  induction m with
  | zero =>
    intro _ i h1 h2
    have hk := hb k (by omega)
    refine field_get _ (tabFr k) (tabTo k - tabFr k) _ (textsH_length hs k (by omega)) (by omega) (hs k (by omega)) ?_ i h1 (by omega)
    intro i g1 g2
    refine textsH_zero hs k (by omega) i (by omega) (fun j hj => ?_)
    rcases hap j k (by omega) (by omega) (by omega) with h | h
    · exact .inr (by omega)
    · exact .inl (by omega)
  | succ m ih =>
    intro hm i h1 h2
    have hl := textsH_length hs (k + 1 + m) (by omega)
    have hk := hb (k + 1 + m) (by omega)
    have hsk := hs (k + 1 + m) (by omega)
    show (splice (textsH name link pre user group (k + 1 + m)) (tabFr (k + 1 + m)) (strI (tabS name link pre user group (k + 1 + m))))[i]? = _
    rw [splice_out _ _ _ (by omega) i ?_]
    · exact ih (by omega) i h1 h2
    · rw [strI_length]
      rcases hap k (k + 1 + m) (by omega) (by omega) (by omega) with h | h
      · exact .inl (by omega)
      · exact .inr (by omega)
theorem textsH_five (k : Nat) (hk : k < 5) (i : Nat) (h1 : tabFr k ≤ i) (h2 : i < tabTo k) : (textsH name link pre user group 5)[i]? = some (txAt (tabS name link pre user group k) (i - tabFr k)) := by
  have := textsH_at hs (4 - k) k (by omega) (4 - k) (Nat.le_refl _) i h1 h2
  rw [show k + 1 + (4 - k) = 5 by omega] at this
  exact this
end
section
variable {H0 : List Int} (hH : H0.length = 512) (mode uid gid size mtime : Int)
include hH
theorem num_len (k : Nat) (hk : k < 5) : (octL (numN mode uid gid size mtime k) (numWd k)).length = numWd k := by
  have h : ∀ k, k < 5 → 1 ≤ numWd k := by decide
  exact octL_length _ (h k hk)
theorem numsH_out : ∀ k, k ≤ 5 → ∀ i, (∀ j, j < k → i < numFr j ∨ numFr j + numWd j ≤ i) → (numsH H0 mode uid gid size mtime k)[i]? = H0[i]?
  | 0, _, i, _ => rfl
  | k + 1, hk, i, hj => by
    have hl := numsH_length hH mode uid gid size mtime k (by omega)
    have hb : ∀ k, k < 5 → numFr k ≤ 512 := by decide
    have := hb k (by omega)
    rw [numsH, splice_out _ _ _ (by omega) i (by rw [num_len hH _ _ _ _ _ k (by omega)]; exact hj k (by omega))]
    exact numsH_out k (by omega) i (fun j h => hj j (by omega))
theorem numsH_at (n k : Nat) (hn : n + (k + 1) = 5) : ∀ m, m ≤ n → ∀ i, numFr k ≤ i → i < numFr k + numWd k → (numsH H0 mode uid gid size mtime (k + 1 + m))[i]? = (octL (numN mode uid gid size mtime k) (numWd k))[i - numFr k]? := by
  intro m
  have hap' : ∀ a, a < 5 → ∀ b, b < 5 → a ≠ b → numFr a + numWd a ≤ numFr b ∨ numFr b + numWd b ≤ numFr a := by decide
  have hb : ∀ k, k < 5 → numFr k + numWd k ≤ 512 := by decide
  induction m with
  | zero =>
    intro _ i h1 h2
    have hl := numsH_length hH mode uid gid size mtime k (by omega)
    have hk := hb k (by omega)
    show (splice _ _ _)[i]? = _
    rw [splice_in _ _ _ (by omega) i h1 (by rw [num_len hH _ _ _ _ _ k (by omega)]; exact h2)]
  | succ m ih =>
    intro hm i h1 h2
    have hl := numsH_length hH mode uid gid size mtime (k + 1 + m) (by omega)
    have hk := hb (k + 1 + m) (by omega)
    show (splice (numsH H0 mode uid gid size mtime (k + 1 + m)) (numFr (k + 1 + m)) (octL (numN mode uid gid size mtime (k + 1 + m)) (numWd (k + 1 + m))))[i]? = _
    rw [splice_out _ _ _ (by omega) i ?_]
    · exact ih (by omega) i h1 h2
    · rw [num_len hH _ _ _ _ _ (k + 1 + m) (by omega)]
      rcases hap' k (by omega) (k + 1 + m) (by omega) (by omega) with h | h
      · exact .inl (by omega)
      · exact .inr (by omega)
theorem numsH_five (k : Nat) (hk : k < 5) (i : Nat) (h1 : numFr k ≤ i) (h2 : i < numFr k + numWd k) : (numsH H0 mode uid gid size mtime 5)[i]? = (octL (numN mode uid gid size mtime k) (numWd k))[i - numFr k]? := by
  have := numsH_at hH mode uid gid size mtime (4 - k) k (by omega) (4 - k) (Nat.le_refl _) i h1 h2
  rw [show k + 1 + (4 - k) = 5 by omega] at this
  exact this
end
theorem sealL_get {H F : List Int} (hH : H.length = 512) (hF : F.length = 7) (i : Nat) (hi : i < 148 ∨ 156 ≤ i) : (sealL H F)[i]? = H[i]? := by
  unfold sealL
  rcases hi with h | h
  · rw [List.getElem?_append_left (by simp; omega), List.getElem?_take, if_pos h]
  · rw [List.getElem?_append_right (by simp; omega), List.getElem?_append_right (by simp; omega), List.getElem?_drop]
    congr 1
    simp; omega
section
variable {name link pre user group : ByteArray} {typ mode uid gid size mtime : Int} (hf : HdrFits name link pre user group typ mode uid gid size mtime)
include hf
theorem hdrH_len : (hdrH name link pre user group typ mode uid gid size mtime).length = 512 := by
  have h1 := textsH_length hf.tsize 5 (by omega)
  have h2 := numsH_length h1 mode uid gid size mtime 5 (by omega)
  unfold hdrH
  rw [length_splice _ _ _ (by simp [h2, ustarI])]
  simpa using h2
theorem hdrL_at (i : Nat) (h0 : i ≠ 156) (h1 : i < 257 ∨ 265 ≤ i) (h2 : i < 148 ∨ 156 ≤ i) : (hdrL name link pre user group typ mode uid gid size mtime)[i]? = (numsH (textsH name link pre user group 5) mode uid gid size mtime 5)[i]? := by
  have g1 := textsH_length hf.tsize 5 (by omega)
  have g2 := numsH_length g1 mode uid gid size mtime 5 (by omega)
  unfold hdrL
  rw [sealL_get (hdrH_len hf) (octL_length _ (by omega)) i h2]
  unfold hdrH
  rw [splice_out _ _ _ (by simp [g2]) i (by simpa [ustarI] using h1), List.getElem?_set_ne (by omega)]
theorem hdrL_typ : (hdrL name link pre user group typ mode uid gid size mtime)[156]? = some typ := by
  have g1 := textsH_length hf.tsize 5 (by omega)
  have g2 := numsH_length g1 mode uid gid size mtime 5 (by omega)
  unfold hdrL
  rw [sealL_get (hdrH_len hf) (octL_length _ (by omega)) 156 (.inr (by omega))]
  unfold hdrH
  rw [splice_out _ _ _ (by simp [g2]) 156 (.inl (by omega)), List.getElem?_set_self (by omega)]
theorem hdrL_txt (k : Nat) (hk : k < 5) (i : Nat) (h1 : tabFr k ≤ i) (h2 : i < tabTo k) : (hdrL name link pre user group typ mode uid gid size mtime)[i]? = some (txAt (tabS name link pre user group k) (i - tabFr k)) := by
  have g1 := textsH_length hf.tsize 5 (by omega)
  have ht : ∀ k, k < 5 → (156 < tabFr k ∧ 265 ≤ tabFr k ∨ tabTo k ≤ 100 ∨ 157 ≤ tabFr k ∧ tabTo k ≤ 257) ∧ tabTo k ≤ 512 := by decide
  have hn : ∀ j, j < 5 → 100 ≤ numFr j ∧ numFr j + numWd j ≤ 148 := by decide
  have q := ht k hk
  rw [hdrL_at hf i (by omega) (by omega) (by omega), numsH_out g1 _ _ _ _ _ 5 (by omega) i (fun j hj => by have := hn j hj; omega)]
  exact textsH_five hf.tsize k hk i h1 h2
theorem hdrL_num (k : Nat) (hk : k < 5) (i : Nat) (h1 : numFr k ≤ i) (h2 : i < numFr k + numWd k) : (hdrL name link pre user group typ mode uid gid size mtime)[i]? = (octL (numN mode uid gid size mtime k) (numWd k))[i - numFr k]? := by
  have g1 := textsH_length hf.tsize 5 (by omega)
  have hn : ∀ j, j < 5 → 100 ≤ numFr j ∧ numFr j + numWd j ≤ 148 := by decide
  have q := hn k hk
  rw [hdrL_at hf i (by omega) (by omega) (by omega)]
  exact numsH_five g1 _ _ _ _ _ k hk i h1 h2
end
theorem fits_no0 {s : ByteArray} {m : Int} (h : POct.head_Fits.f s m = some true) : ∀ i, (hi : i < s.size) → (s[i]'hi).toNat ≠ 0 := by
  intro i hi h0
  unfold POct.head_Fits.f POct.strings_Contains.f at h
  split at h
  · rw [if_pos rfl, Option.bind_some] at h
    have h1 : has0 s = false := by simpa using h
    unfold has0 at h1
    rw [decide_eq_false_iff_not] at h1
    have hge := Lib.indexByte_ge s.data.toList 0
    have hl : i < s.data.toList.length := by simpa using hi
    refine absurd ?_ (Lib.indexByte_none (show Lib.indexByte s.data.toList 0 = -1 by omega) i)
    rw [List.getElem?_eq_getElem hl]
    congr 1
    apply UInt8.toNat_inj.1
    have e : s[i]'hi = s.data.toList[i]'hl := by simp [ByteArray.getElem_eq_getElem_data]
    rw [← e, h0]; rfl
  · simp at h
theorem hdrL_length {name link pre user group : ByteArray} {typ mode uid gid size mtime : Int} (f : HdrFits name link pre user group typ mode uid gid size mtime) : (hdrL name link pre user group typ mode uid gid size mtime).length = 512 := by
  unfold hdrL sealL
  have h1 := hdrH_len f
  have h2 := octL_length (psum (hdrH name link pre user group typ mode uid gid size mtime) 512) (w := 7) (by omega)
  simp [h1, h2]
end Go.Proofs.YtpbpfngichfgeaaGreatDoor

namespace Go.Proofs.YtpbpfngichfgeaaGreatDoor
set_option linter.unusedVariables false
set_option linter.unusedSectionVars false
set_option linter.unusedSimpArgs false
open Go Go.RowKit Go.Proofs.YtpbpfngichfgeaaGreatDoorW.PrintWords Go.Proofs.YtpbpfngichfgeaaGreatDoorW.PrintLast Go.Proofs.YtpbpfngichfgeaaGreatDoorW.PrintMore

/-! octal digits, read -/
theorem digV_step (m x : Int) (r : List Int) (h0 : 48 ≤ x) (h1 : x ≤ 55) (hm : m < 1152921504606846976) : digV m (x :: r) = digV (8 * m + (x - 48)) r := by
  rw [digV]
  rw [if_pos ⟨h0, h1⟩, if_neg (by omega)]
theorem digV_octD : ∀ (d : Nat) (n m : Int) (r : List Int), 0 ≤ n → n < 8 ^ d → 0 ≤ m → (m + 1) * 8 ^ d ≤ 1152921504606846976 → digV m (octD d n ++ r) = digV (m * 8 ^ d + n) r
  | 0, n, m, r, h0, h1, hm, hb => by
    have : n = 0 := by simp at h1; omega
    simp [octD, this]
  | d + 1, n, m, r, h0, h1, hm, hb => by
    have e8 : (8 : Int) ^ (d + 1) = 8 * 8 ^ d := by rw [Int.pow_succ]; omega
    rw [e8] at h1 hb
    have hp : (0 : Int) < 8 ^ d := Int.pow_pos (by omega)
    have hb2 : (m + 1) * 8 ^ d * 8 ≤ 1152921504606846976 := by rw [Int.mul_assoc, Int.mul_comm (8 ^ d) 8]; exact hb
    have hq : (m + 1) * 8 ^ d = m * 8 ^ d + 8 ^ d := by rw [Int.add_mul]; omega
    have hm8 : 0 ≤ m * 8 ^ d := Int.mul_nonneg hm (by omega)
    show digV m ((octD d (n / 8) ++ [48 + n % 8]) ++ r) = _
    rw [List.append_assoc, digV_octD d (n / 8) m ([48 + n % 8] ++ r) (by omega) (by omega) hm (by omega)]
    show digV _ ((48 + n % 8) :: r) = _
    rw [digV_step _ _ _ (by omega) (by omega) (by omega), e8]
    congr 1
    have : m * (8 * 8 ^ d) = 8 * (m * 8 ^ d) := by rw [← Int.mul_assoc, Int.mul_comm m 8, Int.mul_assoc]
    omega
theorem octV_octD (d : Nat) (n : Int) (r : List Int) (hd : 0 < d) (h0 : 0 ≤ n) (h1 : n < 8 ^ d) (h2 : (8 : Int) ^ d ≤ 1152921504606846976) (hr : ∀ x ∈ r, x = 0 ∨ x = 32) : octV (octD d n ++ r) = (n, 0) := by
  have hne : octD d n ≠ [] := fun e => by have := octD_length d n; rw [e] at this; simp at this; omega
  obtain ⟨f, t, hft⟩ := List.exists_cons_of_ne_nil hne
  have hf := octD_range d n f (by rw [hft]; simp)
  have e : octV (octD d n ++ r) = octT (octD d n ++ r) := by
    rw [hft]
    show octV (f :: (t ++ r)) = octT (f :: (t ++ r))
    have hn : ¬ 128 ≤ f := by omega
    simp only [octV, hn, if_false]
  rw [e]
  unfold octT
  have ed : (octD d n ++ r).dropWhile (· == 32) = octD d n ++ r := by
    rw [hft]
    show List.dropWhile _ (f :: (t ++ r)) = _
    rw [List.dropWhile_cons_of_neg (by simp; omega)]
    rfl
  have er : digV n r = some (n, r) := by
    rcases r with _ | ⟨x, r⟩
    · rfl
    · have := hr x (by simp)
      rw [digV, if_neg (by omega)]
  rw [ed, digV_octD d n 0 r h0 h1 (by omega) (by omega)]
  simp only [Int.zero_mul, Int.zero_add, er]
  rw [if_pos]
  rw [List.all_eq_true]
  intro x hx
  rcases hr x hx with h | h <;> simp [h]
/-! texts, read -/
theorem strOfNums_strI (s : ByteArray) : strOfNums (strI s) = s := by
  have h : strOfNums (strI s) = ⟨⟨s.data.toList⟩⟩ := by
    unfold strOfNums strI
    congr 2
    rw [List.map_map]
    conv => rhs; rw [← List.map_id s.data.toList]
    apply List.map_congr_left
    intro x _
    simp
  rw [h]
theorem textZ_of (L : List Int) (s : ByteArray) (hs : s.size ≤ L.length) (h : ∀ i, i < L.length → L[i]? = some (txAt s i)) (h0 : ∀ i, (hi : i < s.size) → (s[i]'hi).toNat ≠ 0) : textZ L = s := by
  have hl : L = strI s ++ List.replicate (L.length - s.size) 0 := by
    apply List.ext_getElem?
    intro i
    by_cases hi : i < L.length
    · rw [h i hi]
      by_cases his : i < s.size
      · rw [List.getElem?_append_left (by rw [strI_length]; exact his), strI_get s i his]
      · rw [List.getElem?_append_right (by rw [strI_length]; omega), List.getElem?_replicate, strI_length, if_pos (by omega)]
        simp [txAt, his]
    · rw [List.getElem?_eq_none (by omega), List.getElem?_eq_none]
      simp [strI_length]
      omega
  have hz : ∀ x ∈ strI s, (x != 0) = true := by
    intro x hx
    obtain ⟨i, hi, rfl⟩ := List.mem_iff_getElem.1 hx
    have hi' : i < s.size := by rw [← strI_length]; exact hi
    have e := strI_get s i hi'
    rw [List.getElem?_eq_getElem hi] at e
    rw [Option.some.inj e]
    have := h0 i hi'
    simp only [txAt, hi', dif_pos]
    simp
    omega
  unfold textZ
  rw [hl, List.takeWhile_append_of_pos hz]
  have e2 : (List.replicate (L.length - s.size) (0 : Int)).takeWhile (· != 0) = [] := by
    cases L.length - s.size <;> simp [List.replicate_succ]
  rw [e2, List.append_nil]
  exact strOfNums_strI s
theorem fldL_get (L : List Int) (a b i : Nat) (hi : i < b - a) : (fldL L a b)[i]? = L[a + i]? := by
  unfold fldL
  rw [List.getElem?_take, if_pos hi, List.getElem?_drop]
theorem fldL_len {L : List Int} {a b : Nat} (h : b ≤ L.length) : (fldL L a b).length = b - a := by
  unfold fldL
  rw [List.length_take, List.length_drop]
  omega
theorem fldL_eq {L F : List Int} {a b : Nat} (hL : b ≤ L.length) (hF : F.length = b - a) (h : ∀ i, a ≤ i → i < b → L[i]? = F[i - a]?) : fldL L a b = F := by
  apply List.ext_getElem?
  intro i
  by_cases hi : i < b - a
  · rw [fldL_get L a b i hi, h (a + i) (by omega) (by omega), Nat.add_sub_cancel_left]
  · rw [List.getElem?_eq_none (by rw [fldL_len hL]; omega), List.getElem?_eq_none (by omega)]
theorem psum_congr {l m : List Int} (h : ∀ i, i < 148 ∨ 156 ≤ i → l[i]? = m[i]?) : ∀ k, psum l k = psum m k
  | 0 => rfl
  | k + 1 => by
    unfold psum
    rw [psum_congr h k]
    by_cases hk : 148 ≤ k ∧ k < 156
    · rw [if_pos hk, if_pos hk]
    · rw [if_neg hk, if_neg hk]
      congr 1
      rw [List.getD_eq_getElem?_getD, List.getD_eq_getElem?_getD, h k (by omega)]
section
variable {name link pre user group : ByteArray} {typ mode uid gid size mtime : Int} (hf : HdrFits name link pre user group typ mode uid gid size mtime)
include hf
theorem hdrL_len : (hdrL name link pre user group typ mode uid gid size mtime).length = 512 := hdrL_length hf
theorem hdrH_range : ∀ x ∈ hdrH name link pre user group typ mode uid gid size mtime, 0 ≤ x ∧ x < 256 := by
  unfold hdrH
  refine range_splice (fun x hx => ?_) (by decide)
  rcases List.mem_or_eq_of_mem_set hx with h | h
  · exact numsH_range (textsH_range name link pre user group 5) mode uid gid size mtime 5 x h
  · rw [h]; exact ⟨hf.t0, hf.t1⟩
theorem hdrL_range : ∀ x ∈ hdrL name link pre user group typ mode uid gid size mtime, 0 ≤ x ∧ x < 256 := by
  intro x hx
  unfold hdrL sealL at hx
  rcases List.mem_append.1 hx with h | h
  · exact hdrH_range hf x (List.mem_of_mem_take h)
  rcases List.mem_append.1 h with h | h
  · rcases List.mem_append.1 h with h | h
    · exact octL_range _ _ x h
    · rw [List.mem_singleton.1 h]; omega
  · exact hdrH_range hf x (List.mem_of_mem_drop h)
theorem hdrL_sum : octV (fldL (hdrL name link pre user group typ mode uid gid size mtime) 148 156) = (psum (hdrH name link pre user group typ mode uid gid size mtime) 512, 0) := by
  have hl := hdrH_len hf
  have hr : ∀ x ∈ hdrH name link pre user group typ mode uid gid size mtime, 0 ≤ x ∧ x < 256 := by
    unfold hdrH
    refine range_splice (fun x hx => ?_) (by decide)
    rcases List.mem_or_eq_of_mem_set hx with h | h
    · exact numsH_range (textsH_range name link pre user group 5) mode uid gid size mtime 5 x h
    · rw [h]; exact ⟨hf.t0, hf.t1⟩
  have hb := psum_bound hr 512
  have e : fldL (hdrL name link pre user group typ mode uid gid size mtime) 148 156 = octD 6 (psum (hdrH name link pre user group typ mode uid gid size mtime) 512) ++ [0, 32] := by
    unfold hdrL sealL fldL
    rw [List.drop_left' (by rw [List.length_take]; omega)]
    rw [List.take_left' (by simp [octL_length])]
    simp [octL]
  rw [e]
  exact octV_octD 6 _ _ (by omega) hb.1 (by have := hb.2; omega) (by omega) (by simp)
theorem hdrL_right : rightV (hdrL name link pre user group typ mode uid gid size mtime) = true := by
  unfold rightV
  rw [hdrL_sum hf, hdrL_len hf]
  have e : psum (hdrL name link pre user group typ mode uid gid size mtime) 512 = psum (hdrH name link pre user group typ mode uid gid size mtime) 512 :=
    psum_congr (fun i hi => by unfold hdrL; exact sealL_get (hdrH_len hf) (octL_length _ (by omega)) i hi) 512
  rw [e]
  simp
theorem hdrL_numQ (k : Nat) (hk : k < 5) : numQ (hdrL name link pre user group typ mode uid gid size mtime) k = (numN mode uid gid size mtime k, 0) := by
  have hn : ∀ j, j < 5 → nFr j = numFr j ∧ nFr (j + 1) = numFr j + numWd j ∧ 1 < numWd j ∧ numWd j ≤ 12 ∧ numFr j + numWd j ≤ 512 := by decide
  obtain ⟨h1, h2, h3, h4, h5⟩ := hn k hk
  have g := hf.nums k hk
  unfold numQ
  rw [h1, h2, fldL_eq (F := octL (numN mode uid gid size mtime k) (numWd k)) (by rw [hdrL_len hf]; exact h5) (by rw [octL_length _ (by omega)]; omega) (fun i a b => hdrL_num hf k hk i a b)]
  have hp : (8 : Int) ^ (numWd k - 1) ≤ 1152921504606846976 := by
    have : ∀ j, j < 5 → (8 : Int) ^ (numWd j - 1) ≤ 1152921504606846976 := by decide
    exact this k hk
  exact octV_octD (numWd k - 1) _ [0] (by omega) g.1 g.2 hp (by simp)
theorem hdrL_mag : fldL (hdrL name link pre user group typ mode uid gid size mtime) 257 265 = ustarM := by
  have g1 := textsH_length hf.tsize 5 (by omega)
  have g2 := numsH_length g1 mode uid gid size mtime 5 (by omega)
  refine fldL_eq (by rw [hdrL_len hf]; omega) rfl (fun i h1 h2 => ?_)
  unfold hdrL
  rw [sealL_get (hdrH_len hf) (octL_length _ (by omega)) i (.inr (by omega))]
  unfold hdrH
  rw [splice_in _ _ _ (by simp [g2]) i h1 (by simp [ustarI]; omega)]
  rfl
theorem hdrL_text (k : Nat) (hk : k < 5) (b : Nat) (hb : b = tabTo k ∨ (b = tabTo k + 1 ∧ (k = 2 ∨ k = 3))) : textZ (fldL (hdrL name link pre user group typ mode uid gid size mtime) (tabFr k) b) = tabS name link pre user group k := by
  have g1 := textsH_length hf.tsize 5 (by omega)
  have ht : ∀ j, j < 5 → tabFr j < tabTo j ∧ tabTo j ≤ 500 := by decide
  obtain ⟨t1, t2⟩ := ht k hk
  have hs := hf.tsize k hk
  have hlen : (fldL (hdrL name link pre user group typ mode uid gid size mtime) (tabFr k) b).length = b - tabFr k := fldL_len (by rw [hdrL_len hf]; omega)
  refine textZ_of _ _ (by rw [hlen]; omega) (fun i hi => ?_) (fits_no0 (hf.texts k hk))
  rw [hlen] at hi
  rw [fldL_get _ _ _ _ hi]
  by_cases hlt : tabFr k + i < tabTo k
  · rw [hdrL_txt hf k hk (tabFr k + i) (by omega) hlt, Nat.add_sub_cancel_left]
  · have hb2 : b = tabTo k + 1 ∧ (k = 2 ∨ k = 3) := hb.resolve_left (by omega)
    have hi2 : tabFr k + i = tabTo k := by omega
    have hn : ∀ j, j < 5 → 100 ≤ numFr j ∧ numFr j + numWd j ≤ 148 := by decide
    have hv : tabTo k = 296 ∨ tabTo k = 328 := by rcases hb2.2 with rfl | rfl <;> decide
    have hz : ∀ i, i = 296 ∨ i = 328 → ∀ j, j < 5 → i < tabFr j ∨ tabTo j ≤ i := by
      intro i hi
      rcases hi with rfl | rfl <;> decide
    rw [hi2, hdrL_at hf _ (by omega) (by omega) (by omega), numsH_out g1 _ _ _ _ _ 5 (by omega) _ (fun j hj => by have := hn j hj; omega), textsH_zero hf.tsize 5 (by omega) _ (by omega) (hz _ hv)]
    have hns : ¬ i < (tabS name link pre user group k).size := by omega
    simp [txAt, hns]
theorem decV_hdrL : decV (hdrL name link pre user group typ mode uid gid size mtime) = (⟨1, name, link, pre, user, group, typ, mode, uid, gid, size, mtime⟩, 0) := by
  have n0 := hdrL_numQ hf 0 (by omega)
  have n1 := hdrL_numQ hf 1 (by omega)
  have n2 := hdrL_numQ hf 2 (by omega)
  have n3 := hdrL_numQ hf 3 (by omega)
  have n4 := hdrL_numQ hf 4 (by omega)
  have t0 : textZ (fldL (hdrL name link pre user group typ mode uid gid size mtime) 0 100) = name := hdrL_text hf 0 (by omega) 100 (.inl rfl)
  have t1 : textZ (fldL (hdrL name link pre user group typ mode uid gid size mtime) 157 257) = link := hdrL_text hf 1 (by omega) 257 (.inl rfl)
  have t2 : textZ (fldL (hdrL name link pre user group typ mode uid gid size mtime) 265 297) = user := hdrL_text hf 2 (by omega) 297 (.inr ⟨rfl, .inl rfl⟩)
  have t3 : textZ (fldL (hdrL name link pre user group typ mode uid gid size mtime) 297 329) = group := hdrL_text hf 3 (by omega) 329 (.inr ⟨rfl, .inr rfl⟩)
  have t4 : textZ (fldL (hdrL name link pre user group typ mode uid gid size mtime) 345 500) = pre := hdrL_text hf 4 (by omega) 500 (.inl rfl)
  have hm := hdrL_mag hf
  have ty : (hdrL name link pre user group typ mode uid gid size mtime).getD 156 0 = typ := by rw [List.getD_eq_getElem?_getD, hdrL_typ hf]; rfl
  unfold decV
  rw [if_neg (by rw [hdrL_len hf]; simp), if_neg (by rw [hdrL_right hf]; decide), n0, n1, n2, n3, n4, t0, t1, t2, t3, t4, hm, ty]
  simp [numN]
end
end Go.Proofs.YtpbpfngichfgeaaGreatDoor
