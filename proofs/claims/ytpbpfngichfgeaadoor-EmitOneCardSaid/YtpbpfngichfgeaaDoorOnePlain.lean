/-
  Several texts in one: YtpbpfngichfgeaaDoorHdrOne, YtpbpfngichfgeaaDoorFitsSpec, YtpbpfngichfgeaaDoorPaxP0, YtpbpfngichfgeaaDoorPaxPA, YtpbpfngichfgeaaDoorOneP.
-/
import Derived.Test.YtpbpfngichfgeaaDoorEnc
import Derived.Lib.IndexLaws
import Derived.Laws.CopyOwn
import Derived.Test.YtpbpfngichfgeaaDoorSplit
import Derived.Test.YtpbpfngichfgeaaDoorUtil
import Derived.Lib.ItoaLen
import Derived.Lib.Atoi
import Derived.Test.YtpbpfngichfgeaaDoorPaxEnc
import Derived.Lib.IndexBytes
import Derived.Lib.ItoaMem
namespace Go.Proofs.YtpbpfngichfgeaaDoor
set_option linter.unusedVariables false
set_option linter.unusedSectionVars false
set_option linter.unusedSimpArgs false
open Go Go.RowKit
theorem splice_get {α : Type} (L : List α) (off : Nat) (cs : List α) (h : off ≤ L.length) (i : Nat) :
    (splice L off cs)[i]? = if i < off then L[i]? else if i < off + cs.length then cs[i - off]? else L[i]? := by
  unfold splice
  by_cases h1 : i < off
  · rw [if_pos h1, List.getElem?_append_left (by simp; omega), List.getElem?_take, if_pos h1]
  · rw [if_neg h1, List.getElem?_append_right (by simp; omega)]
    have e : i - (List.take off L).length = i - off := by simp; omega
    rw [e]
    by_cases h2 : i < off + cs.length
    · rw [if_pos h2, List.getElem?_append_left (by omega)]
    · rw [if_neg h2, List.getElem?_append_right (by omega), List.getElem?_drop]
      congr 1; omega
theorem octD_one : ∀ (d : Nat) (n m : Int), 0 ≤ n → n < 8 ^ d → 0 ≤ m → m < 8 ^ d → octD d n = octD d m → n = m
  | 0, n, m, h0, h1, g0, g1, _ => by simp at h1 g1; omega
  | d + 1, n, m, h0, h1, g0, g1, h => by
    simp only [octD] at h
    obtain ⟨a, b⟩ := List.append_inj' h rfl
    have b' : 48 + n % 8 = 48 + m % 8 := by simpa using b
    have p : (8 : Int) ^ (d + 1) = 8 ^ d * 8 := by rw [Int.pow_succ]
    have := octD_one d (n / 8) (m / 8) (by omega) (by omega) (by omega) (by omega) a
    omega
theorem octL_one (n m : Int) (w : Nat) (h : octFits n w) (g : octFits m w) (e : octL n w = octL m w) : n = m :=
  octD_one _ n m h.1 h.2 g.1 g.2 (List.append_cancel_right e)
/-- A text's byte at a place of a field that is filled up with bytes 0. -/
def txAt (s : ByteArray) (i : Nat) : Int := if h : i < s.size then ((s[i]'h).toNat : Int) else 0
theorem txt_one {a b : ByteArray} {N : Nat} (ha : ∀ i, (h : i < a.size) → (a[i]'h).toNat ≠ 0) (hb : ∀ i, (h : i < b.size) → (b[i]'h).toNat ≠ 0) (na : a.size ≤ N) (nb : b.size ≤ N) (h : ∀ i, i < N → txAt a i = txAt b i) : a = b := by
  have key : ∀ {a b : ByteArray}, (∀ i, (h : i < a.size) → (a[i]'h).toNat ≠ 0) → a.size ≤ N → (∀ i, i < N → txAt a i = txAt b i) → a.size ≤ b.size := by
    intro a b ha na h
    rcases Nat.lt_or_ge b.size a.size with hl | hl
    · have h1 := h b.size (by omega)
      unfold txAt at h1
      rw [dif_pos hl, dif_neg (by omega)] at h1
      exact absurd (by exact_mod_cast h1) (ha _ hl)
    · exact hl
  have e : a.size = b.size := Nat.le_antisymm (key ha na h) (key hb nb (fun i hi => (h i hi).symm))
  apply ByteArray.ext_getElem e
  intro i h1 h2
  have h3 := h i (by omega)
  unfold txAt at h3
  rw [dif_pos h1, dif_pos h2] at h3
  exact UInt8.toNat_inj.1 (by exact_mod_cast h3)
theorem splice_out {α : Type} (L : List α) (off : Nat) (cs : List α) (h : off ≤ L.length) (i : Nat) (hi : i < off ∨ off + cs.length ≤ i) : (splice L off cs)[i]? = L[i]? := by
  rw [splice_get L off cs h i]
  rcases hi with hi | hi
  · rw [if_pos hi]
  · rw [if_neg (by omega), if_neg (by omega)]
theorem splice_in {α : Type} (L : List α) (off : Nat) (cs : List α) (h : off ≤ L.length) (i : Nat) (h1 : off ≤ i) (h2 : i < off + cs.length) : (splice L off cs)[i]? = cs[i - off]? := by
  rw [splice_get L off cs h i, if_neg (by omega), if_pos h2]
theorem strI_get (s : ByteArray) (i : Nat) (h : i < s.size) : (strI s)[i]? = some (txAt s i) := by
  unfold strI txAt
  rw [dif_pos h, List.getElem?_map]
  have hl : i < s.data.toList.length := by simpa using h
  rw [List.getElem?_eq_getElem hl]
  simp [ByteArray.getElem_eq_getElem_data]
/-- A text's field, in what the texts have written so far. -/
theorem field_get (L : List Int) (off N : Nat) (s : ByteArray) (hL : L.length = 512) (hN : off + N ≤ 512) (hs : s.size ≤ N) (h0 : ∀ i, off ≤ i → i < off + N → L[i]? = some 0) (i : Nat) (h1 : off ≤ i) (h2 : i < off + N) :
    (splice L off (strI s))[i]? = some (txAt s (i - off)) := by
  by_cases h : i < off + s.size
  · rw [splice_in L off _ (by omega) i h1 (by rw [strI_length]; exact h), strI_get s _ (by omega)]
  · rw [splice_out L off _ (by omega) i (.inr (by rw [strI_length]; omega)), h0 i h1 h2]
    unfold txAt
    rw [dif_neg (by omega)]
section
variable {name link pre user group : ByteArray} (hs : ∀ k, k < 5 → (tabS name link pre user group k).size ≤ tabTo k - tabFr k)
include hs
/-- Where no text up to so far stands, there is a 0. -/
theorem textsH_zero : ∀ k, k ≤ 5 → ∀ i, i < 512 → (∀ j, j < k → i < tabFr j ∨ tabTo j ≤ i) → (textsH name link pre user group k)[i]? = some 0
  | 0, _, i, hi, _ => by rw [textsH, List.getElem?_replicate, if_pos hi]
  | k + 1, hk, i, hi, hj => by
    have hl := textsH_length hs k (by omega)
    have hb : tabFr k ≤ 512 ∧ tabFr k ≤ tabTo k := by
      have : ∀ k, k < 5 → tabFr k ≤ 512 ∧ tabFr k ≤ tabTo k := by decide
      exact this k (by omega)
    have hsk := hs k (by omega)
    rw [textsH, splice_out _ _ _ (by omega) i (by rw [strI_length]; rcases hj k (by omega) with h | h; exact .inl h; exact .inr (by omega))]
    exact textsH_zero k (by omega) i hi (fun j h => hj j (by omega))
theorem textsH_at : ∀ n k, n + (k + 1) = 5 → ∀ m, m ≤ n → ∀ i, tabFr k ≤ i → i < tabTo k → (textsH name link pre user group (k + 1 + m))[i]? = some (txAt (tabS name link pre user group k) (i - tabFr k)) := by
  intro n k hn m
  have hap' : ∀ a, a < 5 → ∀ b, b < 5 → a ≠ b → tabTo a ≤ tabFr b ∨ tabTo b ≤ tabFr a := by decide
  have hap : ∀ a b, a < 5 → b < 5 → a ≠ b → tabTo a ≤ tabFr b ∨ tabTo b ≤ tabFr a := fun a b ha hb => hap' a ha b hb
  have hb : ∀ k, k < 5 → tabFr k ≤ tabTo k ∧ tabTo k ≤ 512 := by decide
  induction m with
  | zero =>
    intro _ i h1 h2
    have hk := hb k (by omega)
    refine field_get _ (tabFr k) (tabTo k - tabFr k) _ (textsH_length hs k (by omega)) (by omega) (hs k (by omega)) ?_ i h1 (by omega)
    intro i g1 g2
    refine textsH_zero hs k (by omega) i (by omega) (fun j hj => ?_)
    rcases hap j k (by omega) (by omega) (by omega) with h | h
    · exact .inr (by omega)
    · exact .inl (by omega)
  | succ m ih =>
    intro hm i h1 h2
    have hl := textsH_length hs (k + 1 + m) (by omega)
    have hk := hb (k + 1 + m) (by omega)
    have hsk := hs (k + 1 + m) (by omega)
    show (splice (textsH name link pre user group (k + 1 + m)) (tabFr (k + 1 + m)) (strI (tabS name link pre user group (k + 1 + m))))[i]? = _
    rw [splice_out _ _ _ (by omega) i ?_]
    · exact ih (by omega) i h1 h2
    · rw [strI_length]
      rcases hap k (k + 1 + m) (by omega) (by omega) (by omega) with h | h
      · exact .inl (by omega)
      · exact .inr (by omega)
theorem textsH_five (k : Nat) (hk : k < 5) (i : Nat) (h1 : tabFr k ≤ i) (h2 : i < tabTo k) : (textsH name link pre user group 5)[i]? = some (txAt (tabS name link pre user group k) (i - tabFr k)) := by
  have := textsH_at hs (4 - k) k (by omega) (4 - k) (Nat.le_refl _) i h1 h2
  rw [show k + 1 + (4 - k) = 5 by omega] at this
  exact this
end
section
variable {H0 : List Int} (hH : H0.length = 512) (mode uid gid size mtime : Int)
include hH
theorem num_len (k : Nat) (hk : k < 5) : (octL (numN mode uid gid size mtime k) (numWd k)).length = numWd k := by
  have h : ∀ k, k < 5 → 1 ≤ numWd k := by decide
  exact octL_length _ (h k hk)
theorem numsH_out : ∀ k, k ≤ 5 → ∀ i, (∀ j, j < k → i < numFr j ∨ numFr j + numWd j ≤ i) → (numsH H0 mode uid gid size mtime k)[i]? = H0[i]?
  | 0, _, i, _ => rfl
  | k + 1, hk, i, hj => by
    have hl := numsH_length hH mode uid gid size mtime k (by omega)
    have hb : ∀ k, k < 5 → numFr k ≤ 512 := by decide
    have := hb k (by omega)
    rw [numsH, splice_out _ _ _ (by omega) i (by rw [num_len hH _ _ _ _ _ k (by omega)]; exact hj k (by omega))]
    exact numsH_out k (by omega) i (fun j h => hj j (by omega))
theorem numsH_at (n k : Nat) (hn : n + (k + 1) = 5) : ∀ m, m ≤ n → ∀ i, numFr k ≤ i → i < numFr k + numWd k → (numsH H0 mode uid gid size mtime (k + 1 + m))[i]? = (octL (numN mode uid gid size mtime k) (numWd k))[i - numFr k]? := by
  intro m
  have hap' : ∀ a, a < 5 → ∀ b, b < 5 → a ≠ b → numFr a + numWd a ≤ numFr b ∨ numFr b + numWd b ≤ numFr a := by decide
  have hb : ∀ k, k < 5 → numFr k + numWd k ≤ 512 := by decide
  induction m with
  | zero =>
    intro _ i h1 h2
    have hl := numsH_length hH mode uid gid size mtime k (by omega)
    have hk := hb k (by omega)
    show (splice _ _ _)[i]? = _
    rw [splice_in _ _ _ (by omega) i h1 (by rw [num_len hH _ _ _ _ _ k (by omega)]; exact h2)]
  | succ m ih =>
    intro hm i h1 h2
    have hl := numsH_length hH mode uid gid size mtime (k + 1 + m) (by omega)
    have hk := hb (k + 1 + m) (by omega)
    show (splice (numsH H0 mode uid gid size mtime (k + 1 + m)) (numFr (k + 1 + m)) (octL (numN mode uid gid size mtime (k + 1 + m)) (numWd (k + 1 + m))))[i]? = _
    rw [splice_out _ _ _ (by omega) i ?_]
    · exact ih (by omega) i h1 h2
    · rw [num_len hH _ _ _ _ _ (k + 1 + m) (by omega)]
      rcases hap' k (by omega) (k + 1 + m) (by omega) (by omega) with h | h
      · exact .inl (by omega)
      · exact .inr (by omega)
theorem numsH_five (k : Nat) (hk : k < 5) (i : Nat) (h1 : numFr k ≤ i) (h2 : i < numFr k + numWd k) : (numsH H0 mode uid gid size mtime 5)[i]? = (octL (numN mode uid gid size mtime k) (numWd k))[i - numFr k]? := by
  have := numsH_at hH mode uid gid size mtime (4 - k) k (by omega) (4 - k) (Nat.le_refl _) i h1 h2
  rw [show k + 1 + (4 - k) = 5 by omega] at this
  exact this
end
theorem sealL_get {H F : List Int} (hH : H.length = 512) (hF : F.length = 7) (i : Nat) (hi : i < 148 ∨ 156 ≤ i) : (sealL H F)[i]? = H[i]? := by
  unfold sealL
  rcases hi with h | h
  · rw [List.getElem?_append_left (by simp; omega), List.getElem?_take, if_pos h]
  · rw [List.getElem?_append_right (by simp; omega), List.getElem?_append_right (by simp; omega), List.getElem?_drop]
    congr 1
    simp; omega
section
variable {name link pre user group : ByteArray} {typ mode uid gid size mtime : Int} (hf : HdrFits name link pre user group typ mode uid gid size mtime)
include hf
theorem hdrH_len : (hdrH name link pre user group typ mode uid gid size mtime).length = 512 := by
  have h1 := textsH_length hf.tsize 5 (by omega)
  have h2 := numsH_length h1 mode uid gid size mtime 5 (by omega)
  unfold hdrH
  rw [length_splice _ _ _ (by simp [h2, ustarI])]
  simpa using h2
theorem hdrL_at (i : Nat) (h0 : i ≠ 156) (h1 : i < 257 ∨ 265 ≤ i) (h2 : i < 148 ∨ 156 ≤ i) : (hdrL name link pre user group typ mode uid gid size mtime)[i]? = (numsH (textsH name link pre user group 5) mode uid gid size mtime 5)[i]? := by
  have g1 := textsH_length hf.tsize 5 (by omega)
  have g2 := numsH_length g1 mode uid gid size mtime 5 (by omega)
  unfold hdrL
  rw [sealL_get (hdrH_len hf) (octL_length _ (by omega)) i h2]
  unfold hdrH
  rw [splice_out _ _ _ (by simp [g2]) i (by simpa [ustarI] using h1), List.getElem?_set_ne (by omega)]
theorem hdrL_typ : (hdrL name link pre user group typ mode uid gid size mtime)[156]? = some typ := by
  have g1 := textsH_length hf.tsize 5 (by omega)
  have g2 := numsH_length g1 mode uid gid size mtime 5 (by omega)
  unfold hdrL
  rw [sealL_get (hdrH_len hf) (octL_length _ (by omega)) 156 (.inr (by omega))]
  unfold hdrH
  rw [splice_out _ _ _ (by simp [g2]) 156 (.inl (by omega)), List.getElem?_set_self (by omega)]
theorem hdrL_txt (k : Nat) (hk : k < 5) (i : Nat) (h1 : tabFr k ≤ i) (h2 : i < tabTo k) : (hdrL name link pre user group typ mode uid gid size mtime)[i]? = some (txAt (tabS name link pre user group k) (i - tabFr k)) := by
  have g1 := textsH_length hf.tsize 5 (by omega)
  have ht : ∀ k, k < 5 → (156 < tabFr k ∧ 265 ≤ tabFr k ∨ tabTo k ≤ 100 ∨ 157 ≤ tabFr k ∧ tabTo k ≤ 257) ∧ tabTo k ≤ 512 := by decide
  have hn : ∀ j, j < 5 → 100 ≤ numFr j ∧ numFr j + numWd j ≤ 148 := by decide
  have q := ht k hk
  rw [hdrL_at hf i (by omega) (by omega) (by omega), numsH_out g1 _ _ _ _ _ 5 (by omega) i (fun j hj => by have := hn j hj; omega)]
  exact textsH_five hf.tsize k hk i h1 h2
theorem hdrL_num (k : Nat) (hk : k < 5) (i : Nat) (h1 : numFr k ≤ i) (h2 : i < numFr k + numWd k) : (hdrL name link pre user group typ mode uid gid size mtime)[i]? = (octL (numN mode uid gid size mtime k) (numWd k))[i - numFr k]? := by
  have g1 := textsH_length hf.tsize 5 (by omega)
  have hn : ∀ j, j < 5 → 100 ≤ numFr j ∧ numFr j + numWd j ≤ 148 := by decide
  have q := hn k hk
  rw [hdrL_at hf i (by omega) (by omega) (by omega)]
  exact numsH_five g1 _ _ _ _ _ k hk i h1 h2
end
theorem fits_no0 {s : ByteArray} {m : Int} (h : POct.head_Fits.f s m = some true) : ∀ i, (hi : i < s.size) → (s[i]'hi).toNat ≠ 0 := by
  intro i hi h0
  unfold POct.head_Fits.f POct.strings_Contains.f at h
  split at h
  · rw [if_pos rfl, Option.bind_some] at h
    have h1 : has0 s = false := by simpa using h
    unfold has0 at h1
    rw [decide_eq_false_iff_not] at h1
    have hge := Lib.indexByte_ge s.data.toList 0
    have hl : i < s.data.toList.length := by simpa using hi
    refine absurd ?_ (Lib.indexByte_none (show Lib.indexByte s.data.toList 0 = -1 by omega) i)
    rw [List.getElem?_eq_getElem hl]
    congr 1
    apply UInt8.toNat_inj.1
    have e : s[i]'hi = s.data.toList[i]'hl := by simp [ByteArray.getElem_eq_getElem_data]
    rw [← e, h0]; rfl
  · simp at h
/-- A header's bytes tell its fields. -/
theorem hdrL_one {name link pre user group : ByteArray} {typ mode uid gid size mtime : Int} {name' link' pre' user' group' : ByteArray} {typ' mode' uid' gid' size' mtime' : Int}
    (f : HdrFits name link pre user group typ mode uid gid size mtime) (f' : HdrFits name' link' pre' user' group' typ' mode' uid' gid' size' mtime')
    (h : hdrL name link pre user group typ mode uid gid size mtime = hdrL name' link' pre' user' group' typ' mode' uid' gid' size' mtime') :
    (∀ k, k < 5 → tabS name link pre user group k = tabS name' link' pre' user' group' k) ∧ typ = typ' ∧ ∀ k, k < 5 → numN mode uid gid size mtime k = numN mode' uid' gid' size' mtime' k := by
  refine ⟨fun k hk => ?_, ?_, fun k hk => ?_⟩
  · have hb : ∀ k, k < 5 → tabFr k ≤ tabTo k := by decide
    have := hb k hk
    refine txt_one (fits_no0 (f.texts k hk)) (fits_no0 (f'.texts k hk)) (f.tsize k hk) (f'.tsize k hk) (fun i hi => ?_)
    have h1 := hdrL_txt f k hk (tabFr k + i) (by omega) (by omega)
    have h2 := hdrL_txt f' k hk (tabFr k + i) (by omega) (by omega)
    rw [h, h2, show tabFr k + i - tabFr k = i by omega] at h1
    exact (Option.some.inj h1).symm
  · have h1 := hdrL_typ f
    rw [h, hdrL_typ f'] at h1
    exact (Option.some.inj h1).symm
  · refine octL_one _ _ _ (f.nums k hk) (f'.nums k hk) (List.ext_getElem? fun i => ?_)
    have hw : ∀ k, k < 5 → 1 ≤ numWd k := by decide
    have l1 := octL_length (numN mode uid gid size mtime k) (hw k hk)
    have l2 := octL_length (numN mode' uid' gid' size' mtime' k) (hw k hk)
    by_cases hi : i < numWd k
    · have h1 := hdrL_num f k hk (numFr k + i) (by omega) (by omega)
      have h2 := hdrL_num f' k hk (numFr k + i) (by omega) (by omega)
      rw [h, h2, show numFr k + i - numFr k = i by omega] at h1
      exact h1.symm
    · rw [List.getElem?_eq_none (by omega), List.getElem?_eq_none (by omega)]
theorem hdrL_length {name link pre user group : ByteArray} {typ mode uid gid size mtime : Int} (f : HdrFits name link pre user group typ mode uid gid size mtime) : (hdrL name link pre user group typ mode uid gid size mtime).length = 512 := by
  unfold hdrL sealL
  have h1 := hdrH_len f
  have h2 := octL_length (psum (hdrH name link pre user group typ mode uid gid size mtime) 512) (w := 7) (by omega)
  simp [h1, h2]
end Go.Proofs.YtpbpfngichfgeaaDoor

namespace Go.Proofs.YtpbpfngichfgeaaDoor
set_option linter.unusedVariables false
set_option linter.unusedSimpArgs false
open Go Go.RowKit Go.Proofs.YtpbpfngichfgeaaDoorW.PrintWords
theorem wrapS (n : Int) (h : -9223372036854775808 ≤ n ∧ n ≤ 9223372036854775807) : wrap64 n = n := by unfold wrap64; omega
/-- What head.Split answers. -/
def SplitIs (p : ByteArray) (r : ByteArray × ByteArray × Bool) : Prop :=
  r = (⟨#[]⟩, ⟨#[]⟩, false) ∨ (has0 p = false ∧ ((p.size ≤ 100 ∧ r = (⟨#[]⟩, p, true)) ∨ ∃ i : Nat, 0 < i ∧ i ≤ 155 ∧ i + 1 < p.size ∧ p.size ≤ i + 101 ∧ bt p i = 47 ∧ r = (p.extract 0 i, p.extract (i + 1) p.size, true)))
theorem split_l0 (p : ByteArray) (hp : p.size ≤ 5000) (h0 : has0 p = false) (K : Nat) : ∀ m i, i + m = p.size → ∃ r, POct.head_Split.l0 (K + 2 * m + 1) p (p.size : Int) (i : Nat) = some r ∧ SplitIs p r
  | 0, i, hi => ⟨_, by rw [POct.head_Split.l0, if_neg (by omega)], .inl rfl⟩
  | m + 1, i, hi => by
    obtain ⟨r, hr, hs⟩ := split_l0 p hp h0 K m (i + 1) (by omega)
    have w1 : wrap64 ((i : Int) + 1) = ((i + 1 : Nat) : Int) := by rw [wrapS _ (by omega)]; omega
    have w2 : wrap64 ((p.size : Int) - i) = (p.size : Int) - i := wrapS _ (by omega)
    have w3 : wrap64 ((p.size : Int) - i - 1) = (p.size : Int) - i - 1 := wrapS _ (by omega)
    have w4 : wrap64 ((p.size : Int) - 1) = (p.size : Int) - 1 := wrapS _ (by omega)
    have e : K + 2 * (m + 1) + 1 = (K + 2 * m + 1 + 1) + 1 := by omega
    have hn : ∀ x, POct.head_Split.j2 (K + 2 * m + 1 + 1) p x (p.size : Int) (i : Int) true = some r := by
      intro x
      rw [POct.head_Split.j2, if_pos rfl, w1]
      exact hr
    rw [e, POct.head_Split.l0, if_pos (by omega), if_pos (by omega), if_pos (by omega), w2, w3, w4]
    by_cases hb : bt p i = 47
    · rw [if_pos hb]
      by_cases hz : (i : Int) = 0
      · rw [if_pos hz]; exact ⟨r, hn _, hs⟩
      · rw [if_neg hz]
        by_cases hl : (p.size : Int) - i - 1 > 100
        · rw [if_pos hl]; exact ⟨r, hn _, hs⟩
        · rw [if_neg hl]
          by_cases he : (i : Int) = (p.size : Int) - 1
          · rw [show ((i : Int) == (p.size : Int) - 1) = true by simpa using he]; exact ⟨r, hn _, hs⟩
          · rw [show ((i : Int) == (p.size : Int) - 1) = false by simpa using he, POct.head_Split.j2, if_neg (by decide), w1]
            by_cases h5 : (i : Int) > 155
            · rw [if_pos h5]; exact ⟨_, rfl, .inl rfl⟩
            · rw [if_neg h5, if_pos (by omega), if_pos (by omega), if_pos (by omega), if_pos (by omega)]
              exact ⟨_, rfl, .inr ⟨h0, .inr ⟨i, by omega, by omega, by omega, by omega, hb, by simp⟩⟩⟩
    · rw [if_neg hb]; exact ⟨r, hn _, hs⟩
theorem split_spec (p : ByteArray) (hp : p.size ≤ 5000) : ∃ r, POct.head_Split.f (2 * p.size + 10) p = some r ∧ SplitIs p r := by
  have e : 2 * p.size + 10 = (8 + 2 * p.size + 1) + 1 := by omega
  unfold POct.head_Split.f POct.strings_Contains.f
  by_cases h : p.toList = []
  · rw [if_pos h, e, POct.head_Split.j0, if_pos rfl]
    exact ⟨_, rfl, .inl rfl⟩
  · rw [if_neg h, if_pos rfl, Option.bind_some, e, POct.head_Split.j0]
    cases h0 : has0 p with
    | true => exact ⟨_, by rw [if_pos rfl], .inl rfl⟩
    | false =>
      rw [if_neg (by decide)]
      by_cases h1 : (p.size : Int) ≤ 100
      · rw [if_pos h1]; exact ⟨_, rfl, .inr ⟨h0, .inl ⟨by omega, rfl⟩⟩⟩
      · rw [if_neg h1]
        exact split_l0 p hp h0 8 p.size 0 (by omega)
theorem has0_iff (s : ByteArray) : has0 s = true ↔ (0 : UInt8) ∈ s.data.toList := by
  unfold has0
  rw [decide_eq_true_eq]
  have hge := Lib.indexByte_ge s.data.toList 0
  constructor
  · intro h
    obtain ⟨o, ho⟩ : ∃ o : Nat, Lib.indexByte s.data.toList 0 = o := ⟨(Lib.indexByte s.data.toList 0).toNat, by omega⟩
    exact List.mem_of_getElem? (Lib.indexByte_some ho).1
  · intro hx
    rcases (by omega : 0 ≤ Lib.indexByte s.data.toList 0 ∨ Lib.indexByte s.data.toList 0 = -1) with h1 | h1
    · exact h1
    · obtain ⟨k, hk, e⟩ := List.getElem_of_mem hx
      exact absurd (by rw [List.getElem?_eq_getElem hk, e]) (Lib.indexByte_none h1 k)
theorem has0_extract {s : ByteArray} (h : has0 s = false) (a b : Nat) : has0 (s.extract a b) = false := by
  cases hq : has0 (s.extract a b) with
  | false => rfl
  | true =>
    rw [has0_iff] at hq
    have : (0 : UInt8) ∈ s.data.toList := by
      have h2 : (s.extract a b).data = s.data.extract a b := by simp
      rw [h2] at hq
      rw [Array.toList_extract, List.extract_eq_take_drop] at hq
      exact List.mem_of_mem_drop (List.mem_of_mem_take hq)
    rw [(has0_iff s).2 this] at h
    cases h
theorem tv_fits (s : ByteArray) (m : Nat) : fitsT (tv s m) m = true := by
  unfold tv
  split
  · assumption
  · simp only [fitsT, Bool.and_eq_true, decide_eq_true_eq, Bool.not_eq_true']
    exact ⟨Nat.zero_le _, by decide⟩
theorem nv_fits (n : Int) (w : Nat) (hw : 1 ≤ w) (h : fitsN n w = true → octFits n w) : octFits (nv n w) w := by
  unfold nv
  split
  · rename_i q; exact h q
  · refine ⟨by omega, ?_⟩
    exact Int.pow_pos (by omega)
theorem split_name {p pr nm : ByteArray} {b : Bool} (h : SplitIs p (pr, nm, b)) : fitsT (if b then nm else ⟨#[108, 111, 110, 103]⟩) 100 = true ∧ fitsT (if b then pr else ⟨#[]⟩) 155 = true := by
  rcases h with h | ⟨h0, ⟨h1, h⟩ | ⟨i, hi0, hi1, hi2, hi3, hi4, h⟩⟩
  · simp only [Prod.mk.injEq] at h
    obtain ⟨rfl, rfl, rfl⟩ := h
    exact ⟨by decide, by decide⟩
  · simp only [Prod.mk.injEq] at h
    obtain ⟨rfl, rfl, rfl⟩ := h
    refine ⟨?_, by decide⟩
    simp only [if_true, fitsT, h0, Bool.and_eq_true, decide_eq_true_eq, Bool.not_false, and_true]
    exact h1
  · simp only [Prod.mk.injEq] at h
    obtain ⟨rfl, rfl, rfl⟩ := h
    have s1 : (p.extract (i + 1) p.size).size ≤ 100 := by rw [ByteArray.size_extract]; omega
    have s2 : (p.extract 0 i).size ≤ 155 := by rw [ByteArray.size_extract]; omega
    simp only [if_true, fitsT, has0_extract h0, Bool.and_eq_true, decide_eq_true_eq, Bool.not_false, and_true]
    exact ⟨s1, s2⟩
theorem main_fits {p pr nm : ByteArray} {b : Bool} (h : SplitIs p (pr, nm, b)) (link user group : ByteArray) {typ md : Int} (uid gid sz mt : Int) (ht : 0 ≤ typ) (ht2 : typ < 256) (hm : 0 ≤ md) (hm2 : md ≤ 4095) :
    HdrFits (if b then nm else ⟨#[108, 111, 110, 103]⟩) (tv link 100) (if b then pr else ⟨#[]⟩) (tv user 31) (tv group 31) typ md (nv uid 8) (nv gid 8) (nv sz 12) (nv mt 12) := by
  obtain ⟨n1, n2⟩ := split_name h
  have fn : ∀ n w, fitsN n w = true → octFits n w := fun n w h => by
    unfold fitsN at h
    exact of_decide_eq_true (p := 0 ≤ n ∧ n < 8 ^ (w - 1)) h
  refine ⟨fun k hk => ?_, fun k hk => ?_, ht, ht2⟩
  · rcases (by omega : k = 0 ∨ k = 1 ∨ k = 2 ∨ k = 3 ∨ k = 4) with rfl | rfl | rfl | rfl | rfl
    · exact (fits_t _ 100).trans (congrArg some n1)
    · exact (fits_t _ 100).trans (congrArg some (tv_fits link 100))
    · exact (fits_t _ 31).trans (congrArg some (tv_fits user 31))
    · exact (fits_t _ 31).trans (congrArg some (tv_fits group 31))
    · exact (fits_t _ 155).trans (congrArg some n2)
  · rcases (by omega : k = 0 ∨ k = 1 ∨ k = 2 ∨ k = 3 ∨ k = 4) with rfl | rfl | rfl | rfl | rfl
    · exact ⟨hm, Int.lt_of_le_of_lt hm2 (by decide)⟩
    · exact nv_fits _ _ (by decide) (fn _ _)
    · exact nv_fits _ _ (by decide) (fn _ _)
    · exact nv_fits _ _ (by decide) (fn _ _)
    · exact nv_fits _ _ (by decide) (fn _ _)
end Go.Proofs.YtpbpfngichfgeaaDoor

namespace Go.Proofs.YtpbpfngichfgeaaDoor

def lenN (n : Nat) : Nat := let d := (Lib.itoa (n : Int)).length; if d < (Lib.itoa ((n + d : Nat) : Int)).length then n + (d + 1) else n + d
/-- What is checked of each length that a record's text may have. -/
def lenOk (n : Nat) : Bool :=
  let L := lenN n
  let t := Lib.itoa (L : Int)
  decide (t.length + n = L) && (Lib.atoi t == some (L : Int)) && t.all (fun b => 48 ≤ b.toNat && b.toNat ≤ 57) && decide (t.length ≤ 5) && decide (1 ≤ t.length) && (t.foldl (fun (a : Nat) b => 10 * a + (b.toNat - 48)) 0 == L)
theorem lenOk_all : (List.range 4100).all lenOk = true := by decide +kernel
theorem lenOk_at {n : Nat} (h : n < 4100) : lenOk n = true := List.all_eq_true.1 lenOk_all n (List.mem_range.2 h)
end Go.Proofs.YtpbpfngichfgeaaDoor

namespace Go.Proofs.YtpbpfngichfgeaaDoor
set_option linter.unusedVariables false
set_option linter.unusedSimpArgs false

theorem lenOf_nat (k v : ByteArray) : lenOf k v = (lenN (k.size + v.size + 3) : Nat) := by
  have e : ((k.size : Int) + v.size + 3) = ((k.size + v.size + 3 : Nat) : Int) := by omega
  simp only [lenOf, lenN, itoaS_size, e]
  have e2 : (((k.size + v.size + 3 : Nat) : Int) + ((Lib.itoa ((k.size + v.size + 3 : Nat) : Int)).length : Int)) = ((k.size + v.size + 3 + (Lib.itoa ((k.size + v.size + 3 : Nat) : Int)).length : Nat) : Int) := by omega
  rw [e2]
  by_cases h : (Lib.itoa ((k.size + v.size + 3 : Nat) : Int)).length < (Lib.itoa ((k.size + v.size + 3 + (Lib.itoa ((k.size + v.size + 3 : Nat) : Int)).length : Nat) : Int)).length
  · rw [if_pos h, if_pos (by omega)]; omega
  · rw [if_neg h, if_neg (by omega)]

theorem indexByte_at {a r : List UInt8} {c : UInt8} (h : ∀ b ∈ a, b ≠ c) : Lib.indexByte (a ++ c :: r) c = a.length := by
  induction a with
  | nil => simp [Lib.indexByte]
  | cons b a ih =>
    have hb : (b == c) = false := by rw [beq_eq_false_iff_ne]; exact h b (by simp)
    have := ih (fun x hx => h x (by simp [hx]))
    have h2 : ((a.length : Int) == -1) = false := by rw [beq_eq_false_iff_ne]; omega
    simp only [List.cons_append, Lib.indexByte, hb, this, h2, Bool.false_eq_true, if_false, List.length_cons]
    omega
theorem cut_at {a r : List UInt8} {c : UInt8} (h : ∀ b ∈ a, b ≠ c) : Lib.cut (a ++ c :: r) [c] = (a, r, true) := by
  unfold Lib.cut
  rw [Lib.index_one, indexByte_at h, if_pos (by omega)]
  simp
structure LenFacts (n : Nat) (L : Nat) : Prop where
  len : (Lib.itoa (L : Int)).length + n = L
  atoi : Lib.atoi (Lib.itoa (L : Int)) = some (L : Int)
  dig : ∀ b ∈ Lib.itoa (L : Int), 48 ≤ b.toNat ∧ b.toNat ≤ 57
  le : (Lib.itoa (L : Int)).length ≤ 5
  pos : 1 ≤ (Lib.itoa (L : Int)).length
  val : (Lib.itoa (L : Int)).foldl (fun (a : Nat) b => 10 * a + (b.toNat - 48)) 0 = L
theorem lenFacts {n : Nat} (h : n < 4100) : LenFacts n (lenN n) := by
  have := lenOk_at h
  simp only [lenOk, Bool.and_eq_true, decide_eq_true_eq, beq_iff_eq, List.all_eq_true] at this
  obtain ⟨⟨⟨⟨⟨a, b⟩, c⟩, d⟩, e⟩, f⟩ := this
  exact ⟨a, b, fun x hx => by simpa using c x hx, d, e, f⟩
theorem chk_zero {k v : ByteArray} (h : chkOf k v = 0) : k ≠ ⟨#[]⟩ ∧ badKey k = false ∧ k.size + v.size ≤ 4096 := by
  unfold chkOf at h
  split at h
  · omega
  · split at h
    · omega
    · split at h
      · omega
      · rename_i a b c
        exact ⟨a, by simpa using b, by omega⟩
theorem badKey_not {k : ByteArray} (h : badKey k = false) : ∀ b ∈ k.data.toList, b ≠ 61 ∧ b ≠ 0 ∧ b ≠ 10 := by
  intro b hb
  simp only [badKey, List.any_eq_false] at h
  have := h b hb
  simpa [and_assoc] using this

theorem recT_list (k v : ByteArray) (n : Nat) (hn : n = k.size + v.size + 3) : (recT k v).data.toList = Lib.itoa (lenN n : Nat) ++ 32 :: (k.data.toList ++ 61 :: (v.data.toList ++ [10])) := by
  subst hn
  simp only [recT, itoaS, lenOf_nat, ByteArray.data_append, Array.toList_append]
  simp
theorem bytes_ext {a b : ByteArray} (h : a.data.toList = b.data.toList) : a = b := by
  obtain ⟨⟨x⟩⟩ := a
  obtain ⟨⟨y⟩⟩ := b
  simp at h
  rw [h]
end Go.Proofs.YtpbpfngichfgeaaDoor

namespace Go.Proofs.YtpbpfngichfgeaaDoor
set_option linter.unusedVariables false
set_option linter.unusedSimpArgs false
open Go Go.RowKit Go.Proofs.YtpbpfngichfgeaaDoorW.PrintWords

theorem dig_nat (d : Nat) (h : d < 10) : (UInt8.ofNat (48 + d)).toNat = 48 + d := by
  rw [UInt8.toNat_ofNat']; omega
theorem decDigits_ge (u : Nat) : ∀ b ∈ Lib.decDigits u, 48 ≤ b.toNat := by
  induction u using Nat.strongRecOn with
  | ind u ih =>
    intro b hb
    rw [Lib.decDigits] at hb
    split at hb
    · rename_i h
      rw [List.mem_singleton.1 hb, dig_nat u h]; omega
    · rename_i h
      rcases List.mem_append.1 hb with h1 | h1
      · exact ih (u / 10) (by omega) b h1
      · rw [List.mem_singleton.1 h1, dig_nat _ (Nat.mod_lt _ (by omega))]; omega
theorem decDigits_len (u : Nat) : 1 ≤ (Lib.decDigits u).length := by rw [Lib.decDigits_length]; exact Lib.nDigits_pos u
theorem decDigits_one (u : Nat) : ∀ v, Lib.decDigits u = Lib.decDigits v → u = v := by
  induction u using Nat.strongRecOn with
  | ind u ih =>
    intro v h
    rw [Lib.decDigits, Lib.decDigits.eq_def v] at h
    have l1 := decDigits_len (u / 10)
    have l2 := decDigits_len (v / 10)
    split at h <;> split at h
    · rename_i a b
      have e := congrArg UInt8.toNat (List.head_eq_of_cons_eq h)
      rw [dig_nat u a, dig_nat v b] at e; omega
    · have := congrArg List.length h
      simp only [List.length_append, List.length_cons, List.length_nil] at this; omega
    · have := congrArg List.length h
      simp only [List.length_append, List.length_cons, List.length_nil] at this; omega
    · rename_i a b
      obtain ⟨e1, e2⟩ := List.append_inj' h rfl
      have h1 := ih (u / 10) (by omega) _ e1
      have e := congrArg UInt8.toNat (List.head_eq_of_cons_eq e2)
      rw [dig_nat _ (Nat.mod_lt _ (by omega)), dig_nat _ (Nat.mod_lt _ (by omega))] at e; omega
theorem itoa_one {n m : Int} (h : Lib.itoa n = Lib.itoa m) : n = m := by
  unfold Lib.itoa at h
  split at h <;> split at h
  · have := decDigits_one _ _ (List.tail_eq_of_cons_eq h); omega
  · have hm : (45 : UInt8) ∈ Lib.decDigits m.toNat := by rw [← h]; simp
    have := decDigits_ge _ _ hm
    simp at this
  · have hm : (45 : UInt8) ∈ Lib.decDigits n.toNat := by rw [h]; simp
    have := decDigits_ge _ _ hm
    simp at this
  · have := decDigits_one _ _ h; omega
theorem itoaS_one {n m : Int} (h : itoaS n = itoaS m) : n = m := by
  refine itoa_one ?_
  have := congrArg (fun s : ByteArray => s.data.toList) h
  simpa [itoaS] using this

theorem split_one {a a' r r' : List UInt8} {c : UInt8} (h : ∀ b ∈ a, b ≠ c) (h' : ∀ b ∈ a', b ≠ c) (e : a ++ c :: r = a' ++ c :: r') : a = a' ∧ r = r' := by
  have h1 := cut_at (r := r) h
  rw [e, cut_at h'] at h1
  simp only [Prod.mk.injEq] at h1
  exact ⟨h1.1.symm, h1.2.1.symm⟩
/-- A record's bytes tell its key and its value, and what stands behind. -/
theorem rec_one {k v k' v' : ByteArray} {r r' : List UInt8} (h : chkOf k v = 0) (h' : chkOf k' v' = 0) (e : (recT k v).data.toList ++ r = (recT k' v').data.toList ++ r') : k = k' ∧ v = v' ∧ r = r' := by
  obtain ⟨h1, h2, h3⟩ := chk_zero h
  obtain ⟨g1, g2, g3⟩ := chk_zero h'
  rw [recT_list k v _ rfl, recT_list k' v' _ rfl] at e
  have f := lenFacts (n := k.size + v.size + 3) (by omega)
  have f' := lenFacts (n := k'.size + v'.size + 3) (by omega)
  generalize lenN (k.size + v.size + 3) = L at e f
  generalize lenN (k'.size + v'.size + 3) = L' at e f'
  have d32 : ∀ b ∈ Lib.itoa (L : Int), b ≠ 32 := fun b hb he => by have := f.dig b hb; rw [he] at this; simp at this
  have d32' : ∀ b ∈ Lib.itoa (L' : Int), b ≠ 32 := fun b hb he => by have := f'.dig b hb; rw [he] at this; simp at this
  simp only [List.append_assoc, List.cons_append, List.nil_append] at e
  obtain ⟨e1, e2⟩ := split_one d32 d32' e
  have hL : L = L' := by have := itoa_one e1; omega
  have l1 := f.len
  have l2 := f'.len
  rw [e1] at l1
  obtain ⟨e3, e4⟩ := split_one (fun b hb => (badKey_not h2 b hb).1) (fun b hb => (badKey_not g2 b hb).1) e2
  obtain rfl := bytes_ext e3
  have hv : v.data.toList.length = v'.data.toList.length := by
    have := Lib.size_eq v
    have := Lib.size_eq v'
    omega
  obtain ⟨e5, e6⟩ := List.append_inj e4 hv
  exact ⟨rfl, bytes_ext e5, List.tail_eq_of_cons_eq e6⟩
theorem recT_pos (k v : ByteArray) : (recT k v).data.toList ≠ [] := by
  intro h
  have := congrArg List.length h
  rw [← Lib.size_eq] at this
  simp only [recT, ByteArray.size_append] at this
  have e : (⟨#[32]⟩ : ByteArray).size = 1 := rfl
  rw [e] at this
  simp at this
theorem encL_cons (r : Rec) (l : List Rec) : encL (r :: l) = (recT r.1 r.2).data.toList ++ encL l := by simp [encL]
/-- The records' bytes tell the records. -/
theorem encL_one : ∀ (L L' : List Rec), chkL L = 0 → chkL L' = 0 → encL L = encL L' → L = L'
  | [], [], _, _, _ => rfl
  | [], r :: l, _, _, h => by
    rw [encL_cons] at h
    exact absurd (List.append_eq_nil_iff.1 h.symm).1 (recT_pos _ _)
  | r :: l, [], _, _, h => by
    rw [encL_cons] at h
    exact absurd (List.append_eq_nil_iff.1 h).1 (recT_pos _ _)
  | r :: l, r' :: l', h, h', e => by
    rw [encL_cons, encL_cons] at e
    have c1 : chkOf r.1 r.2 = 0 ∧ chkL l = 0 := by
      rw [chkL] at h
      split at h
      · rename_i q; exact ⟨q, h⟩
      · rename_i q; exact absurd h q
    have c2 : chkOf r'.1 r'.2 = 0 ∧ chkL l' = 0 := by
      rw [chkL] at h'
      split at h'
      · rename_i q; exact ⟨q, h'⟩
      · rename_i q; exact absurd h' q
    obtain ⟨e1, e2, e3⟩ := rec_one c1.1 c2.1 e
    rw [encL_one l l' c1.2 c2.2 e3, Prod.ext e1 e2]

/-- A path is what head.Split made of it. -/
theorem split_path {p pr nm : ByteArray} (h : SplitIs p (pr, nm, true)) : p.data.toList = if pr.size = 0 then nm.data.toList else pr.data.toList ++ 47 :: nm.data.toList := by
  rcases h with h | ⟨h0, ⟨h1, h⟩ | ⟨i, hi0, hi1, hi2, hi3, hi4, h⟩⟩
  · simp at h
  · simp only [Prod.mk.injEq] at h
    obtain ⟨rfl, rfl, _⟩ := h
    rw [if_pos (show (⟨#[]⟩ : ByteArray).size = 0 from rfl)]
  · simp only [Prod.mk.injEq] at h
    obtain ⟨rfl, rfl, _⟩ := h
    have s2 : (p.extract 0 i).size = i := by rw [ByteArray.size_extract]; omega
    rw [if_neg (by omega)]
    have hl : i < p.data.toList.length := by rw [← Lib.size_eq]; omega
    have hb : p.data.toList[i] = 47 := by
      have e := bt_at p (i : Int) (by simpa using (by omega : i < p.size))
      rw [hi4] at e
      have e2 : p[(i : Int).toNat]'(by simpa using (by omega : i < p.size)) = p.data.toList[i] := by simp [ByteArray.getElem_eq_getElem_data]
      rw [e2] at e
      have e3 : p.data.toList[i].toNat = 47 := by omega
      exact UInt8.toNat_inj.1 (by rw [e3]; rfl)
    have e1 : (p.extract 0 i).data.toList = p.data.toList.take i := by simp [ByteArray.data_extract, Array.toList_extract, List.extract_eq_take_drop]
    have e2 : (p.extract (i + 1) p.size).data.toList = p.data.toList.drop (i + 1) := by
      simp only [ByteArray.data_extract, Array.toList_extract, List.extract_eq_take_drop]
      exact List.take_of_length_le (by rw [List.length_drop, ← Lib.size_eq]; omega)
    rw [e1, e2, ← hb, ← List.drop_eq_getElem_cons hl, List.take_append_drop]
theorem split_path_one {p p' pr nm : ByteArray} (h : SplitIs p (pr, nm, true)) (h' : SplitIs p' (pr, nm, true)) : p = p' := bytes_ext ((split_path h).trans (split_path h').symm)

theorem findM_app : ∀ (A B : List KV) (k : ByteArray), findM (A ++ B) k = (findM A k).or (findM B k)
  | [], B, k => by simp [findM]
  | x :: A, B, k => by
    simp only [List.cons_append, findM]
    split
    · rfl
    · exact findM_app A B k
theorem recsK_find (L : List KV) : ∀ n, n ≤ 8 → ∀ j, j < 8 → findM (recsK L n) (sKey j) = if j < n then findM L (sKey j) else none
  | 0, _, j, _ => rfl
  | n + 1, hn, j, hj => by
    have hk : ∀ a, a < 8 → ∀ b, b < 8 → a ≠ b → sKey a ≠ sKey b := by decide
    rw [recsK, findM_app, recsK_find L n (by omega) j hj]
    rcases Nat.lt_trichotomy j n with h | h | h
    · rw [if_pos h, if_pos (by omega)]
      cases hf : findM L (sKey n) with
      | none => simp [findM]
      | some v => simp [findM, hk n (by omega) j hj (by omega)]
    · subst h
      rw [if_neg (by omega), if_pos (by omega)]
      cases hf : findM L (sKey j) <;> simp [findM]
    · rw [if_neg (by omega), if_neg (by omega)]
      cases hf : findM L (sKey n) with
      | none => simp [findM]
      | some v => simp [findM, hk n (by omega) j hj (by omega)]
theorem findM_mem : ∀ (L : List KV) (k v : ByteArray), findM L k = some v → (k, v) ∈ L
  | [], _, _, h => by cases h
  | x :: L, k, v, h => by
    rw [findM] at h
    split at h
    · rename_i q
      have := Option.some.inj h
      rw [show (k, v) = x from Prod.ext q.symm this.symm]; simp
    · exact List.mem_cons_of_mem _ (findM_mem L k v h)
theorem recsK_mem (L : List KV) : ∀ n, ∀ x ∈ recsK L n, x ∈ L ∧ ∃ j, j < n ∧ x.1 = sKey j
  | 0, x, hx => by cases hx
  | n + 1, x, hx => by
    rw [recsK] at hx
    rcases List.mem_append.1 hx with h | h
    · obtain ⟨a, j, hj, e⟩ := recsK_mem L n x h
      exact ⟨a, j, by omega, e⟩
    · cases hf : findM L (sKey n) with
      | none => rw [hf] at h; cases h
      | some v =>
        rw [hf] at h
        obtain rfl := List.mem_singleton.1 h
        exact ⟨findM_mem _ _ _ hf, n, by omega, rfl⟩
/-- What doesn't fit of an entry, by its keys. -/
def lEnt (p l u g : ByteArray) (b : Bool) (uid gid sz mt : Int) : List KV := lN (lT (if b then [] else [(⟨#[112, 97, 116, 104]⟩, p)]) l u g 3) uid gid sz mt 4
def pF (p : ByteArray) (b : Bool) (key : ByteArray) : Option ByteArray := if b = true then none else if (⟨#[112, 97, 116, 104]⟩ : ByteArray) = key then some p else none
def tF (l u g key : ByteArray) (k : Nat) : Option ByteArray := if fitsT (tS l u g k) (tMost k) = true then none else if tKey k = key then some (tS l u g k) else none
def nF (uid gid sz mt : Int) (key : ByteArray) (k : Nat) : Option ByteArray := if fitsN (nN uid gid sz mt k) (nWd k) = true then none else if nKey k = key then some (itoaS (nN uid gid sz mt k)) else none
theorem lT_find (l0 : List KV) (l u g key : ByteArray) (k : Nat) : findM (lT l0 l u g (k + 1)) key = (findM (lT l0 l u g k) key).or (tF l u g key k) := by
  rw [lT, tF]
  split
  · simp
  · rw [findM_app]; simp only [findM]
theorem lN_find (l0 : List KV) (uid gid sz mt : Int) (key : ByteArray) (k : Nat) : findM (lN l0 uid gid sz mt (k + 1)) key = (findM (lN l0 uid gid sz mt k) key).or (nF uid gid sz mt key k) := by
  rw [lN, nF]
  split
  · simp
  · rw [findM_app]; simp only [findM]
theorem lEnt_find (p l u g : ByteArray) (b : Bool) (uid gid sz mt : Int) (key : ByteArray) : findM (lEnt p l u g b uid gid sz mt) key = (((((((pF p b key).or (tF l u g key 0)).or (tF l u g key 1)).or (tF l u g key 2)).or (nF uid gid sz mt key 0)).or (nF uid gid sz mt key 1)).or (nF uid gid sz mt key 2)).or (nF uid gid sz mt key 3) := by
  rw [lEnt, lN_find, lN_find, lN_find, lN_find, lN, lT_find, lT_find, lT_find, lT]
  have e : findM (if b = true then [] else [(⟨#[112, 97, 116, 104]⟩, p)]) key = pF p b key := by
    unfold pF; split <;> simp only [findM]
  rw [e]
theorem pF_ne {p : ByteArray} {b : Bool} {key : ByteArray} (h : (⟨#[112, 97, 116, 104]⟩ : ByteArray) ≠ key) : pF p b key = none := by unfold pF; rw [if_neg h, ite_self]
theorem tF_ne {l u g key : ByteArray} {k : Nat} (h : tKey k ≠ key) : tF l u g key k = none := by unfold tF; rw [if_neg h, ite_self]
theorem nF_ne {uid gid sz mt : Int} {key : ByteArray} {k : Nat} (h : nKey k ≠ key) : nF uid gid sz mt key k = none := by unfold nF; rw [if_neg h, ite_self]
section
variable (p l u g : ByteArray) (b : Bool) (uid gid sz mt : Int)
theorem lEnt_path : findM (lEnt p l u g b uid gid sz mt) ⟨#[112, 97, 116, 104]⟩ = if b = true then none else some p := by
  rw [lEnt_find, tF_ne (by decide), tF_ne (by decide), tF_ne (by decide), nF_ne (by decide), nF_ne (by decide), nF_ne (by decide), nF_ne (by decide)]
  simp only [Option.or_none]
  unfold pF; rw [if_pos rfl]
theorem lEnt_t (k : Nat) (hk : k < 3) : findM (lEnt p l u g b uid gid sz mt) (tKey k) = if fitsT (tS l u g k) (tMost k) = true then none else some (tS l u g k) := by
  have e : tF l u g (tKey k) k = if fitsT (tS l u g k) (tMost k) = true then none else some (tS l u g k) := by unfold tF; rw [if_pos rfl]
  rw [lEnt_find, ← e, nF_ne (k := 0) (by have : ∀ k, k < 3 → nKey 0 ≠ tKey k := by decide
                                         exact this k hk), nF_ne (k := 1) (by have : ∀ k, k < 3 → nKey 1 ≠ tKey k := by decide
                                                                              exact this k hk), nF_ne (k := 2) (by have : ∀ k, k < 3 → nKey 2 ≠ tKey k := by decide
                                                                                                                   exact this k hk), nF_ne (k := 3) (by have : ∀ k, k < 3 → nKey 3 ≠ tKey k := by decide
                                                                                                                                                        exact this k hk)]
  rcases (by omega : k = 0 ∨ k = 1 ∨ k = 2) with rfl | rfl | rfl
  · rw [pF_ne (by decide), tF_ne (k := 1) (by decide), tF_ne (k := 2) (by decide)]
    simp only [Option.or_none, Option.none_or]
  · rw [pF_ne (by decide), tF_ne (k := 0) (by decide), tF_ne (k := 2) (by decide)]
    simp only [Option.or_none, Option.none_or]
  · rw [pF_ne (by decide), tF_ne (k := 0) (by decide), tF_ne (k := 1) (by decide)]
    simp only [Option.or_none, Option.none_or]
theorem lEnt_n (k : Nat) (hk : k < 4) : findM (lEnt p l u g b uid gid sz mt) (nKey k) = if fitsN (nN uid gid sz mt k) (nWd k) = true then none else some (itoaS (nN uid gid sz mt k)) := by
  have e : nF uid gid sz mt (nKey k) k = if fitsN (nN uid gid sz mt k) (nWd k) = true then none else some (itoaS (nN uid gid sz mt k)) := by unfold nF; rw [if_pos rfl]
  rw [lEnt_find, ← e]
  rcases (by omega : k = 0 ∨ k = 1 ∨ k = 2 ∨ k = 3) with rfl | rfl | rfl | rfl
  · rw [pF_ne (by decide), tF_ne (k := 0) (by decide), tF_ne (k := 1) (by decide), tF_ne (k := 2) (by decide), nF_ne (k := 1) (by decide), nF_ne (k := 2) (by decide), nF_ne (k := 3) (by decide)]
    simp only [Option.or_none, Option.none_or]
  · rw [pF_ne (by decide), tF_ne (k := 0) (by decide), tF_ne (k := 1) (by decide), tF_ne (k := 2) (by decide), nF_ne (k := 0) (by decide), nF_ne (k := 2) (by decide), nF_ne (k := 3) (by decide)]
    simp only [Option.or_none, Option.none_or]
  · rw [pF_ne (by decide), tF_ne (k := 0) (by decide), tF_ne (k := 1) (by decide), tF_ne (k := 2) (by decide), nF_ne (k := 0) (by decide), nF_ne (k := 1) (by decide), nF_ne (k := 3) (by decide)]
    simp only [Option.or_none, Option.none_or]
  · rw [pF_ne (by decide), tF_ne (k := 0) (by decide), tF_ne (k := 1) (by decide), tF_ne (k := 2) (by decide), nF_ne (k := 0) (by decide), nF_ne (k := 1) (by decide), nF_ne (k := 2) (by decide)]
    simp only [Option.or_none, Option.none_or]
/-- The values of what doesn't fit. -/
theorem lT_val (l0 : List KV) : ∀ k, k ≤ 3 → ∀ x ∈ lT l0 l u g k, x ∈ l0 ∨ ∃ j, j < 3 ∧ x.2 = tS l u g j
  | 0, _, x, hx => .inl hx
  | k + 1, hk, x, hx => by
    rw [lT] at hx
    split at hx
    · exact lT_val l0 k (by omega) x hx
    · rcases List.mem_append.1 hx with h | h
      · exact lT_val l0 k (by omega) x h
      · exact .inr ⟨k, by omega, by rw [List.mem_singleton.1 h]⟩
theorem lN_val (l0 : List KV) : ∀ k, k ≤ 4 → ∀ x ∈ lN l0 uid gid sz mt k, x ∈ l0 ∨ ∃ j, j < 4 ∧ x.2 = itoaS (nN uid gid sz mt j)
  | 0, _, x, hx => .inl hx
  | k + 1, hk, x, hx => by
    rw [lN] at hx
    split at hx
    · exact lN_val l0 k (by omega) x hx
    · rcases List.mem_append.1 hx with h | h
      · exact lN_val l0 k (by omega) x h
      · exact .inr ⟨k, by omega, by rw [List.mem_singleton.1 h]⟩
theorem recs_small (hp : p.size ≤ 5000) (hl : l.size ≤ 5000) (hu : u.size ≤ 5000) (hg : g.size ≤ 5000) (hn : ∀ j, j < 4 → -9223372036854775808 ≤ nN uid gid sz mt j ∧ nN uid gid sz mt j ≤ 9223372036854775807) :
    ∀ x ∈ recsK (lEnt p l u g b uid gid sz mt) 8, x.1.size ≤ 1000000 ∧ x.2.size ≤ 1000000 := by
  intro x hx
  obtain ⟨hm, j, hj, hkey⟩ := recsK_mem _ 8 x hx
  refine ⟨?_, ?_⟩
  · rw [hkey]
    have : ∀ j, j < 8 → (sKey j).size ≤ 1000000 := by decide
    exact this j hj
  · rcases lN_val uid gid sz mt _ 4 (Nat.le_refl _) x hm with h | ⟨i, hi, h⟩
    · rcases lT_val l u g _ 3 (Nat.le_refl _) x h with h | ⟨i, hi, h⟩
      · split at h
        · cases h
        · rw [List.mem_singleton.1 h]; show p.size ≤ _; omega
      · rw [h]
        rcases (by omega : i = 0 ∨ i = 1 ∨ i = 2) with rfl | rfl | rfl
        · show l.size ≤ _; omega
        · show u.size ≤ _; omega
        · show g.size ≤ _; omega
    · rw [h]
      have := itoaS_le (nN uid gid sz mt i) (hn i hi).1 (hn i hi).2
      omega
end
theorem text_one {a c : ByteArray} {m : Nat} (h : (if fitsT a m = true then none else some a) = (if fitsT c m = true then none else some c)) (e : tv a m = tv c m) : a = c := by
  unfold tv at e
  by_cases h1 : fitsT a m = true <;> by_cases h2 : fitsT c m = true
  · rw [if_pos h1, if_pos h2] at e; exact e
  · rw [if_pos h1, if_neg h2] at h; cases h
  · rw [if_neg h1, if_pos h2] at h; cases h
  · rw [if_neg h1, if_neg h2] at h; exact Option.some.inj h
theorem num_one {a c : Int} {m : Nat} (h : (if fitsN a m = true then none else some (itoaS a)) = (if fitsN c m = true then none else some (itoaS c))) (e : nv a m = nv c m) : a = c := by
  unfold nv at e
  by_cases h1 : fitsN a m = true <;> by_cases h2 : fitsN c m = true
  · rw [if_pos h1, if_pos h2] at e; exact e
  · rw [if_pos h1, if_neg h2] at h; cases h
  · rw [if_neg h1, if_pos h2] at h; cases h
  · rw [if_neg h1, if_neg h2] at h; exact itoaS_one (Option.some.inj h)
/-- Equal records and equal header fields: equal entries (but for kind and mode). -/
theorem parts_one {p l u g p' l' u' g' pr nm pr' nm' : ByteArray} {b b' : Bool} {uid gid sz mt uid' gid' sz' mt' : Int} (h : SplitIs p (pr, nm, b)) (h' : SplitIs p' (pr', nm', b'))
    (hr : recsK (lEnt p l u g b uid gid sz mt) 8 = recsK (lEnt p' l' u' g' b' uid' gid' sz' mt') 8)
    (hn : (if b then nm else ⟨#[108, 111, 110, 103]⟩) = (if b' then nm' else ⟨#[108, 111, 110, 103]⟩)) (hp : (if b then pr else ⟨#[]⟩) = (if b' then pr' else ⟨#[]⟩))
    (hl : tv l 100 = tv l' 100) (hu : tv u 31 = tv u' 31) (hg : tv g 31 = tv g' 31) (h1 : nv uid 8 = nv uid' 8) (h2 : nv gid 8 = nv gid' 8) (h3 : nv sz 12 = nv sz' 12) (h4 : nv mt 12 = nv mt' 12) :
    p = p' ∧ l = l' ∧ u = u' ∧ g = g' ∧ uid = uid' ∧ gid = gid' ∧ sz = sz' ∧ mt = mt' := by
  have hf : ∀ j, j < 8 → findM (lEnt p l u g b uid gid sz mt) (sKey j) = findM (lEnt p' l' u' g' b' uid' gid' sz' mt') (sKey j) := by
    intro j hj
    have e1 := recsK_find (lEnt p l u g b uid gid sz mt) 8 (Nat.le_refl _) j hj
    have e2 := recsK_find (lEnt p' l' u' g' b' uid' gid' sz' mt') 8 (Nat.le_refl _) j hj
    rw [hr] at e1
    rw [if_pos hj] at e1 e2
    exact e1.symm.trans e2
  have ft : ∀ k, k < 3 → (if fitsT (tS l u g k) (tMost k) = true then none else some (tS l u g k)) = (if fitsT (tS l' u' g' k) (tMost k) = true then none else some (tS l' u' g' k)) := by
    intro k hk
    rw [← lEnt_t p l u g b uid gid sz mt k hk, ← lEnt_t p' l' u' g' b' uid' gid' sz' mt' k hk]
    rcases (by omega : k = 0 ∨ k = 1 ∨ k = 2) with rfl | rfl | rfl
    · exact hf 2 (by omega)
    · exact hf 7 (by omega)
    · exact hf 1 (by omega)
  have fn : ∀ k, k < 4 → (if fitsN (nN uid gid sz mt k) (nWd k) = true then none else some (itoaS (nN uid gid sz mt k))) = (if fitsN (nN uid' gid' sz' mt' k) (nWd k) = true then none else some (itoaS (nN uid' gid' sz' mt' k))) := by
    intro k hk
    rw [← lEnt_n p l u g b uid gid sz mt k hk, ← lEnt_n p' l' u' g' b' uid' gid' sz' mt' k hk]
    rcases (by omega : k = 0 ∨ k = 1 ∨ k = 2 ∨ k = 3) with rfl | rfl | rfl | rfl
    · exact hf 6 (by omega)
    · exact hf 0 (by omega)
    · exact hf 5 (by omega)
    · exact hf 3 (by omega)
  have fp := hf 4 (by omega)
  rw [show sKey 4 = ⟨#[112, 97, 116, 104]⟩ from rfl, lEnt_path, lEnt_path] at fp
  refine ⟨?_, text_one (ft 0 (by omega)) hl, text_one (ft 1 (by omega)) hu, text_one (ft 2 (by omega)) hg, num_one (fn 0 (by omega)) h1, num_one (fn 1 (by omega)) h2, num_one (fn 2 (by omega)) h3, num_one (fn 3 (by omega)) h4⟩
  cases b <;> cases b'
  · exact Option.some.inj fp
  · cases fp
  · cases fp
  · obtain rfl : nm = nm' := hn
    obtain rfl : pr = pr' := hp
    exact split_path_one h h'
end Go.Proofs.YtpbpfngichfgeaaDoor
