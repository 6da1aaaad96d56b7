/-
  octal numbers: what octal.Format computes, digit by digit.
-/
import Derived.Test.YtpbpfngichfgeaaGreatDoorPOctx1
namespace Go.Proofs.YtpbpfngichfgeaaGreatDoor
set_option linter.unusedVariables false
set_option linter.unusedSimpArgs false
open Go Go.RowKit Go.Proofs.YtpbpfngichfgeaaGreatDoorW.PrintWords Go.Proofs.YtpbpfngichfgeaaGreatDoorW.PrintLast Go.Proofs.YtpbpfngichfgeaaGreatDoorW.PrintMore

/-- So many octal digits of a number, and a byte 0. -/
def octD : Nat → Int → List Int
  | 0, _ => []
  | d + 1, n => octD d (n / 8) ++ [48 + n % 8]
def octL (n : Int) (w : Nat) : List Int := octD (w - 1) n ++ [0]
theorem octD_length : ∀ d n, (octD d n).length = d
  | 0, _ => rfl
  | d + 1, n => by simp [octD, octD_length d]
theorem octL_length (n : Int) {w : Nat} (h : 1 ≤ w) : (octL n w).length = w := by simp [octL, octD_length]; omega
theorem octD_range : ∀ d n, ∀ x ∈ octD d n, 48 ≤ x ∧ x < 56
  | 0, _ => by simp [octD]
  | d + 1, n => by
    intro x hx
    rcases List.mem_append.1 hx with h | h
    · exact octD_range d _ x h
    · rw [List.mem_singleton.1 h]; omega
theorem octL_range (n : Int) (w : Nat) : ∀ x ∈ octL n w, 0 ≤ x ∧ x < 256 := by
  intro x hx
  rcases List.mem_append.1 hx with h | h
  · have := octD_range _ _ x h; omega
  · rw [List.mem_singleton.1 h]; omega
/-- May a number stand in a field? -/
def octFits (n : Int) (w : Nat) : Prop := 0 ≤ n ∧ n < 8 ^ (w - 1)
theorem digits_l0 (K : Nat) : ∀ (d : Nat) (n : Int) (x : Int), 0 ≤ n → n < 8 ^ (d + 1) → 1 ≤ x → x + d ≤ 1000 → n ≤ 9223372036854775807 → ∃ r, POct.octal_digits.l0 (d + 1 + K) n x = some r ∧ r ≤ x + d
  | 0, n, x, h0, h1, hx, hxd, hm => by
    refine ⟨x, ?_, by omega⟩
    have e : 0 + 1 + K = K + 1 := by omega
    rw [e]
    simp only [POct.octal_digits.l0]
    rw [if_neg (by simp at h1; omega)]
  | d + 1, n, x, h0, h1, hx, hxd, hm => by
    have e : d + 1 + 1 + K = (d + 1 + K) + 1 := by omega
    rw [e]
    simp only [POct.octal_digits.l0]
    by_cases h8 : n ≥ 8
    · rw [if_pos h8]
      have ht : Int.tdiv n 8 = n / 8 := Int.tdiv_eq_ediv_of_nonneg h0
      have hw : wrap64 (Int.tdiv n 8) = n / 8 := by rw [ht]; unfold wrap64; omega
      have hw2 : wrap64 (x + 1) = x + 1 := by unfold wrap64; omega
      have hp : n / 8 < 8 ^ (d + 1) := by
        have : (8 : Int) ^ (d + 1 + 1) = 8 ^ (d + 1) * 8 := Int.pow_succ _ _
        omega
      obtain ⟨r, hr, hle⟩ := digits_l0 K d (n / 8) (x + 1) (by omega) hp (by omega) (by omega) (by omega)
      exact ⟨r, by rw [hw, hw2]; exact hr, by omega⟩
    · exact ⟨x, by rw [if_neg h8], by omega⟩
def fitsN (n : Int) (w : Nat) : Bool := decide (0 ≤ n ∧ n < 8 ^ (w - 1))
theorem format_l0 (K : Nat) : ∀ (d : Nat) (n : Int) (pre suf : List Int), pre.length = d → 0 ≤ n → n ≤ 9223372036854775807 → d ≤ 100 →
    POct.octal_Format.l0 (d + 1 + K) n (pre ++ suf) (((d : Nat) : Int) - 1) = some (octD d n ++ suf, 0)
  | 0, n, pre, suf, hl, h0, hm, hd => by
    obtain rfl : pre = [] := List.length_eq_zero_iff.1 hl
    have e : 0 + 1 + K = K + 1 := by omega
    rw [e]
    simp only [POct.octal_Format.l0]
    rw [if_neg (by omega)]
    rfl
  | d + 1, n, pre, suf, hl, h0, hm, hd => by
    have e : d + 1 + 1 + K = (d + 1 + K) + 1 := by omega
    rw [e]
    simp only [POct.octal_Format.l0]
    obtain ⟨p, y, rfl⟩ : ∃ p y, pre = p ++ [y] := ⟨pre.dropLast, pre.getLast (by intro h; subst h; simp at hl), (List.dropLast_concat_getLast _).symm⟩
    have hp : p.length = d := by simp at hl; omega
    have ei : (((d + 1 : Nat) : Int) - 1) = (d : Nat) := by omega
    rw [ei, if_pos (by omega), if_pos (by omega), if_pos (by simp; omega)]
    have ht : Int.tdiv n 8 = n / 8 := Int.tdiv_eq_ediv_of_nonneg h0
    have hw : wrap64 (Int.tdiv n 8) = n / 8 := by rw [ht]; unfold wrap64; omega
    have hw2 : wrap64 ((d : Int) - 1) = (d : Int) - 1 := by unfold wrap64; omega
    have hq : (wrap64 (48 + Int.tmod n 8)) % 256 = 48 + n % 8 := by rw [Int.tmod_eq_emod_of_nonneg h0]; unfold wrap64; omega
    have hs : ((p ++ [y]) ++ suf).set d (48 + n % 8) = p ++ ((48 + n % 8) :: suf) := by
      rw [List.append_assoc, List.set_append]
      simp [hp]
    rw [hw, hw2, hq, Int.toNat_natCast, hs]
    have := format_l0 K d (n / 8) p ((48 + n % 8) :: suf) hp (by omega) (by omega) (by omega)
    rw [this]
    simp [octD, List.append_assoc]
theorem format_ok (n : Int) (w : Nat) (h2 : 2 ≤ w) (h24 : w ≤ 24) (hf : octFits n w) (hm : n ≤ 9223372036854775807) : ∃ k, POct.octal_Format.f k n (w : Int) = some (octL n w, 0) := by
  obtain ⟨h0, h1⟩ := hf
  refine ⟨w + 2, ?_⟩
  unfold POct.octal_Format.f
  rw [if_neg (by omega)]
  have hd : decide ((w : Int) > 24) = false := by simp; omega
  rw [hd]
  have e1 : w + 2 = (w + 1) + 1 := by omega
  rw [e1]
  simp only [POct.octal_Format.j0, Bool.false_eq_true, if_false]
  obtain ⟨r, hr, hle⟩ := digits_l0 2 (w - 2) n 1 h0 (by have : w - 2 + 1 = w - 1 := by omega
                                                        rw [this]; exact h1) (by omega) (by omega) hm
  have hr' : POct.octal_digits.l0 (w + 1) n 1 = some r := by
    have : w - 2 + 1 + 2 = w + 1 := by omega
    rw [← this]; exact hr
  have hft : POct.octal_Fits.f (w + 1) n (w : Int) = some true := by
    unfold POct.octal_Fits.f POct.octal_digits.f
    rw [if_pos (by omega), if_pos (by omega), hr']
    simp
    omega
  rw [hft]
  simp only [Option.bind_some, if_true]
  rw [if_pos (by omega), if_pos (by omega)]
  have hl := format_l0 1 (w - 1) n (List.replicate (w - 1) 0) [0] (by simp) h0 hm (by omega)
  have e2 : w - 1 + 1 + 1 = w + 1 := by omega
  have e3 : List.replicate (w - 1) (0 : Int) ++ [0] = List.replicate w 0 := by
    rw [← List.replicate_succ']
    congr 1
    omega
  have e4 : (((w - 1 : Nat) : Int) - 1) = wrap64 ((w : Int) - 2) := by unfold wrap64; omega
  rw [e2, e3, e4] at hl
  rw [Int.toNat_natCast, hl]
  rfl
end Go.Proofs.YtpbpfngichfgeaaGreatDoor
