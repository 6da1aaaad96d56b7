/-
  The plain law of numbers: the library's reading of a number, written again, and the document's, digit by digit, are one.
-/
import Derived.Test.YthmleoceakonjaaDoorRefNum
import Derived.Lib.ItoaMem
import Derived.Lib.ItoaNum
import Derived.Lib.ParseIntBCases
namespace Go.Proofs.YthmleoceakonjaaDoor
set_option linter.unusedVariables false
set_option linter.unusedSimpArgs false

def valD : List UInt8 → Nat → Option Nat
  | [], n => some n
  | b :: l, n => if 48 ≤ b.toNat ∧ b.toNat ≤ 57 then valD l (10 * n + (b.toNat - 48)) else none
theorem valD_ge {l : List UInt8} {n u : Nat} (h : valD l n = some u) : n ≤ u := by
  induction l generalizing n with
  | nil => simp [valD] at h; omega
  | cons b l ih =>
    rw [valD] at h
    split at h
    · have := ih h; omega
    · cases h
theorem valD_snoc (l : List UInt8) (b : UInt8) (n : Nat) : valD (l ++ [b]) n = (valD l n).bind fun m => if 48 ≤ b.toNat ∧ b.toNat ≤ 57 then some (10 * m + (b.toNat - 48)) else none := by
  induction l generalizing n with
  | nil => simp [valD]
  | cons c l ih =>
    simp only [List.cons_append, valD]
    split
    · exact ih _
    · rfl
theorem dig_toNat {d : Nat} (h : d < 10) : (UInt8.ofNat (48 + d)).toNat = 48 + d := by simp; omega
theorem valD_dec (u : Nat) : valD (Lib.decDigits u) 0 = some u := by
  induction u using Nat.strongRecOn with
  | _ u ih =>
    rw [Lib.decDigits]
    split
    · rename_i h
      simp only [valD, dig_toNat h]
      rw [if_pos (by omega)]
      simp
    · rename_i h
      rw [valD_snoc, ih (u / 10) (by omega)]
      simp only [Option.bind_some, dig_toNat (show u % 10 < 10 by omega)]
      rw [if_pos (by omega)]
      congr 1
      omega
theorem valD_pos {l : List UInt8} {n u : Nat} (h : valD l n = some u) (hn : 1 ≤ n) : 1 ≤ u := Nat.le_trans hn (valD_ge h)
theorem dec_of_val (u : Nat) : ∀ l : List UInt8, l ≠ [] → valD l 0 = some u → (l.getD 0 0 ≠ 48 ∨ l.length = 1) → l = Lib.decDigits u := by
  induction u using Nat.strongRecOn with
  | _ u ih =>
    intro l hne hu hh
    obtain ⟨l, b, rfl⟩ : ∃ l' b, l = l' ++ [b] := ⟨l.dropLast, l.getLast hne, (List.dropLast_concat_getLast hne).symm⟩
    rw [valD_snoc] at hu
    obtain ⟨m, hm, hu⟩ := Option.bind_eq_some_iff.1 hu
    split at hu
    · rename_i hb
      have hu := Option.some.inj hu
      have hbb : UInt8.ofNat b.toNat = b := by simp
      by_cases hl : l = []
      · subst hl
        simp [valD] at hm
        subst hm
        rw [Lib.decDigits, dif_pos (by omega)]
        have : 48 + u = b.toNat := by omega
        rw [this, hbb]
        rfl
      · have hg : (l ++ [b]).getD 0 0 = l.getD 0 0 := by
          cases l with
          | nil => exact absurd rfl hl
          | cons c l => rfl
        have hh2 : l.getD 0 0 ≠ 48 := by
          rcases hh with h | h
          · rwa [hg] at h
          · exfalso
            cases l with
            | nil => exact hl rfl
            | cons c l => simp at h
        have h1 : 1 ≤ m := by
          cases l with
          | nil => exact absurd rfl hl
          | cons c l =>
            rw [valD] at hm
            split at hm
            · rename_i hc
              refine valD_pos hm ?_
              simp only [List.getD_cons_zero] at hh2
              have : c.toNat ≠ 48 := fun h => hh2 (by apply UInt8.toNat_inj.1; rw [h]; rfl)
              omega
            · cases hm
        have := ih m (by omega) l hl hm (.inl hh2)
        rw [Lib.decDigits, dif_neg (by omega)]
        have e1 : u / 10 = m := by omega
        have e2 : 48 + u % 10 = b.toNat := by omega
        rw [e1, ← this, e2, hbb]
    · cases hu
theorem dec_ne (u : Nat) : Lib.decDigits u ≠ [] := by
  rw [Lib.decDigits]
  split
  · simp
  · simp
theorem dec_head (u : Nat) : (Lib.decDigits u).getD 0 0 ≠ 48 ∨ (Lib.decDigits u).length = 1 := by
  induction u using Nat.strongRecOn with
  | _ u ih =>
    rw [Lib.decDigits]
    split
    · right; rfl
    · rename_i h
      left
      have hg : (Lib.decDigits (u / 10) ++ [UInt8.ofNat (48 + u % 10)]).getD 0 0 = (Lib.decDigits (u / 10)).getD 0 0 := by
        have := dec_ne (u / 10)
        cases hd : Lib.decDigits (u / 10) with
        | nil => exact absurd hd this
        | cons c l => rfl
      rw [hg]
      rcases ih (u / 10) (by omega) with h1 | h1
      · exact h1
      · rw [Lib.decDigits] at h1 ⊢
        split at h1
        · rename_i h2
          rw [dif_pos h2]
          simp only [List.getD_cons_zero]
          intro h3
          have := congrArg UInt8.toNat h3
          rw [dig_toNat h2] at this
          simp at this
          omega
        · exfalso
          simp at h1
          exact dec_ne _ h1
theorem dec_len {u k : Nat} (h : u < 10 ^ (k + 1)) : (Lib.decDigits u).length ≤ k + 1 := by
  induction k generalizing u with
  | zero => rw [Lib.decDigits, dif_pos (by simpa using h)]; simp
  | succ k ih =>
    rw [Lib.decDigits]
    split
    · simp
    · rw [List.length_append]
      have := ih (u := u / 10) (by rw [Nat.pow_succ] at h; omega)
      simp
      omega
theorem parseM_val {M : Nat} (hM : M ≤ 18446744073709551615) (l : List UInt8) (n u : Nat) (h : valD l n = some u) (hu : u ≤ M) : Lib.parseUintM M n l = .ok u := by
  induction l generalizing n with
  | nil => simp [valD] at h; subst h; rfl
  | cons b l ih =>
    rw [valD] at h
    split at h
    · rename_i hb
      have := valD_ge h
      rw [Lib.parseUintM, if_pos hb, if_neg (by omega), if_neg (by omega)]
      have e : n * 10 + (b.toNat - 48) = 10 * n + (b.toNat - 48) := by omega
      rw [e]
      exact ih _ h
    · cases h
theorem goNum_val (l : List UInt8) (n : Nat) (hn : n ≤ 9223372036854775808) : goNum l (-(n : Int)) = (valD l n).bind fun u => if u ≤ 9223372036854775808 then some (-(u : Int)) else none := by
  induction l generalizing n with
  | nil => simp [goNum, valD, hn]
  | cons b l ih =>
    rw [goNum, valD]
    by_cases hb : 48 ≤ b.toNat ∧ b.toNat ≤ 57
    · rw [if_neg (by omega), if_pos hb]
      have hq := tdiv10 ((b.toNat : Int) - 48) (by omega) (by omega)
      by_cases hu : 10 * n + (b.toNat - 48) ≤ 9223372036854775808
      · rw [if_neg (by omega), ← ih _ hu]
        congr 1
        omega
      · rw [if_pos (by omega)]
        cases hv : valD l (10 * n + (b.toNat - 48)) with
        | none => rfl
        | some u =>
          have := valD_ge hv
          simp only [Option.bind_some]
          rw [if_neg (by omega)]
    · rw [if_pos (by omega), if_neg hb]
      rfl

theorem refDig_false {minus : Bool} {d : List UInt8} {v : Int} (h : refDig minus d = (v, false)) : v = 0 := by
  rw [refDig] at h
  repeat' split at h
  all_goals simp at h
  all_goals first | exact h.symm | exact h
theorem refNum_false {l : List UInt8} {v : Int} (h : refNum l = (v, false)) : v = 0 := by
  rw [refNum] at h
  split at h <;> exact refDig_false h
theorem refDig_itoa (minus : Bool) (u : Nat) (hu : u ≤ 9223372036854775808) (h : minus = true → u ≠ 0) (h2 : minus = false → u ≠ 9223372036854775808) : refDig minus (Lib.decDigits u) = (if minus = true then -(u : Int) else u, true) := by
  have hl : (Lib.decDigits u).length ≤ 19 := dec_len (k := 18) (by omega)
  have hg := goNum_val (Lib.decDigits u) 0 (by omega)
  rw [valD_dec] at hg
  simp only [Int.natCast_zero, Int.neg_zero, Option.bind_some, if_pos hu] at hg
  have hg' : goNum (Lib.decDigits u) 0 = some (-(u : Int)) := by simpa using hg
  rw [refDig, if_neg (dec_ne u), if_neg ?_, if_neg (by omega), hg']
  · simp only
    cases minus with
    | true => rfl
    | false =>
      have := h2 rfl
      rw [if_neg (by decide), if_neg (by omega), if_neg (by decide)]
      simp
  · rintro ⟨a, b⟩
    rcases dec_head u with c | c
    · exact c a
    · rcases b with b | b
      · omega
      · have hu0 := h b
        rw [Lib.decDigits] at a c
        split at a
        · rename_i h10
          simp only [List.getD_cons_zero] at a
          have := congrArg UInt8.toNat a
          rw [dig_toNat h10] at this
          simp at this
          omega
        · rename_i h10
          rw [dif_neg h10] at c
          simp at c
          exact dec_ne _ c
theorem refDig_true {minus : Bool} {d : List UInt8} {v : Int} (h : refDig minus d = (v, true)) : ∃ u : Nat, u ≤ 9223372036854775808 ∧ d = Lib.decDigits u ∧ v = (if minus = true then -(u : Int) else u) ∧ (minus = true → u ≠ 0) ∧ (minus = false → u ≠ 9223372036854775808) := by
  rw [refDig] at h
  split at h
  · cases h
  · rename_i h0
    split at h
    · cases h
    · rename_i h1
      split at h
      · cases h
      · have hg := goNum_val d 0 (by omega)
        have e0 : (-((0 : Nat) : Int)) = 0 := by omega
        rw [e0] at hg
        rw [hg] at h
        cases hv : valD d 0 with
        | none => rw [hv] at h; cases h
        | some u =>
          rw [hv] at h
          simp only [Option.bind_some] at h
          by_cases hu : u ≤ 9223372036854775808
          · rw [if_pos hu] at h
            simp only at h
            have hd := dec_of_val u d h0 hv (by
              rcases Classical.em (d.getD 0 0 = 48) with a | a
              · right
                have : ¬ 1 < d.length := fun b => h1 ⟨a, .inl b⟩
                have : d.length ≠ 0 := fun b => h0 (List.eq_nil_of_length_eq_zero b)
                omega
              · exact .inl a)
            refine ⟨u, hu, hd, ?_, ?_, ?_⟩
            · cases minus with
              | true => simp at h; simp [h]
              | false =>
                simp only [Bool.false_eq_true, if_false] at h ⊢
                split at h
                · cases h
                · simp at h; omega
            · intro hm h00
              subst hm h00
              apply h1
              rw [hd]
              exact ⟨by rw [Lib.decDigits]; rfl, .inr rfl⟩
            · intro hm h00
              subst hm h00
              simp at h
          · rw [if_neg hu] at h
            cases h
theorem dec_first (u : Nat) : ∃ c r, Lib.decDigits u = c :: r ∧ 48 ≤ c.toNat ∧ c.toNat ≤ 57 := by
  have hv := valD_dec u
  cases hd : Lib.decDigits u with
  | nil => exact absurd hd (dec_ne u)
  | cons c r =>
    rw [hd, valD] at hv
    split at hv
    · rename_i h
      exact ⟨c, r, rfl, h⟩
    · cases hv
theorem refNum_itoa (v : Int) (h0 : -9223372036854775808 ≤ v) (h1 : v ≤ 9223372036854775807) : refNum (Lib.itoa v) = (v, true) := by
  by_cases hv : v < 0
  · obtain ⟨u, rfl⟩ : ∃ u : Nat, v = -(u : Int) := ⟨v.natAbs, by omega⟩
    rw [Lib.itoa_neg u (by omega), refNum, if_pos (show (45 :: Lib.decDigits u).head? = some 45 from rfl)]
    simp only [List.drop_succ_cons, List.drop_zero]
    rw [refDig_itoa true u (by omega) (fun _ => by omega) (fun h => by cases h)]
    rfl
  · obtain ⟨u, rfl⟩ : ∃ u : Nat, v = (u : Int) := ⟨v.toNat, by omega⟩
    rw [Lib.itoa_nonneg u, refNum, if_neg ?_, refDig_itoa false u (by omega) (fun h => by cases h) (fun _ => by omega)]
    · rfl
    · obtain ⟨c, r, hd, c0, c1⟩ := dec_first u
      rw [hd]
      simp only [List.head?_cons, Option.some.injEq]
      rintro rfl
      simp at c0
theorem refNum_true {l : List UInt8} {v : Int} (h : refNum l = (v, true)) : l = Lib.itoa v ∧ -9223372036854775808 ≤ v ∧ v ≤ 9223372036854775807 := by
  rw [refNum] at h
  split at h
  · rename_i hm
    obtain ⟨u, hu, hd, rfl, h1, _⟩ := refDig_true h
    have := h1 rfl
    simp only [if_true]
    refine ⟨?_, by omega, by omega⟩
    rw [Lib.itoa_neg u (by omega), ← hd]
    cases l with
    | nil => cases hm
    | cons c r =>
      simp only [List.head?_cons, Option.some.injEq] at hm
      subst hm
      rfl
  · obtain ⟨u, hu, hd, rfl, _, h2⟩ := refDig_true h
    have := h2 rfl
    simp only [Bool.false_eq_true, if_false]
    exact ⟨by rw [Lib.itoa_nonneg u]; exact hd, by omega, by omega⟩
theorem parsed_itoa (v : Int) (h0 : -9223372036854775808 ≤ v) (h1 : v ≤ 9223372036854775807) (s : ByteArray) (hs : s.data.toList = Lib.itoa v) : parsed s = some v := by
  unfold parsed
  rw [hs]
  by_cases hv : v < 0
  · obtain ⟨u, rfl⟩ : ∃ u : Nat, v = -(u : Int) := ⟨v.natAbs, by omega⟩
    rw [Lib.itoa_neg u (by omega)]
    have hp := parseM_val (M := 2 ^ 64 - 1) (by decide) (Lib.decDigits u) 0 u (valD_dec u) (by omega)
    have : Lib.parseIntB 64 (45 :: Lib.decDigits u) = .ok (-(u : Int)) := by
      rw [Lib.parseIntB_minus, Lib.parseUintB, if_neg (dec_ne u), hp]
      simp only [Lib.signedC]
      rw [if_neg (by omega)]
    rw [this]
  · obtain ⟨u, rfl⟩ : ∃ u : Nat, v = (u : Int) := ⟨v.toNat, by omega⟩
    rw [Lib.itoa_nonneg u]
    have hp := parseM_val (M := 2 ^ 64 - 1) (by decide) (Lib.decDigits u) 0 u (valD_dec u) (by omega)
    obtain ⟨c, r, hd, c0, c1⟩ := dec_first u
    have : Lib.parseIntB 64 (Lib.decDigits u) = .ok (u : Int) := by
      rw [hd] at hp ⊢
      rw [Lib.parseIntB_plain 64 c r (by omega) (by omega), Lib.parseUintB, if_neg (by simp), hp]
      simp only [Lib.signlessC]
      rw [if_neg (by omega)]
    rw [this]
/-- The two are one. -/
theorem numberOf_ref (s : ByteArray) : (match numberOf s with | some v => (v, true) | none => ((0 : Int), false)) = refNum s.data.toList := by
  cases h : numberOf s with
  | some v =>
    have hb := numberOf_bounds h
    unfold numberOf at h
    obtain ⟨u, hu, hv⟩ := Option.bind_eq_some_iff.1 h
    split at hv
    · rename_i hi
      cases hv
      simp only
      have : s.data.toList = Lib.itoa v := by rw [← hi]
      rw [this, refNum_itoa v hb.1 hb.2]
    · cases hv
  | none =>
    simp only
    cases hr : refNum s.data.toList with
    | mk v b =>
      cases b with
      | true =>
        obtain ⟨a, b, c⟩ := refNum_true hr
        have hp := parsed_itoa v b c s a
        exfalso
        have : numberOf s = some v := by
          unfold numberOf
          rw [hp]
          simp only [Option.bind_some]
          rw [if_pos ?_]
          rw [← a]
        rw [this] at h
        cases h
      | false =>
        have : v = 0 := refNum_false hr
        rw [this]
end Go.Proofs.YthmleoceakonjaaDoor
