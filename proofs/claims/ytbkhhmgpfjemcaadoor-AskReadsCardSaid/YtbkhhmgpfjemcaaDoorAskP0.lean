/-
  Decimal digits and cuts, in plain words (the same lemmas as in the texts of pax).
-/
import Derived.Lib.ItoaMem
import Derived.Lib.ItoaNum
import Derived.Lib.ParseIntBCases
import Derived.Lib.IndexBytes
import Derived.Lib.IndexMore
import Derived.Test.YtbkhhmgpfjemcaaDoorAskNum
namespace Go.Proofs.YtbkhhmgpfjemcaaDoor
set_option linter.unusedVariables false
set_option linter.unusedSimpArgs false
def valD : List UInt8 → Nat → Option Nat
  | [], n => some n
  | b :: l, n => if 48 ≤ b.toNat ∧ b.toNat ≤ 57 then valD l (10 * n + (b.toNat - 48)) else none
theorem valD_ge {l : List UInt8} {n u : Nat} (h : valD l n = some u) : n ≤ u := by
  induction l generalizing n with
  | nil => simp [valD] at h; omega
  | cons b l ih =>
    rw [valD] at h
    split at h
    · have := ih h; omega
    · cases h
theorem valD_snoc (l : List UInt8) (b : UInt8) (n : Nat) : valD (l ++ [b]) n = (valD l n).bind fun m => if 48 ≤ b.toNat ∧ b.toNat ≤ 57 then some (10 * m + (b.toNat - 48)) else none := by
  induction l generalizing n with
  | nil => simp [valD]
  | cons c l ih =>
    simp only [List.cons_append, valD]
    split
    · exact ih _
    · rfl
theorem dig_toNat {d : Nat} (h : d < 10) : (UInt8.ofNat (48 + d)).toNat = 48 + d := by simp; omega
theorem valD_dec (u : Nat) : valD (Lib.decDigits u) 0 = some u := by
  induction u using Nat.strongRecOn with
  | _ u ih =>
    rw [Lib.decDigits]
    split
    · rename_i h
      simp only [valD, dig_toNat h]
      rw [if_pos (by omega)]
      simp
    · rename_i h
      rw [valD_snoc, ih (u / 10) (by omega)]
      simp only [Option.bind_some, dig_toNat (show u % 10 < 10 by omega)]
      rw [if_pos (by omega)]
      congr 1
      omega
theorem valD_pos {l : List UInt8} {n u : Nat} (h : valD l n = some u) (hn : 1 ≤ n) : 1 ≤ u := Nat.le_trans hn (valD_ge h)
theorem dec_of_val (u : Nat) : ∀ l : List UInt8, l ≠ [] → valD l 0 = some u → (l.getD 0 0 ≠ 48 ∨ l.length = 1) → l = Lib.decDigits u := by
  induction u using Nat.strongRecOn with
  | _ u ih =>
    intro l hne hu hh
    obtain ⟨l, b, rfl⟩ : ∃ l' b, l = l' ++ [b] := ⟨l.dropLast, l.getLast hne, (List.dropLast_concat_getLast hne).symm⟩
    rw [valD_snoc] at hu
    obtain ⟨m, hm, hu⟩ := Option.bind_eq_some_iff.1 hu
    split at hu
    · rename_i hb
      have hu := Option.some.inj hu
      have hbb : UInt8.ofNat b.toNat = b := by simp
      by_cases hl : l = []
      · subst hl
        simp [valD] at hm
        subst hm
        rw [Lib.decDigits, dif_pos (by omega)]
        have : 48 + u = b.toNat := by omega
        rw [this, hbb]
        rfl
      · have hg : (l ++ [b]).getD 0 0 = l.getD 0 0 := by
          cases l with
          | nil => exact absurd rfl hl
          | cons c l => rfl
        have hh2 : l.getD 0 0 ≠ 48 := by
          rcases hh with h | h
          · rwa [hg] at h
          · exfalso
            cases l with
            | nil => exact hl rfl
            | cons c l => simp at h
        have h1 : 1 ≤ m := by
          cases l with
          | nil => exact absurd rfl hl
          | cons c l =>
            rw [valD] at hm
            split at hm
            · rename_i hc
              refine valD_pos hm ?_
              simp only [List.getD_cons_zero] at hh2
              have : c.toNat ≠ 48 := fun h => hh2 (by apply UInt8.toNat_inj.1; rw [h]; rfl)
              omega
            · cases hm
        have := ih m (by omega) l hl hm (.inl hh2)
        rw [Lib.decDigits, dif_neg (by omega)]
        have e1 : u / 10 = m := by omega
        have e2 : 48 + u % 10 = b.toNat := by omega
        rw [e1, ← this, e2, hbb]
    · cases hu
theorem dec_ne (u : Nat) : Lib.decDigits u ≠ [] := by
  rw [Lib.decDigits]
  split
  · simp
  · simp
theorem dec_head (u : Nat) : (Lib.decDigits u).getD 0 0 ≠ 48 ∨ (Lib.decDigits u).length = 1 := by
  induction u using Nat.strongRecOn with
  | _ u ih =>
    rw [Lib.decDigits]
    split
    · right; rfl
    · rename_i h
      left
      have hg : (Lib.decDigits (u / 10) ++ [UInt8.ofNat (48 + u % 10)]).getD 0 0 = (Lib.decDigits (u / 10)).getD 0 0 := by
        have := dec_ne (u / 10)
        cases hd : Lib.decDigits (u / 10) with
        | nil => exact absurd hd this
        | cons c l => rfl
      rw [hg]
      rcases ih (u / 10) (by omega) with h1 | h1
      · exact h1
      · rw [Lib.decDigits] at h1 ⊢
        split at h1
        · rename_i h2
          rw [dif_pos h2]
          simp only [List.getD_cons_zero]
          intro h3
          have := congrArg UInt8.toNat h3
          rw [dig_toNat h2] at this
          simp at this
          omega
        · exfalso
          simp at h1
          exact dec_ne _ h1
theorem parseM_val {M : Nat} (hM : M ≤ 18446744073709551615) (l : List UInt8) (n u : Nat) (h : valD l n = some u) (hu : u ≤ M) : Lib.parseUintM M n l = .ok u := by
  induction l generalizing n with
  | nil => simp [valD] at h; subst h; rfl
  | cons b l ih =>
    rw [valD] at h
    split at h
    · rename_i hb
      have := valD_ge h
      rw [Lib.parseUintM, if_pos hb, if_neg (by omega), if_neg (by omega)]
      have e : n * 10 + (b.toNat - 48) = 10 * n + (b.toNat - 48) := by omega
      rw [e]
      exact ih _ h
    · cases h
theorem dec_first (u : Nat) : ∃ c r, Lib.decDigits u = c :: r ∧ 48 ≤ c.toNat ∧ c.toNat ≤ 57 := by
  have hv := valD_dec u
  cases hd : Lib.decDigits u with
  | nil => exact absurd hd (dec_ne u)
  | cons c r =>
    rw [hd, valD] at hv
    split at hv
    · rename_i h
      exact ⟨c, r, rfl, h⟩
    · cases hv
theorem indexByte_at {a r : List UInt8} {c : UInt8} (h : ∀ b ∈ a, b ≠ c) : Lib.indexByte (a ++ c :: r) c = a.length := by
  induction a with
  | nil => simp [Lib.indexByte]
  | cons b a ih =>
    have hb : (b == c) = false := by rw [beq_eq_false_iff_ne]; exact h b (by simp)
    have := ih (fun x hx => h x (by simp [hx]))
    have h2 : ((a.length : Int) == -1) = false := by rw [beq_eq_false_iff_ne]; omega
    simp only [List.cons_append, Lib.indexByte, hb, this, h2, Bool.false_eq_true, if_false, List.length_cons]
    omega
theorem indexByte_not {a : List UInt8} {c : UInt8} (h : ∀ b ∈ a, b ≠ c) : Lib.indexByte a c = -1 := by
  induction a with
  | nil => rfl
  | cons b a ih =>
    have hb : (b == c) = false := by rw [beq_eq_false_iff_ne]; exact h b (by simp)
    have := ih (fun x hx => h x (by simp [hx]))
    simp [Lib.indexByte, hb, this]
theorem cut_at {a r : List UInt8} {c : UInt8} (h : ∀ b ∈ a, b ≠ c) : Lib.cut (a ++ c :: r) [c] = (a, r, true) := by
  unfold Lib.cut
  rw [Lib.index_one, indexByte_at h, if_pos (by omega)]
  simp
theorem cut_not {a : List UInt8} {c : UInt8} (h : ∀ b ∈ a, b ≠ c) : Lib.cut a [c] = (a, [], false) := by
  unfold Lib.cut
  rw [Lib.index_one, indexByte_not h, if_neg (by omega)]

theorem atoi_itoa (u : Nat) (hu : u ≤ 9223372036854775807) : atoiOpt (Lib.itoa (u : Int)) = some (u : Int) := by
  rw [Lib.itoa_nonneg u]
  have hp := parseM_val (M := 2 ^ 64 - 1) (by decide) (Lib.decDigits u) 0 u (valD_dec u) (by omega)
  obtain ⟨c, r, hd, c0, c1⟩ := dec_first u
  have : Lib.parseIntB 64 (Lib.decDigits u) = .ok (u : Int) := by
    rw [hd] at hp ⊢
    rw [Lib.parseIntB_plain 64 c r (by omega) (by omega), Lib.parseUintB, if_neg (by simp), hp]
    simp only [Lib.signlessC]
    rw [if_neg (by omega)]
  rw [atoiOpt, ← Lib.parseIntB_64, this]
theorem itoa_dig (u : Nat) : ∀ b ∈ Lib.itoa (u : Int), 48 ≤ b.toNat ∧ b.toNat ≤ 57 := by
  rw [Lib.itoa_nonneg u]
  have key : ∀ (l : List UInt8) (n m : Nat), valD l n = some m → ∀ b ∈ l, 48 ≤ b.toNat ∧ b.toNat ≤ 57 := by
    intro l
    induction l with
    | nil => intro n m _ b hb; cases hb
    | cons c r ih =>
      intro n m h b hb
      rw [valD] at h
      split at h
      · rename_i hc
        rcases List.mem_cons.1 hb with rfl | hb
        · exact hc
        · exact ih _ _ h b hb
      · cases h
  exact key _ 0 u (valD_dec u)
/-- A word as a number. -/
def numL (l : List UInt8) : Int × Int := askNum ⟨l.toArray⟩
theorem numL_itoa {u : Nat} (hu : u ≤ 9223372036854775807) : numL (Lib.itoa (u : Int)) = if u ≤ 1048576 then ((u : Int), 0) else (0, 1) := by
  unfold numL askNum
  have h := atoi_itoa u hu
  have e : (⟨(Lib.itoa (u : Int)).toArray⟩ : ByteArray).data.toList = Lib.itoa (u : Int) := rfl
  rw [e, h]
  simp only
  rw [if_neg (fun h => h rfl), if_neg (by omega)]
  split
  · rw [if_neg (by omega)]
  · rw [if_pos (by omega)]
end Go.Proofs.YtbkhhmgpfjemcaaDoor
