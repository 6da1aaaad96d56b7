/-
  AskNumbers in plain words.
-/
import Derived.Test.YtbkhhmgpfjemcaaDoorAskP5
import Derived.Test.YtbkhhmgpfjemcaaDoorPAskx5
namespace Go.Proofs.YtbkhhmgpfjemcaaDoor
set_option linter.unusedVariables false
set_option linter.unusedSimpArgs false
open Go.RowKit Go.Proofs.YtbkhhmgpfjemcaaDoorW.PrintWords Go.Proofs.YtbkhhmgpfjemcaaDoorW.PrintLast Go.Proofs.YtbkhhmgpfjemcaaDoorW.PrintMore

theorem mk_append (a b : List UInt8) : (⟨a.toArray⟩ : ByteArray) ++ ⟨b.toArray⟩ = ⟨(a ++ b).toArray⟩ := by
  have h : ((⟨a.toArray⟩ : ByteArray) ++ ⟨b.toArray⟩).data.toList = a ++ b := by simp
  cases hx : (⟨a.toArray⟩ : ByteArray) ++ ⟨b.toArray⟩ with
  | mk d =>
    rw [hx] at h
    simp only at h
    rw [← h]
theorem dig_str (d : Nat) (h : d < 10) : strOfNums [wrap64 (48 + (d : Int)) % 256] = ⟨[UInt8.ofNat (48 + d)].toArray⟩ := by
  have e : wrap64 (48 + (d : Int)) % 256 = ((48 + d : Nat) : Int) := by rw [wrap_ok (by omega) (by omega)]; omega
  rw [e]
  rfl
theorem digits_loop : ∀ (k u : Nat) (acc : List UInt8), u ≤ 9223372036854775807 → u < 10 ^ (k + 1) → acc.length + k ≤ 1000 →
    PAsk.pannierlaw20_digits.l0 (k + 1) (u : Int) ⟨acc.toArray⟩ = some ⟨(Lib.decDigits u ++ acc).toArray⟩ := by
  intro k
  induction k with
  | zero =>
    intro u acc hu h10 ha
    have hu9 : u < 10 := by simpa using h10
    rw [PAsk.pannierlaw20_digits.l0, if_neg (by omega)]
    simp only [Option.bind_some]
    rw [dig_str u hu9, if_pos (by rw [size_mk, size_mk]; simp; omega), mk_append, Lib.decDigits, dif_pos hu9]
  | succ k ih =>
    intro u acc hu h10 ha
    rw [PAsk.pannierlaw20_digits.l0, Lib.decDigits]
    by_cases h : u < 10
    · rw [if_neg (by omega), dif_pos h]
      simp only [Option.bind_some]
      rw [dig_str u h, if_pos (by rw [size_mk, size_mk]; simp; omega), mk_append]
    · rw [if_pos (by omega), dif_neg h]
      simp only [Option.bind_some]
      have e1 : Int.tmod (u : Int) 10 = ((u % 10 : Nat) : Int) := by rw [Int.tmod_eq_emod_of_nonneg (by omega)]; omega
      have e2 : wrap64 (Int.tdiv (u : Int) 10) = ((u / 10 : Nat) : Int) := by rw [Int.tdiv_eq_ediv_of_nonneg (by omega), wrap_ok (by omega) (by omega)]; omega
      rw [e1, e2, dig_str (u % 10) (by omega), if_pos (by rw [size_mk, size_mk]; simp; omega), mk_append]
      rw [ih (u / 10) _ (by omega) (by rw [Nat.div_lt_iff_lt_mul (by omega)]; rw [Nat.pow_succ] at h10; omega) (by simp; omega)]
      simp
theorem digits_eq (k u : Nat) (hk : 19 ≤ k) (hk2 : k ≤ 900) (hu : u ≤ 9223372036854775807) : PAsk.pannierlaw20_digits.f k (u : Int) = some ⟨(Lib.itoa (u : Int)).toArray⟩ := by
  obtain ⟨j, rfl⟩ : ∃ j, k = j + 1 := ⟨k - 1, by omega⟩
  rw [PAsk.pannierlaw20_digits.f, Lib.itoa_nonneg]
  have := digits_loop j u [] hu (Nat.lt_of_lt_of_le (by omega : u < 10 ^ 19) (Nat.pow_le_pow_right (by omega) (by omega))) (by simp; omega)
  rw [List.append_nil] at this
  exact this
theorem enc_skip (k i : Nat) (a0 a1 a2 a3 : Int) (p : ByteArray) (d : List Int) (hi : i < 11) (h : (PAsk.rd_T47 forms (i : Int)).f1 ≠ a0) :
    PAsk.ask_Encode.l0 (k + 1) forms (forms.length : Int) (i : Int) a0 a1 a2 a3 p d = PAsk.ask_Encode.l0 k forms (forms.length : Int) ((i + 1 : Nat) : Int) a0 a1 a2 a3 p d := by
  have hlen := forms_len
  have e1 : wrap64 ((i : Int) + 1) = ((i + 1 : Nat) : Int) := by rw [wrap_ok (by omega) (by omega)]; omega
  rw [PAsk.ask_Encode.l0, if_pos (by omega), if_pos (by omega), if_pos (by omega), if_neg h, e1]
theorem tick_at : PAsk.rd_T47 forms ((10 : Nat) : Int) = (⟨(⟨#[116, 105, 99, 107]⟩ : ByteArray), 11, false, false, true, false, false⟩ : Form) := by decide +kernel
theorem enc_tick (u : Nat) (hu : u ≤ 9223372036854775807) (p : ByteArray) : PAsk.ask_Encode.f 98 11 0 0 (u : Int) p [] = some ⟨([116, 105, 99, 107, 32] ++ Lib.itoa (u : Int)).toArray⟩ := by
  rw [PAsk.ask_Encode.f, forms_eq]
  simp only [Option.bind_some]
  rw [show (98 : Nat) = 88 + 1 + 1 + 1 + 1 + 1 + 1 + 1 + 1 + 1 + 1 from rfl, show (0 : Int) = ((0 : Nat) : Int) from rfl]
  rw [enc_skip _ 0 _ _ _ _ _ _ (by omega) (by decide +kernel), enc_skip _ 1 _ _ _ _ _ _ (by omega) (by decide +kernel), enc_skip _ 2 _ _ _ _ _ _ (by omega) (by decide +kernel), enc_skip _ 3 _ _ _ _ _ _ (by omega) (by decide +kernel), enc_skip _ 4 _ _ _ _ _ _ (by omega) (by decide +kernel), enc_skip _ 5 _ _ _ _ _ _ (by omega) (by decide +kernel), enc_skip _ 6 _ _ _ _ _ _ (by omega) (by decide +kernel), enc_skip _ 7 _ _ _ _ _ _ (by omega) (by decide +kernel), enc_skip _ 8 _ _ _ _ _ _ (by omega) (by decide +kernel), enc_skip _ 9 _ _ _ _ _ _ (by omega) (by decide +kernel)]
  have hlen := forms_len
  rw [show (88 : Nat) = 87 + 1 from rfl, PAsk.ask_Encode.l0, if_pos (by omega), if_pos (by omega), if_pos (by omega), tick_at, if_pos rfl]
  simp only [Option.bind_some, Bool.false_eq_true, if_false]
  rw [show (87 : Nat) = 82 + 1 + 1 + 1 + 1 + 1 from rfl, PAsk.ask_Encode.j1]
  simp only [Bool.false_eq_true, if_false]
  rw [PAsk.ask_Encode.j2]
  simp only [if_true]
  rw [PAsk.strconv_Itoa.f, if_pos (by omega)]
  simp only [Option.bind_some]
  rw [if_pos (by simp)]
  rw [PAsk.ask_Encode.j3]
  simp only [Bool.false_eq_true, if_false]
  rw [PAsk.ask_Encode.j4]
  simp only [Bool.false_eq_true, if_false]
  rw [PAsk.ask_Encode.j5]
  simp only [Bool.false_eq_true, if_false]
  rw [show (82 : Nat) = 81 + 1 from rfl, PAsk.ask_Encode.j6]
  simp only [Bool.false_eq_true, if_false]
  have hl := Lib.itoa_length_le (u : Int) (by omega) (by omega)
  rw [PAsk.strings_Join.f, if_pos (by simp [Lib.join, itoaS]; omega)]
  simp [Lib.join, itoaS]
theorem numL_lead (m u : Nat) (hm : 0 < m) : (numL (List.replicate m 48 ++ Lib.itoa (u : Int))).2 = 200 := by
  unfold numL askNum
  split
  · rfl
  · rename_i n hn
    rw [if_pos ?_]
    intro e
    have e2 : Lib.itoa n = List.replicate m 48 ++ Lib.itoa (u : Int) := by
      have := congrArg (fun b : ByteArray => b.data.toList) e
      simpa [itoaS] using this
    obtain ⟨m, rfl⟩ : ∃ j, m = j + 1 := ⟨m - 1, by omega⟩
    rw [List.replicate_succ] at e2
    by_cases h0 : n < 0
    · rw [Lib.itoa, if_pos h0] at e2
      simp at e2
    · obtain ⟨v, rfl⟩ : ∃ v : Nat, n = v := ⟨n.toNat, by omega⟩
      rw [Lib.itoa_nonneg] at e2
      have hne := itoa_ne u
      have hl : (Lib.itoa (u : Int)).length ≠ 0 := fun h => hne (List.eq_nil_of_length_eq_zero h)
      rcases dec_head v with h | h
      · rw [e2] at h; simp at h
      · rw [e2] at h
        simp only [List.cons_append, List.length_cons, List.length_append] at h
        omega
theorem tick_read (l : List UInt8) (hl : ∀ b ∈ l, b ≠ 32) (hs : l.length ≤ 1000) : decL ([116, 105, 99, 107, 32] ++ l) = if (numL l).2 ≠ 0 then no (numL l).2 else (11, 0, 0, (numL l).1, [], [], 0) := by
  have h := dec_suf tick_mem (s := 32 :: l) (.inr ⟨l, rfl⟩) (by
    rw [List.length_append]
    have : (wordOf (⟨(⟨#[116, 105, 99, 107]⟩ : ByteArray), 11, false, false, true, false, false⟩ : Form)).length = 4 := rfl
    rw [this, List.length_cons]
    omega)
  have e : wordOf (⟨(⟨#[116, 105, 99, 107]⟩ : ByteArray), 11, false, false, true, false, false⟩ : Form) ++ 32 :: l = [116, 105, 99, 107, 32] ++ l := rfl
  rw [e] at h
  rw [h]
  have hc : cutL l = (l, []) := by have := cutL_suf hl (s := []) (.inl rfl); simpa using this
  simp only [List.drop_succ_cons, List.drop_zero]
  unfold readL
  simp [stepL, hc]
theorem numbers_law (n ahead : Int) (h0 : -9223372036854775808 ≤ n) (h1 : n ≤ 9223372036854775807) : ∃ k, PAsk.pannierlaw20_AskNumbers.f k n ahead = some true := by
  refine ⟨100, ?_⟩
  unfold PAsk.pannierlaw20_AskNumbers.f
  rw [asks_true]
  simp only [Option.bind_some, if_true]
  by_cases a0 : ahead < 0
  · rw [if_pos a0, show (100 : Nat) = 99 + 1 from rfl, PAsk.pannierlaw20_AskNumbers.j0, if_pos rfl]
  rw [if_neg a0]
  by_cases a3 : ahead > 3
  · rw [if_pos a3, show (100 : Nat) = 99 + 1 from rfl, PAsk.pannierlaw20_AskNumbers.j0, if_pos rfl]
  rw [if_neg a3]
  by_cases hn : n < 0
  · rw [decide_eq_true hn, show (100 : Nat) = 99 + 1 from rfl, PAsk.pannierlaw20_AskNumbers.j0, if_pos rfl]
  rw [decide_eq_false hn]
  obtain ⟨u, rfl⟩ : ∃ u : Nat, n = u := ⟨n.toNat, by omega⟩
  obtain ⟨m, rfl⟩ : ∃ m : Nat, ahead = m := ⟨ahead.toNat, by omega⟩
  have hm : m ≤ 3 := by omega
  have hl := Lib.itoa_length_le (u : Int) (by omega) (by omega)
  have ex : (⟨#[48, 48, 48]⟩ : ByteArray).extract 0 ((m : Int)).toNat = ⟨(List.replicate m 48).toArray⟩ := by
    rw [Int.toNat_natCast]
    have : ∀ m : Fin 4, (⟨#[48, 48, 48]⟩ : ByteArray).extract 0 m.val = ⟨(List.replicate m.val 48).toArray⟩ := by decide +kernel
    exact this ⟨m, by omega⟩
  have et : (⟨#[116, 105, 99, 107, 32]⟩ : ByteArray) = ⟨[116, 105, 99, 107, 32].toArray⟩ := rfl
  have hd := digits_eq 99 u (by omega) (by omega) (by omega)
  rw [show (100 : Nat) = 99 + 1 from rfl, PAsk.pannierlaw20_AskNumbers.j0, if_neg (by decide), if_pos (by omega), if_pos (by omega), ex, et, if_pos (by rw [size_mk, List.length_replicate]; omega), hd]
  simp only [Option.bind_some]
  rw [mk_append, if_pos (by rw [size_mk, size_mk]; simp; omega), mk_append, List.append_assoc]
  have hD := dec_eq ([116, 105, 99, 107, 32] ++ (List.replicate m 48 ++ Lib.itoa (u : Int))) 99 (by omega) (by simp; omega)
  have hno : ∀ b ∈ List.replicate m (48 : UInt8) ++ Lib.itoa (u : Int), b ≠ 32 := by
    intro b hb
    rcases List.mem_append.1 hb with hb | hb
    · have := (List.mem_replicate.1 hb).2
      subst this; decide
    · exact itoa_no32 u b hb
  rw [tick_read _ hno (by simp; omega)] at hD
  by_cases hm0 : 0 < m
  · have hq := numL_lead m u hm0
    rw [hq, if_pos (by decide)] at hD
    rw [hD]
    simp only [ofL, no, Option.bind_some]
    rw [if_pos (by omega)]
    rfl
  · obtain rfl : m = 0 := by omega
    rw [List.replicate_zero, List.nil_append, numL_itoa (by omega)] at hD
    rw [List.replicate_zero, List.nil_append]
    by_cases hu : u ≤ 1048576
    · rw [if_pos hu] at hD
      simp only [ne_eq, not_true, if_false] at hD
      rw [hD]
      simp only [ofL, Option.bind_some, if_true]
      rw [if_neg (by omega), if_neg (by omega)]
      have he := enc_tick u (by omega) ⟨([] : List UInt8).toArray⟩
      have he2 : PAsk.ask_Encode.f 99 11 0 0 (u : Int) ⟨([] : List UInt8).toArray⟩ [] = _ := PAsk.ask_Encode.mono _ _ _ _ _ _ 98 _ he
      rw [he2]
      simp
    · rw [if_neg hu] at hD
      simp only [ne_eq] at hD
      rw [if_pos (by decide)] at hD
      rw [hD]
      simp only [ofL, no, Option.bind_some]
      rw [if_neg (by omega), if_pos (by omega)]
      rfl
end Go.Proofs.YtbkhhmgpfjemcaaDoor
