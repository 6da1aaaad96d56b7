/-
  The document's answer for package ask, in plain words: a whole line.
-/
import Derived.Test.YtbkhhmgpfjemcaaDoorAskR0
import Derived.Test.YtbkhhmgpfjemcaaDoorPAskRx2
namespace Go.Proofs.YtbkhhmgpfjemcaaDoor
set_option linter.unusedVariables false
set_option linter.unusedSimpArgs false
open Go.RowKit Go.Proofs.YtbkhhmgpfjemcaaDoorW.PrintWords Go.Proofs.YtbkhhmgpfjemcaaDoorW.PrintLast Go.Proofs.YtbkhhmgpfjemcaaDoorW.PrintMore

theorem rmk_append (a b : List UInt8) : (⟨a.toArray⟩ : ByteArray) ++ ⟨b.toArray⟩ = ⟨(a ++ b).toArray⟩ := by
  have h : ((⟨a.toArray⟩ : ByteArray) ++ ⟨b.toArray⟩).data.toList = a ++ b := by simp
  cases hx : (⟨a.toArray⟩ : ByteArray) ++ ⟨b.toArray⟩ with
  | mk d =>
    rw [hx] at h
    simp only at h
    rw [← h]
theorem rdig_eq (k : Nat) (b : UInt8) : PAskR.pannierref20_digit.f (k + 1) (b.toNat : Int) = some (digV b) := by
  unfold PAskR.pannierref20_digit.f
  rw [PAskR.pannierref20_digit.j0, PAskR.pannierref20_digit.j0]
  have key : ∀ n : Fin 256, (if ((n.val : Nat) : Int) ≥ 48 then (if decide (((n.val : Nat) : Int) ≤ 57) = true then (some ((((n.val : Nat) : Int) - 48) % 256)) else (if ((n.val : Nat) : Int) ≥ 97 then (if ((n.val : Nat) : Int) ≤ 102 then (some (((((n.val : Nat) : Int) - 97) % 256) + 10)) else (some (-1))) else (some (-1)))) else (if false = true then (some ((((n.val : Nat) : Int) - 48) % 256)) else (if ((n.val : Nat) : Int) ≥ 97 then (if ((n.val : Nat) : Int) ≤ 102 then (some (((((n.val : Nat) : Int) - 97) % 256) + 10)) else (some (-1))) else (some (-1))))) = some (digV (UInt8.ofNat n.val)) := by decide +kernel
  have := key ⟨b.toNat, b.toNat_lt⟩
  simpa using this
abbrev RAsked := Int × Int × Int × Int × ByteArray × ByteArray × Int
def ofR (x : Asked) : RAsked := (x.1, x.2.1, x.2.2.1, x.2.2.2.1, ⟨x.2.2.2.2.1.toArray⟩, strOfNums x.2.2.2.2.2.1, x.2.2.2.2.2.2)
theorem nums_append (a b : List Int) : strOfNums a ++ strOfNums b = strOfNums (a ++ b) := by
  unfold strOfNums
  rw [rmk_append, List.map_append]
theorem nums_size (a : List Int) : (strOfNums a).size = a.length := by
  unfold strOfNums
  rw [size_mk, List.length_map]
theorem rdata_loop (K t n c : Int) : ∀ (rest pre : List UInt8) (acc : List Int) (k : Nat), rest.length % 2 = 0 → rest.length < 2 * k → pre.length + rest.length ≤ 200000 → acc.length + rest.length ≤ 200000 →
    PAskR.pannierref20_Decode.l1 (k + 1) ⟨(pre ++ rest).toArray⟩ (pre.length : Int) K t n c ⟨#[]⟩ (strOfNums acc) = some (ofR (match dataV rest with | some bs => (K, t, n, c, [], acc ++ bs, 0) | none => no 200)) := by
  intro rest
  induction rest using dataV.induct with
  | case1 =>
    intro pre acc k h2 hk hp ha
    rw [PAskR.pannierref20_Decode.l1, if_neg (by rw [size_mk]; simp)]
    simp [dataV, ofR]
  | case2 x => intro pre acc k h2; simp at h2
  | case3 a b r h1 =>
    intro pre acc k h2 hk hp ha
    obtain ⟨k, rfl⟩ : ∃ j, k = j + 1 := ⟨k - 1, by simp at hk; omega⟩
    simp only [List.length_cons] at hk hp ha h2
    have e1 : wrap64 ((pre.length : Int) + 1) = ((pre.length + 1 : Nat) : Int) := by rw [wrap_ok (by omega) (by omega)]; omega
    rw [PAskR.pannierref20_Decode.l1, if_pos (by rw [size_mk]; simp; omega), if_pos (by omega), e1]
    rw [bt_list (b := a) (by simp), bt_list (b := b) (by simp), rdig_eq, rdig_eq]
    simp only [Option.bind_some]
    rw [if_pos (by omega), if_pos (by rw [size_mk]; simp; omega), if_pos h1, dataV, if_pos h1]
    rfl
  | case4 a b r h1 h3 =>
    intro pre acc k h2 hk hp ha
    obtain ⟨k, rfl⟩ : ∃ j, k = j + 1 := ⟨k - 1, by simp at hk; omega⟩
    simp only [List.length_cons] at hk hp ha h2
    have e1 : wrap64 ((pre.length : Int) + 1) = ((pre.length + 1 : Nat) : Int) := by rw [wrap_ok (by omega) (by omega)]; omega
    rw [PAskR.pannierref20_Decode.l1, if_pos (by rw [size_mk]; simp; omega), if_pos (by omega), e1]
    rw [bt_list (b := a) (by simp), bt_list (b := b) (by simp), rdig_eq, rdig_eq]
    simp only [Option.bind_some]
    rw [if_pos (by omega), if_pos (by rw [size_mk]; simp; omega), if_neg h1, if_pos h3, dataV, if_neg h1, if_pos h3]
    rfl
  | case5 a b r h1 h3 ih =>
    intro pre acc k h2 hk hp ha
    obtain ⟨k, rfl⟩ : ∃ j, k = j + 1 := ⟨k - 1, by simp at hk; omega⟩
    simp only [List.length_cons] at hk hp ha h2
    have e1 : wrap64 ((pre.length : Int) + 1) = ((pre.length + 1 : Nat) : Int) := by rw [wrap_ok (by omega) (by omega)]; omega
    have e2 : wrap64 ((pre.length : Int) + 2) = ((pre.length + 2 : Nat) : Int) := by rw [wrap_ok (by omega) (by omega)]; omega
    have := digV_le a
    have := digV_le b
    have ev : (wrap64 ((wrap64 (16 * digV a)) + digV b)) % 256 = 16 * digV a + digV b := by
      rw [wrap_ok (n := 16 * digV a) (by omega) (by omega), wrap_ok (by omega) (by omega)]
      omega
    rw [PAskR.pannierref20_Decode.l1, if_pos (by rw [size_mk]; simp; omega), if_pos (by omega), e1, e2]
    rw [bt_list (b := a) (by simp), bt_list (b := b) (by simp), rdig_eq, rdig_eq]
    simp only [Option.bind_some]
    rw [if_pos (by omega), if_pos (by rw [size_mk]; simp; omega), if_neg h1, if_neg h3, ev, if_pos (by rw [nums_size, nums_size]; simp; omega), nums_append]
    have := ih (pre ++ [a, b]) (acc ++ [16 * digV a + digV b]) k (by omega) (by omega) (by simp; omega) (by simp; omega)
    rw [List.append_assoc, List.length_append] at this
    refine this.trans ?_
    rw [dataV, if_neg h1, if_neg h3]
    cases dataV r with
    | none => rfl
    | some x => simp
theorem dataV_odd : ∀ l : List UInt8, l.length % 2 ≠ 0 → dataV l = none := by
  intro l
  induction l using dataV.induct with
  | case1 => intro h; simp at h
  | case2 x => intro _; rfl
  | case3 a b r h1 => intro _; rw [dataV, if_pos h1]
  | case4 a b r h1 h3 => intro _; rw [dataV, if_neg h1, if_pos h3]
  | case5 a b r h1 h3 ih =>
    intro h
    simp only [List.length_cons] at h
    rw [dataV, if_neg h1, if_neg h3, ih (by omega)]
    rfl
def endL (K t n c : Int) (bd bp : Bool) (z : List UInt8) : Asked :=
  if bp = true then (K, t, n, c, z, [], 0) else
  if bd = true then match dataV z with
    | some d => (K, t, n, c, [], d, 0)
    | none => no 200
  else if z ≠ [] then no 200
  else (K, t, n, c, [], [], 0)
theorem readL_end (k : Int) (b0 b1 b2 bd bp : Bool) (l : List UInt8) : readL k b0 b1 b2 bd bp l =
  if (stepL b0 l).2.1 ≠ 0 then no (stepL b0 l).2.1 else
  if (stepL b1 (stepL b0 l).2.2).2.1 ≠ 0 then no (stepL b1 (stepL b0 l).2.2).2.1 else
  if (stepL b2 (stepL b1 (stepL b0 l).2.2).2.2).2.1 ≠ 0 then no (stepL b2 (stepL b1 (stepL b0 l).2.2).2.2).2.1 else
  endL k (stepL b0 l).1 (stepL b1 (stepL b0 l).2.2).1 (stepL b2 (stepL b1 (stepL b0 l).2.2).2.2).1 bd bp (stepL b2 (stepL b1 (stepL b0 l).2.2).2.2).2.2 := rfl
theorem rj6 (k : Nat) (r : List UInt8) (K t n c : Int) (b : Bool) (hl : r.length ≤ 30000) (hk : r.length + 2 ≤ k) :
    PAskR.pannierref20_Decode.j6 (k + 1) ⟨r.toArray⟩ K b K t n c ⟨#[]⟩ ⟨#[]⟩ = some (ofR (endL K t n c (decide (K = 2)) b r)) := by
  rw [PAskR.pannierref20_Decode.j6, endL]
  by_cases hb : b = true
  · rw [if_pos hb, if_pos hb]; rfl
  · rw [if_neg hb, if_neg hb]
    by_cases h2 : K = 2
    · rw [if_pos h2, if_pos (decide_eq_true h2)]
      by_cases he : r.length % 2 = 0
      · rw [if_pos (by rw [size_mk]; omega)]
        obtain ⟨k, rfl⟩ : ∃ j, k = j + 1 := ⟨k - 1, by omega⟩
        have := rdata_loop K t n c r [] [] k he (by omega) (by simp; omega) (by simp; omega)
        refine this.trans ?_
        cases dataV r with
        | none => rfl
        | some d => simp
      · rw [if_neg (by rw [size_mk]; omega), dataV_odd r he]; rfl
    · rw [if_neg h2, if_neg (show ¬ decide (K = 2) = true by simpa using h2)]
      have hb : (⟨r.toArray⟩ : ByteArray).toList = r := by rw [Lib.toList_data]
      rw [hb]
      by_cases hr : r = []
      · rw [if_pos hr, if_neg (fun h => h hr)]; rfl
      · rw [if_neg hr, if_pos hr]; rfl
theorem rj5 (k : Nat) (r : List UInt8) (K t n c : Int) (hl : r.length ≤ 30000) (hk : r.length + 3 ≤ k) :
    PAskR.pannierref20_Decode.j5 (k + 1) ⟨r.toArray⟩ K K t n c ⟨#[]⟩ ⟨#[]⟩ = some (ofR (endL K t n c (decide (K = 2)) (decide (5 ≤ K ∧ K ≤ 8)) r)) := by
  obtain ⟨k, rfl⟩ : ∃ j, k = j + 1 := ⟨k - 1, by omega⟩
  rw [PAskR.pannierref20_Decode.j5]
  by_cases h5 : K ≥ 5
  · rw [if_pos h5, rj6 k r K t n c _ hl (by omega)]
    by_cases h8 : K ≤ 8
    · rw [decide_eq_true h8, decide_eq_true (p := 5 ≤ K ∧ K ≤ 8) ⟨h5, h8⟩]
    · rw [decide_eq_false h8, decide_eq_false (p := 5 ≤ K ∧ K ≤ 8) (fun h => h8 h.2)]
  · rw [if_neg h5, rj6 k r K t n c _ hl (by omega), decide_eq_false (p := 5 ≤ K ∧ K ≤ 8) (fun h => h5 h.1)]
theorem cutL_le (l : List UInt8) : (cutL l).1.length ≤ l.length ∧ (cutL l).2.length ≤ l.length := by
  obtain ⟨s, _, e, h, _⟩ := cutL_inv l
  have := congrArg List.length e
  rw [List.length_append] at this
  simp only [h, List.length_drop]
  omega
theorem rj4 (k : Nat) (r : List UInt8) (K t n : Int) (b : Bool) (hl : r.length ≤ 30000) (hk : 2 * r.length + 5 ≤ k) :
    PAskR.pannierref20_Decode.j4 (k + 1) ⟨r.toArray⟩ K b K t n 0 ⟨#[]⟩ ⟨#[]⟩ = some (ofR (if (stepL b r).2.1 ≠ 0 then no (stepL b r).2.1 else endL K t n (stepL b r).1 (decide (K = 2)) (decide (5 ≤ K ∧ K ≤ 8)) (stepL b r).2.2)) := by
  obtain ⟨k, rfl⟩ : ∃ j, k = j + 1 := ⟨k - 1, by omega⟩
  have hc := cutL_le r
  rw [PAskR.pannierref20_Decode.j4, stepL]
  by_cases hb : b = true
  · rw [if_pos hb, if_pos hb, rcut_eq r _ hl (by omega)]
    simp only [Option.bind_some]
    rw [rnum_eq _ _ (by omega) (by omega)]
    simp only [Option.bind_some]
    by_cases h0 : (numL (cutL r).1).2 = 0
    · rw [if_pos h0, if_neg (fun h => h h0), rj5 k _ K t n _ (by omega) (by omega)]
    · rw [if_neg h0, if_pos h0]; rfl
  · rw [if_neg hb, if_neg hb, rj5 k _ K t n _ hl (by omega)]
    simp
theorem rj3 (k : Nat) (r : List UInt8) (K t n : Int) (hl : r.length ≤ 30000) (hk : 2 * r.length + 6 ≤ k) :
    PAskR.pannierref20_Decode.j3 (k + 1) ⟨r.toArray⟩ K K t n 0 ⟨#[]⟩ ⟨#[]⟩ = some (ofR (if (stepL (decide (K = 9 ∨ K = 11)) r).2.1 ≠ 0 then no (stepL (decide (K = 9 ∨ K = 11)) r).2.1 else endL K t n (stepL (decide (K = 9 ∨ K = 11)) r).1 (decide (K = 2)) (decide (5 ≤ K ∧ K ≤ 8)) (stepL (decide (K = 9 ∨ K = 11)) r).2.2)) := by
  obtain ⟨k, rfl⟩ : ∃ j, k = j + 1 := ⟨k - 1, by omega⟩
  rw [PAskR.pannierref20_Decode.j3]
  by_cases h9 : K = 9
  · rw [if_pos h9, decide_eq_true (p := K = 9 ∨ K = 11) (.inl h9)]
    exact rj4 k r K t n true hl (by omega)
  · rw [if_neg h9]
    have : (K == 11) = decide (K = 9 ∨ K = 11) := by
      by_cases h11 : K = 11
      · rw [decide_eq_true (p := K = 9 ∨ K = 11) (.inr h11)]; simpa using h11
      · rw [decide_eq_false (p := K = 9 ∨ K = 11) (fun h => h.elim h9 h11)]; simpa using h11
    rw [this]
    exact rj4 k r K t n _ hl (by omega)
theorem rj2 (k : Nat) (r : List UInt8) (K t : Int) (b : Bool) (hl : r.length ≤ 30000) (hk : 2 * r.length + 7 ≤ k) :
    PAskR.pannierref20_Decode.j2 (k + 1) ⟨r.toArray⟩ K b K t 0 0 ⟨#[]⟩ ⟨#[]⟩ = some (ofR (if (stepL b r).2.1 ≠ 0 then no (stepL b r).2.1 else
      if (stepL (decide (K = 9 ∨ K = 11)) (stepL b r).2.2).2.1 ≠ 0 then no (stepL (decide (K = 9 ∨ K = 11)) (stepL b r).2.2).2.1 else endL K t (stepL b r).1 (stepL (decide (K = 9 ∨ K = 11)) (stepL b r).2.2).1 (decide (K = 2)) (decide (5 ≤ K ∧ K ≤ 8)) (stepL (decide (K = 9 ∨ K = 11)) (stepL b r).2.2).2.2)) := by
  obtain ⟨k, rfl⟩ : ∃ j, k = j + 1 := ⟨k - 1, by omega⟩
  have hc := cutL_le r
  rw [PAskR.pannierref20_Decode.j2]
  by_cases hb : b = true
  · have hs : stepL b r = ((numL (cutL r).1).1, (numL (cutL r).1).2, (cutL r).2) := by rw [stepL, if_pos hb]
    rw [if_pos hb, hs, rcut_eq r _ hl (by omega)]
    simp only [Option.bind_some]
    rw [rnum_eq _ _ (by omega) (by omega)]
    simp only [Option.bind_some]
    by_cases h0 : (numL (cutL r).1).2 = 0
    · rw [if_pos h0, if_neg (fun h => h h0), rj3 k _ K t _ (by omega) (by omega)]
    · rw [if_neg h0, if_pos h0]; rfl
  · have hs : stepL b r = (0, 0, r) := by rw [stepL, if_neg hb]
    rw [if_neg hb, hs, rj3 k _ K t _ hl (by omega)]
    simp
abbrev has1 (K : Int) : Bool := decide (K = 2 ∨ K = 3 ∨ K = 4 ∨ K = 9 ∨ K = 10)
theorem rj1 (k : Nat) (r : List UInt8) (K t : Int) (hl : r.length ≤ 30000) (hk : 2 * r.length + 8 ≤ k) :
    PAskR.pannierref20_Decode.j1 (k + 1) ⟨r.toArray⟩ K K t 0 0 ⟨#[]⟩ ⟨#[]⟩ = some (ofR (if (stepL (has1 K) r).2.1 ≠ 0 then no (stepL (has1 K) r).2.1 else
      if (stepL (decide (K = 9 ∨ K = 11)) (stepL (has1 K) r).2.2).2.1 ≠ 0 then no (stepL (decide (K = 9 ∨ K = 11)) (stepL (has1 K) r).2.2).2.1 else endL K t (stepL (has1 K) r).1 (stepL (decide (K = 9 ∨ K = 11)) (stepL (has1 K) r).2.2).1 (decide (K = 2)) (decide (5 ≤ K ∧ K ≤ 8)) (stepL (decide (K = 9 ∨ K = 11)) (stepL (has1 K) r).2.2).2.2)) := by
  obtain ⟨k, rfl⟩ : ∃ j, k = j + 1 := ⟨k - 1, by omega⟩
  have hj := fun b => rj2 k r K t b hl (by omega)
  rw [PAskR.pannierref20_Decode.j1]
  by_cases h2 : K = 2
  · rw [if_pos h2, show has1 K = true from decide_eq_true (by omega)]; exact hj true
  rw [if_neg h2]
  by_cases h3 : K = 3
  · rw [if_pos h3, show has1 K = true from decide_eq_true (by omega)]; exact hj true
  rw [if_neg h3]
  by_cases h4 : K = 4
  · rw [if_pos h4, show has1 K = true from decide_eq_true (by omega)]; exact hj true
  rw [if_neg h4]
  by_cases h9 : K = 9
  · rw [if_pos h9, show has1 K = true from decide_eq_true (by omega)]; exact hj true
  rw [if_neg h9]
  have : (K == 10) = has1 K := by
    by_cases h10 : K = 10
    · rw [show has1 K = true from decide_eq_true (by omega)]; simpa using h10
    · rw [show has1 K = false from decide_eq_false (by omega)]; simpa using h10
  rw [this]
  exact hj _
abbrev wordsR : List ByteArray := [(⟨#[111, 112, 101, 110]⟩ : ByteArray), (⟨#[115, 101, 110, 100]⟩ : ByteArray), (⟨#[99, 111, 109, 109, 105, 116]⟩ : ByteArray), (⟨#[97, 98, 111, 114, 116]⟩ : ByteArray), (⟨#[108, 105, 115, 116]⟩ : ByteArray), (⟨#[115, 116, 97, 116]⟩ : ByteArray), (⟨#[100, 101, 108, 101, 116, 101]⟩ : ByteArray), (⟨#[103, 101, 116]⟩ : ByteArray), (⟨#[112, 117, 108, 108]⟩ : ByteArray), (⟨#[99, 108, 111, 115, 101]⟩ : ByteArray), (⟨#[116, 105, 99, 107]⟩ : ByteArray)]
/-- Behind the word. -/
theorem rtail (k : Nat) (w r : List UInt8) (K : Int) (hl : r.length ≤ 30000) (hk : 2 * r.length + 9 ≤ k) :
    PAskR.pannierref20_Decode.l0 (k + 1) wordsR ⟨w.toArray⟩ ⟨r.toArray⟩ 11 K 0 0 0 ⟨#[]⟩ ⟨#[]⟩ = some (ofR (if K = 0 then no 200 else readL K (decide (K ≠ 11)) (has1 K) (decide (K = 9 ∨ K = 11)) (decide (K = 2)) (decide (5 ≤ K ∧ K ≤ 8)) r)) := by
  obtain ⟨k, rfl⟩ : ∃ j, k = j + 1 := ⟨k - 1, by omega⟩
  have hc := cutL_le r
  rw [PAskR.pannierref20_Decode.l0, if_neg (by decide)]
  by_cases h0 : K = 0
  · rw [if_pos h0, if_pos h0]; rfl
  rw [if_neg h0, if_neg h0, readL_end]
  by_cases h11 : K = 11
  · have hs : stepL (decide (K ≠ 11)) r = (0, 0, r) := by rw [stepL, if_neg (by simp [h11])]
    rw [if_pos h11, rj1 k r K 0 hl (by omega), hs]
    simp
  · have hs : stepL (decide (K ≠ 11)) r = ((numL (cutL r).1).1, (numL (cutL r).1).2, (cutL r).2) := by rw [stepL, if_pos (decide_eq_true h11)]
    rw [if_neg h11, hs, rcut_eq r _ hl (by omega)]
    simp only [Option.bind_some]
    rw [rnum_eq _ _ (by omega) (by omega)]
    simp only [Option.bind_some]
    by_cases hn : (numL (cutL r).1).2 = 0
    · rw [if_pos hn, if_neg (fun h => h hn), rj1 k _ K _ (by omega) (by omega)]
    · rw [if_neg hn, if_pos hn]; rfl
theorem rstep (k i : Nat) (hi : i < 11) (w r : List UInt8) (K : Int) :
    PAskR.pannierref20_Decode.l0 (k + 1) wordsR ⟨w.toArray⟩ ⟨r.toArray⟩ (i : Int) K 0 0 0 ⟨#[]⟩ ⟨#[]⟩ =
    PAskR.pannierref20_Decode.l0 k wordsR ⟨w.toArray⟩ ⟨r.toArray⟩ ((i + 1 : Nat) : Int) (if wordOf (PAsk.rd_T47 forms (i : Int)) = w then ((i + 1 : Nat) : Int) else K) 0 0 0 ⟨#[]⟩ ⟨#[]⟩ := by
  have e1 : wrap64 ((i : Int) + 1) = ((i + 1 : Nat) : Int) := by rw [wrap_ok (by omega) (by omega)]; omega
  have hw : ∀ i : Fin 11, (rdOf ByteArray.empty wordsR ((i.val : Nat) : Int)).data.toList = wordOf (PAsk.rd_T47 forms ((i.val : Nat) : Int)) := by decide +kernel
  rw [PAskR.pannierref20_Decode.l0, if_pos (show (i : Int) < ((wordsR.length : Nat) : Int) by show (i : Int) < ((11 : Nat) : Int); omega), if_pos (by omega), e1, Lib.toList_data, Lib.toList_data, hw ⟨i, hi⟩]
  by_cases h : wordOf (PAsk.rd_T47 forms (i : Int)) = w
  · rw [if_pos h, if_pos h]
  · rw [if_neg h, if_neg h]
theorem forms_shape : ∀ f ∈ forms, f.f1 ≠ 0 ∧ f.f2 = decide (f.f1 ≠ 11) ∧ f.f3 = has1 f.f1 ∧ f.f4 = decide (f.f1 = 9 ∨ f.f1 = 11) ∧ f.f5 = decide (f.f1 = 2) ∧ f.f6 = decide (5 ≤ f.f1 ∧ f.f1 ≤ 8) := by decide +kernel
theorem forms_kinds : ∀ i : Fin 11, (PAsk.rd_T47 forms ((i.val : Nat) : Int)).f1 = ((i.val + 1 : Nat) : Int) ∧ PAsk.rd_T47 forms ((i.val : Nat) : Int) ∈ forms := by decide +kernel
/-- The loop over the words. -/
theorem rloop (w r : List UInt8) (hl : r.length ≤ 30000) : ∀ (n i k : Nat) (K : Int), i + n = 11 → n + 2 * r.length + 10 ≤ k →
    (K = 0 ∧ (∀ j : Nat, j < i → wordOf (PAsk.rd_T47 forms (j : Int)) ≠ w) ∨ ∃ f ∈ forms, K = f.f1 ∧ wordOf f = w) →
    PAskR.pannierref20_Decode.l0 k wordsR ⟨w.toArray⟩ ⟨r.toArray⟩ (i : Int) K 0 0 0 ⟨#[]⟩ ⟨#[]⟩ = some (ofR (match formOf w with
      | some f => readL f.f1 f.f2 f.f3 f.f4 f.f5 f.f6 r
      | none => no 200)) := by
  intro n
  induction n with
  | zero =>
    intro i k K hi hk hK
    obtain ⟨k, rfl⟩ : ∃ j, k = j + 1 := ⟨k - 1, by omega⟩
    obtain rfl : i = 11 := by omega
    have := rtail k w r K hl (by omega)
    refine this.trans ?_
    rcases hK with ⟨h0, hno⟩ | ⟨f, hf, rfl, rfl⟩
    · rw [if_pos h0]
      have : formOf w = none := by
        rw [formOf, List.find?_eq_none]
        intro f hf
        obtain ⟨j, hj, rfl⟩ := List.getElem_of_mem hf
        have hj2 : j < 11 := by have := forms_len; omega
        have er : PAsk.rd_T47 forms (j : Int) = forms[j]'hj := by
          unfold PAsk.rd_T47
          rw [Int.toNat_natCast, List.getD_eq_getElem?_getD, List.getElem?_eq_getElem hj]
          rfl
        have := hno j hj2
        rw [er] at this
        intro e
        exact this (by simpa using e)
      rw [this]
    · obtain ⟨h0, e2, e3, e4, e5, e6⟩ := forms_shape f hf
      rw [if_neg h0, formOf_word f hf]
      simp only
      rw [← e2, ← e3, ← e4, ← e5, ← e6]
  | succ n ih =>
    intro i k K hi hk hK
    obtain ⟨k, rfl⟩ : ∃ j, k = j + 1 := ⟨k - 1, by omega⟩
    have hi11 : i < 11 := by omega
    rw [rstep k i hi11]
    apply ih (i + 1) k _ (by omega) (by omega)
    obtain ⟨hk1, hm⟩ := forms_kinds ⟨i, hi11⟩
    simp only at hk1 hm
    by_cases h : wordOf (PAsk.rd_T47 forms (i : Int)) = w
    · rw [if_pos h]
      exact .inr ⟨_, hm, hk1.symm, h⟩
    · rw [if_neg h]
      rcases hK with ⟨h0, hno⟩ | hK
      · refine .inl ⟨h0, fun j hj => ?_⟩
        by_cases hji : j = i
        · subst hji; exact h
        · exact hno j (by omega)
      · exact .inr hK
theorem rdec_eq (l : List UInt8) (k : Nat) (hl : l.length ≤ 20000) (hk : 2 * l.length + 40 ≤ k) : PAskR.pannierref20_Decode.f k ⟨l.toArray⟩ = some (ofR (decL l)) := by
  unfold PAskR.pannierref20_Decode.f decL
  by_cases h : 16384 < l.length
  · rw [if_pos (by rw [size_mk]; omega), if_pos h]; rfl
  · rw [if_neg (by rw [size_mk]; omega), if_neg h, rcut_eq l _ (by omega) (by omega)]
    have hc := cutL_le l
    simp only [Option.bind_some]
    exact rloop (cutL l).1 (cutL l).2 (by omega) 11 0 k 0 (by omega) (by omega) (.inl ⟨rfl, fun j hj => by omega⟩)
end Go.Proofs.YtbkhhmgpfjemcaaDoor
