/-
  The document's answer for package ask, in plain words: words and numbers.
-/
import Derived.Test.YtbkhhmgpfjemcaaDoorAskP4
import Derived.Test.YtbkhhmgpfjemcaaDoorPAskRx1
namespace Go.Proofs.YtbkhhmgpfjemcaaDoor
set_option linter.unusedVariables false
set_option linter.unusedSimpArgs false
open Go.RowKit Go.Proofs.YtbkhhmgpfjemcaaDoorW.PrintWords Go.Proofs.YtbkhhmgpfjemcaaDoorW.PrintLast Go.Proofs.YtbkhhmgpfjemcaaDoorW.PrintMore

theorem mk_extract (l : List UInt8) (a b : Nat) : (⟨l.toArray⟩ : ByteArray).extract a b = ⟨((l.drop a).take (b - a)).toArray⟩ := by
  have h : ((⟨l.toArray⟩ : ByteArray).extract a b).data.toList = (l.drop a).take (b - a) := by
    rw [ByteArray.data_extract, Array.toList_extract]
  cases hx : (⟨l.toArray⟩ : ByteArray).extract a b with
  | mk d =>
    rw [hx] at h
    simp only at h
    rw [← h]
theorem rcut_loop : ∀ (rest pre : List UInt8) (k : Nat), (∀ b ∈ pre, b ≠ 32) → rest.length < k → pre.length + rest.length ≤ 100000 →
    PAskR.pannierref20_cut.l0 k ⟨(pre ++ rest).toArray⟩ (pre.length : Int) = some (⟨(cutL (pre ++ rest)).1.toArray⟩, ⟨(cutL (pre ++ rest)).2.toArray⟩) := by
  intro rest
  induction rest with
  | nil =>
    intro pre k hp hk hl
    obtain ⟨k, rfl⟩ : ∃ j, k = j + 1 := ⟨k - 1, by omega⟩
    have hc := cutL_suf hp (s := []) (.inl rfl)
    rw [PAskR.pannierref20_cut.l0, if_neg (by rw [size_mk]; simp), hc]
    simp
  | cons b r ih =>
    intro pre k hp hk hl
    obtain ⟨k, rfl⟩ : ∃ j, k = j + 1 := ⟨k - 1, by simp at hk; omega⟩
    simp only [List.length_cons] at hk hl
    have e1 : wrap64 ((pre.length : Int) + 1) = ((pre.length + 1 : Nat) : Int) := by rw [wrap_ok (by omega) (by omega)]; omega
    rw [PAskR.pannierref20_cut.l0, if_pos (by rw [size_mk]; simp; omega), if_pos (by omega), bt_list (b := b) (by simp), e1]
    by_cases hb : b = 32
    · subst hb
      have hc := cutL_suf hp (s := 32 :: r) (.inr ⟨r, rfl⟩)
      rw [if_pos (show (((32 : UInt8).toNat : Nat) : Int) = 32 from rfl), if_pos (by rw [size_mk]; simp; omega), if_pos (by omega), if_pos (by rw [size_mk]; simp; omega), hc, mk_extract, mk_extract, size_mk]
      simp only [Int.toNat_natCast, List.length_append, List.length_cons]
      have hd : (pre ++ 32 :: r).drop (pre.length + 1) = r := by
        rw [List.drop_append]
        simp
      rw [hd]
      congr 2
      · simp
      · rw [List.take_of_length_le (by omega)]
        simp
    · rw [if_neg (fun h => hb (by apply UInt8.toNat_inj.1; show b.toNat = 32; omega))]
      have := ih (pre ++ [b]) k (fun x hx => by rcases List.mem_append.1 hx with hx | hx; exact hp x hx; simp at hx; subst hx; exact hb) (by omega) (by simp; omega)
      rw [List.append_assoc, List.length_append] at this
      exact this
theorem rcut_eq (l : List UInt8) (k : Nat) (hl : l.length ≤ 30000) (hk : l.length < k) : PAskR.pannierref20_cut.f k ⟨l.toArray⟩ = some (⟨(cutL l).1.toArray⟩, ⟨(cutL l).2.toArray⟩) := by
  have := rcut_loop l [] k (by simp) hk (by simp; omega)
  simpa [PAskR.pannierref20_cut.f] using this

/-! ### numbers -/
theorem less_iff : ∀ (x y : List UInt8), Op.bytesLess x y = true → ∀ (n u v : Nat), x.length = y.length → valD x n = some u → valD y n = some v → u < v
  | [], [], h, _, _, _, _, _, _ => by simp [Op.bytesLess] at h
  | [], _ :: _, _, _, _, _, hl, _, _ => by simp at hl
  | _ :: _, [], _, _, _, _, hl, _, _ => by simp at hl
  | a :: x, b :: y, h, n, u, v, hl, hu, hv => by
    simp only [List.length_cons, Nat.succ.injEq] at hl
    simp only [Op.bytesLess, Bool.or_eq_true, decide_eq_true_eq, Bool.and_eq_true, beq_iff_eq] at h
    rw [valD] at hu hv
    split at hu
    · split at hv
      · rename_i ha hb
        rcases h with h | ⟨h, h2⟩
        · rw [UInt8.lt_iff_toNat_lt] at h
          have key : ∀ (l : List UInt8) (n u : Nat), valD l n = some u → n * 10 ^ l.length ≤ u ∧ u < (n + 1) * 10 ^ l.length := by
            intro l
            induction l with
            | nil => intro n u h; simp [valD] at h; subst h; simp
            | cons c r ih =>
              intro n u h
              rw [valD] at h
              split at h
              · rename_i hc
                have := ih _ _ h
                rw [List.length_cons, Nat.pow_succ]
                obtain ⟨h1, h2⟩ := this
                constructor
                · refine Nat.le_trans ?_ h1
                  have : n * (10 ^ r.length * 10) = (10 * n) * 10 ^ r.length := by rw [Nat.mul_comm (10 ^ r.length) 10, ← Nat.mul_assoc, Nat.mul_comm n 10]
                  rw [this]
                  exact Nat.mul_le_mul_right _ (by omega)
                · refine Nat.lt_of_lt_of_le h2 ?_
                  have : (n + 1) * (10 ^ r.length * 10) = (10 * (n + 1)) * 10 ^ r.length := by rw [Nat.mul_comm (10 ^ r.length) 10, ← Nat.mul_assoc, Nat.mul_comm (n + 1) 10]
                  rw [this]
                  exact Nat.mul_le_mul_right _ (by omega)
              · cases h
          have h1 := (key _ _ _ hu).2
          have h2 := (key _ _ _ hv).1
          rw [hl] at h1
          refine Nat.lt_of_lt_of_le h1 (Nat.le_trans (Nat.mul_le_mul_right _ ?_) h2)
          omega
        · subst h
          exact less_iff x y h2 _ u v hl hu hv
      · cases hv
    · cases hu
theorem val_len : ∀ (l : List UInt8) (n u : Nat), valD l n = some u → n * 10 ^ l.length ≤ u ∧ u < (n + 1) * 10 ^ l.length := by
  intro l
  induction l with
  | nil => intro n u h; simp [valD] at h; subst h; simp
  | cons c r ih =>
    intro n u h
    rw [valD] at h
    split at h
    · rename_i hc
      have := ih _ _ h
      rw [List.length_cons, Nat.pow_succ]
      obtain ⟨h1, h2⟩ := this
      constructor
      · refine Nat.le_trans ?_ h1
        have : n * (10 ^ r.length * 10) = (10 * n) * 10 ^ r.length := by rw [Nat.mul_comm (10 ^ r.length) 10, ← Nat.mul_assoc, Nat.mul_comm n 10]
        rw [this]
        exact Nat.mul_le_mul_right _ (by omega)
      · refine Nat.lt_of_lt_of_le h2 ?_
        have : (n + 1) * (10 ^ r.length * 10) = (10 * (n + 1)) * 10 ^ r.length := by rw [Nat.mul_comm (10 ^ r.length) 10, ← Nat.mul_assoc, Nat.mul_comm (n + 1) 10]
        rw [this]
        exact Nat.mul_le_mul_right _ (by omega)
    · cases h
theorem less_not (x y : List UInt8) (n u v : Nat) (h : ¬ Op.bytesLess x y = true) (hl : x.length = y.length) (hu : valD x n = some u) (hv : valD y n = some v) : v ≤ u := by
  have ht := PAskR.less_total x y
  have hf : Op.bytesLess x y = false := by simpa using h
  rw [hf, Bool.false_or] at ht
  by_cases he : x = y
  · subst he
    rw [hu] at hv
    have := Option.some.inj hv
    omega
  · have hb : (x == y) = false := by rw [beq_eq_false_iff_ne]; exact he
    rw [hb] at ht
    have := less_iff y x ht.symm n v u hl.symm hv hu
    omega
/-- A word as a number, by its digits. -/
def numV (l : List UInt8) : Int × Int := match valD l 0 with
  | some u => if l = [] ∨ (1 < l.length ∧ l.getD 0 0 = 48) then (0, 200) else if 9223372036854775807 < u then (0, 200) else if 1048576 < u then (0, 1) else ((u : Int), 0)
  | none => (0, 200)
theorem numL_eq (l : List UInt8) : numL l = numV l := by
  unfold numV
  have bad : (∀ u : Nat, u ≤ 9223372036854775807 → l ≠ Lib.decDigits u) → numL l = (0, 200) := by
    intro hno
    unfold numL askNum
    split
    · rfl
    · rename_i n hn
      by_cases h1 : itoaS n ≠ ⟨l.toArray⟩
      · rw [if_pos h1]
      · rw [if_neg h1]
        by_cases h2 : n < 0
        · rw [if_pos h2]
        · exfalso
          obtain ⟨u, rfl⟩ : ∃ u : Nat, n = u := ⟨n.toNat, by omega⟩
          have hb := atoiOpt_bounds hn
          have e := congrArg (fun b : ByteArray => b.data.toList) (Classical.not_not.1 h1)
          simp only [itoaS] at e
          exact hno u (by omega) (by rw [← Lib.itoa_nonneg]; exact e.symm)
  cases hv : valD l 0 with
  | none =>
    simp only
    apply bad
    rintro u _ rfl
    rw [valD_dec] at hv
    cases hv
  | some u =>
    simp only
    by_cases h1 : l = [] ∨ (1 < l.length ∧ l.getD 0 0 = 48)
    · rw [if_pos h1]
      apply bad
      rintro v _ rfl
      rcases h1 with h1 | ⟨h1, h2⟩
      · exact dec_ne v h1
      · rcases dec_head v with h | h
        · exact h h2
        · omega
    · rw [if_neg h1]
      have hne : l ≠ [] := fun h => h1 (.inl h)
      have hl : l = Lib.decDigits u := by
        refine dec_of_val u l hne hv ?_
        by_cases hq : l.length = 1
        · exact .inr hq
        · left
          intro h48
          apply h1
          right
          refine ⟨?_, h48⟩
          have : l.length ≠ 0 := fun h => hne (List.eq_nil_of_length_eq_zero h)
          omega
      by_cases hu : u ≤ 9223372036854775807
      · rw [if_neg (by omega), hl, ← Lib.itoa_nonneg, numL_itoa hu]
        by_cases h3 : u ≤ 1048576
        · rw [if_pos h3, if_neg (by omega)]
        · rw [if_neg h3, if_pos (by omega)]
      · rw [if_pos (by omega)]
        apply bad
        intro v hv2 e
        have := valD_dec v
        rw [← e, hv] at this
        have := Option.some.inj this
        omega
def numR (l : List UInt8) : Int × Int := match valD l 0 with
  | none => (0, 200)
  | some u => if 18 < l.length then (if 19 < l.length then (0, 200) else if l.length = 19 then (if 9223372036854775807 < u then (0, 200) else (0, 1)) else (0, 1)) else if 1048576 < u then (0, 1) else ((u : Int), 0)
theorem rnum_loop (l : List UInt8) (hl : l.length ≤ 30000) : ∀ (rest pre : List UInt8) (k v : Nat) (x4 : Int), l = pre ++ rest → valD pre 0 = some v → 0 ≤ x4 → x4 ≤ 20000000 → (v ≤ 1048576 → x4 = v) → (1048576 < v → 1048576 < x4) → 2 * rest.length < k →
    PAskR.pannierref20_number.l0 k ⟨l.toArray⟩ x4 (pre.length : Int) = some (numR l) := by
  unfold numR
  intro rest
  induction rest with
  | nil =>
    intro pre k v x4 he hv h0 h1 h2 h3 hk
    obtain ⟨k, rfl⟩ : ∃ j, k = j + 1 := ⟨k - 1, by omega⟩
    rw [List.append_nil] at he
    subst he
    rw [PAskR.pannierref20_number.l0, if_neg (by rw [size_mk]; omega), hv]
    simp only
    by_cases c1 : 18 < l.length
    · rw [if_pos (by rw [size_mk]; omega), if_pos c1, PAskR.pannierref20_long.f]
      by_cases c2 : 19 < l.length
      · rw [if_pos (by rw [size_mk]; omega), if_pos c2]; rfl
      · rw [if_neg (by rw [size_mk]; omega), if_neg c2, if_pos (by rw [size_mk]; omega), if_pos (show l.length = 19 by omega)]
        have hm : valD [57, 50, 50, 51, 51, 55, 50, 48, 51, 54, 56, 53, 52, 55, 55, 53, 56, 48, 55] 0 = some 9223372036854775807 := by decide +kernel
        have hb : (⟨l.toArray⟩ : ByteArray).toList = l := by rw [Lib.toList_data]
        rw [hb]
        by_cases c3 : Op.bytesLess [57, 50, 50, 51, 51, 55, 50, 48, 51, 54, 56, 53, 52, 55, 55, 53, 56, 48, 55] l = true
        · rw [if_pos c3, if_pos (less_iff _ _ c3 0 _ _ (by simp; omega) hm hv)]; rfl
        · have := less_not _ _ 0 _ _ c3 (by simp; omega) hm hv
          rw [if_neg c3, if_neg (by omega)]; rfl
    · rw [if_neg (by rw [size_mk]; omega), if_neg c1]
      by_cases c4 : 1048576 < v
      · rw [if_pos (by have := h3 c4; omega), if_pos c4]
      · rw [if_neg (by have := h2 (by omega); omega), if_neg c4, h2 (by omega)]
  | cons b r ih =>
    intro pre k v x4 he hv h0 h1 h2 h3 hk
    simp only [List.length_cons] at hk
    obtain ⟨k, rfl⟩ : ∃ j, k = j + 1 + 1 := ⟨k - 2, by omega⟩
    have hlen := congrArg List.length he
    simp only [List.length_append, List.length_cons] at hlen
    have hb : bt ⟨l.toArray⟩ (pre.length : Int) = (b.toNat : Int) := bt_list (by rw [he]; simp)
    have e1 : wrap64 ((pre.length : Int) + 1) = ((pre.length + 1 : Nat) : Int) := by rw [wrap_ok (by omega) (by omega)]; omega
    rw [PAskR.pannierref20_number.l0, if_pos (by rw [size_mk]; omega), if_pos (by omega), hb]
    have hnone : ¬ (48 ≤ b.toNat ∧ b.toNat ≤ 57) → valD l 0 = none := by
      intro hn
      rw [he]
      have key : ∀ (p : List UInt8) (n : Nat), valD (p ++ b :: r) n = none := by
        intro p
        induction p with
        | nil => intro n; simp only [List.nil_append, valD]; rw [if_neg hn]
        | cons c p ihp => intro n; simp only [List.cons_append, valD]; split <;> first | exact ihp _ | rfl
      exact key pre 0
    by_cases c1 : b.toNat < 48
    · rw [if_pos (by omega), PAskR.pannierref20_number.j2, if_pos rfl, hnone (by omega)]
    · rw [if_neg (by omega), PAskR.pannierref20_number.j2]
      by_cases c2 : 57 < b.toNat
      · rw [if_pos (decide_eq_true (by omega)), hnone (by omega)]
      · rw [if_neg (by simp; omega), hb, e1, if_pos (show (0 : Int) ≤ (pre.length : Int) by omega), if_pos (show (pre.length : Int) < ((⟨l.toArray⟩ : ByteArray).size : Int) by rw [size_mk]; omega)]
        have hv2 : valD (pre ++ [b]) 0 = some (10 * v + (b.toNat - 48)) := by
          rw [valD_snoc, hv]
          simp only [Option.bind_some]
          rw [if_pos (by omega)]
        have hl2 : ((pre ++ [b]).length : Int) = ((pre.length + 1 : Nat) : Int) := by simp
        have hx : ∀ y4 : Int, 0 ≤ y4 → y4 ≤ 20000000 → (10 * v + (b.toNat - 48) ≤ 1048576 → y4 = ((10 * v + (b.toNat - 48) : Nat) : Int)) → (1048576 < 10 * v + (b.toNat - 48) → 1048576 < y4) → PAskR.pannierref20_number.l0 k ⟨l.toArray⟩ y4 ((pre.length + 1 : Nat) : Int) = some (numR l) := by
          unfold numR
          intro y4 y0 y1 y2 y3
          have := ih (pre ++ [b]) k (10 * v + (b.toNat - 48)) y4 (by rw [List.append_assoc]; exact he) hv2 y0 y1 y2 y3 (by omega)
          rw [hl2] at this
          exact this
        by_cases c3 : x4 ≤ 1048576
        · rw [if_pos c3]
          have hxv : x4 = v := h2 (by by_cases hq : v ≤ 1048576; exact hq; have := h3 (by omega); omega)
          have ev : wrap64 (wrap64 (10 * x4) + ((b.toNat : Int) - 48) % 256) = 10 * x4 + ((b.toNat : Int) - 48) := by
            rw [wrap_ok (n := 10 * x4) (by omega) (by omega), wrap_ok (by omega) (by omega)]
            omega
          rw [ev]
          unfold numR at hx
          exact hx _ (by omega) (by omega) (by omega) (by omega)
        · rw [if_neg c3]
          unfold numR at hx
          exact hx _ h0 h1 (fun h => by exfalso; have := h2 (by omega); omega) (fun h => by omega)
theorem rnum_eq (l : List UInt8) (k : Nat) (hl : l.length ≤ 30000) (hk : 2 * l.length + 2 < k) : PAskR.pannierref20_number.f k ⟨l.toArray⟩ = some (numL l) := by
  rw [numL_eq, numV, PAskR.pannierref20_number.f]
  have hb : (⟨l.toArray⟩ : ByteArray).toList = l := by rw [Lib.toList_data]
  rw [hb]
  obtain ⟨k, rfl⟩ : ∃ j, k = j + 1 := ⟨k - 1, by omega⟩
  have hno : ∀ c : Bool, c = true → PAskR.pannierref20_number.j0 (k + 1) ⟨l.toArray⟩ c = some (0, 200) := by
    intro c hc
    rw [PAskR.pannierref20_number.j0, if_pos hc]
  by_cases h1 : l = []
  · rw [if_pos h1, hno true rfl]
    subst h1
    simp [valD]
  · rw [if_neg h1]
    have h0 : l.length ≠ 0 := fun h => h1 (List.eq_nil_of_length_eq_zero h)
    have hbt : bt ⟨l.toArray⟩ 0 = ((l.getD 0 0).toNat : Int) := by
      have := bt_list (l := l) (i := 0) (b := l.getD 0 0) (by cases l with | nil => exact absurd rfl h1 | cons c r => rfl)
      exact this
    have hj : ∀ c : Bool, c = decide (1 < l.length ∧ l.getD 0 0 = 48) → PAskR.pannierref20_number.j0 (k + 1) ⟨l.toArray⟩ c = some (match valD l 0 with
      | some u => if l = [] ∨ (1 < l.length ∧ l.getD 0 0 = 48) then (0, 200) else if 9223372036854775807 < u then (0, 200) else if 1048576 < u then (0, 1) else ((u : Int), 0)
      | none => (0, 200)) := by
      intro c hc
      by_cases h2 : 1 < l.length ∧ l.getD 0 0 = 48
      · rw [hno c (by rw [hc]; exact decide_eq_true h2)]
        cases valD l 0 with
        | none => rfl
        | some u => simp only; rw [if_pos (.inr h2)]
      · have hc2 : c = false := by rw [hc]; exact decide_eq_false h2
        subst hc2
        rw [PAskR.pannierref20_number.j0, if_neg (by decide)]
        have := rnum_loop l hl l [] k 0 0 rfl rfl (by omega) (by omega) (fun _ => rfl) (fun h => by omega) (by omega)
        refine this.trans ?_
        unfold numR
        cases hv : valD l 0 with
        | none => rfl
        | some u =>
          simp only
          rw [if_neg (show ¬ (l = [] ∨ (1 < l.length ∧ l.getD 0 0 = 48)) from fun h => h.elim h1 h2)]
          have hlow : 1 < l.length → 10 ^ (l.length - 1) ≤ u := by
            intro hg
            cases l with
            | nil => exact absurd rfl h1
            | cons b r =>
              rw [valD] at hv
              split at hv
              · rename_i hd
                have hk2 := (val_len r _ _ hv).1
                simp only [List.length_cons, Nat.add_sub_cancel] at *
                have : b.toNat ≠ 48 := fun h => h2 ⟨by omega, by simp only [List.getD_cons_zero]; apply UInt8.toNat_inj.1; rw [h]; rfl⟩
                refine Nat.le_trans ?_ hk2
                have hq : 1 * 10 ^ r.length ≤ (10 * 0 + (b.toNat - 48)) * 10 ^ r.length := Nat.mul_le_mul_right _ (by omega)
                omega
              · cases hv
          have hhi : u < 10 ^ l.length := by have := (val_len l 0 u hv).2; omega
          have hp : ∀ a b : Nat, a ≤ b → 10 ^ a ≤ 10 ^ b := fun a b h => Nat.pow_le_pow_right (by omega) h
          by_cases c1 : 18 < l.length
          · rw [if_pos c1]
            have hL := hlow (by omega)
            by_cases c2 : 19 < l.length
            · rw [if_pos c2]
              have := hp 19 (l.length - 1) (by omega)
              rw [if_pos (by omega)]
            · rw [if_neg c2, if_pos (by omega)]
              have := hp 18 (l.length - 1) (by omega)
              by_cases c3 : 9223372036854775807 < u
              · rw [if_pos c3, if_pos c3]
              · rw [if_neg c3, if_neg c3, if_pos (by omega)]
          · rw [if_neg c1]
            have := hp l.length 18 (by omega)
            rw [if_neg (show ¬ 9223372036854775807 < u by omega)]
    by_cases c1 : 1 < l.length
    · rw [if_pos (by rw [size_mk]; omega), if_pos (by rw [size_mk]; omega)]
      apply hj
      rw [hbt]
      by_cases h48 : l.getD 0 0 = 48
      · rw [h48, decide_eq_true ⟨c1, rfl⟩]; rfl
      · rw [decide_eq_false (fun h => h48 h.2), beq_eq_false_iff_ne]
        intro h
        apply h48
        apply UInt8.toNat_inj.1
        show (l.getD 0 0).toNat = 48
        omega
    · rw [if_neg (by rw [size_mk]; omega)]
      exact hj false (decide_eq_false (fun h => c1 h.1)).symm
end Go.Proofs.YtbkhhmgpfjemcaaDoor
