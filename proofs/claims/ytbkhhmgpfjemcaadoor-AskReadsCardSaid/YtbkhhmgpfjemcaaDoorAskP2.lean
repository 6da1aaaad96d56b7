/-
  The plain law of package ask: bytes as digits; what a line asks.
-/
import Derived.Test.YtbkhhmgpfjemcaaDoorAskP1
import Derived.Test.YtbkhhmgpfjemcaaDoorAskExt
namespace Go.Proofs.YtbkhhmgpfjemcaaDoor
set_option linter.unusedVariables false
set_option linter.unusedSimpArgs false
open Go.RowKit Go.Proofs.YtbkhhmgpfjemcaaDoorW.PrintWords Go.Proofs.YtbkhhmgpfjemcaaDoorW.PrintLast Go.Proofs.YtbkhhmgpfjemcaaDoorW.PrintMore

theorem wrap_ok {n : Int} (h0 : -9223372036854775808 ≤ n) (h1 : n ≤ 9223372036854775807) : wrap64 n = n := by unfold wrap64; omega
def hexD : List UInt8 := [48, 49, 50, 51, 52, 53, 54, 55, 56, 57, 97, 98, 99, 100, 101, 102]
def digV (b : UInt8) : Int := Lib.indexByte hexD b
def dataV : List UInt8 → Option (List Int)
  | [] => some []
  | [_] => none
  | a :: b :: r => if digV a < 0 then none else if digV b < 0 then none else (dataV r).map fun x => (16 * digV a + digV b) :: x
theorem bt_list {l : List UInt8} {i : Nat} {b : UInt8} (h : l[i]? = some b) : bt ⟨l.toArray⟩ (i : Int) = (b.toNat : Int) := by
  obtain ⟨hi, hb⟩ := List.getElem?_eq_some_iff.1 h
  unfold bt
  rw [dif_pos (show ((i : Int)).toNat < (⟨l.toArray⟩ : ByteArray).size by simpa [ByteArray.size] using hi)]
  have : (⟨l.toArray⟩ : ByteArray)[(i : Int).toNat]'(by simpa [ByteArray.size] using hi) = l[i] := rfl
  rw [this, hb]
theorem size_mk (l : List UInt8) : (⟨l.toArray⟩ : ByteArray).size = l.length := by simp [ByteArray.size]
theorem digV_le (b : UInt8) : -1 ≤ digV b ∧ digV b ≤ 15 := by
  have key : ∀ n : Fin 256, -1 ≤ digV (UInt8.ofNat n.val) ∧ digV (UInt8.ofNat n.val) ≤ 15 := by decide +kernel
  have := key ⟨b.toNat, b.toNat_lt⟩
  simpa using this
theorem data_loop : ∀ (rest : List UInt8) (pre : List UInt8) (acc : List Int) (k : Nat), rest.length % 2 = 0 → rest.length < 2 * k → pre.length + rest.length ≤ 200000 → acc.length + rest.length ≤ 200000 →
    PAskA.ask_data.l0 k ⟨(pre ++ rest).toArray⟩ acc (pre.length : Int) = some (match dataV rest with | some bs => (acc ++ bs, 0) | none => ([], 200)) := by
  intro rest
  induction rest using dataV.induct with
  | case1 =>
    intro pre acc k h2 hk hp ha
    obtain ⟨k, rfl⟩ : ∃ j, k = j + 1 := ⟨k - 1, by simp at hk; omega⟩
    rw [PAskA.ask_data.l0, if_neg (by rw [size_mk]; simp)]
    simp [dataV]
  | case2 x => intro pre acc k h2; simp at h2
  | case3 a b r h1 =>
    intro pre acc k h2 hk hp ha
    obtain ⟨k, rfl⟩ : ∃ j, k = j + 1 := ⟨k - 1, by simp at hk; omega⟩
    simp only [List.length_cons] at hk hp ha h2
    have e1 : wrap64 ((pre.length : Int) + 1) = ((pre.length + 1 : Nat) : Int) := by rw [wrap_ok (by omega) (by omega)]; omega
    rw [PAskA.ask_data.l0, if_pos (by rw [size_mk]; simp; omega), if_pos (by omega), e1]
    rw [bt_list (b := a) (by simp), bt_list (b := b) (by simp)]
    simp only [PAskA.strings_IndexByte.f, Option.bind_some]
    rw [if_pos (by omega), if_pos (by rw [size_mk]; simp; omega)]
    have ea : Lib.indexByte (⟨#[48, 49, 50, 51, 52, 53, 54, 55, 56, 57, 97, 98, 99, 100, 101, 102]⟩ : ByteArray).data.toList ((a.toNat : Int)).toNat.toUInt8 = digV a := by simp [digV, hexD]
    rw [ea, if_pos h1, dataV, if_pos h1]
  | case4 a b r h1 h3 =>
    intro pre acc k h2 hk hp ha
    obtain ⟨k, rfl⟩ : ∃ j, k = j + 1 := ⟨k - 1, by simp at hk; omega⟩
    simp only [List.length_cons] at hk hp ha h2
    have e1 : wrap64 ((pre.length : Int) + 1) = ((pre.length + 1 : Nat) : Int) := by rw [wrap_ok (by omega) (by omega)]; omega
    rw [PAskA.ask_data.l0, if_pos (by rw [size_mk]; simp; omega), if_pos (by omega), e1]
    rw [bt_list (b := a) (by simp), bt_list (b := b) (by simp)]
    simp only [PAskA.strings_IndexByte.f, Option.bind_some]
    rw [if_pos (by omega), if_pos (by rw [size_mk]; simp; omega)]
    have ea : Lib.indexByte (⟨#[48, 49, 50, 51, 52, 53, 54, 55, 56, 57, 97, 98, 99, 100, 101, 102]⟩ : ByteArray).data.toList ((a.toNat : Int)).toNat.toUInt8 = digV a := by simp [digV, hexD]
    have eb : Lib.indexByte (⟨#[48, 49, 50, 51, 52, 53, 54, 55, 56, 57, 97, 98, 99, 100, 101, 102]⟩ : ByteArray).data.toList ((b.toNat : Int)).toNat.toUInt8 = digV b := by simp [digV, hexD]
    rw [ea, eb, if_neg h1, if_pos h3, dataV, if_neg h1, if_pos h3]
  | case5 a b r h1 h3 ih =>
    intro pre acc k h2 hk hp ha
    obtain ⟨k, rfl⟩ : ∃ j, k = j + 1 := ⟨k - 1, by simp at hk; omega⟩
    simp only [List.length_cons] at hk hp ha h2
    have e1 : wrap64 ((pre.length : Int) + 1) = ((pre.length + 1 : Nat) : Int) := by rw [wrap_ok (by omega) (by omega)]; omega
    have e2 : wrap64 ((pre.length : Int) + 2) = ((pre.length + 2 : Nat) : Int) := by rw [wrap_ok (by omega) (by omega)]; omega
    rw [PAskA.ask_data.l0, if_pos (by rw [size_mk]; simp; omega), if_pos (by omega), e1, e2]
    rw [bt_list (b := a) (by simp), bt_list (b := b) (by simp)]
    simp only [PAskA.strings_IndexByte.f, Option.bind_some]
    rw [if_pos (by omega), if_pos (by rw [size_mk]; simp; omega)]
    have ea : Lib.indexByte (⟨#[48, 49, 50, 51, 52, 53, 54, 55, 56, 57, 97, 98, 99, 100, 101, 102]⟩ : ByteArray).data.toList ((a.toNat : Int)).toNat.toUInt8 = digV a := by simp [digV, hexD]
    have eb : Lib.indexByte (⟨#[48, 49, 50, 51, 52, 53, 54, 55, 56, 57, 97, 98, 99, 100, 101, 102]⟩ : ByteArray).data.toList ((b.toNat : Int)).toNat.toUInt8 = digV b := by simp [digV, hexD]
    have := digV_le a
    have := digV_le b
    rw [ea, eb, if_neg h1, if_neg h3, if_pos (by omega)]
    have ev : (wrap64 ((wrap64 (16 * digV a)) + digV b)) % 256 = 16 * digV a + digV b := by
      rw [wrap_ok (n := 16 * digV a) (by omega) (by omega), wrap_ok (by omega) (by omega)]
      omega
    have := ih (pre ++ [a, b]) (acc ++ [16 * digV a + digV b]) k (by omega) (by omega) (by simp; omega) (by simp; omega)
    rw [List.append_assoc, List.length_append] at this
    rw [ev]
    refine this.trans ?_
    rw [dataV, if_neg h1, if_neg h3]
    cases dataV r with
    | none => rfl
    | some x => simp
theorem data_eq (l : List UInt8) (k : Nat) (hl : l.length ≤ 100000) (hk : l.length < 2 * k) : PAskA.ask_data.f k ⟨l.toArray⟩ = some (match dataV l with | some bs => (bs, 0) | none => ([], 200)) := by
  unfold PAskA.ask_data.f
  by_cases h : l.length % 2 = 0
  · rw [if_pos (by rw [size_mk]; omega)]
    simpa using data_loop l [] [] k h hk (by simp; omega) (by simp; omega)
  · rw [if_neg (by rw [size_mk]; omega)]
    have key : ∀ l : List UInt8, l.length % 2 ≠ 0 → dataV l = none := by
      intro l
      induction l using dataV.induct with
      | case1 => intro h; simp at h
      | case2 x => intro _; rfl
      | case3 a b r h1 => intro _; rw [dataV, if_pos h1]
      | case4 a b r h1 h3 => intro _; rw [dataV, if_neg h1, if_pos h3]
      | case5 a b r h1 h3 ih =>
        intro h
        simp only [List.length_cons] at h
        rw [dataV, if_neg h1, if_neg h3, ih (by omega)]
        rfl
    rw [key l h]
/-- Bytes as digits. -/
def hexOf : List Int → List UInt8
  | [] => []
  | x :: r => hexD.getD (x / 16).toNat 0 :: hexD.getD (x % 16).toNat 0 :: hexOf r
theorem digV_hex (i : Nat) (h : i < 16) : digV (hexD.getD i 0) = i := by
  have key : ∀ i : Fin 16, digV (hexD.getD i.val 0) = i.val := by decide +kernel
  exact key ⟨i, h⟩
theorem dataV_hex : ∀ bs : List Int, (∀ x ∈ bs, 0 ≤ x ∧ x ≤ 255) → dataV (hexOf bs) = some bs := by
  intro bs
  induction bs with
  | nil => intro _; rfl
  | cons x r ih =>
    intro h
    obtain ⟨h0, h1⟩ := h x (by simp)
    have e1 := digV_hex (x / 16).toNat (by omega)
    have e2 := digV_hex (x % 16).toNat (by omega)
    rw [hexOf, dataV, e1, e2, if_neg (by omega), if_neg (by omega), ih fun y hy => h y (by simp [hy])]
    simp only [Option.map_some]
    congr 2
    omega
end Go.Proofs.YtbkhhmgpfjemcaaDoor
