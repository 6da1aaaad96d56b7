/-
  AskLong in plain words: a line of as many bytes as may be is read, and no longer one.
-/
import Derived.Test.YtbkhhmgpfjemcaaDoorAskP5
import Derived.Test.YtbkhhmgpfjemcaaDoorAskLongW
namespace Go.Proofs.YtbkhhmgpfjemcaaDoor
set_option linter.unusedVariables false
set_option linter.unusedSimpArgs false
open Go.RowKit Go.Proofs.YtbkhhmgpfjemcaaDoorW.PrintWords Go.Proofs.YtbkhhmgpfjemcaaDoorW.PrintLast Go.Proofs.YtbkhhmgpfjemcaaDoorW.PrintMore

/-- What is asked of the text when the loop ends. -/
abbrev longEnd (n : Int) (xs : List Int) : Option Bool := (PAskL.ask_Decode.f (strOfNums xs)).bind fun bt108 => (if n > 16384 then (if bt108.2.2.2.2.2.2 = 2 then (some (bt108.1 == 0)) else (some false)) else (if bt108.2.2.2.2.2.2 = 0 then (some ((bt108.2.2.2.2.1.size : Int) == (wrap64 (n - 7)))) else (some false)))
theorem long_loop (n : Nat) (hn : n ≤ 20000) : ∀ (m k : Nat) (xs : List Int), xs.length + m = n → m < k → PAskL.pannierlaw20_AskLong.l0 k (n : Int) xs = longEnd n (xs ++ List.replicate m 97) := by
  intro m
  induction m with
  | zero =>
    intro k xs hx hk
    obtain ⟨k, rfl⟩ : ∃ j, k = j + 1 := ⟨k - 1, by omega⟩
    rw [PAskL.pannierlaw20_AskLong.l0, if_neg (by omega), List.replicate_zero, List.append_nil]
  | succ m ih =>
    intro k xs hx hk
    obtain ⟨k, rfl⟩ : ∃ j, k = j + 1 := ⟨k - 1, by omega⟩
    rw [PAskL.pannierlaw20_AskLong.l0, if_pos (by omega), if_pos (by omega), ih k (xs ++ [97]) (by simp; omega) (by omega), List.append_assoc, List.replicate_succ]
    rfl
theorem list_mem : (⟨(⟨#[108, 105, 115, 116]⟩ : ByteArray), 5, true, false, false, false, true⟩ : Form) ∈ forms := by decide +kernel
theorem long_dec (p : List UInt8) (hp : p.length ≤ 16377) : decL ([108, 105, 115, 116, 32, 48, 32] ++ p) = (5, 0, 0, 0, p, [], 0) := by
  have hi : Lib.itoa ((0 : Nat) : Int) = [48] := by decide +kernel
  have hw : wordOf (⟨(⟨#[108, 105, 115, 116]⟩ : ByteArray), 5, true, false, false, false, true⟩ : Form) = [108, 105, 115, 116] := rfl
  have e : [108, 105, 115, 116, 32, 48, 32] ++ p = wordOf (⟨(⟨#[108, 105, 115, 116]⟩ : ByteArray), 5, true, false, false, false, true⟩ : Form) ++ (fld true 0 ++ 32 :: p) := by
    rw [hw, fld, if_pos rfl, hi]; rfl
  have hs : Suf (32 :: p) := .inr ⟨p, rfl⟩
  rw [e, dec_suf list_mem (suf_fld true 0 hs) (by rw [hw, fld, if_pos rfl, hi]; simp only [List.length_append, List.length_cons, List.length_nil]; omega)]
  have hst := step_fld (b := true) (u := 0) (by omega) (by simp) hs
  rw [if_neg (by omega), if_neg (by omega)] at hst
  simp only
  unfold readL
  rw [hst]
  simp [stepL]
theorem long_law (n : Int) : ∃ k, PAskL.pannierlaw20_AskLong.f k n = some true := by
  refine ⟨20002, ?_⟩
  have hj : PAskL.pannierlaw20_AskLong.j0 20002 n true = some true := by
    rw [show (20002 : Nat) = 20001 + 1 from rfl, PAskL.pannierlaw20_AskLong.j0, if_pos rfl]
  unfold PAskL.pannierlaw20_AskLong.f
  have ha : PAskL.pannierlaw20_asks.f = some true := asks_true
  rw [ha]
  simp only [Option.bind_some, if_true]
  by_cases h0 : n < 16370
  · rw [if_pos h0, hj]
  rw [if_neg h0]
  by_cases h1 : n > 16400
  · rw [decide_eq_true h1, hj]
  rw [decide_eq_false h1]
  obtain ⟨u, rfl⟩ : ∃ u : Nat, n = u := ⟨n.toNat, by omega⟩
  rw [show (20002 : Nat) = 20001 + 1 from rfl, PAskL.pannierlaw20_AskLong.j0, if_neg (by decide)]
  rw [long_loop u (by omega) (u - 7) 20001 [108, 105, 115, 116, 32, 48, 32] (by simp; omega) (by omega)]
  obtain ⟨p, hp⟩ : ∃ p : List UInt8, p = List.replicate (u - 7) 97 := ⟨_, rfl⟩
  have hpl : p.length = u - 7 := by rw [hp, List.length_replicate]
  have es : strOfNums ([108, 105, 115, 116, 32, 48, 32] ++ List.replicate (u - 7) 97) = ⟨(([108, 105, 115, 116, 32, 48, 32] : List UInt8) ++ p).toArray⟩ := by
    unfold strOfNums
    rw [List.map_append, List.map_replicate, hp]
    rfl
  unfold longEnd
  have hd : PAskL.ask_Decode.f ⟨(([108, 105, 115, 116, 32, 48, 32] : List UInt8) ++ p).toArray⟩ = some (ofL (decL ([108, 105, 115, 116, 32, 48, 32] ++ p))) := dec_eq _ 100 (by omega) (by simp; omega)
  rw [es, hd]
  simp only [Option.bind_some]
  by_cases h2 : u ≤ 16384
  · rw [if_neg (by omega), long_dec p (by omega)]
    have e7 : wrap64 ((u : Int) - 7) = ((u - 7 : Nat) : Int) := by rw [wrap_ok (by omega) (by omega)]; omega
    simp only [ofL, if_true, size_mk, hpl, e7]
    simp
  · have hq : decL (([108, 105, 115, 116, 32, 48, 32] : List UInt8) ++ p) = no 2 := by rw [decL, if_pos (by simp; omega)]
    rw [hq, if_pos (by omega)]
    simp [ofL, no]
end Go.Proofs.YtbkhhmgpfjemcaaDoor
