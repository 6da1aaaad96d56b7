/-
  The plain law of package ask: bytes are sent.
-/
import Derived.Test.YtbkhhmgpfjemcaaDoorAskP4
import Derived.Test.YtbkhhmgpfjemcaaDoorPAskx3
namespace Go.Proofs.YtbkhhmgpfjemcaaDoor
set_option linter.unusedVariables false
set_option linter.unusedSimpArgs false
open Go.RowKit Go.Proofs.YtbkhhmgpfjemcaaDoorW.PrintWords Go.Proofs.YtbkhhmgpfjemcaaDoorW.PrintLast Go.Proofs.YtbkhhmgpfjemcaaDoorW.PrintMore

theorem send_mem : (⟨(⟨#[115, 101, 110, 100]⟩ : ByteArray), 2, true, true, false, true, false⟩ : Form) ∈ forms := by decide +kernel
theorem send_dec : decL [115, 101, 110, 100, 32, 49, 32, 50, 32, 54, 56, 54, 57] = (2, 1, 2, 0, [], [104, 105], 0) := by
  have := dec_line send_mem (u0 := 1) (u1 := 2) (u2 := 0) (p := []) (bs := [104, 105]) ⟨by simp, by simp, by simp, by omega, by omega, by omega, by simp, by simp, by simp⟩ (by decide +kernel)
  have e : lineOf (⟨(⟨#[115, 101, 110, 100]⟩ : ByteArray), 2, true, true, false, true, false⟩ : Form) 1 2 0 [] [104, 105] = [115, 101, 110, 100, 32, 49, 32, 50, 32, 54, 56, 54, 57] := by decide +kernel
  rw [e] at this
  exact this
theorem send_enc : PAsk.ask_Encode.f 100 2 1 2 0 ⟨#[]⟩ [104, 105] = some ⟨#[115, 101, 110, 100, 32, 49, 32, 50, 32, 54, 56, 54, 57]⟩ := by decide +kernel
theorem asks_true : PAsk.pannierlaw20_asks.f 100 = some true := by
  unfold PAsk.pannierlaw20_asks.f
  have := dec_eq [115, 101, 110, 100, 32, 49, 32, 50, 32, 54, 56, 54, 57] 100 (by omega) (by simp)
  rw [send_dec] at this
  have e : (⟨[115, 101, 110, 100, 32, 49, 32, 50, 32, 54, 56, 54, 57].toArray⟩ : ByteArray) = ⟨#[115, 101, 110, 100, 32, 49, 32, 50, 32, 54, 56, 54, 57]⟩ := rfl
  rw [e] at this
  rw [this]
  simp only [ofL, Option.bind_some, if_true]
  have e2 : (strOfNums [104, 105]).toList = [104, 105] := by rw [Lib.toList_data]; rfl
  have e3 : (⟨#[115, 101, 110, 100, 32, 49, 32, 50, 32, 54, 56, 54, 57]⟩ : ByteArray).toList = [115, 101, 110, 100, 32, 49, 32, 50, 32, 54, 56, 54, 57] := by rw [Lib.toList_data]
  have e4 : (⟨([] : List UInt8).toArray⟩ : ByteArray) = ⟨#[]⟩ := rfl
  rw [if_pos e2, e4, send_enc]
  simp only [Option.bind_some]
  rw [if_pos e3]
end Go.Proofs.YtbkhhmgpfjemcaaDoor
