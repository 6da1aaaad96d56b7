/-
  AskReads in plain words: what a line asks is the document's answer.
-/
import Derived.Test.YtbkhhmgpfjemcaaDoorAskR1
import Derived.Test.YtbkhhmgpfjemcaaDoorAskP5
import Derived.Test.YtbkhhmgpfjemcaaDoorPAskRx3
namespace Go.Proofs.YtbkhhmgpfjemcaaDoor
set_option linter.unusedVariables false
set_option linter.unusedSimpArgs false
open Go.RowKit Go.Proofs.YtbkhhmgpfjemcaaDoorW.PrintWords Go.Proofs.YtbkhhmgpfjemcaaDoorW.PrintLast Go.Proofs.YtbkhhmgpfjemcaaDoorW.PrintMore

theorem reads_law (a : ByteArray) : ∃ k, PAskR.pannierlaw20_AskReads.f k a = some true := by
  refine ⟨50000, ?_⟩
  obtain ⟨l, rfl⟩ : ∃ l : List UInt8, a = ⟨l.toArray⟩ := ⟨a.data.toList, by simp⟩
  unfold PAskR.pannierlaw20_AskReads.f
  have ha : PAskR.pannierlaw20_asks.f = some true := asks_true
  rw [ha]
  simp only [Option.bind_some, if_true]
  by_cases h : 20000 < l.length
  · rw [if_pos (by rw [size_mk]; omega)]
  · rw [if_neg (by rw [size_mk]; omega)]
    have hd : PAskR.ask_Decode.f ⟨l.toArray⟩ = some (ofL (decL l)) := dec_eq l 100 (by omega) (by omega)
    rw [hd, rdec_eq l 50000 (by omega) (by omega)]
    simp only [Option.bind_some, ofL, ofR, if_true, beq_self_eq_true]
end Go.Proofs.YtbkhhmgpfjemcaaDoor
