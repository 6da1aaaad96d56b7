/-
  What FaultWords' row lists: errors' own variable and the library's tables; a world that holds them.
-/
import Derived.Test.YtnhffkdabdilpaaDoorFaultLaid
import Derived.Test.YtnhffkdabdilpaaDoorFaultW5
import Derived.Stop.LaidErr
namespace Go.Proofs.YtnhffkdabdilpaaDoor
open Go.ChangeShapes Go.WideShapes Go.RowKit

theorem gTabType : (Tryd.prog.globals[1]?).map (·.type) = some 88 := by kernel_rfl
theorem cellsTab : Tryd.prog.cellsOf 88 = 20 := by kernel_rfl
theorem cellsU64 : Tryd.prog.cellsOf 80 = 1 := by kernel_rfl
theorem tabData_pow : Rows.laid_internal_strconv_uint64pow10 = (Lib.tabData .u64 Lib.pow10Tab : DataW Unit) := by kernel_rfl
theorem tab_met {W : World} {rest : List (String × DataW Unit)} (h : laidMet Tryd.prog (("internal/strconv.uint64pow10", Rows.laid_internal_strconv_uint64pow10) :: rest) W) : TabOk W := by
  rw [tabData_pow] at h
  have ht := Lib.tabIs_of_head gTab gTabType Tryd.underlying88 Tryd.underlying80 cellsU64 cellsTab h
  refine ⟨ht, ?_⟩
  have hc : W.cell? ⟨1, 0, none⟩ = some (.int .u64 1) := ht.cell gTab 0 (by decide)
  exact cell_lt hc
theorem words_laid {W : World} (h : laidMetH Tryd.prog Rows.faultWordsRow.laid W) : W.cell? ⟨0, 0, none⟩ = some etype ∧ TabOk W := by
  have h' : laidMet Tryd.prog [("math/bits.deBruijn32tab", Rows.laid_math_bits_deBruijn32tab), ("math/bits.deBruijn64tab", Rows.laid_math_bits_deBruijn64tab), ("internal/strconv.uint64pow10", Rows.laid_internal_strconv_uint64pow10)] W ∧ handlesMet Tryd.prog [("errors.errorType", Rows.laid_errors_errorType)] W := h
  exact ⟨handle_met (by simp) h'.2, tab_met h'.1.tail.tail⟩
noncomputable def tabWorld (os : Os) : World :=
  let w0 := laidWorld os
  let w1 : World := { w0 with heap := w0.heap.modify 1 fun
      | .cells _ t frozen => .cells #[.int .u64 1, .int .u64 10, .int .u64 100, .int .u64 1000, .int .u64 10000, .int .u64 100000, .int .u64 1000000, .int .u64 10000000, .int .u64 100000000, .int .u64 1000000000, .int .u64 10000000000, .int .u64 100000000000, .int .u64 1000000000000, .int .u64 10000000000000, .int .u64 100000000000000, .int .u64 1000000000000000, .int .u64 10000000000000000, .int .u64 100000000000000000, .int .u64 1000000000000000000, .int .u64 10000000000000000000] t frozen
      | o => o }
  let w2 : World := { w1 with heap := w1.heap.modify 2 fun
      | .cells _ t frozen => .cells #[.int .u8 0, .int .u8 1, .int .u8 28, .int .u8 2, .int .u8 29, .int .u8 14, .int .u8 24, .int .u8 3, .int .u8 30, .int .u8 22, .int .u8 20, .int .u8 15, .int .u8 25, .int .u8 17, .int .u8 4, .int .u8 8, .int .u8 31, .int .u8 27, .int .u8 13, .int .u8 23, .int .u8 21, .int .u8 19, .int .u8 16, .int .u8 7, .int .u8 26, .int .u8 12, .int .u8 18, .int .u8 6, .int .u8 11, .int .u8 5, .int .u8 10, .int .u8 9] t frozen
      | o => o }
  { w2 with heap := w2.heap.modify 3 fun
      | .cells _ t frozen => .cells #[.int .u8 0, .int .u8 1, .int .u8 56, .int .u8 2, .int .u8 57, .int .u8 49, .int .u8 28, .int .u8 3, .int .u8 61, .int .u8 58, .int .u8 42, .int .u8 50, .int .u8 38, .int .u8 29, .int .u8 17, .int .u8 4, .int .u8 62, .int .u8 47, .int .u8 59, .int .u8 36, .int .u8 45, .int .u8 43, .int .u8 51, .int .u8 22, .int .u8 53, .int .u8 39, .int .u8 33, .int .u8 30, .int .u8 24, .int .u8 18, .int .u8 12, .int .u8 5, .int .u8 63, .int .u8 55, .int .u8 48, .int .u8 27, .int .u8 60, .int .u8 41, .int .u8 37, .int .u8 16, .int .u8 46, .int .u8 35, .int .u8 44, .int .u8 21, .int .u8 52, .int .u8 32, .int .u8 23, .int .u8 11, .int .u8 54, .int .u8 26, .int .u8 40, .int .u8 15, .int .u8 34, .int .u8 20, .int .u8 31, .int .u8 10, .int .u8 25, .int .u8 14, .int .u8 19, .int .u8 9, .int .u8 13, .int .u8 8, .int .u8 7, .int .u8 6] t frozen
      | o => o }
theorem tab_world_met (os : Os) (args : Array Value) : laidMetH Tryd.prog Rows.faultWordsRow.laid ((tabWorld os).forCall (fun _ _ => 0) ⟨#[], args, []⟩).memory :=
  laidMetH_of_parts (laidMet_of_run' 40 (by kernel_rfl) (by kernel_rfl)) (by kernel_rfl)
end Go.Proofs.YtnhffkdabdilpaaDoor
