/-
  What the rows of emit's laws list: the library's tables: the facts; a world that holds them.
-/
import Derived.Test.YtpbpfngichfgeaaDoorEnv
import Derived.Test.YtpbpfngichfgeaaDoorKit
import Derived.Stop.LaidErr
import Derived.Shelf.Vars
import Derived.Deep.DeepWitnessRowRef
namespace Go.Proofs.YtpbpfngichfgeaaDoor
open Go.ChangeShapes Go.WideShapes Go.RowKit

theorem gTabType : (Tryd.prog.globals[1]?).map (·.type) = some 111 := by kernel_rfl
theorem cellsTab : Tryd.prog.cellsOf 111 = 20 := by kernel_rfl
theorem cellsU64 : Tryd.prog.cellsOf 98 = 1 := by kernel_rfl
theorem tabData_pow : Rows.laid_internal_strconv_uint64pow10 = (Lib.tabData .u64 Lib.pow10Tab : DataW Unit) := by kernel_rfl
theorem tab_met {W : World} {rest : List (String × DataW Unit)} (h : laidMet Tryd.prog (("internal/strconv.uint64pow10", Rows.laid_internal_strconv_uint64pow10) :: rest) W) : Lib.TabIs Tryd.prog W "internal/strconv.uint64pow10" .u64 Lib.pow10Tab := by
  rw [tabData_pow] at h
  exact Lib.tabIs_of_head gTab gTabType Tryd.underlying111 Tryd.underlying98 cellsU64 cellsTab h
abbrev laidM : List (String × DataW Unit) := [("math/bits.deBruijn32tab", Rows.laid_math_bits_deBruijn32tab), ("math/bits.deBruijn64tab", Rows.laid_math_bits_deBruijn64tab), ("internal/strconv.uint64pow10", Rows.laid_internal_strconv_uint64pow10)]
theorem size_of_shaped {W : World} (h : W.ShapedOpen Tryd.prog) : 4 ≤ W.heap.size := by
  obtain ⟨o, _, ho, _⟩ := h.2 4 (by decide +kernel) (of_decide_eq_true (by kernel_rfl))
  rcases Nat.lt_or_ge 4 W.heap.size with hl | hl
  · omega
  · simp [Array.getElem?_eq_none hl] at ho
theorem envE_of {W : World} (hL : laidMetH Tryd.prog laidM W) (hsh : W.ShapedOpen Tryd.prog) : EnvE W := by
  have h : laidMet Tryd.prog laidM W := hL
  exact { env := { tab := tab_met h.tail.tail
                   mx := cell_of_shapedOpen_int (zero := #[.int .i64 0]) (t := 3) hsh (of_decide_eq_true (by kernel_rfl)) (by kernel_rfl) rfl (by kernel_rfl) (by kernel_rfl) Tryd.underlying3
                   size := size_of_shaped hsh } }
noncomputable def laidWorld (os : Os) : World :=
  let w0 := World.holding Tryd.prog os ⟨#[], #[], []⟩
  let w1 : World := { w0 with heap := w0.heap.modify 1 fun
      | .cells _ t frozen => .cells #[.int .u64 1, .int .u64 10, .int .u64 100, .int .u64 1000, .int .u64 10000, .int .u64 100000, .int .u64 1000000, .int .u64 10000000, .int .u64 100000000, .int .u64 1000000000, .int .u64 10000000000, .int .u64 100000000000, .int .u64 1000000000000, .int .u64 10000000000000, .int .u64 100000000000000, .int .u64 1000000000000000, .int .u64 10000000000000000, .int .u64 100000000000000000, .int .u64 1000000000000000000, .int .u64 10000000000000000000] t frozen
      | o => o }
  let w2 : World := { w1 with heap := w1.heap.modify 2 fun
      | .cells _ t frozen => .cells #[.int .u8 0, .int .u8 1, .int .u8 28, .int .u8 2, .int .u8 29, .int .u8 14, .int .u8 24, .int .u8 3, .int .u8 30, .int .u8 22, .int .u8 20, .int .u8 15, .int .u8 25, .int .u8 17, .int .u8 4, .int .u8 8, .int .u8 31, .int .u8 27, .int .u8 13, .int .u8 23, .int .u8 21, .int .u8 19, .int .u8 16, .int .u8 7, .int .u8 26, .int .u8 12, .int .u8 18, .int .u8 6, .int .u8 11, .int .u8 5, .int .u8 10, .int .u8 9] t frozen
      | o => o }
  { w2 with heap := w2.heap.modify 3 fun
      | .cells _ t frozen => .cells #[.int .u8 0, .int .u8 1, .int .u8 56, .int .u8 2, .int .u8 57, .int .u8 49, .int .u8 28, .int .u8 3, .int .u8 61, .int .u8 58, .int .u8 42, .int .u8 50, .int .u8 38, .int .u8 29, .int .u8 17, .int .u8 4, .int .u8 62, .int .u8 47, .int .u8 59, .int .u8 36, .int .u8 45, .int .u8 43, .int .u8 51, .int .u8 22, .int .u8 53, .int .u8 39, .int .u8 33, .int .u8 30, .int .u8 24, .int .u8 18, .int .u8 12, .int .u8 5, .int .u8 63, .int .u8 55, .int .u8 48, .int .u8 27, .int .u8 60, .int .u8 41, .int .u8 37, .int .u8 16, .int .u8 46, .int .u8 35, .int .u8 44, .int .u8 21, .int .u8 52, .int .u8 32, .int .u8 23, .int .u8 11, .int .u8 54, .int .u8 26, .int .u8 40, .int .u8 15, .int .u8 34, .int .u8 20, .int .u8 31, .int .u8 10, .int .u8 25, .int .u8 14, .int .u8 19, .int .u8 9, .int .u8 13, .int .u8 8, .int .u8 7, .int .u8 6] t frozen
      | o => o }
theorem laid_met (os : Os) (args : Array Value) : laidMetH Tryd.prog laidM ((laidWorld os).forCall (fun _ _ => 0) ⟨#[], args, []⟩).memory :=
  laidMetH_of_parts (laidMet_of_run' 40 (by kernel_rfl) (by kernel_rfl)) (by kernel_rfl)
end Go.Proofs.YtpbpfngichfgeaaDoor
