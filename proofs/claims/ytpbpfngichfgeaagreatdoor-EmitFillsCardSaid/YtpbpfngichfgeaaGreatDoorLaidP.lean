/-
  What the rows of push's laws list: the library's tables, errors' own variable and strconv's errors: the facts; a world that holds them.
-/
import Derived.Test.YtpbpfngichfgeaaGreatDoorEnv
import Derived.Test.YtpbpfngichfgeaaGreatDoorKit
import Derived.Test.YtpbpfngichfgeaaGreatDoorFaults
import Derived.Stop.LaidErr
import Derived.Shelf.Vars
import Derived.Deep.DeepWitnessRowRef
namespace Go.Proofs.YtpbpfngichfgeaaGreatDoor
open Go.ChangeShapes Go.WideShapes Go.RowKit

theorem gTabType : (Tryz.prog.globals[2]?).map (·.type) = some 224 := by kernel_rfl
theorem cellsTab : Tryz.prog.cellsOf 224 = 20 := by kernel_rfl
theorem cellsU64 : Tryz.prog.cellsOf 209 = 1 := by kernel_rfl
theorem gSynType : (Tryz.prog.globals[3]?).map (·.type) = some 30 := by kernel_rfl
theorem gRanType : (Tryz.prog.globals[4]?).map (·.type) = some 30 := by kernel_rfl
theorem cellsErr : Tryz.prog.cellsOf 248 = 1 := by kernel_rfl
theorem cellsStr : Tryz.prog.cellsOf 9 = 1 := by kernel_rfl
theorem starErr : "*" ++ "errors.errorString" = "*errors.errorString" := by decide
theorem rowErr (u : TypeId) (h : Tryz.prog.typeName? 3 u = some "*errors.errorString") : u = 246 :=
  typeName_ptr_named (nm := "errors.errorString") (by rw [starErr]; kernel_rfl) (by kernel_rfl) (by decide) u (by rw [starErr]; exact h)
theorem tabData_pow : Rows.laid_internal_strconv_uint64pow10 = (Lib.tabData .u64 Lib.pow10Tab : DataW Unit) := by kernel_rfl
theorem tab_met {W : World} {rest : List (String × DataW Unit)} (h : laidMet Tryz.prog (("internal/strconv.uint64pow10", Rows.laid_internal_strconv_uint64pow10) :: rest) W) : Lib.TabIs Tryz.prog W "internal/strconv.uint64pow10" .u64 Lib.pow10Tab := by
  rw [tabData_pow] at h
  exact Lib.tabIs_of_head gTab gTabType Tryz.underlying224 Tryz.underlying209 cellsU64 cellsTab h
abbrev laidE : List (String × DataW Unit) := [("math/bits.deBruijn32tab", Rows.laid_math_bits_deBruijn32tab), ("math/bits.deBruijn64tab", Rows.laid_math_bits_deBruijn64tab), ("internal/strconv.uint64pow10", Rows.laid_internal_strconv_uint64pow10), ("strconv.ErrRange", Rows.laid_strconv_ErrRange), ("strconv.ErrSyntax", Rows.laid_strconv_ErrSyntax)]
abbrev laidP : List (String × DataW Unit) := [("math/bits.deBruijn32tab", Rows.laid_math_bits_deBruijn32tab), ("math/bits.deBruijn64tab", Rows.laid_math_bits_deBruijn64tab), ("internal/strconv.uint64pow10", Rows.laid_internal_strconv_uint64pow10), ("errors.errorType", Rows.laid_errors_errorType), ("strconv.ErrRange", Rows.laid_strconv_ErrRange), ("strconv.ErrSyntax", Rows.laid_strconv_ErrSyntax)]
theorem gEt : Tryz.prog.globalNamed "errors.errorType" = some 0 := by kernel_rfl
theorem gRt : (Tryz.prog.cutTypes.find? (·.1 == "internal/reflectlite.rtype")).map (·.2) = some 169 := by kernel_rfl
theorem gRow : ((List.range 275).filter fun t => Tryz.prog.rowNamed t [101, 114, 114, 111, 114]) = [30] := by kernel_rfl
theorem gSize : Tryz.prog.types.size = 275 := by kernel_rfl
theorem handle_met {W : World} {l : List (String × DataW Unit)} (hm : ("errors.errorType", Rows.laid_errors_errorType) ∈ l) (h : handlesMet Tryz.prog l W) : W.cell? ⟨0, 0, none⟩ = some etype := by
  obtain ⟨name, u, ty, e1, e2, e3, e4, e5⟩ := h _ hm
  have en : name = [101, 114, 114, 111, 114] := (Option.some.inj e1).symm
  subst en
  obtain rfl := Option.some.inj (gRt.symm.trans e2)
  have hm : ty ∈ (List.range 275).filter fun t => Tryz.prog.rowNamed t [101, 114, 114, 111, 114] := List.mem_filter.2 ⟨List.mem_range.2 (by rw [← gSize]; exact e3), e4⟩
  rw [gRow] at hm
  obtain rfl := List.mem_singleton.1 hm
  have hh : typeHandle Tryz.prog 30 = .pointer (some ⟨7, 30, none⟩) := by kernel_rfl
  rw [hh] at e5
  simpa [etype] using World.var?_cell gEt e5 0
theorem size_of_shaped {W : World} (h : W.ShapedOpen Tryz.prog) : 7 ≤ W.heap.size := by
  obtain ⟨o, _, ho, _⟩ := h.2 7 (by decide +kernel) (of_decide_eq_true (by kernel_rfl))
  rcases Nat.lt_or_ge 7 W.heap.size with hl | hl
  · omega
  · simp [Array.getElem?_eq_none hl] at ho
theorem et_of {W : World} (hL : laidMetH Tryz.prog laidP W) : W.cell? ⟨0, 0, none⟩ = some etype := by
  have h' : laidMet Tryz.prog laidE W ∧ handlesMet Tryz.prog [("errors.errorType", Rows.laid_errors_errorType)] W := hL
  exact handle_met (by simp) h'.2
theorem envE_of {W : World} (hL : laidMetH Tryz.prog laidP W) (hsh : W.ShapedOpen Tryz.prog) : EnvE W := by
  have h' : laidMet Tryz.prog laidE W ∧ handlesMet Tryz.prog [("errors.errorType", Rows.laid_errors_errorType)] W := hL
  have h := h'.1
  obtain ⟨a0, s0, hv0, -, -, -⟩ := laid_sentinel h.tail.tail.tail gRan gRanType Tryz.underlying30 rowErr Tryz.underlying246 Tryz.underlying248 rfl rfl Tryz.underlying9 cellsErr cellsStr
  obtain ⟨a1, s1, hv1, -, -, -⟩ := laid_sentinel h.tail.tail.tail.tail gSyn gSynType Tryz.underlying30 rowErr Tryz.underlying246 Tryz.underlying248 rfl rfl Tryz.underlying9 cellsErr cellsStr
  exact { env := { tab := tab_met h.tail.tail
                   mx := cell_of_shapedOpen_int (zero := #[.int .i64 0]) (t := 3) hsh (of_decide_eq_true (by kernel_rfl)) (by kernel_rfl) rfl (by kernel_rfl) (by kernel_rfl) Tryz.underlying3
                   size := size_of_shaped hsh }
          syn := ⟨_, _, hv1⟩
          ran := ⟨_, _, hv0⟩ }
noncomputable def laidWorld (os : Os) : World :=
  let N := (World.settled Tryz.prog os).heap.size
  let w0 := World.holding Tryz.prog os ⟨#[.cells #[.string ⟨#[105, 110, 118, 97, 108, 105, 100, 32, 115, 121, 110, 116, 97, 120]⟩] 248, .cells #[.string ⟨#[118, 97, 108, 117, 101, 32, 111, 117, 116, 32, 111, 102, 32, 114, 97, 110, 103, 101]⟩] 248], #[], []⟩
  let w1 : World := { w0 with heap := w0.heap.modify 2 fun
      | .cells _ t frozen => .cells #[.int .u64 1, .int .u64 10, .int .u64 100, .int .u64 1000, .int .u64 10000, .int .u64 100000, .int .u64 1000000, .int .u64 10000000, .int .u64 100000000, .int .u64 1000000000, .int .u64 10000000000, .int .u64 100000000000, .int .u64 1000000000000, .int .u64 10000000000000, .int .u64 100000000000000, .int .u64 1000000000000000, .int .u64 10000000000000000, .int .u64 100000000000000000, .int .u64 1000000000000000000, .int .u64 10000000000000000000] t frozen
      | o => o }
  let w2 : World := { w1 with heap := w1.heap.modify 5 fun
      | .cells _ t frozen => .cells #[.int .u8 0, .int .u8 1, .int .u8 28, .int .u8 2, .int .u8 29, .int .u8 14, .int .u8 24, .int .u8 3, .int .u8 30, .int .u8 22, .int .u8 20, .int .u8 15, .int .u8 25, .int .u8 17, .int .u8 4, .int .u8 8, .int .u8 31, .int .u8 27, .int .u8 13, .int .u8 23, .int .u8 21, .int .u8 19, .int .u8 16, .int .u8 7, .int .u8 26, .int .u8 12, .int .u8 18, .int .u8 6, .int .u8 11, .int .u8 5, .int .u8 10, .int .u8 9] t frozen
      | o => o }
  let w3 : World := { w2 with heap := w2.heap.modify 6 fun
      | .cells _ t frozen => .cells #[.int .u8 0, .int .u8 1, .int .u8 56, .int .u8 2, .int .u8 57, .int .u8 49, .int .u8 28, .int .u8 3, .int .u8 61, .int .u8 58, .int .u8 42, .int .u8 50, .int .u8 38, .int .u8 29, .int .u8 17, .int .u8 4, .int .u8 62, .int .u8 47, .int .u8 59, .int .u8 36, .int .u8 45, .int .u8 43, .int .u8 51, .int .u8 22, .int .u8 53, .int .u8 39, .int .u8 33, .int .u8 30, .int .u8 24, .int .u8 18, .int .u8 12, .int .u8 5, .int .u8 63, .int .u8 55, .int .u8 48, .int .u8 27, .int .u8 60, .int .u8 41, .int .u8 37, .int .u8 16, .int .u8 46, .int .u8 35, .int .u8 44, .int .u8 21, .int .u8 52, .int .u8 32, .int .u8 23, .int .u8 11, .int .u8 54, .int .u8 26, .int .u8 40, .int .u8 15, .int .u8 34, .int .u8 20, .int .u8 31, .int .u8 10, .int .u8 25, .int .u8 14, .int .u8 19, .int .u8 9, .int .u8 13, .int .u8 8, .int .u8 7, .int .u8 6] t frozen
      | o => o }
  let w4 : World := { w3 with heap := w3.heap.modify 3 fun
      | .cells _ t frozen => .cells #[.iface 246 (.pointer (some ⟨N, 0, none⟩))] t frozen
      | o => o }
  let w5 : World := { w4 with heap := w4.heap.modify 4 fun
      | .cells _ t frozen => .cells #[.iface 246 (.pointer (some ⟨N + 1, 0, none⟩))] t frozen
      | o => o }
  { w5 with heap := w5.heap.modify 0 fun
      | .cells _ t frozen => .cells #[.iface 169 (.agg #[.pointer (some ⟨7, 30, none⟩)])] t frozen
      | o => o }
theorem laid_met (os : Os) (args : Array Value) : laidMetH Tryz.prog laidP ((laidWorld os).forCall (fun _ _ => 0) ⟨#[], args, []⟩).memory :=
  laidMetH_of_parts (laidMet_of_run' 40 (by kernel_rfl) (by kernel_rfl)) (by kernel_rfl)
end Go.Proofs.YtpbpfngichfgeaaGreatDoor
