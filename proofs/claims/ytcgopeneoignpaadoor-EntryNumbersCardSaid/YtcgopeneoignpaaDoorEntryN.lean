/-
  EntryNumbers, walked.
-/
import Derived.Test.YtcgopeneoignpaaDoorMade
namespace Go.Proofs.YtcgopeneoignpaaDoor
set_option linter.unusedVariables false
set_option linter.unusedSimpArgs false
open Go.RowKit

abbrev numE (uid gid mt s : Int) : Value := .tuple #[.agg #[.string ⟨#[97]⟩, .string ⟨#[]⟩, .int .i64 1, .int .i64 0, .int .i64 uid, .int .i64 gid, .int .i64 mt, .int .i64 s, .string ⟨#[]⟩, .string ⟨#[]⟩], .int .i64 0]
abbrev bad (n : Int) : Value := .tuple #[zeroE, .int .i64 n]
theorem num_val_uid (value : ByteArray) (short : Int) : makeV 1 ⟨#[97]⟩ ⟨#[]⟩ ⟨#[]⟩ ⟨#[]⟩ ⟨#[]⟩ 48 0 short short short short [] [(⟨#[117, 105, 100]⟩, value)] ⟨#[]⟩ ⟨#[]⟩ =
    match (if value ≠ ⟨#[]⟩ then numberOf value else some short) with
    | none => bad 70
    | some n => finV 0 ⟨#[97]⟩ ⟨#[]⟩ ⟨#[]⟩ n short short 1 short ⟨#[]⟩ := by
  have egid : numOf [] [(⟨#[117, 105, 100]⟩, value)] ⟨#[103, 105, 100]⟩ short = some short := by simp [numOf, lookup, getUpto]
  have esize : numOf [] [(⟨#[117, 105, 100]⟩, value)] ⟨#[115, 105, 122, 101]⟩ short = some short := by simp [numOf, lookup, getUpto]
  have emtime : numOf [] [(⟨#[117, 105, 100]⟩, value)] ⟨#[109, 116, 105, 109, 101]⟩ short = some short := by simp [numOf, lookup, getUpto]
  have lpath : lookup [] [(⟨#[117, 105, 100]⟩, value)] ⟨#[112, 97, 116, 104]⟩ = ⟨#[]⟩ := by simp [lookup, getUpto]
  have llinkpath : lookup [] [(⟨#[117, 105, 100]⟩, value)] ⟨#[108, 105, 110, 107, 112, 97, 116, 104]⟩ = ⟨#[]⟩ := by simp [lookup, getUpto]
  have luname : lookup [] [(⟨#[117, 105, 100]⟩, value)] ⟨#[117, 110, 97, 109, 101]⟩ = ⟨#[]⟩ := by simp [lookup, getUpto]
  have lgname : lookup [] [(⟨#[117, 105, 100]⟩, value)] ⟨#[103, 110, 97, 109, 101]⟩ = ⟨#[]⟩ := by simp [lookup, getUpto]
  have lk : lookup [] [(⟨#[117, 105, 100]⟩, value)] ⟨#[117, 105, 100]⟩ = value := by simp [lookup, getUpto]
  have hz : bits .and .i64 0 4095 = 0 := by decide
  have hk : kindOf 48 = 1 := rfl
  generalize hq : (if value ≠ ⟨#[]⟩ then numberOf value else some short) = q
  have ek : numOf [] [(⟨#[117, 105, 100]⟩, value)] ⟨#[117, 105, 100]⟩ short = q := by unfold numOf; rw [lk]; exact hq
  cases q <;> simp [makeV, hk, madeV, textOf, fullOf, hz, ek, egid, esize, emtime, lpath, llinkpath, luname, lgname]
theorem num_val_gid (value : ByteArray) (short : Int) : makeV 1 ⟨#[97]⟩ ⟨#[]⟩ ⟨#[]⟩ ⟨#[]⟩ ⟨#[]⟩ 48 0 short short short short [] [(⟨#[103, 105, 100]⟩, value)] ⟨#[]⟩ ⟨#[]⟩ =
    match (if value ≠ ⟨#[]⟩ then numberOf value else some short) with
    | none => bad 70
    | some n => finV 0 ⟨#[97]⟩ ⟨#[]⟩ ⟨#[]⟩ short n short 1 short ⟨#[]⟩ := by
  have euid : numOf [] [(⟨#[103, 105, 100]⟩, value)] ⟨#[117, 105, 100]⟩ short = some short := by simp [numOf, lookup, getUpto]
  have esize : numOf [] [(⟨#[103, 105, 100]⟩, value)] ⟨#[115, 105, 122, 101]⟩ short = some short := by simp [numOf, lookup, getUpto]
  have emtime : numOf [] [(⟨#[103, 105, 100]⟩, value)] ⟨#[109, 116, 105, 109, 101]⟩ short = some short := by simp [numOf, lookup, getUpto]
  have lpath : lookup [] [(⟨#[103, 105, 100]⟩, value)] ⟨#[112, 97, 116, 104]⟩ = ⟨#[]⟩ := by simp [lookup, getUpto]
  have llinkpath : lookup [] [(⟨#[103, 105, 100]⟩, value)] ⟨#[108, 105, 110, 107, 112, 97, 116, 104]⟩ = ⟨#[]⟩ := by simp [lookup, getUpto]
  have luname : lookup [] [(⟨#[103, 105, 100]⟩, value)] ⟨#[117, 110, 97, 109, 101]⟩ = ⟨#[]⟩ := by simp [lookup, getUpto]
  have lgname : lookup [] [(⟨#[103, 105, 100]⟩, value)] ⟨#[103, 110, 97, 109, 101]⟩ = ⟨#[]⟩ := by simp [lookup, getUpto]
  have lk : lookup [] [(⟨#[103, 105, 100]⟩, value)] ⟨#[103, 105, 100]⟩ = value := by simp [lookup, getUpto]
  have hz : bits .and .i64 0 4095 = 0 := by decide
  have hk : kindOf 48 = 1 := rfl
  generalize hq : (if value ≠ ⟨#[]⟩ then numberOf value else some short) = q
  have ek : numOf [] [(⟨#[103, 105, 100]⟩, value)] ⟨#[103, 105, 100]⟩ short = q := by unfold numOf; rw [lk]; exact hq
  cases q <;> simp [makeV, hk, madeV, textOf, fullOf, hz, ek, euid, esize, emtime, lpath, llinkpath, luname, lgname]
theorem num_val_size (value : ByteArray) (short : Int) : makeV 1 ⟨#[97]⟩ ⟨#[]⟩ ⟨#[]⟩ ⟨#[]⟩ ⟨#[]⟩ 48 0 short short short short [] [(⟨#[115, 105, 122, 101]⟩, value)] ⟨#[]⟩ ⟨#[]⟩ =
    match (if value ≠ ⟨#[]⟩ then numberOf value else some short) with
    | none => bad 70
    | some n => finV 0 ⟨#[97]⟩ ⟨#[]⟩ ⟨#[]⟩ short short short 1 n ⟨#[]⟩ := by
  have euid : numOf [] [(⟨#[115, 105, 122, 101]⟩, value)] ⟨#[117, 105, 100]⟩ short = some short := by simp [numOf, lookup, getUpto]
  have egid : numOf [] [(⟨#[115, 105, 122, 101]⟩, value)] ⟨#[103, 105, 100]⟩ short = some short := by simp [numOf, lookup, getUpto]
  have emtime : numOf [] [(⟨#[115, 105, 122, 101]⟩, value)] ⟨#[109, 116, 105, 109, 101]⟩ short = some short := by simp [numOf, lookup, getUpto]
  have lpath : lookup [] [(⟨#[115, 105, 122, 101]⟩, value)] ⟨#[112, 97, 116, 104]⟩ = ⟨#[]⟩ := by simp [lookup, getUpto]
  have llinkpath : lookup [] [(⟨#[115, 105, 122, 101]⟩, value)] ⟨#[108, 105, 110, 107, 112, 97, 116, 104]⟩ = ⟨#[]⟩ := by simp [lookup, getUpto]
  have luname : lookup [] [(⟨#[115, 105, 122, 101]⟩, value)] ⟨#[117, 110, 97, 109, 101]⟩ = ⟨#[]⟩ := by simp [lookup, getUpto]
  have lgname : lookup [] [(⟨#[115, 105, 122, 101]⟩, value)] ⟨#[103, 110, 97, 109, 101]⟩ = ⟨#[]⟩ := by simp [lookup, getUpto]
  have lk : lookup [] [(⟨#[115, 105, 122, 101]⟩, value)] ⟨#[115, 105, 122, 101]⟩ = value := by simp [lookup, getUpto]
  have hz : bits .and .i64 0 4095 = 0 := by decide
  have hk : kindOf 48 = 1 := rfl
  generalize hq : (if value ≠ ⟨#[]⟩ then numberOf value else some short) = q
  have ek : numOf [] [(⟨#[115, 105, 122, 101]⟩, value)] ⟨#[115, 105, 122, 101]⟩ short = q := by unfold numOf; rw [lk]; exact hq
  cases q <;> simp [makeV, hk, madeV, textOf, fullOf, hz, ek, euid, egid, emtime, lpath, llinkpath, luname, lgname]
theorem num_val_mtime (value : ByteArray) (short : Int) : makeV 1 ⟨#[97]⟩ ⟨#[]⟩ ⟨#[]⟩ ⟨#[]⟩ ⟨#[]⟩ 48 0 short short short short [] [(⟨#[109, 116, 105, 109, 101]⟩, value)] ⟨#[]⟩ ⟨#[]⟩ =
    match (if value ≠ ⟨#[]⟩ then numberOf value else some short) with
    | none => bad 70
    | some n => finV 0 ⟨#[97]⟩ ⟨#[]⟩ ⟨#[]⟩ short short n 1 short ⟨#[]⟩ := by
  have euid : numOf [] [(⟨#[109, 116, 105, 109, 101]⟩, value)] ⟨#[117, 105, 100]⟩ short = some short := by simp [numOf, lookup, getUpto]
  have egid : numOf [] [(⟨#[109, 116, 105, 109, 101]⟩, value)] ⟨#[103, 105, 100]⟩ short = some short := by simp [numOf, lookup, getUpto]
  have esize : numOf [] [(⟨#[109, 116, 105, 109, 101]⟩, value)] ⟨#[115, 105, 122, 101]⟩ short = some short := by simp [numOf, lookup, getUpto]
  have lpath : lookup [] [(⟨#[109, 116, 105, 109, 101]⟩, value)] ⟨#[112, 97, 116, 104]⟩ = ⟨#[]⟩ := by simp [lookup, getUpto]
  have llinkpath : lookup [] [(⟨#[109, 116, 105, 109, 101]⟩, value)] ⟨#[108, 105, 110, 107, 112, 97, 116, 104]⟩ = ⟨#[]⟩ := by simp [lookup, getUpto]
  have luname : lookup [] [(⟨#[109, 116, 105, 109, 101]⟩, value)] ⟨#[117, 110, 97, 109, 101]⟩ = ⟨#[]⟩ := by simp [lookup, getUpto]
  have lgname : lookup [] [(⟨#[109, 116, 105, 109, 101]⟩, value)] ⟨#[103, 110, 97, 109, 101]⟩ = ⟨#[]⟩ := by simp [lookup, getUpto]
  have lk : lookup [] [(⟨#[109, 116, 105, 109, 101]⟩, value)] ⟨#[109, 116, 105, 109, 101]⟩ = value := by simp [lookup, getUpto]
  have hz : bits .and .i64 0 4095 = 0 := by decide
  have hk : kindOf 48 = 1 := rfl
  generalize hq : (if value ≠ ⟨#[]⟩ then numberOf value else some short) = q
  have ek : numOf [] [(⟨#[109, 116, 105, 109, 101]⟩, value)] ⟨#[109, 116, 105, 109, 101]⟩ short = q := by unfold numOf; rw [lk]; exact hq
  cases q <;> simp [makeV, hk, madeV, textOf, fullOf, hz, ek, euid, egid, esize, lpath, llinkpath, luname, lgname]
theorem cellsS : Tryd.prog.cellsOf 9 = 1 := by kernel_rfl
theorem cellsL : Tryd.prog.cellsOf 2 = 1 := by kernel_rfl
theorem index_s0 (wx : World) : (Instr.index 42 (.agg #[.string ⟨#[117, 105, 100]⟩, .string ⟨#[103, 105, 100]⟩, .string ⟨#[115, 105, 122, 101]⟩, .string ⟨#[109, 116, 105, 109, 101]⟩]) (.int .i64 0)).run Tryd.prog wx = .ok (.string ⟨#[117, 105, 100]⟩) wx := by
  simp [Instr.index, run_underlying Tryd.underlying42, asIntOf, go_sem, cellsS]
theorem index_l0 (a b c d : Int) (wx : World) : (Instr.index 53 (.agg #[.int .i64 a, .int .i64 b, .int .i64 c, .int .i64 d]) (.int .i64 0)).run Tryd.prog wx = .ok (.int .i64 a) wx := by
  simp [Instr.index, run_underlying Tryd.underlying53, asIntOf, go_sem, cellsL]
theorem index_s1 (wx : World) : (Instr.index 42 (.agg #[.string ⟨#[117, 105, 100]⟩, .string ⟨#[103, 105, 100]⟩, .string ⟨#[115, 105, 122, 101]⟩, .string ⟨#[109, 116, 105, 109, 101]⟩]) (.int .i64 1)).run Tryd.prog wx = .ok (.string ⟨#[103, 105, 100]⟩) wx := by
  simp [Instr.index, run_underlying Tryd.underlying42, asIntOf, go_sem, cellsS]
theorem index_l1 (a b c d : Int) (wx : World) : (Instr.index 53 (.agg #[.int .i64 a, .int .i64 b, .int .i64 c, .int .i64 d]) (.int .i64 1)).run Tryd.prog wx = .ok (.int .i64 b) wx := by
  simp [Instr.index, run_underlying Tryd.underlying53, asIntOf, go_sem, cellsL]
theorem index_s2 (wx : World) : (Instr.index 42 (.agg #[.string ⟨#[117, 105, 100]⟩, .string ⟨#[103, 105, 100]⟩, .string ⟨#[115, 105, 122, 101]⟩, .string ⟨#[109, 116, 105, 109, 101]⟩]) (.int .i64 2)).run Tryd.prog wx = .ok (.string ⟨#[115, 105, 122, 101]⟩) wx := by
  simp [Instr.index, run_underlying Tryd.underlying42, asIntOf, go_sem, cellsS]
theorem index_l2 (a b c d : Int) (wx : World) : (Instr.index 53 (.agg #[.int .i64 a, .int .i64 b, .int .i64 c, .int .i64 d]) (.int .i64 2)).run Tryd.prog wx = .ok (.int .i64 c) wx := by
  simp [Instr.index, run_underlying Tryd.underlying53, asIntOf, go_sem, cellsL]
theorem index_s3 (wx : World) : (Instr.index 42 (.agg #[.string ⟨#[117, 105, 100]⟩, .string ⟨#[103, 105, 100]⟩, .string ⟨#[115, 105, 122, 101]⟩, .string ⟨#[109, 116, 105, 109, 101]⟩]) (.int .i64 3)).run Tryd.prog wx = .ok (.string ⟨#[109, 116, 105, 109, 101]⟩) wx := by
  simp [Instr.index, run_underlying Tryd.underlying42, asIntOf, go_sem, cellsS]
theorem index_l3 (a b c d : Int) (wx : World) : (Instr.index 53 (.agg #[.int .i64 a, .int .i64 b, .int .i64 c, .int .i64 d]) (.int .i64 3)).run Tryd.prog wx = .ok (.int .i64 d) wx := by
  simp [Instr.index, run_underlying Tryd.underlying53, asIntOf, go_sem, cellsL]
end Go.Proofs.YtcgopeneoignpaaDoor
