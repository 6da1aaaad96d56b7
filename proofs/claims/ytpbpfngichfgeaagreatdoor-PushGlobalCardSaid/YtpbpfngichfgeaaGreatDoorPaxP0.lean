/-
  The lengths of records, each tried.
-/
import Derived.Test.YtpbpfngichfgeaaGreatDoorUtil
import Derived.Lib.ItoaLen
import Derived.Lib.Atoi
namespace Go.Proofs.YtpbpfngichfgeaaGreatDoor

def lenN (n : Nat) : Nat := let d := (Lib.itoa (n : Int)).length; if d < (Lib.itoa ((n + d : Nat) : Int)).length then n + (d + 1) else n + d
/-- What is checked of each length that a record's text may have. -/
def lenOk (n : Nat) : Bool :=
  let L := lenN n
  let t := Lib.itoa (L : Int)
  decide (t.length + n = L) && (Lib.atoi t == some (L : Int)) && t.all (fun b => 48 ≤ b.toNat && b.toNat ≤ 57) && decide (t.length ≤ 5) && decide (1 ≤ t.length) && (t.foldl (fun (a : Nat) b => 10 * a + (b.toNat - 48)) 0 == L)
theorem lenOk_all : (List.range 4100).all lenOk = true := by decide +kernel
theorem lenOk_at {n : Nat} (h : n < 4100) : lenOk n = true := List.all_eq_true.1 lenOk_all n (List.mem_range.2 h)
end Go.Proofs.YtpbpfngichfgeaaGreatDoor
