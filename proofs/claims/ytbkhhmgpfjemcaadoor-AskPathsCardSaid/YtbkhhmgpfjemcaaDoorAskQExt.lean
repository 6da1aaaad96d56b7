/-
  What the text of AskPaths asks of the texts of package ask, and an array of texts that is read at an index.
-/
import Derived.Test.YtbkhhmgpfjemcaaDoorPAskx3
import Derived.Test.YtbkhhmgpfjemcaaDoorPAskx5
namespace Go.Proofs.YtbkhhmgpfjemcaaDoor.PAskQ
set_option linter.unusedVariables false
open Go.RowKit Go.Proofs.YtbkhhmgpfjemcaaDoor Go.Proofs.YtbkhhmgpfjemcaaDoorW.PrintWords Go.Proofs.YtbkhhmgpfjemcaaDoorW.PrintLast Go.Proofs.YtbkhhmgpfjemcaaDoorW.PrintMore

theorem index_strs_run {P : Program} (w : World) {t n : Nat} (h : P.underlying t = some (.array n 9)) (l : List ByteArray) (hl : l.length = n) (i : Int) (h0 : 0 ≤ i) (h1 : i < (n : Int)) (hP : P = Tryd.prog := by rfl) :
    (Instr.index t (.agg (l.map Value.string).toArray) (.int .i64 i)).run P w = .ok (.string (rdOf ByteArray.empty l i)) w := by
  subst hP
  have hi : i.toNat < l.length := by omega
  have hs : (sizeOf 9).run Tryd.prog w = .ok 1 w := by go_simp
  simp [Instr.index, asIntOf, run_underlying h, h0, h1, hs, part, rdOf, hi]
def ask_Decode.f (a0 : ByteArray) : Option (Int × Int × Int × Int × ByteArray × List Int × Int) := PAsk.ask_Decode.f 100 a0
theorem ask_Decode.calls (a0 : ByteArray) (r1 : Int) (r2 : Int) (r3 : Int) (r4 : Int) (r5 : ByteArray) (r6 : List Int) (r7 : Int) (w : World) (hE_ : EnvE w) (h : ask_Decode.f a0 = some (r1, r2, r3, r4, r5, r6, r7)) :
    Calls Tryd.prog 10 #[.string a0] w fun e w' => ∃ v5_ : Value, e = .returned (.tuple #[.agg #[.int .i64 r1, .int .i64 r2, .int .i64 r3, .int .i64 r4, .string r5, v5_], .int .i64 r7]) ∧ Kd.R (Kd.int .u8) 5 w' w.heap.size (fun _ => True) v5_ r6 ∧ Below w.heap.size w w' :=
  PAsk.ask_Decode.calls 100 a0 r1 r2 r3 r4 r5 r6 r7 w hE_ h
def pannierlaw20_asks.f : Option Bool := PAsk.pannierlaw20_asks.f 100
theorem pannierlaw20_asks.calls (r : Bool) (w : World) (hE_ : EnvE w) (h : pannierlaw20_asks.f = some r) :
    Calls Tryd.prog 9 #[] w fun e w' => e = .returned (.bool r) ∧ Below w.heap.size w w' :=
  PAsk.pannierlaw20_asks.calls 100 r w hE_ h
def pannierlaw20_digits.f (a0 : Int) : Option ByteArray := PAsk.pannierlaw20_digits.f 99 a0
theorem pannierlaw20_digits.calls (a0 : Int) (r : ByteArray) (w : World) (hE_ : EnvE w) (h : pannierlaw20_digits.f a0 = some r) :
    Calls Tryd.prog 12 #[.int .i64 a0] w fun e w' => e = .returned (.string r) ∧ Below w.heap.size w w' :=
  PAsk.pannierlaw20_digits.calls 99 a0 r w h
end Go.Proofs.YtbkhhmgpfjemcaaDoor.PAskQ
