/-
  The law package's reads, walked: it answers true.
-/
import Derived.Test.YtpbpfngichfgeaaGreatDoorPushEL
namespace Go.Proofs.YtpbpfngichfgeaaGreatDoor
set_option linter.unusedVariables false
set_option linter.unusedSectionVars false
set_option linter.unusedSimpArgs false
open Go Go.RowKit Go.Proofs.YtpbpfngichfgeaaGreatDoorW.PrintWords Go.Proofs.YtpbpfngichfgeaaGreatDoorW.PrintLast Go.Proofs.YtpbpfngichfgeaaGreatDoorW.PrintMore

def readsB : List Int := hdrL ⟨#[97]⟩ ⟨#[]⟩ ⟨#[]⟩ ⟨#[]⟩ ⟨#[]⟩ 48 420 0 0 2 0 ++ [104, 105] ++ List.replicate 1534 0
def readsOk (r : PSt) : Bool := decide (r.err = none) && r.done && (match r.out with
  | [⟨.beg e, _⟩, ⟨.dat d, _⟩, ⟨.fin, _⟩, ⟨.don, _⟩] => decide (e.path = ⟨#[97]⟩) && decide (d = [104, 105])
  | _ => false)
theorem frm_below {F0 : Nat → Prop} {B : Nat} {w w1 w2 : World} (h : Below B w w1) (hf : Frm F0 w1 w2) (hF : ∀ k, F0 k → B ≤ k) (hB : B ≤ w.heap.size := by omega) : Below B w w2 :=
  ⟨hf.os.trans h.os, hf.tape.trans h.tape, hf.output.trans h.output, Nat.le_trans h.size hf.size, fun k hk => (hf.block k (by have := h.size; omega) (fun q => by have := hF k q; omega)).trans (h.block k hk)⟩
end Go.Proofs.YtpbpfngichfgeaaGreatDoor
