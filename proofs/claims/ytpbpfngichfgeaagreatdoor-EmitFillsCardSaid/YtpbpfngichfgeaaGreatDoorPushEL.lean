/-
  Several texts in one: YtpbpfngichfgeaaGreatDoorPushE, YtpbpfngichfgeaaGreatDoorPushMetaL.
-/
import Derived.Test.YtpbpfngichfgeaaGreatDoorPushN
import Derived.Test.YtpbpfngichfgeaaGreatDoorHdrO
import Derived.Test.YtpbpfngichfgeaaGreatDoorFaults
namespace Go.Proofs.YtpbpfngichfgeaaGreatDoor
set_option linter.unusedVariables false
set_option linter.unusedSectionVars false
set_option linter.unusedSimpArgs false
open Go Go.RowKit Go.Proofs.YtpbpfngichfgeaaGreatDoorW.PrintWords Go.Proofs.YtpbpfngichfgeaaGreatDoorW.PrintLast Go.Proofs.YtpbpfngichfgeaaGreatDoorW.PrintMore

theorem kEv_of_M {w : World} {base : Nat} {ok : Nat → Prop} {x : Evt} {cs : List Value} (h : kEv.M w base ok x cs) : ∃ vd, cs = evCells x.k vd x.at_ ∧ Kd.R (Kd.int .u8) 5 w base ok vd x.k.data := by
  obtain ⟨c0, c1, rfl, h0, h1⟩ := h
  obtain rfl : c0 = [.int .i64 x.k.num] := h0
  obtain ⟨ce, c2, rfl, he, h2⟩ := h1
  obtain ⟨cd, c3, rfl, hd, h3⟩ := h2
  obtain ⟨vd, rfl, hR⟩ := hd
  obtain ⟨cr, c4, rfl, hr, h4⟩ := h3
  obtain rfl : cr = [errV x.k.err] := hr
  obtain rfl : c4 = [.int .i64 x.at_] := h4
  obtain ⟨e0, f0, rfl, a0, b0⟩ := he
  obtain ⟨e1, f1, rfl, a1, b1⟩ := b0
  obtain ⟨e2, f2, rfl, a2, b2⟩ := b1
  obtain ⟨e3, f3, rfl, a3, b3⟩ := b2
  obtain ⟨e4, f4, rfl, a4, b4⟩ := b3
  obtain ⟨e5, f5, rfl, a5, b5⟩ := b4
  obtain ⟨e6, f6, rfl, a6, b6⟩ := b5
  obtain ⟨e7, f7, rfl, a7, b7⟩ := b6
  obtain ⟨e8, f8, rfl, a8, b8⟩ := b7
  obtain rfl : e0 = [.string x.k.en.path] := a0
  obtain rfl : e1 = [.string x.k.en.link] := a1
  obtain rfl : e2 = [.int .i64 x.k.en.kd] := a2
  obtain rfl : e3 = [.int .i64 x.k.en.md] := a3
  obtain rfl : e4 = [.int .i64 x.k.en.uid] := a4
  obtain rfl : e5 = [.int .i64 x.k.en.gid] := a5
  obtain rfl : e6 = [.int .i64 x.k.en.mt] := a6
  obtain rfl : e7 = [.int .i64 x.k.en.sz] := a7
  obtain rfl : e8 = [.string x.k.en.user] := a8
  obtain rfl : f8 = [.string x.k.en.group] := b8
  exact ⟨vd, rfl, hR⟩
instance : Inhabited Evt := ⟨⟨.fin, 0⟩⟩
/-- Event number i of a row of events: its cells. -/
theorem ev_at {w : World} {base : Nat} {ok : Nat → Prop} {g n cap : Nat} {out : List Evt} (h : Kd.R kEv 43 w base ok (.slice (some ⟨g, 0, none⟩) n cap) out) (i : Nat) (hi : i < n) (x : Evt) (hx : out.getD i default = x) :
    ∃ vd, (∀ j u, (evCells x.k vd x.at_)[j]? = some u → w.cell? ⟨g, i * 14 + j, none⟩ = some u) ∧ Kd.R (Kd.int .u8) 5 w base (fun k => ok k ∧ k ≠ g) vd x.k.data := by
  obtain ⟨c, hcl, hM, hcc, _⟩ := Kd.R_elem h (default : Evt) (i : Int) (by omega) (by omega)
  simp only [Int.toNat_natCast] at hM hcc
  rw [hx] at hM
  obtain ⟨vd, rfl, hR⟩ := kEv_of_M hM
  exact ⟨vd, hcc, hR⟩
theorem ng_of_env {w : World} (h : EnvE w) : 7 ≤ w.heap.size := h.env.size
end Go.Proofs.YtpbpfngichfgeaaGreatDoor

namespace Go.Proofs.YtpbpfngichfgeaaGreatDoor
set_option linter.unusedVariables false
set_option linter.unusedSectionVars false
set_option linter.unusedSimpArgs false
open Go Go.RowKit Go.Proofs.YtpbpfngichfgeaaGreatDoorW.PrintWords Go.Proofs.YtpbpfngichfgeaaGreatDoorW.PrintLast Go.Proofs.YtpbpfngichfgeaaGreatDoorW.PrintMore

section
variable {name link pre user group : ByteArray} {typ mode uid gid size mtime : Int} (hf : HdrFits name link pre user group typ mode uid gid size mtime)
include hf
theorem hdrL_blank (ht : typ ≠ 0) : blankV (hdrL name link pre user group typ mode uid gid size mtime) = false := by
  cases h : blankV (hdrL name link pre user group typ mode uid gid size mtime) with
  | false => rfl
  | true =>
    unfold blankV at h
    rw [Bool.and_eq_true, List.all_eq_true] at h
    have := h.1 typ (List.mem_of_getElem? (hdrL_typ hf))
    simp at this
    exact absurd this ht
end
def metaB (typ size : Int) : List Int := hdrL ⟨#[112]⟩ ⟨#[]⟩ ⟨#[]⟩ ⟨#[]⟩ ⟨#[]⟩ typ 0 0 0 size 0
end Go.Proofs.YtpbpfngichfgeaaGreatDoor
