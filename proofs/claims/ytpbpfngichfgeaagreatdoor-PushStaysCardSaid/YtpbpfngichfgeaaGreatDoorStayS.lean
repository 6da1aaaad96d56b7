/-
  PushStays: what its loops keep: the parser's blocks, the events' cells, mine's row; the data rows hold bytes.
-/
import Derived.Test.YtpbpfngichfgeaaGreatDoorStayQ
import Derived.Test.YtpbpfngichfgeaaGreatDoorPushFl
import Derived.Test.YtpbpfngichfgeaaGreatDoorFedR
namespace Go.Proofs.YtpbpfngichfgeaaGreatDoor
set_option linter.unusedVariables false
set_option linter.unusedSectionVars false
set_option linter.unusedSimpArgs false
set_option linter.unnecessarySimpa false
open Go Go.RowKit Go.Proofs.YtpbpfngichfgeaaGreatDoorW.PrintWords Go.Proofs.YtpbpfngichfgeaaGreatDoorW.PrintLast Go.Proofs.YtpbpfngichfgeaaGreatDoorW.PrintMore

/-- The blocks that the loops write: mine's, and rows of bytes that came of the Feed and are not the parser's. -/
def DBlk (w5 : World) (B : Nat) (own : Nat → Prop) (vm : Value) (k : Nat) : Prop := some k = vm.ownBlock ∨ (B ≤ k ∧ ¬ own k ∧ ∃ cs, w5.heap[k]? = some (.cells cs 5 (0, 0)))
/-- Each event's data row lies in such a block, and holds bytes. -/
def DatOk (w5 wq : World) (B : Nat) (own : Nat → Prop) (vm : Value) (Ge nl : Nat) : Prop :=
  ∀ i, i < nl → ∃ Ad dl cd, w5.cell? ⟨Ge, i * 14 + 11, none⟩ = some (.slice Ad dl cd) ∧ dl ≤ 9223372036854775807 ∧
    (0 < dl → ∃ Gd cs, Ad = some ⟨Gd, 0, none⟩ ∧ B ≤ Gd ∧ DBlk w5 B own vm Gd ∧ Blk wq Gd 5 cs ∧ ∀ q, q < dl → ∃ y, cs[q]? = some (.int .u8 y))
structure SI (w5 wq : World) (B : Nat) (own : Nat → Prop) (vm : Value) (ml : List Int) (Ge nl : Nat) : Prop where
  fr : Frm (DBlk w5 B own vm) w5 wq
  mine : Kd.R (Kd.int .u8) 5 wq 0 (fun k => k < B) vm ml
  dat : DatOk w5 wq B own vm Ge nl
section
variable {w5 wq : World} {B : Nat} {own : Nat → Prop} {vm : Value} {ml : List Int} {Ge nl : Nat}
/-- A byte of a data row is written. -/
theorem SI.put (h : SI w5 wq B own vm ml Ge nl) {Gd : Nat} {cs : Array Value} (hD : DBlk w5 B own vm Gd) (hB : B ≤ Gd) (hb : Blk wq Gd 5 cs) (q : Nat) (y : Int) : SI w5 (wq.setCell ⟨Gd, q, none⟩ (.int .u8 y)) B own vm ml Ge nl := by
  refine ⟨h.fr.set (p := ⟨Gd, q, none⟩) (fun _ => hD) _, Kd.R_far (p := ⟨Gd, q, none⟩) h.mine (fun k hk => by show k ≠ Gd; omega) _, ?_⟩
  intro i hi
  obtain ⟨Ad, dl, cd, h1, h2, h3⟩ := h.dat i hi
  refine ⟨Ad, dl, cd, h1, h2, fun h0 => ?_⟩
  obtain ⟨Gx, cx, e, hbx, d, bx, hx⟩ := h3 h0
  by_cases hg : Gx = Gd
  · subst hg
    refine ⟨Gx, cx.setIfInBounds q (.int .u8 y), e, hbx, d, bx.set_ q _, fun r hr => ?_⟩
    rw [Array.getElem?_setIfInBounds]
    split
    · split
      · exact ⟨y, rfl⟩
      · rename_i _ hn
        obtain ⟨z, hz⟩ := hx r hr
        exact absurd (Array.getElem?_eq_some_iff.1 hz).1 (by omega)
    · exact hx r hr
  · exact ⟨Gx, cx, e, hbx, d, bx.far (p := ⟨Gd, q, none⟩) hg _, hx⟩
end
theorem SI.row {w5 wq : World} {B : Nat} {own : Nat → Prop} {vm : Value} {ml : List Int} {Ge nl : Nat} (h : SI w5 wq B own vm ml Ge nl) (i : Nat) (hi : i < nl) {Ad : Option Addr} {dl cd : Nat} (h11 : w5.cell? ⟨Ge, i * 14 + 11, none⟩ = some (.slice Ad dl cd)) (h0 : 0 < dl) :
    ∃ Gd cs, Ad = some ⟨Gd, 0, none⟩ ∧ B ≤ Gd ∧ DBlk w5 B own vm Gd ∧ Blk wq Gd 5 cs ∧ ∀ q, q < dl → ∃ y, cs[q]? = some (.int .u8 y) := by
  obtain ⟨Ad', dl', cd', h1, h2, h3⟩ := h.dat i hi
  rw [h11] at h1
  have h1 := Option.some.inj h1
  injection h1 with e1 e2 e3
  subst e1 e2 e3
  exact h3 h0
/-- The events' cells stay. -/
theorem SI.ev {w5 wq : World} {B : Nat} {own : Nat → Prop} {vm : Value} {ml : List Int} {Ge nl : Nat} (h : SI w5 wq B own vm ml Ge nl) {cs : Array Value} (hE : w5.heap[Ge]? = some (.cells cs 43 (0, 0))) (hB : B ≤ Ge) (j : Nat) : wq.cell? ⟨Ge, j, none⟩ = w5.cell? ⟨Ge, j, none⟩ := by
  refine cell_blk (h.fr.block Ge (blk_lt hE) ?_) j
  rintro (e | ⟨_, _, c, hc⟩)
  · have := h.mine.1 Ge e.symm
    omega
  · rw [hE] at hc
    injection hc with hc
    injection hc with _ ht
    exact absurd ht (by decide)
theorem own_rec {F0 : Nat → Prop} {wx w5 : World} {gp : Nat} {s : PSt} {vb vt vg vl vo : Value} (h : PSx wx F0 w5 gp s vb vt vg vl vo) {k : Nat} {cs : Array Value} (hk : w5.heap[k]? = some (.cells cs 5 (0, 0))) (hb : some k ≠ vb.ownBlock) (ht : some k ≠ vt.ownBlock) : ¬ Own gp vb vt vg vl k := by
  intro ho
  have ty : ∀ {c c' : Array Value} {t t' : Nat}, w5.heap[k]? = some (.cells c t (0, 0)) → w5.heap[k]? = some (.cells c' t' (0, 0)) → t = t' := by
    intro c c' t t' h1 h2
    rw [h1] at h2
    injection h2 with h2
    injection h2
  rcases ho with e | e | e | e | e
  · subst e; exact absurd (ty hk h.blk) (by decide)
  · exact hb e
  · exact ht e
  · obtain ⟨inner, ho⟩ := Kd.R_own h.rw_.g
    obtain ⟨c, hc⟩ := own_typed ho k e.symm
    exact absurd (ty hk hc) (by decide)
  · obtain ⟨inner, ho⟩ := Kd.R_own h.rw_.l
    obtain ⟨c, hc⟩ := own_typed ho k e.symm
    exact absurd (ty hk hc) (by decide)
/-- Behind the loop that turns mine. -/
theorem SI.start {F0 : Nat → Prop} {wx w5 wr : World} {gp B Ge nl cap : Nat} {s : PSt} {vb vt vg vl vo vm : Value} {ml : List Int} {out : List Evt} (P : PSx wx F0 w5 gp s vb vt vg vl vo)
    (hE : Kd.R kEv 43 w5 B (fun k => some k ≠ vt.ownBlock ∧ some k ≠ vb.ownBlock) (.slice (some ⟨Ge, 0, none⟩) nl cap) out) (fr : Frm (fun k => some k = vm.ownBlock) w5 wr) (hm : Kd.R (Kd.int .u8) 5 wr 0 (fun k => k < B) vm ml) :
    SI w5 wr B (Own gp vb vt vg vl) vm ml Ge nl := by
  refine ⟨⟨fr.os, fr.tape, fr.output, fr.size, fun k hk hn => fr.block k hk (fun e => hn (.inl e))⟩, hm, fun i hi => ?_⟩
  obtain ⟨vd, hc, hR⟩ := ev_at hE i hi _ rfl
  obtain ⟨Ad, cd, hv⟩ := Kd.R_slice hR
  subst hv
  refine ⟨Ad, (out.getD i default).k.data.length, cd, hc 11 _ rfl, R_max hR, fun h0 => ?_⟩
  obtain ⟨Gd, cap', e, hb, hlt, cs, hcs⟩ := Kd.R_form hR h0
  have e0 := e
  injection e with hA
  have hok := hR.1 Gd (by rw [e0]; simp [Value.ownBlock])
  have hnm : some Gd ≠ vm.ownBlock := fun e => by have := hm.1 Gd e.symm; omega
  have hbr : Blk wr Gd 5 cs := (fr.block Gd hlt hnm).trans hcs
  refine ⟨Gd, cs, hA, hb, .inr ⟨hb, own_rec P hcs hok.1.2 hok.1.1, cs, hcs⟩, hbr, fun q hq => ?_⟩
  rw [e0] at hR
  obtain ⟨y0, _⟩ := Kd.R_celln (0 : Int) hR (q : Int) (by omega) (by omega)
  simp only [Int.toNat_natCast] at y0
  rw [Blk.cell (cs := cs) hcs q] at y0
  exact ⟨_, y0⟩
end Go.Proofs.YtpbpfngichfgeaaGreatDoor
