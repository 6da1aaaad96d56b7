/-
  PushEnds, walked: the archive of a beginning is a beginning of the archive.
-/
import Derived.Test.YtpbpfngichfgeaaGreatDoorPFedx1
namespace Go.Proofs.YtpbpfngichfgeaaGreatDoor
set_option linter.unusedVariables false
set_option linter.unusedSectionVars false
set_option linter.unusedSimpArgs false
set_option linter.unnecessarySimpa false
open Go Go.RowKit Go.Proofs.YtpbpfngichfgeaaGreatDoorW.PrintWords Go.Proofs.YtpbpfngichfgeaaGreatDoorW.PrintLast Go.Proofs.YtpbpfngichfgeaaGreatDoorW.PrintMore
attribute [local go_sem high] Go.Proofs.YtpbpfngichfgeaaGreatDoor.PFed.eqA41 Go.Proofs.YtpbpfngichfgeaaGreatDoor.PFed.eqA57

def Yes (w : World) (e : Ending) (w' : World) : Prop := e = .returned (.bool true) ∧ Below w.heap.size w w'
theorem et_below {w w1 : World} (he : EnvE w) (hb : Below w.heap.size w w1) (hg : w.cell? ⟨0, 0, none⟩ = some etype) : w1.cell? ⟨0, 0, none⟩ = some etype :=
  cell_below hb (by show 0 < _; exact Nat.lt_of_lt_of_le (by decide) (ng_of_env he)) hg
/-- fed without cuts, in any later world. -/
theorem fed_nil (A : Option Addr) (c n : Nat) (xs : List Int) (w w1 : World) (he : EnvE w) (hg : w.cell? ⟨0, 0, none⟩ = some etype) (hb : Below w.heap.size w w1) (hx : Kd.C (Kd.int .u8) w A xs.length xs) (hn : xs.length = n) (hc : n ≤ c) (hxb : ∀ x ∈ xs, 0 ≤ x ∧ x < 256) (hl : n ≤ 100000) :
    Calls Tryz.prog 20 #[.slice A n c, .slice none 0 0] w1 (FedEnd w1 xs) := by
  subst hn
  exact fed_any A none c 0 xs [] w1 (he.below hb) (et_below he hb hg) (Kd.C_below hx hb) (Kd.C_nil _ _) hc (Nat.le_refl _) hxb hl (by simp)
/-- Thing number i of a row: its cells. -/
theorem th_facts {w : World} {base : Nat} {ok : Nat → Prop} {g n cap : Nat} {ts : List Thg} (h : Kd.R kThg 57 w base ok (.slice (some ⟨g, 0, none⟩) n cap) ts) (i : Nat) (t : Thg) (ht : ts[i]? = some t) (e : En) (d : ByteArray) (he : t.en = e) (hd : strOfNums t.data = d) :
    w.cell? ⟨g, i * 13, none⟩ = some (.string e.path) ∧ w.cell? ⟨g, i * 13 + 1, none⟩ = some (.string e.link) ∧ w.cell? ⟨g, i * 13 + 2, none⟩ = some (.int .i64 e.kd) ∧ w.cell? ⟨g, i * 13 + 3, none⟩ = some (.int .i64 e.md) ∧ w.cell? ⟨g, i * 13 + 4, none⟩ = some (.int .i64 e.uid) ∧
      w.cell? ⟨g, i * 13 + 5, none⟩ = some (.int .i64 e.gid) ∧ w.cell? ⟨g, i * 13 + 6, none⟩ = some (.int .i64 e.mt) ∧ w.cell? ⟨g, i * 13 + 7, none⟩ = some (.int .i64 e.sz) ∧ w.cell? ⟨g, i * 13 + 8, none⟩ = some (.string e.user) ∧ w.cell? ⟨g, i * 13 + 9, none⟩ = some (.string e.group) ∧
      w.cell? ⟨g, i * 13 + 10, none⟩ = some (.string d) ∧ w.cell? ⟨g, i * 13 + 11, none⟩ = some (.bool t.whole) ∧ w.cell? ⟨g, i * 13 + 12, none⟩ = some (.int .i64 t.at_) := by
  subst he hd
  have hi : i < ts.length := (List.getElem?_eq_some_iff.1 ht).1
  have hn := (Kd.R_reads' h).1
  obtain ⟨c, hcl, hM, hcc, _⟩ := Kd.R_elem h t (i : Int) (by omega) (by omega)
  have e1 : ts.getD (i : Int).toNat t = t := by rw [Int.toNat_natCast, List.getD_eq_getElem?_getD, ht]; rfl
  rw [e1] at hM
  obtain rfl := kThg_of_M hM
  simp only [Int.toNat_natCast] at hcc
  exact ⟨hcc 0 _ rfl, hcc 1 _ rfl, hcc 2 _ rfl, hcc 3 _ rfl, hcc 4 _ rfl, hcc 5 _ rfl, hcc 6 _ rfl, hcc 7 _ rfl, hcc 8 _ rfl, hcc 9 _ rfl, hcc 10 _ rfl, hcc 11 _ rfl, hcc 12 _ rfl⟩
end Go.Proofs.YtpbpfngichfgeaaGreatDoor
