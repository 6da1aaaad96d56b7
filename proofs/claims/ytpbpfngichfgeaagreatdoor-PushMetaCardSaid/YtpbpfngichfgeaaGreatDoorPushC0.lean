/-
  The parser's rows: what grows; the tables' facts in a world that only the parser has changed; a header's entry.
-/
import Derived.Test.YtpbpfngichfgeaaGreatDoorPushSay
import Derived.Test.YtpbpfngichfgeaaGreatDoorHdDec
import Derived.WalkSmall
namespace Go.Proofs.YtpbpfngichfgeaaGreatDoor
set_option linter.unusedVariables false
set_option linter.unusedSimpArgs false
open Go Go.RowKit Go.Proofs.YtpbpfngichfgeaaGreatDoorW.PrintWords Go.Proofs.YtpbpfngichfgeaaGreatDoorW.PrintLast Go.Proofs.YtpbpfngichfgeaaGreatDoorW.PrintMore

section
variable {w w' : World} {base e : Nat} {ok ok' : Nat → Prop} {v : Value}
theorem R_flatI {xs : List Int} (h : Kd.R (Kd.int .u8) e w base ok v xs) (hk : ∀ k, v.ownBlock = some k → ok' k) : Kd.R (Kd.int .u8) e w base ok' v xs := ⟨hk, h.2.imp_ (fun _ _ h => h)⟩
theorem R_flatR {xs : List Rec} (h : Kd.R kRec e w base ok v xs) (hk : ∀ k, v.ownBlock = some k → ok' k) : Kd.R kRec e w base ok' v xs := ⟨hk, h.2.imp_ (fun _ _ h => h)⟩
theorem R_lt {α : Type} {d : Kd α} {xs : List α} (h : d.R e w base ok v xs) (k : Nat) (hk : v.ownBlock = some k) : k < w.heap.size := by
  obtain ⟨inner, own⟩ := Kd.R_own h
  exact own_lt own k hk
theorem R_base {α : Type} {d : Kd α} {xs : List α} (h : d.R e w base ok v xs) (k : Nat) (hk : v.ownBlock = some k) : base ≤ k := by
  obtain ⟨inner, own⟩ := Kd.R_own h
  exact own_base own k hk
end
section
variable {B : Nat} {F0 : Nat → Prop} {w w' : World} {vb vt vg vl vo v1 : Value} {b t x : List Int} {gl lo y : List Rec} {ev : List Evt}
/-- The header's bytes have grown. -/
theorem RW.blockd (h : RW B F0 w vb vt vg vl vo b t gl lo ev) (hr : Kd.R (Kd.int .u8) 5 w' 0 (fun k => k < B → F0 k) v1 x) (hg : w.grownBy w' vb.ownBlock) (hat : v1.ownBlock = vb.ownBlock ∨ ∃ b, v1.ownBlock = some b ∧ w.heap.size ≤ b) : RW B F0 w' v1 vt vg vl vo x t gl lo ev := by
  obtain ⟨inner, own⟩ := Kd.R_own h.b
  refine ⟨hr, Kd.R_after h.t hg hat, ?_, ?_, Kd.R_after h.o hg hat⟩
  · exact Kd.R_mono (Kd.R_grown (R_no_ev h.g own (by decide)) hg (fun k hk => hk.2)) (fun k hk => hk.1)
  · exact Kd.R_mono (Kd.R_grown (R_no_ev h.l own (by decide)) hg (fun k hk => hk.2)) (fun k hk => hk.1)
/-- The bytes of what stands ahead have grown. -/
theorem RW.textd (h : RW B F0 w vb vt vg vl vo b t gl lo ev) (hr : Kd.R (Kd.int .u8) 5 w' 0 (fun k => (k < B → F0 k) ∧ some k ≠ vb.ownBlock) v1 x) (hg : w.grownBy w' vt.ownBlock) (hat : v1.ownBlock = vt.ownBlock ∨ ∃ b, v1.ownBlock = some b ∧ w.heap.size ≤ b) : RW B F0 w' vb v1 vg vl vo b x gl lo ev := by
  obtain ⟨inner, own⟩ := Kd.R_own h.t
  have hne : ∀ k, vb.ownBlock = some k → some k ≠ vt.ownBlock := fun k hk e => (h.t.1 k e.symm).2 hk.symm
  refine ⟨?_, hr, ?_, ?_, ?_⟩
  · exact Kd.R_mono (Kd.R_grown (R_flatI (ok' := fun k => (k < B → F0 k) ∧ some k ≠ vt.ownBlock) h.b (fun k hk => ⟨h.b.1 k hk, hne k hk⟩)) hg (fun k hk => hk.2)) (fun k hk => hk.1)
  · exact Kd.R_mono (Kd.R_grown (R_no_ev h.g own (by decide)) hg (fun k hk => hk.2)) (fun k hk => hk.1)
  · exact Kd.R_mono (Kd.R_grown (R_no_ev h.l own (by decide)) hg (fun k hk => hk.2)) (fun k hk => hk.1)
  · have h1 := Kd.R_mono (ok' := fun k => some k ≠ vb.ownBlock ∧ some k ≠ vt.ownBlock) h.o (fun k hk => ⟨hk.2, hk.1⟩)
    exact Kd.R_mono (Kd.R_after h1 hg hat) (fun k hk => ⟨hk.2, hk.1⟩)
/-- .. the records for all. -/
theorem RW.globd (h : RW B F0 w vb vt vg vl vo b t gl lo ev) (hr : Kd.R kRec 66 w' 0 (fun k => k < B → F0 k) v1 y) (hg : w.grownBy w' vg.ownBlock) (hat : v1.ownBlock = vg.ownBlock ∨ ∃ b, v1.ownBlock = some b ∧ w.heap.size ≤ b) : RW B F0 w' vb vt v1 vl vo b t y lo ev := by
  obtain ⟨inner, own⟩ := Kd.R_own h.g
  refine ⟨?_, ?_, hr, Kd.R_after h.l hg hat, ?_⟩
  · exact Kd.R_mono (Kd.R_grown (R_no_ev h.b own (by decide)) hg (fun k hk => hk.2)) (fun k hk => hk.1)
  · exact Kd.R_mono (Kd.R_grown (R_no_ev h.t own (by decide)) hg (fun k hk => hk.2)) (fun k hk => hk.1)
  · exact Kd.R_mono (Kd.R_grown (R_no_ev h.o own (by decide)) hg (fun k hk => hk.2)) (fun k hk => hk.1)
/-- .. the records for one. -/
theorem RW.locd (h : RW B F0 w vb vt vg vl vo b t gl lo ev) (hr : Kd.R kRec 66 w' 0 (fun k => (k < B → F0 k) ∧ some k ≠ vg.ownBlock) v1 y) (hg : w.grownBy w' vl.ownBlock) : RW B F0 w' vb vt vg v1 vo b t gl y ev := by
  obtain ⟨inner, own⟩ := Kd.R_own h.l
  have hne : ∀ k, vg.ownBlock = some k → some k ≠ vl.ownBlock := fun k hk e => (h.l.1 k e.symm).2 hk.symm
  refine ⟨?_, ?_, ?_, hr, ?_⟩
  · exact Kd.R_mono (Kd.R_grown (R_no_ev h.b own (by decide)) hg (fun k hk => hk.2)) (fun k hk => hk.1)
  · exact Kd.R_mono (Kd.R_grown (R_no_ev h.t own (by decide)) hg (fun k hk => hk.2)) (fun k hk => hk.1)
  · exact Kd.R_mono (Kd.R_grown (R_flatR (ok' := fun k => (k < B → F0 k) ∧ some k ≠ vl.ownBlock) h.g (fun k hk => ⟨h.g.1 k hk, hne k hk⟩)) hg (fun k hk => hk.2)) (fun k hk => hk.1)
  · exact Kd.R_mono (Kd.R_grown (R_no_ev h.o own (by decide)) hg (fun k hk => hk.2)) (fun k hk => hk.1)
theorem nil_ne (k : Nat) : some k ≠ (Value.slice none 0 0).ownBlock := by simp [Value.ownBlock]
/-- A row is dropped. -/
theorem RW.textN (h : RW B F0 w vb vt vg vl vo b t gl lo ev) : RW B F0 w vb (.slice none 0 0) vg vl vo b [] gl lo ev :=
  ⟨h.b, Kd.R_nil _ _ _ _ _, h.g, h.l, Kd.R_mono h.o (fun k hk => ⟨nil_ne k, hk.2⟩)⟩
theorem RW.locN (h : RW B F0 w vb vt vg vl vo b t gl lo ev) : RW B F0 w vb vt vg (.slice none 0 0) vo b t gl [] ev :=
  ⟨h.b, h.t, h.g, Kd.R_nil _ _ _ _ _, h.o⟩
end
section
variable {w0 : World} {F0 : Nat → Prop} {w w' : World} {g : Nat} {s s' : PSt} {vb vt vg vl vo v1 : Value}
theorem PSx.new_b (h : PSx w0 F0 w g s vb vt vg vl vo) (k : Nat) (hk : w.heap.size ≤ k) : k < w0.heap.size → F0 k := fun hlt => absurd hlt (by have := h.fr.size; omega)
/-- Behind an append to one of the rows: the parser's block and the frame. -/
theorem PSx.rest (h : PSx w0 F0 w g s vb vt vg vl vo) {row : Value} {α : Type} {d : Kd α} {e : Nat} {ok : Nat → Prop} {xs : List α} (hr : d.R e w 0 ok row xs) (he : e ≠ 77) (hok : ∀ k, row.ownBlock = some k → k < w0.heap.size → F0 k) (hg : w.grownBy w' row.ownBlock) :
    Frm F0 w0 w' ∧ Blk w' g 77 (pCells s vb vt vg vl vo) :=
  ⟨h.fr.grown hg hok, h.blk.grown hg (Kd.R_ne hr h.blk he)⟩
end
/-- The tables of a world stand in one where only blocks behind them have changed. -/
theorem EnvE.low {w w' : World} (h : EnvE w) (hb : Below 7 w w') (hs : w.heap.size ≤ w'.heap.size) : EnvE w' where
  env := { tab := var?_below hb gTab (by decide) h.env.tab
           mx := h.env.mx.imp fun m hm => (hb.cell (p := ⟨1, 0, none⟩) (by show 1 < 7; decide)).trans hm
           size := Nat.le_trans h.env.size hs }
  syn := h.syn.imp fun _ h1 => h1.imp fun _ h2 => var?_below hb gSyn (by decide) h2
  ran := h.ran.imp fun _ h1 => h1.imp fun _ h2 => var?_below hb gRan (by decide) h2
theorem Frm.env {F0 : Nat → Prop} {w w' : World} (h : Frm F0 w w') (hF : ∀ k, F0 k → 7 ≤ k) (he : EnvE w) : EnvE w' :=
  he.low ⟨h.os, h.tape, h.output, h.size, fun k hk => h.block k (Nat.lt_of_lt_of_le hk he.env.size) (fun hf => absurd (hF k hf) (by omega))⟩ h.size
/-- entry.Make's answer as a value. -/
theorem mkE_val (h : Hd) (g l : List Rec) (nm lk : ByteArray) : makeV h.form h.name h.link h.pre h.user h.group h.typ h.mode h.uid h.gid h.size h.mtime g l nm lk = .tuple #[.agg (mkE h g l nm lk).1.cells.toArray, .int .i64 (mkE h g l nm lk).2] := by
  have hfin : ∀ md path user group uid gid mt k s l, finV md path user group uid gid mt k s l = .tuple #[.agg (finE md path user group uid gid mt k s l).1.cells.toArray, .int .i64 (finE md path user group uid gid mt k s l).2] := by
    intro md path user group uid gid mt k s l
    unfold finV finE
    split <;> rfl
  unfold makeV mkE
  by_cases h0 : kindOf h.typ = 0
  · simp only [h0, if_true]; rfl
  · simp only [h0, if_false]
    unfold madeV
    generalize numOf g l ⟨#[115, 105, 122, 101]⟩ h.size = q0
    generalize numOf g l ⟨#[117, 105, 100]⟩ h.uid = q1
    generalize numOf g l ⟨#[103, 105, 100]⟩ h.gid = q2
    generalize numOf g l ⟨#[109, 116, 105, 109, 101]⟩ h.mtime = q3
    rcases q0 with _ | q0
    · rfl
    rcases q1 with _ | q1
    · rfl
    rcases q2 with _ | q2
    · rfl
    rcases q3 with _ | q3
    · rfl
    simp only
    generalize textOf g l ⟨#[112, 97, 116, 104]⟩ nm (fullOf h.name h.pre) = path
    rcases kindOf_cases h.typ with hk | hk | hk | hk | hk
    · exact absurd hk h0
    · rw [hk]
      by_cases hf : h.form = 0 ∧ Lib.hasSuffix path.data.toList [47] = true
      · rw [if_pos rfl, if_pos hf, hfin, if_pos ⟨rfl, hf⟩]; rfl
      · rw [if_pos rfl, if_neg hf, hfin, if_neg (fun q : (1 : Int) = 1 ∧ _ => hf q.2)]; rfl
    · rw [hk, if_neg (by decide), if_neg (by decide), hfin, if_neg (fun q : (2 : Int) = 1 ∧ _ => absurd q.1 (by decide))]; rfl
    · rw [hk, if_neg (by decide), if_neg (by decide), hfin, if_neg (fun q : (3 : Int) = 1 ∧ _ => absurd q.1 (by decide))]; rfl
    · rw [hk, if_neg (by decide), if_pos rfl, hfin, if_neg (fun q : (4 : Int) = 1 ∧ _ => absurd q.1 (by decide))]; rfl
end Go.Proofs.YtpbpfngichfgeaaGreatDoor
