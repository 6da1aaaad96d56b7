/-
  Several texts in one: YtpbpfngichfgeaaGreatDoorPushC0, YtpbpfngichfgeaaGreatDoorPushC.
-/
import Derived.Test.YtpbpfngichfgeaaGreatDoorPushSay
import Derived.Test.YtpbpfngichfgeaaGreatDoorHdDec
import Derived.WalkSmall
namespace Go.Proofs.YtpbpfngichfgeaaGreatDoor
set_option linter.unusedVariables false
set_option linter.unusedSimpArgs false
open Go Go.RowKit Go.Proofs.YtpbpfngichfgeaaGreatDoorW.PrintWords Go.Proofs.YtpbpfngichfgeaaGreatDoorW.PrintLast Go.Proofs.YtpbpfngichfgeaaGreatDoorW.PrintMore

section
variable {w w' : World} {base e : Nat} {ok ok' : Nat → Prop} {v : Value}
theorem R_flatI {xs : List Int} (h : Kd.R (Kd.int .u8) e w base ok v xs) (hk : ∀ k, v.ownBlock = some k → ok' k) : Kd.R (Kd.int .u8) e w base ok' v xs := ⟨hk, h.2.imp_ (fun _ _ h => h)⟩
theorem R_flatR {xs : List Rec} (h : Kd.R kRec e w base ok v xs) (hk : ∀ k, v.ownBlock = some k → ok' k) : Kd.R kRec e w base ok' v xs := ⟨hk, h.2.imp_ (fun _ _ h => h)⟩
theorem R_lt {α : Type} {d : Kd α} {xs : List α} (h : d.R e w base ok v xs) (k : Nat) (hk : v.ownBlock = some k) : k < w.heap.size := by
  obtain ⟨inner, own⟩ := Kd.R_own h
  exact own_lt own k hk
theorem R_base {α : Type} {d : Kd α} {xs : List α} (h : d.R e w base ok v xs) (k : Nat) (hk : v.ownBlock = some k) : base ≤ k := by
  obtain ⟨inner, own⟩ := Kd.R_own h
  exact own_base own k hk
end
section
variable {B : Nat} {F0 : Nat → Prop} {w w' : World} {vb vt vg vl vo v1 : Value} {b t x : List Int} {gl lo y : List Rec} {ev : List Evt}
/-- The header's bytes have grown. -/
theorem RW.blockd (h : RW B F0 w vb vt vg vl vo b t gl lo ev) (hr : Kd.R (Kd.int .u8) 5 w' 0 (fun k => k < B → F0 k) v1 x) (hg : w.grownBy w' vb.ownBlock) (hat : v1.ownBlock = vb.ownBlock ∨ ∃ b, v1.ownBlock = some b ∧ w.heap.size ≤ b) : RW B F0 w' v1 vt vg vl vo x t gl lo ev := by
  obtain ⟨inner, own⟩ := Kd.R_own h.b
  refine ⟨hr, Kd.R_after h.t hg hat, ?_, ?_, Kd.R_after h.o hg hat⟩
  · exact Kd.R_mono (Kd.R_grown (R_no_ev h.g own (by decide)) hg (fun k hk => hk.2)) (fun k hk => hk.1)
  · exact Kd.R_mono (Kd.R_grown (R_no_ev h.l own (by decide)) hg (fun k hk => hk.2)) (fun k hk => hk.1)
/-- The bytes of what stands ahead have grown. -/
theorem RW.textd (h : RW B F0 w vb vt vg vl vo b t gl lo ev) (hr : Kd.R (Kd.int .u8) 5 w' 0 (fun k => (k < B → F0 k) ∧ some k ≠ vb.ownBlock) v1 x) (hg : w.grownBy w' vt.ownBlock) (hat : v1.ownBlock = vt.ownBlock ∨ ∃ b, v1.ownBlock = some b ∧ w.heap.size ≤ b) : RW B F0 w' vb v1 vg vl vo b x gl lo ev := by
  obtain ⟨inner, own⟩ := Kd.R_own h.t
  have hne : ∀ k, vb.ownBlock = some k → some k ≠ vt.ownBlock := fun k hk e => (h.t.1 k e.symm).2 hk.symm
  refine ⟨?_, hr, ?_, ?_, ?_⟩
  · exact Kd.R_mono (Kd.R_grown (R_flatI (ok' := fun k => (k < B → F0 k) ∧ some k ≠ vt.ownBlock) h.b (fun k hk => ⟨h.b.1 k hk, hne k hk⟩)) hg (fun k hk => hk.2)) (fun k hk => hk.1)
  · exact Kd.R_mono (Kd.R_grown (R_no_ev h.g own (by decide)) hg (fun k hk => hk.2)) (fun k hk => hk.1)
  · exact Kd.R_mono (Kd.R_grown (R_no_ev h.l own (by decide)) hg (fun k hk => hk.2)) (fun k hk => hk.1)
  · have h1 := Kd.R_mono (ok' := fun k => some k ≠ vb.ownBlock ∧ some k ≠ vt.ownBlock) h.o (fun k hk => ⟨hk.2, hk.1⟩)
    exact Kd.R_mono (Kd.R_after h1 hg hat) (fun k hk => ⟨hk.2, hk.1⟩)
/-- .. the records for all. -/
theorem RW.globd (h : RW B F0 w vb vt vg vl vo b t gl lo ev) (hr : Kd.R kRec 66 w' 0 (fun k => k < B → F0 k) v1 y) (hg : w.grownBy w' vg.ownBlock) (hat : v1.ownBlock = vg.ownBlock ∨ ∃ b, v1.ownBlock = some b ∧ w.heap.size ≤ b) : RW B F0 w' vb vt v1 vl vo b t y lo ev := by
  obtain ⟨inner, own⟩ := Kd.R_own h.g
  refine ⟨?_, ?_, hr, Kd.R_after h.l hg hat, ?_⟩
  · exact Kd.R_mono (Kd.R_grown (R_no_ev h.b own (by decide)) hg (fun k hk => hk.2)) (fun k hk => hk.1)
  · exact Kd.R_mono (Kd.R_grown (R_no_ev h.t own (by decide)) hg (fun k hk => hk.2)) (fun k hk => hk.1)
  · exact Kd.R_mono (Kd.R_grown (R_no_ev h.o own (by decide)) hg (fun k hk => hk.2)) (fun k hk => hk.1)
/-- .. the records for one. -/
theorem RW.locd (h : RW B F0 w vb vt vg vl vo b t gl lo ev) (hr : Kd.R kRec 66 w' 0 (fun k => (k < B → F0 k) ∧ some k ≠ vg.ownBlock) v1 y) (hg : w.grownBy w' vl.ownBlock) : RW B F0 w' vb vt vg v1 vo b t gl y ev := by
  obtain ⟨inner, own⟩ := Kd.R_own h.l
  have hne : ∀ k, vg.ownBlock = some k → some k ≠ vl.ownBlock := fun k hk e => (h.l.1 k e.symm).2 hk.symm
  refine ⟨?_, ?_, ?_, hr, ?_⟩
  · exact Kd.R_mono (Kd.R_grown (R_no_ev h.b own (by decide)) hg (fun k hk => hk.2)) (fun k hk => hk.1)
  · exact Kd.R_mono (Kd.R_grown (R_no_ev h.t own (by decide)) hg (fun k hk => hk.2)) (fun k hk => hk.1)
  · exact Kd.R_mono (Kd.R_grown (R_flatR (ok' := fun k => (k < B → F0 k) ∧ some k ≠ vl.ownBlock) h.g (fun k hk => ⟨h.g.1 k hk, hne k hk⟩)) hg (fun k hk => hk.2)) (fun k hk => hk.1)
  · exact Kd.R_mono (Kd.R_grown (R_no_ev h.o own (by decide)) hg (fun k hk => hk.2)) (fun k hk => hk.1)
theorem nil_ne (k : Nat) : some k ≠ (Value.slice none 0 0).ownBlock := by simp [Value.ownBlock]
/-- A row is dropped. -/
theorem RW.textN (h : RW B F0 w vb vt vg vl vo b t gl lo ev) : RW B F0 w vb (.slice none 0 0) vg vl vo b [] gl lo ev :=
  ⟨h.b, Kd.R_nil _ _ _ _ _, h.g, h.l, Kd.R_mono h.o (fun k hk => ⟨nil_ne k, hk.2⟩)⟩
theorem RW.locN (h : RW B F0 w vb vt vg vl vo b t gl lo ev) : RW B F0 w vb vt vg (.slice none 0 0) vo b t gl [] ev :=
  ⟨h.b, h.t, h.g, Kd.R_nil _ _ _ _ _, h.o⟩
end
section
variable {w0 : World} {F0 : Nat → Prop} {w w' : World} {g : Nat} {s s' : PSt} {vb vt vg vl vo v1 : Value}
theorem PSx.new_b (h : PSx w0 F0 w g s vb vt vg vl vo) (k : Nat) (hk : w.heap.size ≤ k) : k < w0.heap.size → F0 k := fun hlt => absurd hlt (by have := h.fr.size; omega)
/-- Behind an append to one of the rows: the parser's block and the frame. -/
theorem PSx.rest (h : PSx w0 F0 w g s vb vt vg vl vo) {row : Value} {α : Type} {d : Kd α} {e : Nat} {ok : Nat → Prop} {xs : List α} (hr : d.R e w 0 ok row xs) (he : e ≠ 77) (hok : ∀ k, row.ownBlock = some k → k < w0.heap.size → F0 k) (hg : w.grownBy w' row.ownBlock) :
    Frm F0 w0 w' ∧ Blk w' g 77 (pCells s vb vt vg vl vo) :=
  ⟨h.fr.grown hg hok, h.blk.grown hg (Kd.R_ne hr h.blk he)⟩
end
/-- The tables of a world stand in one where only blocks behind them have changed. -/
theorem EnvE.low {w w' : World} (h : EnvE w) (hb : Below 7 w w') (hs : w.heap.size ≤ w'.heap.size) : EnvE w' where
  env := { tab := var?_below hb gTab (by decide) h.env.tab
           mx := h.env.mx.imp fun m hm => (hb.cell (p := ⟨1, 0, none⟩) (by show 1 < 7; decide)).trans hm
           size := Nat.le_trans h.env.size hs }
  syn := h.syn.imp fun _ h1 => h1.imp fun _ h2 => var?_below hb gSyn (by decide) h2
  ran := h.ran.imp fun _ h1 => h1.imp fun _ h2 => var?_below hb gRan (by decide) h2
theorem Frm.env {F0 : Nat → Prop} {w w' : World} (h : Frm F0 w w') (hF : ∀ k, F0 k → 7 ≤ k) (he : EnvE w) : EnvE w' :=
  he.low ⟨h.os, h.tape, h.output, h.size, fun k hk => h.block k (Nat.lt_of_lt_of_le hk he.env.size) (fun hf => absurd (hF k hf) (by omega))⟩ h.size
/-- entry.Make's answer as a value. -/
theorem mkE_val (h : Hd) (g l : List Rec) (nm lk : ByteArray) : makeV h.form h.name h.link h.pre h.user h.group h.typ h.mode h.uid h.gid h.size h.mtime g l nm lk = .tuple #[.agg (mkE h g l nm lk).1.cells.toArray, .int .i64 (mkE h g l nm lk).2] := by
  have hfin : ∀ md path user group uid gid mt k s l, finV md path user group uid gid mt k s l = .tuple #[.agg (finE md path user group uid gid mt k s l).1.cells.toArray, .int .i64 (finE md path user group uid gid mt k s l).2] := by
    intro md path user group uid gid mt k s l
    unfold finV finE
    split <;> rfl
  unfold makeV mkE
  by_cases h0 : kindOf h.typ = 0
  · simp only [h0, if_true]; rfl
  · simp only [h0, if_false]
    unfold madeV
    generalize numOf g l ⟨#[115, 105, 122, 101]⟩ h.size = q0
    generalize numOf g l ⟨#[117, 105, 100]⟩ h.uid = q1
    generalize numOf g l ⟨#[103, 105, 100]⟩ h.gid = q2
    generalize numOf g l ⟨#[109, 116, 105, 109, 101]⟩ h.mtime = q3
    rcases q0 with _ | q0
    · rfl
    rcases q1 with _ | q1
    · rfl
    rcases q2 with _ | q2
    · rfl
    rcases q3 with _ | q3
    · rfl
    simp only
    generalize textOf g l ⟨#[112, 97, 116, 104]⟩ nm (fullOf h.name h.pre) = path
    rcases kindOf_cases h.typ with hk | hk | hk | hk | hk
    · exact absurd hk h0
    · rw [hk]
      by_cases hf : h.form = 0 ∧ Lib.hasSuffix path.data.toList [47] = true
      · rw [if_pos rfl, if_pos hf, hfin, if_pos ⟨rfl, hf⟩]; rfl
      · rw [if_pos rfl, if_neg hf, hfin, if_neg (fun q : (1 : Int) = 1 ∧ _ => hf q.2)]; rfl
    · rw [hk, if_neg (by decide), if_neg (by decide), hfin, if_neg (fun q : (2 : Int) = 1 ∧ _ => absurd q.1 (by decide))]; rfl
    · rw [hk, if_neg (by decide), if_neg (by decide), hfin, if_neg (fun q : (3 : Int) = 1 ∧ _ => absurd q.1 (by decide))]; rfl
    · rw [hk, if_neg (by decide), if_pos rfl, hfin, if_neg (fun q : (4 : Int) = 1 ∧ _ => absurd q.1 (by decide))]; rfl
end Go.Proofs.YtpbpfngichfgeaaGreatDoor

namespace Go.Proofs.YtpbpfngichfgeaaGreatDoor
set_option linter.unusedVariables false
set_option linter.unusedSimpArgs false
open Go Go.RowKit Go.Proofs.YtpbpfngichfgeaaGreatDoorW.PrintWords Go.Proofs.YtpbpfngichfgeaaGreatDoorW.PrintLast Go.Proofs.YtpbpfngichfgeaaGreatDoorW.PrintMore

/-- What holds of the parser's state at every step. -/
structure WFs (s : PSt) : Prop where
  bb : ∀ x ∈ s.block, 0 ≤ x ∧ x < 256
  tb : ∀ x ∈ s.text, 0 ≤ x ∧ x < 256
  bl : s.block.length ≤ 512
  tl : s.text.length ≤ 8192
  gl : s.glob.length ≤ 64
  ll : s.loc.length ≤ 64
  gs : ∀ r ∈ s.glob, r.1.size ≤ 8192 ∧ r.2.size ≤ 8192
  ls : ∀ r ∈ s.loc, r.1.size ≤ 8192 ∧ r.2.size ≤ 8192
  nm : s.nm.size ≤ 8192
  lk : s.lk.size ≤ 8192
  a0 : 0 ≤ s.at_
  a1 : s.at_ ≤ 1099511627776
  ol : s.out.length ≤ 100000000
theorem cut_text (x : List Int) (hx : x.length ≤ 1000000) (hb : ∀ y ∈ x, 0 ≤ y ∧ y < 256) : ∃ b q, PPua.strings_Cut.f (strOfNums x) ⟨#[0]⟩ = some (textZ x, b, q) := by
  have h := PPua.text_val x hx hb
  unfold PPua.head_text.f at h
  cases hc : PPua.strings_Cut.f (strOfNums x) ⟨#[0]⟩ with
  | none => rw [hc] at h; cases h
  | some r =>
    rw [hc] at h
    have h2 : r.1 = textZ x := Option.some.inj h
    exact ⟨r.2.1, r.2.2, by rw [← h2]⟩
theorem recs_read {w : World} {base : Nat} {ok : Nat → Prop} {v : Value} {y : List Rec} (h : Kd.R PPua.k66 66 w base ok v (PPua.ofRec y)) : ∃ A c, v = .slice A y.length c ∧ y.length ≤ c ∧ ReadsRow (kRec.K w) kRec.sz w A y.length y := by
  obtain ⟨A, c, rfl, hc, hC⟩ := Kd.R_reads h
  have hl : (PPua.ofRec y).length = y.length := by simp [PPua.ofRec]
  rw [hl] at hc hC ⊢
  refine ⟨A, c, rfl, hc, rfl, hC.2.1, fun hn => ?_⟩
  obtain ⟨ad, e, hj⟩ := hC.2.2 hn
  refine ⟨ad, e, fun j p hp => ?_⟩
  have h2 : (PPua.ofRec y)[j]? = some ⟨p.1, p.2⟩ := by simp [PPua.ofRec, hp]
  obtain ⟨cs, h3, h4, h5⟩ := hj j _ h2
  exact ⟨cs, h3, h4, h5⟩
theorem infoRec : (Tryz.prog.info? 66).map (fun i => (i.zero, i.size, i.bytes)) = some (some (.agg #[.string ⟨#[]⟩, .string ⟨#[]⟩]), 2, 32) := by kernel_rfl
theorem oneOf_small {s : ByteArray} (h : (oneOf s).2.2.2 = 0) : (oneOf s).1.size + (oneOf s).2.1.size ≤ 4096 := by
  revert h
  unfold oneOf
  simp only
  repeat' split
  all_goals first | (intro h; exact absurd h (by decide)) | skip
  · intro h; rename_i h2; exact absurd h h2
  · intro _
    rename_i h7 h9
    have h8 := (chk_zero (Decidable.of_not_not h7)).2.2
    exact h8
theorem paxL_small : ∀ (f : Nat) (s : ByteArray) (out : List Rec), out.length ≤ 64 → (∀ r ∈ out, r.1.size + r.2.size ≤ 4096) → (paxL f s out).1.length ≤ 64 ∧ ∀ r ∈ (paxL f s out).1, r.1.size + r.2.size ≤ 4096
  | 0, s, out, h, h1 => ⟨h, h1⟩
  | f + 1, s, out, h, h1 => by
    rw [paxL]
    split
    · exact ⟨h, h1⟩
    · split
      · exact ⟨by simp, by simp⟩
      · split
        · exact ⟨by simp, by simp⟩
        · rename_i h2 h3
          have h4 : (oneOf s).2.2.2 = 0 := by simpa using h3
          refine paxL_small f _ _ (by simp; omega) (fun r hr => ?_)
          rcases List.mem_append.1 hr with hr | hr
          · exact h1 r hr
          · rw [List.mem_singleton.1 hr]; exact oneOf_small h4
theorem paxV_small (l : List Int) : (paxV l).1.length ≤ 64 ∧ ∀ r ∈ (paxV l).1, r.1.size + r.2.size ≤ 4096 := paxL_small _ _ _ (by simp) (by simp)
section
variable {w0 : World} {F0 : Nat → Prop} {w w' : World} {g : Nat} {s : PSt} {vb vt vg vl vo v1 : Value}
theorem PSx.globd (h : PSx w0 F0 w g s vb vt vg vl vo) {y : List Rec} (hr : Kd.R kRec 66 w' 0 (fun k => k < w0.heap.size → F0 k) v1 y) (hg : w.grownBy w' vg.ownBlock) (hat : v1.ownBlock = vg.ownBlock ∨ ∃ b, v1.ownBlock = some b ∧ w.heap.size ≤ b) : PSx w0 F0 (w'.setCell ⟨g, 7, none⟩ v1) g { s with glob := y } vb vt v1 vl vo := by
  obtain ⟨f1, b1⟩ := h.rest h.rw_.g (by decide) (fun k hk => h.rw_.g.1 k hk) hg
  exact ⟨f1.set (p := ⟨g, 7, none⟩) (fun _ => h.fg) _, h.lt, h.fg, b1.set_ 7 v1, (h.rw_.globd hr hg hat).set b1 7 v1⟩
theorem PSx.locd (h : PSx w0 F0 w g s vb vt vg vl vo) {y : List Rec} (hr : Kd.R kRec 66 w' 0 (fun k => (k < w0.heap.size → F0 k) ∧ some k ≠ vg.ownBlock) v1 y) (hg : w.grownBy w' vl.ownBlock) : PSx w0 F0 (w'.setCell ⟨g, 8, none⟩ v1) g { s with loc := y } vb vt vg v1 vo := by
  obtain ⟨f1, b1⟩ := h.rest h.rw_.l (by decide) (fun k hk => (h.rw_.l.1 k hk).1) hg
  exact ⟨f1.set (p := ⟨g, 8, none⟩) (fun _ => h.fg) _, h.lt, h.fg, b1.set_ 8 v1, (h.rw_.locd hr hg).set b1 8 v1⟩
theorem PSx.blockd (h : PSx w0 F0 w g s vb vt vg vl vo) {y : List Int} (hr : Kd.R (Kd.int .u8) 5 w' 0 (fun k => k < w0.heap.size → F0 k) v1 y) (hg : w.grownBy w' vb.ownBlock) (hat : v1.ownBlock = vb.ownBlock ∨ ∃ b, v1.ownBlock = some b ∧ w.heap.size ≤ b) : PSx w0 F0 (w'.setCell ⟨g, 1, none⟩ v1) g { s with block := y } v1 vt vg vl vo := by
  obtain ⟨f1, b1⟩ := h.rest h.rw_.b (by decide) (fun k hk => h.rw_.b.1 k hk) hg
  exact ⟨f1.set (p := ⟨g, 1, none⟩) (fun _ => h.fg) _, h.lt, h.fg, b1.set_ 1 v1, (h.rw_.blockd hr hg hat).set b1 1 v1⟩
theorem PSx.textd (h : PSx w0 F0 w g s vb vt vg vl vo) {y : List Int} (hr : Kd.R (Kd.int .u8) 5 w' 0 (fun k => (k < w0.heap.size → F0 k) ∧ some k ≠ vb.ownBlock) v1 y) (hg : w.grownBy w' vt.ownBlock) (hat : v1.ownBlock = vt.ownBlock ∨ ∃ b, v1.ownBlock = some b ∧ w.heap.size ≤ b) : PSx w0 F0 (w'.setCell ⟨g, 6, none⟩ v1) g { s with text := y } vb v1 vg vl vo := by
  obtain ⟨f1, b1⟩ := h.rest h.rw_.t (by decide) (fun k hk => (h.rw_.t.1 k hk).1) hg
  exact ⟨f1.set (p := ⟨g, 6, none⟩) (fun _ => h.fg) _, h.lt, h.fg, b1.set_ 6 v1, (h.rw_.textd hr hg hat).set b1 6 v1⟩
end
section
variable (w0 : World) (F0 : Nat → Prop) (w : World) (g : Nat) (s : PSt) (vb vt vg vl vo : Value) (h : PSx w0 F0 w g s vb vt vg vl vo) (hw : WFs s) (he : EnvE w0) (hF : ∀ k, F0 k → 7 ≤ k)
include h hw he hF
set_option maxHeartbeats 4000000 in
set_option maxRecDepth 100000 in
theorem told_name (h4 : s.cls = 4) : Calls Tryz.prog 37 #[.pointer (some ⟨g, 0, none⟩)] w (Does w0 F0 g s.told) := by
  obtain ⟨At, ct, rfl, hct, hC⟩ := Kd.R_reads h.rw_.t
  obtain ⟨Ag, cg, rfl⟩ := Kd.R_slice h.rw_.g
  obtain ⟨Al, cl, rfl⟩ := Kd.R_slice h.rw_.l
  have hE : EnvE w := h.fr.env hF he
  obtain ⟨b2, q2, hcut⟩ := cut_text s.text (by have := hw.tl; omega) hw.tb
  have hcv : (convert 32 9 (.slice At s.text.length ct)).run Tryz.prog w = .ok (.string (strOfNums s.text)) w := Kd.C_string Tryz.underlying32 Tryz.underlying5 Tryz.underlying9 hC
  have HCT := Lib.hid (PPua.strings_Cut.calls (strOfNums s.text) ⟨#[0]⟩ (textZ s.text) b2 q2 w hE hcut)
  have HPD := Lib.hid (fun W (hW : Below w.heap.size w W) => PPua.pax_Decode.calls (s.text.length + 1) At ct s.text (PPua.ofRec (paxV s.text).1) (paxV s.text).2 W (Kd.C_below hC hW) hct (hE.below hW) (PPua.pax_val s.text (by have := hw.tl; omega)))
  obtain ⟨c0, c1, c2, c3, c4, c5, c6, c7, c8, c9, c10, c11, c12, c13, c14, c15⟩ := h.cells
  have H := Lib.hid h
  have HW := Lib.hid hw
  have hgl := h.blk.lt
  clear c0 c1 c2 c3 c4 c7 c8 c9 c10 c11 c12 c13 c14 c15 hct hC hE hcut hw he hF
  obtain ⟨T, hT⟩ : ∃ T, textZ s.text = T := ⟨_, rfl⟩
  obtain ⟨S, hS⟩ : ∃ S, strOfNums s.text = S := ⟨_, rfl⟩
  rw [hT, hS] at HCT
  rw [hS] at hcv
  have HT := Lib.hid hT
  clear hT hS h
  have HR : Hid (s.told = ({ s with nm := T }).skip) := by show _ = _; unfold PSt.told; rw [if_pos h4, HT.out]
  rw [h4] at c5
  have H4 := Lib.hid h4
  clear h4
  go_enter Tryz.func37, Tryz.ntmps37
  go_wp2_with (first | (go_at_call 66; (with_reducible refine HCT.out.mono ?_); rintro e w1 ⟨rfl, hb1⟩; have P1 := Aside0.mk (H.out.below hb1); have B1 := Aside0.mk hb1; obtain ⟨k0, k1, k2, k3, k4, k5, k6, k7, k8, k9, k10, k11, k12, k13, k14, k15⟩ := P1.out.cells; have kf := P1.out.free 9; have SK := Lib.hid (skip_any w0 F0 _ g { s with nm := T } vb _ _ _ vo (P1.out.setF 9 (.string T) { s with nm := T } rfl rfl rfl rfl rfl rfl)); have hg1 := P1.out.blk.lt; rw [H4.out] at k5; clear k0 k1 k2 k3 k4 k11 k12 k13 k14 k15 c5 c6 hcv hb1) | (go_at_call 68; (with_reducible refine SK.out.mono ?_); rintro e w2 ⟨rfl, hP2⟩))
  go_end0
  rw [HR.out]
  exact ⟨rfl, _, _, _, _, _, hP2⟩
set_option maxHeartbeats 4000000 in
set_option maxRecDepth 100000 in
theorem told_link (h4 : s.cls = 5) : Calls Tryz.prog 37 #[.pointer (some ⟨g, 0, none⟩)] w (Does w0 F0 g s.told) := by
  obtain ⟨At, ct, rfl, hct, hC⟩ := Kd.R_reads h.rw_.t
  obtain ⟨Ag, cg, rfl⟩ := Kd.R_slice h.rw_.g
  obtain ⟨Al, cl, rfl⟩ := Kd.R_slice h.rw_.l
  have hE : EnvE w := h.fr.env hF he
  obtain ⟨b2, q2, hcut⟩ := cut_text s.text (by have := hw.tl; omega) hw.tb
  have hcv : (convert 32 9 (.slice At s.text.length ct)).run Tryz.prog w = .ok (.string (strOfNums s.text)) w := Kd.C_string Tryz.underlying32 Tryz.underlying5 Tryz.underlying9 hC
  have HCT := Lib.hid (PPua.strings_Cut.calls (strOfNums s.text) ⟨#[0]⟩ (textZ s.text) b2 q2 w hE hcut)
  have HPD := Lib.hid (fun W (hW : Below w.heap.size w W) => PPua.pax_Decode.calls (s.text.length + 1) At ct s.text (PPua.ofRec (paxV s.text).1) (paxV s.text).2 W (Kd.C_below hC hW) hct (hE.below hW) (PPua.pax_val s.text (by have := hw.tl; omega)))
  obtain ⟨c0, c1, c2, c3, c4, c5, c6, c7, c8, c9, c10, c11, c12, c13, c14, c15⟩ := h.cells
  have H := Lib.hid h
  have HW := Lib.hid hw
  have hgl := h.blk.lt
  clear c0 c1 c2 c3 c4 c7 c8 c9 c10 c11 c12 c13 c14 c15 hct hC hE hcut hw he hF
  obtain ⟨T, hT⟩ : ∃ T, textZ s.text = T := ⟨_, rfl⟩
  obtain ⟨S, hS⟩ : ∃ S, strOfNums s.text = S := ⟨_, rfl⟩
  rw [hT, hS] at HCT
  rw [hS] at hcv
  have HT := Lib.hid hT
  clear hT hS h
  have HR : Hid (s.told = ({ s with lk := T }).skip) := by show _ = _; unfold PSt.told; rw [if_neg (by rw [h4]; decide), if_pos h4, HT.out]
  rw [h4] at c5
  have H4 := Lib.hid h4
  clear h4
  go_enter Tryz.func37, Tryz.ntmps37
  go_wp2_with (first | (go_at_call 66; (with_reducible refine HCT.out.mono ?_); rintro e w1 ⟨rfl, hb1⟩; have P1 := Aside0.mk (H.out.below hb1); have B1 := Aside0.mk hb1; obtain ⟨k0, k1, k2, k3, k4, k5, k6, k7, k8, k9, k10, k11, k12, k13, k14, k15⟩ := P1.out.cells; have kf := P1.out.free 10; have SK := Lib.hid (skip_any w0 F0 _ g { s with lk := T } vb _ _ _ vo (P1.out.setF 10 (.string T) { s with lk := T } rfl rfl rfl rfl rfl rfl)); have hg1 := P1.out.blk.lt; rw [H4.out] at k5; clear k0 k1 k2 k3 k4 k11 k12 k13 k14 k15 c5 c6 hcv hb1) | (go_at_call 68; (with_reducible refine SK.out.mono ?_); rintro e w2 ⟨rfl, hP2⟩))
  go_end0
  rw [HR.out]
  exact ⟨rfl, _, _, _, _, _, hP2⟩
set_option maxHeartbeats 4000000 in
set_option maxRecDepth 100000 in
theorem told_err (h4 : s.cls ≠ 4) (h5 : s.cls ≠ 5) (hq : (paxV s.text).2 ≠ 0) : Calls Tryz.prog 37 #[.pointer (some ⟨g, 0, none⟩)] w (Does w0 F0 g s.told) := by
  obtain ⟨At, ct, rfl, hct, hC⟩ := Kd.R_reads h.rw_.t
  obtain ⟨Ag, cg, rfl⟩ := Kd.R_slice h.rw_.g
  obtain ⟨Al, cl, rfl⟩ := Kd.R_slice h.rw_.l
  have hE : EnvE w := h.fr.env hF he
  obtain ⟨b2, q2, hcut⟩ := cut_text s.text (by have := hw.tl; omega) hw.tb
  have hcv : (convert 32 9 (.slice At s.text.length ct)).run Tryz.prog w = .ok (.string (strOfNums s.text)) w := Kd.C_string Tryz.underlying32 Tryz.underlying5 Tryz.underlying9 hC
  have HCT := Lib.hid (PPua.strings_Cut.calls (strOfNums s.text) ⟨#[0]⟩ (textZ s.text) b2 q2 w hE hcut)
  have HPD := Lib.hid (fun W (hW : Below w.heap.size w W) => PPua.pax_Decode.calls (s.text.length + 1) At ct s.text (PPua.ofRec (paxV s.text).1) (paxV s.text).2 W (Kd.C_below hC hW) hct (hE.below hW) (PPua.pax_val s.text (by have := hw.tl; omega)))
  obtain ⟨c0, c1, c2, c3, c4, c5, c6, c7, c8, c9, c10, c11, c12, c13, c14, c15⟩ := h.cells
  have H := Lib.hid h
  have HW := Lib.hid hw
  have hgl := h.blk.lt
  clear c0 c1 c2 c3 c4 c7 c8 c9 c10 c11 c12 c13 c14 c15 hct hC hE hcut hw he hF
  obtain ⟨hys, hyv⟩ := paxV_small s.text
  obtain ⟨y, hy⟩ : ∃ y, (paxV s.text).1 = y := ⟨_, rfl⟩
  obtain ⟨e, hee⟩ : ∃ e, (paxV s.text).2 = e := ⟨_, rfl⟩
  rw [hy, hee] at HPD
  rw [hy] at hys hyv
  have HY := Lib.hid hy
  have HEE := Lib.hid hee
  obtain ⟨T, hT⟩ : ∃ T, textZ s.text = T := ⟨_, rfl⟩
  obtain ⟨S, hS⟩ : ∃ S, strOfNums s.text = S := ⟨_, rfl⟩
  rw [hT, hS] at HCT
  rw [hS] at hcv
  have HT := Lib.hid hT
  clear hT hS h
  have n4 : (s.cls == 4) = false := by simpa using h4
  have n5 : (s.cls == 5) = false := by simpa using h5
  have hq1 : e ≠ 0 := by rw [← HEE.out]; exact hq
  have hq2 : (e != 0) = true := by simpa using hq1
  have HQ := Lib.hid hq1
  have HR : Hid (s.told = s.bad e) := by
    show _ = _
    unfold PSt.told
    rw [if_neg h4, if_neg h5, if_pos hq, HEE.out]
  clear h4 h5
  clear hq hq1
  go_enter Tryz.func37, Tryz.ntmps37
  go_wp2_with (first | (go_at_call 66; (with_reducible refine HCT.out.mono ?_); rintro e w1 ⟨rfl, hb1⟩; have P1 := Aside0.mk (H.out.below hb1); have B1 := Aside0.mk hb1; obtain ⟨k0, k1, k2, k3, k4, k5, k6, k7, k8, k9, k10, k11, k12, k13, k14, k15⟩ := P1.out.cells; have hg1 := P1.out.blk.lt; clear k0 k1 k2 k3 k4 k11 k12 k13 k14 k15 c5 c6 hcv hb1) | (go_at_call 67; (with_reducible refine (HPD.out _ B1.out).mono ?_); rintro e2 w2 ⟨v2, rfl, hR2, hb2⟩; obtain ⟨A2, c2, hv2, hc2, hRR⟩ := recs_read hR2; subst hv2; have P2 := Aside0.mk (P1.out.below hb2); have HRR := Aside0.mk hRR; have hg2 := P2.out.blk.lt; have k5 : w2.cell? ⟨g, 5, none⟩ = some (.int .i64 s.cls) := P2.out.blk.cell 5; clear hR2 hRR hb2; skip) | (go_at_call 62; (with_reducible refine (bad_any w0 F0 _ g s _ _ _ _ _ P2.out e HQ.out HW.out.ol).mono ?_); rintro e3 w3 ⟨rfl, hD⟩))
  go_end0
  rw [HR.out]
  exact ⟨rfl, hD⟩
set_option maxHeartbeats 4000000 in
set_option maxRecDepth 100000 in
theorem told_many3 (h3 : s.cls = 3) (hq : (paxV s.text).2 = 0) (hm : 64 < s.glob.length + (paxV s.text).1.length) : Calls Tryz.prog 37 #[.pointer (some ⟨g, 0, none⟩)] w (Does w0 F0 g s.told) := by
  obtain ⟨At, ct, rfl, hct, hC⟩ := Kd.R_reads h.rw_.t
  obtain ⟨Ag, cg, rfl⟩ := Kd.R_slice h.rw_.g
  obtain ⟨Al, cl, rfl⟩ := Kd.R_slice h.rw_.l
  have hE : EnvE w := h.fr.env hF he
  obtain ⟨b2, q2, hcut⟩ := cut_text s.text (by have := hw.tl; omega) hw.tb
  have hcv : (convert 32 9 (.slice At s.text.length ct)).run Tryz.prog w = .ok (.string (strOfNums s.text)) w := Kd.C_string Tryz.underlying32 Tryz.underlying5 Tryz.underlying9 hC
  have HCT := Lib.hid (PPua.strings_Cut.calls (strOfNums s.text) ⟨#[0]⟩ (textZ s.text) b2 q2 w hE hcut)
  have HPD := Lib.hid (fun W (hW : Below w.heap.size w W) => PPua.pax_Decode.calls (s.text.length + 1) At ct s.text (PPua.ofRec (paxV s.text).1) (paxV s.text).2 W (Kd.C_below hC hW) hct (hE.below hW) (PPua.pax_val s.text (by have := hw.tl; omega)))
  obtain ⟨c0, c1, c2, c3, c4, c5, c6, c7, c8, c9, c10, c11, c12, c13, c14, c15⟩ := h.cells
  have H := Lib.hid h
  have HW := Lib.hid hw
  have hgl := h.blk.lt
  clear c0 c1 c2 c3 c4 c7 c8 c9 c10 c11 c12 c13 c14 c15 hct hC hE hcut hw he hF
  obtain ⟨hys, hyv⟩ := paxV_small s.text
  obtain ⟨y, hy⟩ : ∃ y, (paxV s.text).1 = y := ⟨_, rfl⟩
  obtain ⟨e, hee⟩ : ∃ e, (paxV s.text).2 = e := ⟨_, rfl⟩
  rw [hy, hee] at HPD
  rw [hy] at hys hyv
  have HY := Lib.hid hy
  have HEE := Lib.hid hee
  obtain ⟨T, hT⟩ : ∃ T, textZ s.text = T := ⟨_, rfl⟩
  obtain ⟨S, hS⟩ : ∃ S, strOfNums s.text = S := ⟨_, rfl⟩
  rw [hT, hS] at HCT
  rw [hS] at hcv
  have HT := Lib.hid hT
  clear hT hS h
  obtain rfl : e = 0 := by rw [← HEE.out]; exact hq
  rw [h3] at c5
  have H3 := Lib.hid h3
  have hgl64 := HW.out.gl
  have hll64 := HW.out.ll
  have hm2 : 64 < s.glob.length + y.length := by rw [← HY.out]; exact hm
  have HR : Hid (s.told = s.bad 2) := by
    show _ = _
    unfold PSt.told
    rw [if_neg (by rw [h3]; decide), if_neg (by rw [h3]; decide), if_neg (by rw [hq]; decide), if_pos h3, if_pos hm]
  clear h3 hq
  clear hm
  go_enter Tryz.func37, Tryz.ntmps37
  go_wp2_with (first | (go_at_call 66; (with_reducible refine HCT.out.mono ?_); rintro e w1 ⟨rfl, hb1⟩; have P1 := Aside0.mk (H.out.below hb1); have B1 := Aside0.mk hb1; obtain ⟨k0, k1, k2, k3, k4, k5, k6, k7, k8, k9, k10, k11, k12, k13, k14, k15⟩ := P1.out.cells; have hg1 := P1.out.blk.lt; rw [H3.out] at k5; clear k0 k1 k2 k3 k4 k11 k12 k13 k14 k15 c5 c6 hcv hb1) | (go_at_call 67; (with_reducible refine (HPD.out _ B1.out).mono ?_); rintro e2 w2 ⟨v2, rfl, hR2, hb2⟩; obtain ⟨A2, c2, hv2, hc2, hRR⟩ := recs_read hR2; subst hv2; have P2 := Aside0.mk (P1.out.below hb2); have HRR := Aside0.mk hRR; have hg2 := P2.out.blk.lt; have k5 : w2.cell? ⟨g, 5, none⟩ = some (.int .i64 s.cls) := P2.out.blk.cell 5; clear hR2 hRR hb2; rw [H3.out] at k5; have k7 : w2.cell? ⟨g, 7, none⟩ = some (.slice Ag s.glob.length cg) := P2.out.blk.cell 7) | (go_at_call 62; (with_reducible refine (bad_any w0 F0 _ g s _ _ _ _ _ P2.out 2 (by decide) HW.out.ol).mono ?_); rintro e3 w3 ⟨rfl, hD⟩))
  go_end0
  rw [HR.out]
  exact ⟨rfl, hD⟩
set_option maxHeartbeats 4000000 in
set_option maxRecDepth 100000 in
theorem told_take3 (h3 : s.cls = 3) (hq : (paxV s.text).2 = 0) (hm : ¬ 64 < s.glob.length + (paxV s.text).1.length) : Calls Tryz.prog 37 #[.pointer (some ⟨g, 0, none⟩)] w (Does w0 F0 g s.told) := by
  obtain ⟨At, ct, rfl, hct, hC⟩ := Kd.R_reads h.rw_.t
  obtain ⟨Ag, cg, rfl⟩ := Kd.R_slice h.rw_.g
  obtain ⟨Al, cl, rfl⟩ := Kd.R_slice h.rw_.l
  have hE : EnvE w := h.fr.env hF he
  obtain ⟨b2, q2, hcut⟩ := cut_text s.text (by have := hw.tl; omega) hw.tb
  have hcv : (convert 32 9 (.slice At s.text.length ct)).run Tryz.prog w = .ok (.string (strOfNums s.text)) w := Kd.C_string Tryz.underlying32 Tryz.underlying5 Tryz.underlying9 hC
  have HCT := Lib.hid (PPua.strings_Cut.calls (strOfNums s.text) ⟨#[0]⟩ (textZ s.text) b2 q2 w hE hcut)
  have HPD := Lib.hid (fun W (hW : Below w.heap.size w W) => PPua.pax_Decode.calls (s.text.length + 1) At ct s.text (PPua.ofRec (paxV s.text).1) (paxV s.text).2 W (Kd.C_below hC hW) hct (hE.below hW) (PPua.pax_val s.text (by have := hw.tl; omega)))
  obtain ⟨c0, c1, c2, c3, c4, c5, c6, c7, c8, c9, c10, c11, c12, c13, c14, c15⟩ := h.cells
  have H := Lib.hid h
  have HW := Lib.hid hw
  have hgl := h.blk.lt
  clear c0 c1 c2 c3 c4 c7 c8 c9 c10 c11 c12 c13 c14 c15 hct hC hE hcut hw he hF
  obtain ⟨hys, hyv⟩ := paxV_small s.text
  obtain ⟨y, hy⟩ : ∃ y, (paxV s.text).1 = y := ⟨_, rfl⟩
  obtain ⟨e, hee⟩ : ∃ e, (paxV s.text).2 = e := ⟨_, rfl⟩
  rw [hy, hee] at HPD
  rw [hy] at hys hyv
  have HY := Lib.hid hy
  have HEE := Lib.hid hee
  obtain ⟨T, hT⟩ : ∃ T, textZ s.text = T := ⟨_, rfl⟩
  obtain ⟨S, hS⟩ : ∃ S, strOfNums s.text = S := ⟨_, rfl⟩
  rw [hT, hS] at HCT
  rw [hS] at hcv
  have HT := Lib.hid hT
  clear hT hS h
  obtain rfl : e = 0 := by rw [← HEE.out]; exact hq
  rw [h3] at c5
  have H3 := Lib.hid h3
  have hgl64 := HW.out.gl
  have hll64 := HW.out.ll
  have hm2 : ¬ 64 < s.glob.length + y.length := by rw [← HY.out]; exact hm
  have HR : Hid (s.told = ({ s with glob := s.glob ++ y }).skip) := by
    show _ = _
    unfold PSt.told
    rw [if_neg (by rw [h3]; decide), if_neg (by rw [h3]; decide), if_neg (by rw [hq]; decide), if_pos h3, if_neg hm, HY.out]
  clear h3 hq
  clear hm
  go_enter Tryz.func37, Tryz.ntmps37
  go_wp2_with (first | (go_at_call 66; (with_reducible refine HCT.out.mono ?_); rintro e w1 ⟨rfl, hb1⟩; have P1 := Aside0.mk (H.out.below hb1); have B1 := Aside0.mk hb1; obtain ⟨k0, k1, k2, k3, k4, k5, k6, k7, k8, k9, k10, k11, k12, k13, k14, k15⟩ := P1.out.cells; have hg1 := P1.out.blk.lt; rw [H3.out] at k5; clear k0 k1 k2 k3 k4 k11 k12 k13 k14 k15 c5 c6 hcv hb1) | (go_at_call 67; (with_reducible refine (HPD.out _ B1.out).mono ?_); rintro e2 w2 ⟨v2, rfl, hR2, hb2⟩; obtain ⟨A2, c2, hv2, hc2, hRR⟩ := recs_read hR2; subst hv2; have P2 := Aside0.mk (P1.out.below hb2); have HRR := Aside0.mk hRR; have hg2 := P2.out.blk.lt; have k5 : w2.cell? ⟨g, 5, none⟩ = some (.int .i64 s.cls) := P2.out.blk.cell 5; clear hR2 hRR hb2; rw [H3.out] at k5; have k7 : w2.cell? ⟨g, 7, none⟩ = some (.slice Ag s.glob.length cg) := P2.out.blk.cell 7; have k7f := P2.out.free 7) | (at_builtin; refine Kd.R_append_rows kRec (w0 := w2) (W := w2) 0 rfl (.tmp 61) (.tmp 62) 73 66 _ 32 rfl Tryz.underlying73 infoRec rfl (by decide) (by decide) (.slice Ag s.glob.length cg) s.glob y A2 y.length c2 (fun k => k < w0.heap.size → F0 k) (fun _ => False) rfl rfl P2.out.rw_.g HRR.out (fun _ _ h => h) (fun _ hk => hk.elim) (fun k hk => P2.out.new_b k hk) (Below.refl _ _) (Nat.zero_le _) (by omega) ?_; intro v3 w3 ho3 hb3 hg3 hat3; obtain ⟨A3, c3, hv3⟩ := Kd.R_slice ho3; subst hv3; have P3 := Aside0.mk (P2.out.globd ho3 hg3 hat3); have hne3 := Kd.R_ne P2.out.rw_.g P2.out.blk (by decide); have z7 := (cell_blk (hg3.block g hg2 hne3) 7).trans k7; have z7f := (frozen_blk (hg3.block g hg2 hne3) 7).trans (P2.out.free 7); have hln : (s.glob ++ y).length = s.glob.length + y.length := List.length_append; rw [hln] at P3 ⊢; clear ho3 hb3 hg3 hat3 hne3 hln) | (go_at_call 68; (with_reducible refine (skip_any w0 F0 _ g _ _ _ _ _ _ P3.out).mono ?_); rintro e4 w4 ⟨rfl, hP4⟩))
  go_end0
  rw [HR.out]
  exact ⟨rfl, _, _, _, _, _, hP4⟩
set_option maxHeartbeats 4000000 in
set_option maxRecDepth 100000 in
theorem told_many2 (h4 : s.cls ≠ 4) (h5 : s.cls ≠ 5) (h3 : s.cls ≠ 3) (hq : (paxV s.text).2 = 0) (hm : 64 < s.loc.length + (paxV s.text).1.length) : Calls Tryz.prog 37 #[.pointer (some ⟨g, 0, none⟩)] w (Does w0 F0 g s.told) := by
  obtain ⟨At, ct, rfl, hct, hC⟩ := Kd.R_reads h.rw_.t
  obtain ⟨Ag, cg, rfl⟩ := Kd.R_slice h.rw_.g
  obtain ⟨Al, cl, rfl⟩ := Kd.R_slice h.rw_.l
  have hE : EnvE w := h.fr.env hF he
  obtain ⟨b2, q2, hcut⟩ := cut_text s.text (by have := hw.tl; omega) hw.tb
  have hcv : (convert 32 9 (.slice At s.text.length ct)).run Tryz.prog w = .ok (.string (strOfNums s.text)) w := Kd.C_string Tryz.underlying32 Tryz.underlying5 Tryz.underlying9 hC
  have HCT := Lib.hid (PPua.strings_Cut.calls (strOfNums s.text) ⟨#[0]⟩ (textZ s.text) b2 q2 w hE hcut)
  have HPD := Lib.hid (fun W (hW : Below w.heap.size w W) => PPua.pax_Decode.calls (s.text.length + 1) At ct s.text (PPua.ofRec (paxV s.text).1) (paxV s.text).2 W (Kd.C_below hC hW) hct (hE.below hW) (PPua.pax_val s.text (by have := hw.tl; omega)))
  obtain ⟨c0, c1, c2, c3, c4, c5, c6, c7, c8, c9, c10, c11, c12, c13, c14, c15⟩ := h.cells
  have H := Lib.hid h
  have HW := Lib.hid hw
  have hgl := h.blk.lt
  clear c0 c1 c2 c3 c4 c7 c8 c9 c10 c11 c12 c13 c14 c15 hct hC hE hcut hw he hF
  obtain ⟨hys, hyv⟩ := paxV_small s.text
  obtain ⟨y, hy⟩ : ∃ y, (paxV s.text).1 = y := ⟨_, rfl⟩
  obtain ⟨e, hee⟩ : ∃ e, (paxV s.text).2 = e := ⟨_, rfl⟩
  rw [hy, hee] at HPD
  rw [hy] at hys hyv
  have HY := Lib.hid hy
  have HEE := Lib.hid hee
  obtain ⟨T, hT⟩ : ∃ T, textZ s.text = T := ⟨_, rfl⟩
  obtain ⟨S, hS⟩ : ∃ S, strOfNums s.text = S := ⟨_, rfl⟩
  rw [hT, hS] at HCT
  rw [hS] at hcv
  have HT := Lib.hid hT
  clear hT hS h
  have n4 : (s.cls == 4) = false := by simpa using h4
  have n5 : (s.cls == 5) = false := by simpa using h5
  obtain rfl : e = 0 := by rw [← HEE.out]; exact hq
  have n3 : (s.cls == 3) = false := by simpa using h3
  have H3 := Lib.hid h3
  have hgl64 := HW.out.gl
  have hll64 := HW.out.ll
  have hm2 : 64 < s.loc.length + y.length := by rw [← HY.out]; exact hm
  have HR : Hid (s.told = s.bad 2) := by
    show _ = _
    unfold PSt.told
    rw [if_neg h4, if_neg h5, if_neg (by rw [hq]; decide), if_neg h3, if_pos hm]
  clear h3 hq h4 h5
  clear hm
  go_enter Tryz.func37, Tryz.ntmps37
  go_wp2_with (first | (go_at_call 66; (with_reducible refine HCT.out.mono ?_); rintro e w1 ⟨rfl, hb1⟩; have P1 := Aside0.mk (H.out.below hb1); have B1 := Aside0.mk hb1; obtain ⟨k0, k1, k2, k3, k4, k5, k6, k7, k8, k9, k10, k11, k12, k13, k14, k15⟩ := P1.out.cells; have hg1 := P1.out.blk.lt; clear k0 k1 k2 k3 k4 k11 k12 k13 k14 k15 c5 c6 hcv hb1) | (go_at_call 67; (with_reducible refine (HPD.out _ B1.out).mono ?_); rintro e2 w2 ⟨v2, rfl, hR2, hb2⟩; obtain ⟨A2, c2, hv2, hc2, hRR⟩ := recs_read hR2; subst hv2; have P2 := Aside0.mk (P1.out.below hb2); have HRR := Aside0.mk hRR; have hg2 := P2.out.blk.lt; have k5 : w2.cell? ⟨g, 5, none⟩ = some (.int .i64 s.cls) := P2.out.blk.cell 5; clear hR2 hRR hb2; skip; have k8 : w2.cell? ⟨g, 8, none⟩ = some (.slice Al s.loc.length cl) := P2.out.blk.cell 8) | (go_at_call 62; (with_reducible refine (bad_any w0 F0 _ g s _ _ _ _ _ P2.out 2 (by decide) HW.out.ol).mono ?_); rintro e3 w3 ⟨rfl, hD⟩))
  go_end0
  rw [HR.out]
  exact ⟨rfl, hD⟩
set_option maxHeartbeats 4000000 in
set_option maxRecDepth 100000 in
theorem told_take2 (h4 : s.cls ≠ 4) (h5 : s.cls ≠ 5) (h3 : s.cls ≠ 3) (hq : (paxV s.text).2 = 0) (hm : ¬ 64 < s.loc.length + (paxV s.text).1.length) : Calls Tryz.prog 37 #[.pointer (some ⟨g, 0, none⟩)] w (Does w0 F0 g s.told) := by
  obtain ⟨At, ct, rfl, hct, hC⟩ := Kd.R_reads h.rw_.t
  obtain ⟨Ag, cg, rfl⟩ := Kd.R_slice h.rw_.g
  obtain ⟨Al, cl, rfl⟩ := Kd.R_slice h.rw_.l
  have hE : EnvE w := h.fr.env hF he
  obtain ⟨b2, q2, hcut⟩ := cut_text s.text (by have := hw.tl; omega) hw.tb
  have hcv : (convert 32 9 (.slice At s.text.length ct)).run Tryz.prog w = .ok (.string (strOfNums s.text)) w := Kd.C_string Tryz.underlying32 Tryz.underlying5 Tryz.underlying9 hC
  have HCT := Lib.hid (PPua.strings_Cut.calls (strOfNums s.text) ⟨#[0]⟩ (textZ s.text) b2 q2 w hE hcut)
  have HPD := Lib.hid (fun W (hW : Below w.heap.size w W) => PPua.pax_Decode.calls (s.text.length + 1) At ct s.text (PPua.ofRec (paxV s.text).1) (paxV s.text).2 W (Kd.C_below hC hW) hct (hE.below hW) (PPua.pax_val s.text (by have := hw.tl; omega)))
  obtain ⟨c0, c1, c2, c3, c4, c5, c6, c7, c8, c9, c10, c11, c12, c13, c14, c15⟩ := h.cells
  have H := Lib.hid h
  have HW := Lib.hid hw
  have hgl := h.blk.lt
  clear c0 c1 c2 c3 c4 c7 c8 c9 c10 c11 c12 c13 c14 c15 hct hC hE hcut hw he hF
  obtain ⟨hys, hyv⟩ := paxV_small s.text
  obtain ⟨y, hy⟩ : ∃ y, (paxV s.text).1 = y := ⟨_, rfl⟩
  obtain ⟨e, hee⟩ : ∃ e, (paxV s.text).2 = e := ⟨_, rfl⟩
  rw [hy, hee] at HPD
  rw [hy] at hys hyv
  have HY := Lib.hid hy
  have HEE := Lib.hid hee
  obtain ⟨T, hT⟩ : ∃ T, textZ s.text = T := ⟨_, rfl⟩
  obtain ⟨S, hS⟩ : ∃ S, strOfNums s.text = S := ⟨_, rfl⟩
  rw [hT, hS] at HCT
  rw [hS] at hcv
  have HT := Lib.hid hT
  clear hT hS h
  have n4 : (s.cls == 4) = false := by simpa using h4
  have n5 : (s.cls == 5) = false := by simpa using h5
  obtain rfl : e = 0 := by rw [← HEE.out]; exact hq
  have n3 : (s.cls == 3) = false := by simpa using h3
  have H3 := Lib.hid h3
  have hgl64 := HW.out.gl
  have hll64 := HW.out.ll
  have hm2 : ¬ 64 < s.loc.length + y.length := by rw [← HY.out]; exact hm
  have HR : Hid (s.told = ({ s with loc := s.loc ++ y }).skip) := by
    show _ = _
    unfold PSt.told
    rw [if_neg h4, if_neg h5, if_neg (by rw [hq]; decide), if_neg h3, if_neg hm, HY.out]
  clear h3 hq h4 h5
  clear hm
  go_enter Tryz.func37, Tryz.ntmps37
  go_wp2_with (first | (go_at_call 66; (with_reducible refine HCT.out.mono ?_); rintro e w1 ⟨rfl, hb1⟩; have P1 := Aside0.mk (H.out.below hb1); have B1 := Aside0.mk hb1; obtain ⟨k0, k1, k2, k3, k4, k5, k6, k7, k8, k9, k10, k11, k12, k13, k14, k15⟩ := P1.out.cells; have hg1 := P1.out.blk.lt; clear k0 k1 k2 k3 k4 k11 k12 k13 k14 k15 c5 c6 hcv hb1) | (go_at_call 67; (with_reducible refine (HPD.out _ B1.out).mono ?_); rintro e2 w2 ⟨v2, rfl, hR2, hb2⟩; obtain ⟨A2, c2, hv2, hc2, hRR⟩ := recs_read hR2; subst hv2; have P2 := Aside0.mk (P1.out.below hb2); have HRR := Aside0.mk hRR; have hg2 := P2.out.blk.lt; have k5 : w2.cell? ⟨g, 5, none⟩ = some (.int .i64 s.cls) := P2.out.blk.cell 5; clear hR2 hRR hb2; skip; have k8 : w2.cell? ⟨g, 8, none⟩ = some (.slice Al s.loc.length cl) := P2.out.blk.cell 8; have k8f := P2.out.free 8) | (at_builtin; refine Kd.R_append_rows kRec (w0 := w2) (W := w2) 0 rfl (.tmp 61) (.tmp 62) 73 66 _ 32 rfl Tryz.underlying73 infoRec rfl (by decide) (by decide) (.slice Al s.loc.length cl) s.loc y A2 y.length c2 (fun k => (k < w0.heap.size → F0 k) ∧ some k ≠ (Value.slice Ag s.glob.length cg).ownBlock) (fun _ => False) rfl rfl P2.out.rw_.l HRR.out (fun _ _ h => h) (fun _ hk => hk.elim) (fun k hk => ⟨P2.out.new_b k hk, fun e => absurd (R_lt P2.out.rw_.g k e.symm) (by omega)⟩) (Below.refl _ _) (Nat.zero_le _) (by omega) ?_; intro v3 w3 ho3 hb3 hg3 hat3; obtain ⟨A3, c3, hv3⟩ := Kd.R_slice ho3; subst hv3; have P3 := Aside0.mk (P2.out.locd ho3 hg3); have hne3 := Kd.R_ne P2.out.rw_.l P2.out.blk (by decide); have z7 := (cell_blk (hg3.block g hg2 hne3) 8).trans k8; have z7f := (frozen_blk (hg3.block g hg2 hne3) 8).trans (P2.out.free 8); have hln : (s.loc ++ y).length = s.loc.length + y.length := List.length_append; rw [hln] at P3 ⊢; clear ho3 hb3 hg3 hat3 hne3 hln) | (go_at_call 68; (with_reducible refine (skip_any w0 F0 _ g _ _ _ _ _ _ P3.out).mono ?_); rintro e4 w4 ⟨rfl, hP4⟩))
  go_end0
  rw [HR.out]
  exact ⟨rfl, _, _, _, _, _, hP4⟩
theorem told_any : Calls Tryz.prog 37 #[.pointer (some ⟨g, 0, none⟩)] w (Does w0 F0 g s.told) := by
  by_cases h4 : s.cls = 4
  · exact told_name w0 F0 w g s vb vt vg vl vo h hw he hF h4
  by_cases h5 : s.cls = 5
  · exact told_link w0 F0 w g s vb vt vg vl vo h hw he hF h5
  by_cases hq : (paxV s.text).2 = 0
  · by_cases h3 : s.cls = 3
    · by_cases hm : 64 < s.glob.length + (paxV s.text).1.length
      · exact told_many3 w0 F0 w g s vb vt vg vl vo h hw he hF h3 hq hm
      · exact told_take3 w0 F0 w g s vb vt vg vl vo h hw he hF h3 hq hm
    · by_cases hm : 64 < s.loc.length + (paxV s.text).1.length
      · exact told_many2 w0 F0 w g s vb vt vg vl vo h hw he hF h4 h5 h3 hq hm
      · exact told_take2 w0 F0 w g s vb vt vg vl vo h hw he hF h4 h5 h3 hq hm
  · exact told_err w0 F0 w g s vb vt vg vl vo h hw he hF h4 h5 hq
end
end Go.Proofs.YtpbpfngichfgeaaGreatDoor
