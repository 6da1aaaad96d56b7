/-
  Several texts in one: YtpbpfngichfgeaaGreatDoorPushMv, YtpbpfngichfgeaaGreatDoorFedS, YtpbpfngichfgeaaGreatDoorFedL, YtpbpfngichfgeaaGreatDoorFedM.
-/
import Derived.Test.YtpbpfngichfgeaaGreatDoorPushRd
import Derived.Test.YtpbpfngichfgeaaGreatDoorArcs
namespace Go.Proofs.YtpbpfngichfgeaaGreatDoor
set_option linter.unusedVariables false
set_option linter.unusedSectionVars false
set_option linter.unusedSimpArgs false
open Go Go.RowKit Go.Proofs.YtpbpfngichfgeaaGreatDoorW.PrintWords Go.Proofs.YtpbpfngichfgeaaGreatDoorW.PrintLast Go.Proofs.YtpbpfngichfgeaaGreatDoorW.PrintMore

/-- The parser stands as it did where its own blocks do: ready for the next Feed. -/
theorem PSx.move {w0 : World} {F0 : Nat → Prop} {w w' : World} {g : Nat} {s : PSt} {vb vt vg vl : Value} (h : PSx w0 F0 w g { s with out := [] } vb vt vg vl (.slice none 0 0)) (hm : ∀ k, Own g vb vt vg vl k → w'.heap[k]? = w.heap[k]?) :
    PSx w' (Own g vb vt vg vl) w' g { s with out := [] } vb vt vg vl (.slice none 0 0) := by
  have hb : Blk w' g 77 (pCells { s with out := [] } vb vt vg vl (.slice none 0 0)) := by
    have e := hm g (.inl rfl)
    exact e.trans h.blk
  have q := h
  refine ⟨Frm.refl _ _, hb.lt, .inl rfl, hb, ?_⟩
  refine ⟨?_, ?_, ?_, ?_, Kd.R_nil _ _ _ _ _⟩
  · exact Kd.R_mono (Kd.R_step (Kd.R_tight rfl q.rw_.b) (fun k hk _ => hm k (.inr (.inl hk)))) (fun k hk _ => .inr (.inl hk))
  · exact Kd.R_mono (Kd.R_step (Kd.R_tight rfl q.rw_.t) (fun k hk _ => hm k (.inr (.inr (.inl hk))))) (fun k hk => ⟨fun _ => .inr (.inr (.inl hk)), (q.rw_.t.1 k hk.symm).2⟩)
  · exact Kd.R_mono (Kd.R_step (Kd.R_tight rfl q.rw_.g) (fun k hk _ => hm k (.inr (.inr (.inr (.inl hk)))))) (fun k hk _ => .inr (.inr (.inr (.inl hk))))
  · exact Kd.R_mono (Kd.R_step (Kd.R_tight rfl q.rw_.l) (fun k hk _ => hm k (.inr (.inr (.inr (.inr hk)))))) (fun k hk => ⟨fun _ => .inr (.inr (.inr (.inr hk))), (q.rw_.l.1 k hk.symm).2⟩)
/-- A Feed at a parser that stands ready. -/
theorem feed_next (w : World) (he : EnvE w) (g : Nat) (s : PSt) (vb vt vg vl : Value) (hp : PSx w (Own g vb vt vg vl) w g { s with out := [] } vb vt vg vl (.slice none 0 0)) (hng : ∀ k, Own g vb vt vg vl k → 7 ≤ k)
    (hw : WFs { s with out := [] }) (hm : WFm { s with out := [] }) (A : Option Addr) (c : Nat) (xs : List Int) (hI : In w (Own g vb vt vg vl) A xs) (hc : xs.length ≤ c) (hb : ∀ x ∈ xs, 0 ≤ x ∧ x < 256) (hl : xs.length ≤ 1000000) (ha : s.at_ + xs.length ≤ 1099511627776) :
    Calls Tryz.prog 17 #[.pointer (some ⟨g, 0, none⟩), .slice A xs.length c] w (Fed w (Own g vb vt vg vl) g (({ s with out := [] } : PSt).feed xs)) := by
  refine feed_any _ _ _ _ { s with out := [] } A c xs he hng _ ⟨⟨_, _, _, _, _, hp⟩, hw, hm, hI, hb, hc, Nat.le_refl _, ha, ?_, rfl⟩ rfl
  show 0 + 2 * xs.length ≤ _
  omega
end Go.Proofs.YtpbpfngichfgeaaGreatDoor

namespace Go.Proofs.YtpbpfngichfgeaaGreatDoor
set_option linter.unusedVariables false
set_option linter.unusedSectionVars false
set_option linter.unusedSimpArgs false
open Go Go.RowKit Go.Proofs.YtpbpfngichfgeaaGreatDoorW.PrintWords Go.Proofs.YtpbpfngichfgeaaGreatDoorW.PrintLast Go.Proofs.YtpbpfngichfgeaaGreatDoorW.PrintMore

theorem PSx.again2 {w0 : World} {F0 : Nat → Prop} {w : World} {g : Nat} {s : PSt} {vb vt vg vl : Value} (h : PSx w0 F0 w g { s with out := [] } vb vt vg vl (.slice none 0 0)) : PSx w (Own g vb vt vg vl) w g { s with out := [] } vb vt vg vl (.slice none 0 0) :=
  ⟨Frm.refl _ _, h.blk.lt, .inl rfl, h.blk,
    ⟨Kd.R_reok rfl h.rw_.b (fun k hk _ => .inr (.inl hk.symm)), Kd.R_reok rfl h.rw_.t (fun k hk => ⟨fun _ => .inr (.inr (.inl hk.symm)), (h.rw_.t.1 k hk).2⟩), Kd.R_reok rfl h.rw_.g (fun k hk _ => .inr (.inr (.inr (.inl hk.symm)))), Kd.R_reok rfl h.rw_.l (fun k hk => ⟨fun _ => .inr (.inr (.inr (.inr hk.symm))), (h.rw_.l.1 k hk).2⟩), Kd.R_nil _ _ _ _ _⟩⟩
abbrev kThgT : Kd ((ByteArray × ByteArray × Int × Int × Int × Int × Int × Int × ByteArray × ByteArray) × ByteArray × Bool × Int) := Kd.pair kEn (Kd.pair Kd.string (Kd.pair Kd.bool (Kd.int .i64)))
def Thg.tup (t : Thg) : (ByteArray × ByteArray × Int × Int × Int × Int × Int × Int × ByteArray × ByteArray) × ByteArray × Bool × Int := (t.en.tup, strOfNums t.data, t.whole, t.at_)
def kThg : Kd Thg := Kd.iso kThgT Thg.tup
theorem kThg_E : kThg.E = [] := rfl
/-- A thing's cells. -/
abbrev thCells (e : En) (d : ByteArray) (wh : Bool) (a : Int) : List Value := [.string e.path, .string e.link, .int .i64 e.kd, .int .i64 e.md, .int .i64 e.uid, .int .i64 e.gid, .int .i64 e.mt, .int .i64 e.sz, .string e.user, .string e.group, .string d, .bool wh, .int .i64 a]
abbrev arZero : Array Value := #[.slice none 0 0, .bool false, .int .i64 0, .int .i64 0]
abbrev arCells (vth : Value) (b : Arc) : Array Value := #[vth, .bool b.done, .int .i64 b.code, .int .i64 b.place]
/-- What stands between two steps: the result's block, the archive's, the row of things, the parser. -/
structure FI (w0 w : World) (g4 g7 gp : Nat) (s : PSt) (vb vt vg vl : Value) (b : Arc) (vth : Value) : Prop where
  bl : Below w0.heap.size w0 w
  n4 : w0.heap.size ≤ g4
  n7 : w0.heap.size ≤ g7
  ne : g4 ≠ g7
  b4 : Blk w g4 49 arZero
  b7 : Blk w g7 49 (arCells vth b)
  th : Kd.R kThg 57 w w0.heap.size (fun _ => True) vth b.things
  ps : PSx w (Own gp vb vt vg vl) w gp { s with out := [] } vb vt vg vl (.slice none 0 0)
  ow : ∀ k, Own gp vb vt vg vl k → w0.heap.size ≤ k
/-- What the steps of fed write: the archive's block and the row of things. -/
abbrev FW (g7 : Nat) (vth : Value) : Nat → Prop := fun k => k = g7 ∨ some k = vth.ownBlock
section
variable {w0 w w' : World} {g4 g7 gp : Nat} {s : PSt} {vb vt vg vl vth : Value} {b : Arc}
theorem own_ty {F0 : Nat → Prop} {wx : World} {vo : Value} (h : PSx wx F0 w gp s vb vt vg vl vo) (k : Nat) (hk : Own gp vb vt vg vl k) :
    ∃ cells t, w.heap[k]? = some (.cells cells t (0, 0)) ∧ (t = 77 ∨ t = 5 ∨ t = 66) := by
  have q : ∀ {α : Type} {d : Kd α} {e : Nat} {ok : Nat → Prop} {v : Value} {xs : List α}, Kd.R d e w 0 ok v xs → some k = v.ownBlock → ∃ cells, w.heap[k]? = some (.cells cells e (0, 0)) := by
    intro α d e ok v xs hr hv
    obtain ⟨inner, ho⟩ := Kd.R_own hr
    exact own_typed ho k hv.symm
  rcases hk with hk | hk | hk | hk | hk
  · rw [hk]; exact ⟨_, _, h.blk, .inl rfl⟩
  · obtain ⟨c, hc⟩ := q h.rw_.b hk; exact ⟨c, _, hc, .inr (.inl rfl)⟩
  · obtain ⟨c, hc⟩ := q h.rw_.t hk; exact ⟨c, _, hc, .inr (.inl rfl)⟩
  · obtain ⟨c, hc⟩ := q h.rw_.g hk; exact ⟨c, _, hc, .inr (.inr rfl)⟩
  · obtain ⟨c, hc⟩ := q h.rw_.l hk; exact ⟨c, _, hc, .inr (.inr rfl)⟩
theorem th_ty {base : Nat} {ok : Nat → Prop} {ts : List Thg} (h : Kd.R kThg 57 w base ok vth ts) (k : Nat) (hk : some k = vth.ownBlock) : ∃ cells, w.heap[k]? = some (.cells cells 57 (0, 0)) := by
  obtain ⟨inner, ho⟩ := Kd.R_own h
  exact own_typed ho k hk.symm
theorem ty_ne {k : Nat} {c c' : Array Value} {t t' : Nat} (h : w.heap[k]? = some (.cells c t (0, 0))) (h' : w.heap[k]? = some (.cells c' t' (0, 0))) : t = t' := by
  rw [h] at h'
  injection h' with h'
  injection h'
theorem FI.step (h : FI w0 w g4 g7 gp s vb vt vg vl b vth) (hF : Frm (FW g7 vth) w w') {b' : Arc} {vth' : Value} (h7 : Blk w' g7 49 (arCells vth' b'))
    (hth : Kd.R kThg 57 w' w0.heap.size (fun _ => True) vth' b'.things) : FI w0 w' g4 g7 gp s vb vt vg vl b' vth' := by
  have hv := Kd.R_base h.th
  refine ⟨⟨hF.os.trans h.bl.os, hF.tape.trans h.bl.tape, hF.output.trans h.bl.output, Nat.le_trans h.bl.size hF.size, fun k hk => (hF.block k (Nat.lt_of_lt_of_le hk h.bl.size) ?_).trans (h.bl.block k hk)⟩, h.n4, h.n7, h.ne, ?_, h7, hth, ?_, h.ow⟩
  · rintro (rfl | e)
    · exact absurd h.n7 (by omega)
    · exact absurd (hv k e.symm) (by omega)
  · refine (hF.block g4 h.b4.lt ?_).trans h.b4
    rintro (e | e)
    · exact h.ne e
    · exact Kd.R_ne h.th h.b4 (by decide) e
  · refine PSx.move (s := s) h.ps (fun k hk => ?_)
    obtain ⟨c, t, hc, ht⟩ := own_ty h.ps k hk
    refine hF.block k (blk_lt hc) ?_
    rintro (rfl | e)
    · have := ty_ne hc h.b7
      rcases ht with rfl | rfl | rfl <;> exact absurd this (by decide)
    · obtain ⟨c', hc'⟩ := th_ty h.th k e
      have := ty_ne hc hc'
      rcases ht with rfl | rfl | rfl <;> exact absurd this (by decide)
theorem own_ge {F0 : Nat → Prop} {wx : World} {B : Nat} (h : PSx wx F0 w gp { s with out := [] } vb vt vg vl (.slice none 0 0)) (hF : ∀ k, F0 k → B ≤ k) (hz : B ≤ wx.heap.size) : ∀ k, Own gp vb vt vg vl k → B ≤ k := by
  have q : ∀ k, (k < wx.heap.size → F0 k) → B ≤ k := fun k hk => by
    by_cases hlt : k < wx.heap.size
    · exact hF k (hk hlt)
    · omega
  intro k hk
  rcases hk with hk | hk | hk | hk | hk
  · rw [hk]; exact hF gp h.fg
  · exact q k (h.rw_.b.1 k hk.symm)
  · exact q k (h.rw_.t.1 k hk.symm).1
  · exact q k (h.rw_.g.1 k hk.symm)
  · exact q k (h.rw_.l.1 k hk.symm).1
/-- Behind a Feed. -/
theorem FI.fed {r : PSt} {vb' vt' vg' vl' : Value} (h : FI w0 w g4 g7 gp s vb vt vg vl b vth) (hp : PSx w (Own gp vb vt vg vl) w' gp { r with out := [] } vb' vt' vg' vl' (.slice none 0 0)) :
    FI w0 w' g4 g7 gp r vb' vt' vg' vl' b vth := by
  have hty : ∀ k c t, w.heap[k]? = some (.cells c t (0, 0)) → t ≠ 77 → t ≠ 5 → t ≠ 66 → ¬ Own gp vb vt vg vl k := by
    intro k c t hc h1 h2 h3 ho
    obtain ⟨c', t', hc', ht'⟩ := own_ty h.ps k ho
    have := ty_ne hc hc'
    subst this
    rcases ht' with e | e | e
    · exact h1 e
    · exact h2 e
    · exact h3 e
  refine ⟨⟨hp.fr.os.trans h.bl.os, hp.fr.tape.trans h.bl.tape, hp.fr.output.trans h.bl.output, Nat.le_trans h.bl.size hp.fr.size, fun k hk => (hp.fr.block k (Nat.lt_of_lt_of_le hk h.bl.size) (fun ho => by have := h.ow k ho; omega)).trans (h.bl.block k hk)⟩, h.n4, h.n7, h.ne, ?_, ?_, ?_, PSx.again2 hp, own_ge hp h.ow h.bl.size⟩
  · exact (hp.fr.block g4 h.b4.lt (hty _ _ _ h.b4 (by decide) (by decide) (by decide))).trans h.b4
  · exact (hp.fr.block g7 h.b7.lt (hty _ _ _ h.b7 (by decide) (by decide) (by decide))).trans h.b7
  · refine Kd.R_mono (Kd.R_step (Kd.R_bound h.th) (fun k hk hlt => hp.fr.block k hlt ?_)) (fun _ hk => hk.1)
    obtain ⟨_, _, _, q, hq, c, hc⟩ := hk
    have : q = 57 := by simpa [kThg_E] using hq
    subst this
    exact hty _ _ _ hc (by decide) (by decide) (by decide)
end
end Go.Proofs.YtpbpfngichfgeaaGreatDoor

namespace Go.Proofs.YtpbpfngichfgeaaGreatDoor
set_option linter.unusedVariables false
set_option linter.unusedSectionVars false
set_option linter.unusedSimpArgs false
set_option linter.unnecessarySimpa false
open Go Go.RowKit Go.Proofs.YtpbpfngichfgeaaGreatDoorW.PrintWords Go.Proofs.YtpbpfngichfgeaaGreatDoorW.PrintLast Go.Proofs.YtpbpfngichfgeaaGreatDoorW.PrintMore

theorem FI.below {w0 w w' : World} {g4 g7 gp : Nat} {s : PSt} {vb vt vg vl vth : Value} {b : Arc} (h : FI w0 w g4 g7 gp s vb vt vg vl b vth) (hb : Below w.heap.size w w') : FI w0 w' g4 g7 gp s vb vt vg vl b vth :=
  h.step ⟨hb.os, hb.tape, hb.output, hb.size, fun k hk _ => hb.block k hk⟩ (h.b7.below hb h.b7.lt) (Kd.R_below h.th hb)
theorem evs_step {b b2 b' : Arc} {out : List Evt} {k : Nat} (h : Arc.evs (some b) (out.take k) = some b2) (h' : Arc.evs (some b) out = some b') (hk : k < out.length) :
    ∃ b3, b2.ev (out.getD k default) = some b3 ∧ Arc.evs (some b) (out.take (k + 1)) = some b3 := by
  have e1 : out.getD k default = out[k] := by rw [List.getD_eq_getElem?_getD, List.getElem?_eq_getElem hk]; rfl
  have e2 : out.take (k + 1) = out.take k ++ [out[k]] := List.take_succ_eq_append_getElem hk
  have e3 : Arc.evs (some b) (out.take (k + 1)) = b2.ev out[k] := by
    rw [e2, evs_append, h]
    rfl
  cases hb : b2.ev out[k] with
  | none =>
    exfalso
    have e4 : out = out.take (k + 1) ++ out.drop (k + 1) := (List.take_append_drop _ _).symm
    rw [e4, evs_append, e3, hb, evs_none] at h'
    cases h'
  | some b3 => exact ⟨b3, by rw [e1]; exact hb, by rw [e3]; exact hb⟩
theorem R_max {α : Type} {d : Kd α} {e base : Nat} {ok : Nat → Prop} {w : World} {v : Value} {xs : List α} (h : d.R e w base ok v xs) : xs.length ≤ 9223372036854775807 := by
  obtain ⟨inner, ho⟩ := Kd.R_own h
  rcases ho.2 with ⟨_, h0⟩ | ⟨g, cap, cur, _, _, _, h1, h2, _⟩
  · omega
  · unfold maxLen at h2; omega
theorem onLast_len (f : Thg → Thg) (l : List Thg) : (onLast f l).length = l.length := by
  unfold onLast
  cases h : l.getLast? with
  | none => rfl
  | some t =>
    have hne : l ≠ [] := by rintro rfl; simp at h
    have : 0 < l.length := List.length_pos_iff.2 hne
    simp
    omega
theorem ev_beg {b b3 : Arc} {e : En} {a : Int} (h : b.ev ⟨.beg e, a⟩ = some b3) : b.over = false ∧ b.opn = false ∧ b3 = { b with things := b.things ++ [⟨e, [], false, a⟩], opn := true } := by
  unfold Arc.ev at h
  split at h
  · cases h
  · rename_i h1
    simp only at h
    split at h
    · cases h
    · rename_i h2
      cases h
      exact ⟨by simpa using h1, by simpa using h2, rfl⟩
theorem ev_dat {b b3 : Arc} {d : List Int} {a : Int} (ho : Opn b) (h : b.ev ⟨.dat d, a⟩ = some b3) : b.over = false ∧ b.opn = true ∧ d ≠ [] ∧ ∃ l t, b.things = l ++ [t] ∧ b3 = { b with things := l ++ [{ t with data := t.data ++ d, at_ := a }] } := by
  unfold Arc.ev at h
  split at h
  · cases h
  · rename_i h1
    simp only at h
    split at h
    · cases h
    · rename_i h2
      have h3 : b.opn = true := by
        cases q : b.opn with
        | true => rfl
        | false => exact absurd (.inl q) h2
      obtain ⟨l, t, hl, _⟩ := ho.opn h3
      cases h
      refine ⟨by simpa using h1, h3, fun e => h2 (.inr e), l, t, hl, ?_⟩
      rw [hl, onLast_add]
theorem ev_fin {b b3 : Arc} {a : Int} (ho : Opn b) (h : b.ev ⟨.fin, a⟩ = some b3) : b.over = false ∧ b.opn = true ∧ ∃ l t, b.things = l ++ [t] ∧ b3 = { b with opn := false, things := l ++ [{ t with whole := true, at_ := a }] } := by
  unfold Arc.ev at h
  split at h
  · cases h
  · rename_i h1
    simp only at h
    split at h
    · cases h
    · rename_i h2
      have h3 : b.opn = true := by
        cases q : b.opn with
        | true => rfl
        | false => exact absurd q h2
      obtain ⟨l, t, hl, _⟩ := ho.opn h3
      cases h
      refine ⟨by simpa using h1, h3, l, t, hl, ?_⟩
      rw [hl, onLast_add]
theorem ev_don {b b3 : Arc} {a : Int} (h : b.ev ⟨.don, a⟩ = some b3) : b.over = false ∧ b3 = { b with done := true, over := true } := by
  unfold Arc.ev at h
  split at h
  · cases h
  · rename_i h1
    cases h
    exact ⟨by simpa using h1, rfl⟩
theorem ev_bad {b b3 : Arc} {c p a : Int} (h : b.ev ⟨.bad c p, a⟩ = some b3) : b.over = false ∧ b3 = { b with code := c, place := p, over := true } := by
  unfold Arc.ev at h
  split at h
  · cases h
  · rename_i h1
    cases h
    exact ⟨by simpa using h1, rfl⟩
/-- Event number i, its cells by value. -/
theorem ev_facts {w : World} {base : Nat} {ok : Nat → Prop} {g n cap : Nat} {out : List Evt} (h : Kd.R kEv 43 w base ok (.slice (some ⟨g, 0, none⟩) n cap) out) (i : Nat) (hi : i < n) (k : EvK) (a : Int) (hx : out.getD i default = ⟨k, a⟩)
    (kn : Int) (en : En) (ve : Value) (d : List Int) (hkn : k.num = kn) (hen : k.en = en) (hve : errV k.err = ve) (hd : k.data = d) :
    ∃ Ad cd, w.cell? ⟨g, i * 14, none⟩ = some (.int .i64 kn) ∧ w.cell? ⟨g, i * 14 + 1, none⟩ = some (.string en.path) ∧ w.cell? ⟨g, i * 14 + 2, none⟩ = some (.string en.link) ∧ w.cell? ⟨g, i * 14 + 3, none⟩ = some (.int .i64 en.kd) ∧ w.cell? ⟨g, i * 14 + 4, none⟩ = some (.int .i64 en.md) ∧
      w.cell? ⟨g, i * 14 + 5, none⟩ = some (.int .i64 en.uid) ∧ w.cell? ⟨g, i * 14 + 6, none⟩ = some (.int .i64 en.gid) ∧ w.cell? ⟨g, i * 14 + 7, none⟩ = some (.int .i64 en.mt) ∧ w.cell? ⟨g, i * 14 + 8, none⟩ = some (.int .i64 en.sz) ∧ w.cell? ⟨g, i * 14 + 9, none⟩ = some (.string en.user) ∧
      w.cell? ⟨g, i * 14 + 10, none⟩ = some (.string en.group) ∧ w.cell? ⟨g, i * 14 + 11, none⟩ = some (.slice Ad d.length cd) ∧ w.cell? ⟨g, i * 14 + 12, none⟩ = some ve ∧ w.cell? ⟨g, i * 14 + 13, none⟩ = some (.int .i64 a) ∧
      Kd.R (Kd.int .u8) 5 w base (fun k => ok k ∧ k ≠ g) (.slice Ad d.length cd) d := by
  subst hkn hen hve hd
  obtain ⟨vd, qc, hR⟩ := ev_at h i hi _ hx
  obtain ⟨Ad, cd, hv⟩ := Kd.R_slice hR
  have hv' : vd = .slice Ad k.data.length cd := hv
  subst hv'
  exact ⟨Ad, cd, qc 0 _ rfl, qc 1 _ rfl, qc 2 _ rfl, qc 3 _ rfl, qc 4 _ rfl, qc 5 _ rfl, qc 6 _ rfl, qc 7 _ rfl, qc 8 _ rfl, qc 9 _ rfl, qc 10 _ rfl, qc 11 _ rfl, qc 12 _ rfl, qc 13 _ rfl, hR⟩
abbrev evArr (kn : Int) (en : En) (vd ve : Value) (a : Int) : Array Value := #[.int .i64 kn, .string en.path, .string en.link, .int .i64 en.kd, .int .i64 en.md, .int .i64 en.uid, .int .i64 en.gid, .int .i64 en.mt, .int .i64 en.sz, .string en.user, .string en.group, vd, ve, .int .i64 a]
end Go.Proofs.YtpbpfngichfgeaaGreatDoor

namespace Go.Proofs.YtpbpfngichfgeaaGreatDoor
set_option linter.unusedVariables false
set_option linter.unusedSectionVars false
set_option linter.unusedSimpArgs false
set_option linter.unnecessarySimpa false
open Go Go.RowKit Go.Proofs.YtpbpfngichfgeaaGreatDoorW.PrintWords Go.Proofs.YtpbpfngichfgeaaGreatDoorW.PrintLast Go.Proofs.YtpbpfngichfgeaaGreatDoorW.PrintMore

section
variable {w0 w w' : World} {g4 g7 gp : Nat} {s : PSt} {vb vt vg vl vth : Value} {b : Arc}
theorem FI.add (h : FI w0 w g4 g7 gp s vb vt vg vl b vth) {w6 : World} {v6 : Value} {t : Thg} (ho : Kd.R kThg 57 w6 w0.heap.size (fun _ => True) v6 (b.things ++ [t])) (hg : w.grownBy w6 vth.ownBlock) (o : Bool) :
    FI w0 (w6.setCell ⟨g7, 0, none⟩ v6) g4 g7 gp s vb vt vg vl { b with things := b.things ++ [t], opn := o } v6 ∧ Frm (FW g7 vth) w (w6.setCell ⟨g7, 0, none⟩ v6) := by
  have b7 : Blk w6 g7 49 (arCells vth b) := h.b7.grown hg (Kd.R_ne h.th h.b7 (by decide))
  have hF : Frm (FW g7 vth) w (w6.setCell ⟨g7, 0, none⟩ v6) := ((Frm.refl _ w).grown hg (fun k hk _ => .inr hk.symm)).set (p := ⟨g7, 0, none⟩) (fun _ => .inl rfl) v6
  exact ⟨h.step hF (b7.set_ 0 v6) (Kd.R_set ho b7 (by rw [kThg_E]; decide) 0 v6), hF⟩
theorem FI.set (h : FI w0 w g4 g7 gp s vb vt vg vl b vth) (j : Nat) (u : Value) (b' : Arc) (hc : (arCells vth b).setIfInBounds j u = arCells vth b') (ht : b'.things = b.things) :
    FI w0 (w.setCell ⟨g7, j, none⟩ u) g4 g7 gp s vb vt vg vl b' vth ∧ Frm (FW g7 vth) w (w.setCell ⟨g7, j, none⟩ u) := by
  have hF : Frm (FW g7 vth) w (w.setCell ⟨g7, j, none⟩ u) := (Frm.refl _ w).set (p := ⟨g7, j, none⟩) (fun _ => .inl rfl) u
  refine ⟨h.step hF (by rw [← hc]; exact h.b7.set_ j u) ?_, hF⟩
  rw [ht]
  exact Kd.R_set h.th h.b7 (by rw [kThg_E]; decide) j u
end
def FedEnd (w : World) (xs : List Int) (e : Ending) (w' : World) : Prop :=
  ∃ v, e = .returned (.tuple #[.agg #[v, .bool (arcOf xs).done, .int .i64 (arcOf xs).code, .int .i64 (arcOf xs).place], .bool true]) ∧ Kd.R kThg 57 w' w.heap.size (fun _ => True) v (arcOf xs).things ∧ Below w.heap.size w w'
theorem strOfNums_size (l : List Int) : (strOfNums l).size = l.length := by
  unfold strOfNums
  show Array.size _ = _
  simp
/-- How many bytes events, things have. -/
def dlen : List Evt → Nat
  | [] => 0
  | x :: l => x.k.data.length + dlen l
def dsum : List Thg → Nat
  | [] => 0
  | t :: l => t.data.length + dsum l
theorem strOfNums_add (l m : List Int) : strOfNums (l ++ m) = strOfNums l ++ strOfNums m := by
  unfold strOfNums
  apply ByteArray.ext
  simp [ByteArray.data_append]
end Go.Proofs.YtpbpfngichfgeaaGreatDoor
