/-
  Several texts in one: YtpbpfngichfgeaaGreatDoorPushMv, YtpbpfngichfgeaaGreatDoorFedS, YtpbpfngichfgeaaGreatDoorFedL, YtpbpfngichfgeaaGreatDoorFedM.
-/
import Derived.Test.YtpbpfngichfgeaaGreatDoorPushRd
import Derived.Test.YtpbpfngichfgeaaGreatDoorArcs
namespace Go.Proofs.YtpbpfngichfgeaaGreatDoor
set_option linter.unusedVariables false
set_option linter.unusedSectionVars false
set_option linter.unusedSimpArgs false
open Go Go.RowKit Go.Proofs.YtpbpfngichfgeaaGreatDoorW.PrintWords Go.Proofs.YtpbpfngichfgeaaGreatDoorW.PrintLast Go.Proofs.YtpbpfngichfgeaaGreatDoorW.PrintMore

/-- The parser stands as it did where its own blocks do: ready for the next Feed. -/
theorem PSx.move {w0 : World} {F0 : Nat → Prop} {w w' : World} {g : Nat} {s : PSt} {vb vt vg vl : Value} (h : PSx w0 F0 w g { s with out := [] } vb vt vg vl (.slice none 0 0)) (hm : ∀ k, Own g vb vt vg vl k → w'.heap[k]? = w.heap[k]?) :
    PSx w' (Own g vb vt vg vl) w' g { s with out := [] } vb vt vg vl (.slice none 0 0) := by
  have hb : Blk w' g 77 (pCells { s with out := [] } vb vt vg vl (.slice none 0 0)) := by
    have e := hm g (.inl rfl)
    exact e.trans h.blk
  have q := h
  refine ⟨Frm.refl _ _, hb.lt, .inl rfl, hb, ?_⟩
  refine ⟨?_, ?_, ?_, ?_, Kd.R_nil _ _ _ _ _⟩
  · exact Kd.R_mono (Kd.R_step (Kd.R_tight rfl q.rw_.b) (fun k hk _ => hm k (.inr (.inl hk)))) (fun k hk _ => .inr (.inl hk))
  · exact Kd.R_mono (Kd.R_step (Kd.R_tight rfl q.rw_.t) (fun k hk _ => hm k (.inr (.inr (.inl hk))))) (fun k hk => ⟨fun _ => .inr (.inr (.inl hk)), (q.rw_.t.1 k hk.symm).2⟩)
  · exact Kd.R_mono (Kd.R_step (Kd.R_tight rfl q.rw_.g) (fun k hk _ => hm k (.inr (.inr (.inr (.inl hk)))))) (fun k hk _ => .inr (.inr (.inr (.inl hk))))
  · exact Kd.R_mono (Kd.R_step (Kd.R_tight rfl q.rw_.l) (fun k hk _ => hm k (.inr (.inr (.inr (.inr hk)))))) (fun k hk => ⟨fun _ => .inr (.inr (.inr (.inr hk))), (q.rw_.l.1 k hk.symm).2⟩)
/-- A Feed at a parser that stands ready. -/
theorem feed_next (w : World) (he : EnvE w) (g : Nat) (s : PSt) (vb vt vg vl : Value) (hp : PSx w (Own g vb vt vg vl) w g { s with out := [] } vb vt vg vl (.slice none 0 0)) (hng : ∀ k, Own g vb vt vg vl k → 7 ≤ k)
    (hw : WFs { s with out := [] }) (hm : WFm { s with out := [] }) (A : Option Addr) (c : Nat) (xs : List Int) (hI : In w (Own g vb vt vg vl) A xs) (hc : xs.length ≤ c) (hb : ∀ x ∈ xs, 0 ≤ x ∧ x < 256) (hl : xs.length ≤ 1000000) (ha : s.at_ + xs.length ≤ 1099511627776) :
    Calls Tryz.prog 17 #[.pointer (some ⟨g, 0, none⟩), .slice A xs.length c] w (Fed w (Own g vb vt vg vl) g (({ s with out := [] } : PSt).feed xs)) := by
  refine feed_any _ _ _ _ { s with out := [] } A c xs he hng _ ⟨⟨_, _, _, _, _, hp⟩, hw, hm, hI, hb, hc, Nat.le_refl _, ha, ?_, rfl⟩ rfl
  show 0 + 2 * xs.length ≤ _
  omega
end Go.Proofs.YtpbpfngichfgeaaGreatDoor

namespace Go.Proofs.YtpbpfngichfgeaaGreatDoor
set_option linter.unusedVariables false
set_option linter.unusedSectionVars false
set_option linter.unusedSimpArgs false
open Go Go.RowKit Go.Proofs.YtpbpfngichfgeaaGreatDoorW.PrintWords Go.Proofs.YtpbpfngichfgeaaGreatDoorW.PrintLast Go.Proofs.YtpbpfngichfgeaaGreatDoorW.PrintMore

theorem PSx.again2 {w0 : World} {F0 : Nat → Prop} {w : World} {g : Nat} {s : PSt} {vb vt vg vl : Value} (h : PSx w0 F0 w g { s with out := [] } vb vt vg vl (.slice none 0 0)) : PSx w (Own g vb vt vg vl) w g { s with out := [] } vb vt vg vl (.slice none 0 0) :=
  ⟨Frm.refl _ _, h.blk.lt, .inl rfl, h.blk,
    ⟨Kd.R_reok rfl h.rw_.b (fun k hk _ => .inr (.inl hk.symm)), Kd.R_reok rfl h.rw_.t (fun k hk => ⟨fun _ => .inr (.inr (.inl hk.symm)), (h.rw_.t.1 k hk).2⟩), Kd.R_reok rfl h.rw_.g (fun k hk _ => .inr (.inr (.inr (.inl hk.symm)))), Kd.R_reok rfl h.rw_.l (fun k hk => ⟨fun _ => .inr (.inr (.inr (.inr hk.symm))), (h.rw_.l.1 k hk).2⟩), Kd.R_nil _ _ _ _ _⟩⟩
abbrev kThgT : Kd ((ByteArray × ByteArray × Int × Int × Int × Int × Int × Int × ByteArray × ByteArray) × ByteArray × Bool × Int) := Kd.pair kEn (Kd.pair Kd.string (Kd.pair Kd.bool (Kd.int .i64)))
def Thg.tup (t : Thg) : (ByteArray × ByteArray × Int × Int × Int × Int × Int × Int × ByteArray × ByteArray) × ByteArray × Bool × Int := (t.en.tup, strOfNums t.data, t.whole, t.at_)
def kThg : Kd Thg := Kd.iso kThgT Thg.tup
theorem kThg_E : kThg.E = [] := rfl
/-- A thing's cells. -/
abbrev thCells (e : En) (d : ByteArray) (wh : Bool) (a : Int) : List Value := [.string e.path, .string e.link, .int .i64 e.kd, .int .i64 e.md, .int .i64 e.uid, .int .i64 e.gid, .int .i64 e.mt, .int .i64 e.sz, .string e.user, .string e.group, .string d, .bool wh, .int .i64 a]
theorem kThg_M {w : World} {base : Nat} {ok : Nat → Prop} {t : Thg} (d : ByteArray) (hd : strOfNums t.data = d) : kThg.M w base ok t (thCells t.en d t.whole t.at_) := by
  subst hd
  exact ⟨[_, _, _, _, _, _, _, _, _, _], _, rfl, ⟨[_], _, rfl, rfl, [_], _, rfl, rfl, [_], _, rfl, rfl, [_], _, rfl, rfl, [_], _, rfl, rfl, [_], _, rfl, rfl, [_], _, rfl, rfl, [_], _, rfl, rfl, [_], [_], rfl, rfl, rfl⟩, [_], _, rfl, rfl, [_], [_], rfl, rfl, rfl⟩
theorem kThg_of_M {w : World} {base : Nat} {ok : Nat → Prop} {t : Thg} {cs : List Value} (h : kThg.M w base ok t cs) : cs = thCells t.en (strOfNums t.data) t.whole t.at_ := by
  obtain ⟨ce, c1, rfl, he, h1⟩ := h
  obtain ⟨cd, c2, rfl, hd, h2⟩ := h1
  obtain ⟨cw, c3, rfl, hw, h3⟩ := h2
  obtain rfl : cd = [.string (strOfNums t.data)] := hd
  obtain rfl : cw = [.bool t.whole] := hw
  obtain rfl : c3 = [.int .i64 t.at_] := h3
  obtain ⟨e0, f0, rfl, a0, b0⟩ := he
  obtain ⟨e1, f1, rfl, a1, b1⟩ := b0
  obtain ⟨e2, f2, rfl, a2, b2⟩ := b1
  obtain ⟨e3, f3, rfl, a3, b3⟩ := b2
  obtain ⟨e4, f4, rfl, a4, b4⟩ := b3
  obtain ⟨e5, f5, rfl, a5, b5⟩ := b4
  obtain ⟨e6, f6, rfl, a6, b6⟩ := b5
  obtain ⟨e7, f7, rfl, a7, b7⟩ := b6
  obtain ⟨e8, f8, rfl, a8, b8⟩ := b7
  obtain rfl : e0 = [.string t.en.path] := a0
  obtain rfl : e1 = [.string t.en.link] := a1
  obtain rfl : e2 = [.int .i64 t.en.kd] := a2
  obtain rfl : e3 = [.int .i64 t.en.md] := a3
  obtain rfl : e4 = [.int .i64 t.en.uid] := a4
  obtain rfl : e5 = [.int .i64 t.en.gid] := a5
  obtain rfl : e6 = [.int .i64 t.en.mt] := a6
  obtain rfl : e7 = [.int .i64 t.en.sz] := a7
  obtain rfl : e8 = [.string t.en.user] := a8
  obtain rfl : f8 = [.string t.en.group] := b8
  rfl
abbrev arZero : Array Value := #[.slice none 0 0, .bool false, .int .i64 0, .int .i64 0]
abbrev arCells (vth : Value) (b : Arc) : Array Value := #[vth, .bool b.done, .int .i64 b.code, .int .i64 b.place]
/-- What stands between two steps: the result's block, the archive's, the row of things, the parser. -/
structure FI (w0 w : World) (g4 g7 gp : Nat) (s : PSt) (vb vt vg vl : Value) (b : Arc) (vth : Value) : Prop where
  bl : Below w0.heap.size w0 w
  n4 : w0.heap.size ≤ g4
  n7 : w0.heap.size ≤ g7
  ne : g4 ≠ g7
  b4 : Blk w g4 49 arZero
  b7 : Blk w g7 49 (arCells vth b)
  th : Kd.R kThg 57 w w0.heap.size (fun _ => True) vth b.things
  ps : PSx w (Own gp vb vt vg vl) w gp { s with out := [] } vb vt vg vl (.slice none 0 0)
  ow : ∀ k, Own gp vb vt vg vl k → w0.heap.size ≤ k
/-- What the steps of fed write: the archive's block and the row of things. -/
abbrev FW (g7 : Nat) (vth : Value) : Nat → Prop := fun k => k = g7 ∨ some k = vth.ownBlock
section
variable {w0 w w' : World} {g4 g7 gp : Nat} {s : PSt} {vb vt vg vl vth : Value} {b : Arc}
theorem own_ty {F0 : Nat → Prop} {wx : World} {vo : Value} (h : PSx wx F0 w gp s vb vt vg vl vo) (k : Nat) (hk : Own gp vb vt vg vl k) :
    ∃ cells t, w.heap[k]? = some (.cells cells t (0, 0)) ∧ (t = 77 ∨ t = 5 ∨ t = 66) := by
  have q : ∀ {α : Type} {d : Kd α} {e : Nat} {ok : Nat → Prop} {v : Value} {xs : List α}, Kd.R d e w 0 ok v xs → some k = v.ownBlock → ∃ cells, w.heap[k]? = some (.cells cells e (0, 0)) := by
    intro α d e ok v xs hr hv
    obtain ⟨inner, ho⟩ := Kd.R_own hr
    exact own_typed ho k hv.symm
  rcases hk with hk | hk | hk | hk | hk
  · rw [hk]; exact ⟨_, _, h.blk, .inl rfl⟩
  · obtain ⟨c, hc⟩ := q h.rw_.b hk; exact ⟨c, _, hc, .inr (.inl rfl)⟩
  · obtain ⟨c, hc⟩ := q h.rw_.t hk; exact ⟨c, _, hc, .inr (.inl rfl)⟩
  · obtain ⟨c, hc⟩ := q h.rw_.g hk; exact ⟨c, _, hc, .inr (.inr rfl)⟩
  · obtain ⟨c, hc⟩ := q h.rw_.l hk; exact ⟨c, _, hc, .inr (.inr rfl)⟩
theorem th_ty {base : Nat} {ok : Nat → Prop} {ts : List Thg} (h : Kd.R kThg 57 w base ok vth ts) (k : Nat) (hk : some k = vth.ownBlock) : ∃ cells, w.heap[k]? = some (.cells cells 57 (0, 0)) := by
  obtain ⟨inner, ho⟩ := Kd.R_own h
  exact own_typed ho k hk.symm
theorem ty_ne {k : Nat} {c c' : Array Value} {t t' : Nat} (h : w.heap[k]? = some (.cells c t (0, 0))) (h' : w.heap[k]? = some (.cells c' t' (0, 0))) : t = t' := by
  rw [h] at h'
  injection h' with h'
  injection h'
/-- A row of other types reads as before. -/
theorem R_fi {α : Type} {d : Kd α} {e base b0 : Nat} {ok ok0 : Nat → Prop} {v : Value} {xs : List α} {cs : Array Value} {ts : List Thg} (h : d.R e w base ok v xs) (hF : Frm (FW g7 vth) w w') (h7 : Blk w g7 49 cs)
    (hth : Kd.R kThg 57 w b0 ok0 vth ts) (ht : ∀ q, q ∈ e :: d.E → q ≠ 49 ∧ q ≠ 57) : d.R e w' base ok v xs := by
  refine Kd.R_mono (Kd.R_step (Kd.R_bound h) (fun k hk hlt => hF.block k hlt ?_)) (fun _ hk => hk.1)
  obtain ⟨_, _, _, q, hq, c, hc⟩ := hk
  rintro (rfl | hv)
  · exact (ht q hq).1 (ty_ne hc h7)
  · obtain ⟨c', hc'⟩ := th_ty hth k hv
    exact (ht q hq).2 (ty_ne hc hc')
theorem FI.step (h : FI w0 w g4 g7 gp s vb vt vg vl b vth) (hF : Frm (FW g7 vth) w w') {b' : Arc} {vth' : Value} (h7 : Blk w' g7 49 (arCells vth' b'))
    (hth : Kd.R kThg 57 w' w0.heap.size (fun _ => True) vth' b'.things) : FI w0 w' g4 g7 gp s vb vt vg vl b' vth' := by
  have hv := Kd.R_base h.th
  refine ⟨⟨hF.os.trans h.bl.os, hF.tape.trans h.bl.tape, hF.output.trans h.bl.output, Nat.le_trans h.bl.size hF.size, fun k hk => (hF.block k (Nat.lt_of_lt_of_le hk h.bl.size) ?_).trans (h.bl.block k hk)⟩, h.n4, h.n7, h.ne, ?_, h7, hth, ?_, h.ow⟩
  · rintro (rfl | e)
    · exact absurd h.n7 (by omega)
    · exact absurd (hv k e.symm) (by omega)
  · refine (hF.block g4 h.b4.lt ?_).trans h.b4
    rintro (e | e)
    · exact h.ne e
    · exact Kd.R_ne h.th h.b4 (by decide) e
  · refine PSx.move (s := s) h.ps (fun k hk => ?_)
    obtain ⟨c, t, hc, ht⟩ := own_ty h.ps k hk
    refine hF.block k (blk_lt hc) ?_
    rintro (rfl | e)
    · have := ty_ne hc h.b7
      rcases ht with rfl | rfl | rfl <;> exact absurd this (by decide)
    · obtain ⟨c', hc'⟩ := th_ty h.th k e
      have := ty_ne hc hc'
      rcases ht with rfl | rfl | rfl <;> exact absurd this (by decide)
theorem own_ge {F0 : Nat → Prop} {wx : World} {B : Nat} (h : PSx wx F0 w gp { s with out := [] } vb vt vg vl (.slice none 0 0)) (hF : ∀ k, F0 k → B ≤ k) (hz : B ≤ wx.heap.size) : ∀ k, Own gp vb vt vg vl k → B ≤ k := by
  have q : ∀ k, (k < wx.heap.size → F0 k) → B ≤ k := fun k hk => by
    by_cases hlt : k < wx.heap.size
    · exact hF k (hk hlt)
    · omega
  intro k hk
  rcases hk with hk | hk | hk | hk | hk
  · rw [hk]; exact hF gp h.fg
  · exact q k (h.rw_.b.1 k hk.symm)
  · exact q k (h.rw_.t.1 k hk.symm).1
  · exact q k (h.rw_.g.1 k hk.symm)
  · exact q k (h.rw_.l.1 k hk.symm).1
/-- Behind a Feed. -/
theorem FI.fed {r : PSt} {vb' vt' vg' vl' : Value} (h : FI w0 w g4 g7 gp s vb vt vg vl b vth) (hp : PSx w (Own gp vb vt vg vl) w' gp { r with out := [] } vb' vt' vg' vl' (.slice none 0 0)) :
    FI w0 w' g4 g7 gp r vb' vt' vg' vl' b vth := by
  have hty : ∀ k c t, w.heap[k]? = some (.cells c t (0, 0)) → t ≠ 77 → t ≠ 5 → t ≠ 66 → ¬ Own gp vb vt vg vl k := by
    intro k c t hc h1 h2 h3 ho
    obtain ⟨c', t', hc', ht'⟩ := own_ty h.ps k ho
    have := ty_ne hc hc'
    subst this
    rcases ht' with e | e | e
    · exact h1 e
    · exact h2 e
    · exact h3 e
  refine ⟨⟨hp.fr.os.trans h.bl.os, hp.fr.tape.trans h.bl.tape, hp.fr.output.trans h.bl.output, Nat.le_trans h.bl.size hp.fr.size, fun k hk => (hp.fr.block k (Nat.lt_of_lt_of_le hk h.bl.size) (fun ho => by have := h.ow k ho; omega)).trans (h.bl.block k hk)⟩, h.n4, h.n7, h.ne, ?_, ?_, ?_, PSx.again2 hp, own_ge hp h.ow h.bl.size⟩
  · exact (hp.fr.block g4 h.b4.lt (hty _ _ _ h.b4 (by decide) (by decide) (by decide))).trans h.b4
  · exact (hp.fr.block g7 h.b7.lt (hty _ _ _ h.b7 (by decide) (by decide) (by decide))).trans h.b7
  · refine Kd.R_mono (Kd.R_step (Kd.R_bound h.th) (fun k hk hlt => hp.fr.block k hlt ?_)) (fun _ hk => hk.1)
    obtain ⟨_, _, _, q, hq, c, hc⟩ := hk
    have : q = 57 := by simpa [kThg_E] using hq
    subst this
    exact hty _ _ _ hc (by decide) (by decide) (by decide)
/-- A row of other types stays through a Feed. -/
theorem R_fed {α : Type} {d : Kd α} {e base : Nat} {ok : Nat → Prop} {v : Value} {xs : List α} (hr : d.R e w base ok v xs) (h : FI w0 w g4 g7 gp s vb vt vg vl b vth) (hF : Frm (Own gp vb vt vg vl) w w')
    (ht : ∀ q, q ∈ e :: d.E → q ≠ 77 ∧ q ≠ 5 ∧ q ≠ 66) : d.R e w' base ok v xs := by
  refine Kd.R_mono (Kd.R_step (Kd.R_bound hr) (fun k hk hlt => hF.block k hlt (fun ho => ?_))) (fun _ hk => hk.1)
  obtain ⟨_, _, _, q, hq, c, hc⟩ := hk
  obtain ⟨c', t', hc', ht'⟩ := own_ty h.ps k ho
  have := ty_ne hc hc'
  subst this
  obtain ⟨h1, h2, h3⟩ := ht q hq
  rcases ht' with e | e | e
  · exact h1 e
  · exact h2 e
  · exact h3 e
end
end Go.Proofs.YtpbpfngichfgeaaGreatDoor

namespace Go.Proofs.YtpbpfngichfgeaaGreatDoor
set_option linter.unusedVariables false
set_option linter.unusedSectionVars false
set_option linter.unusedSimpArgs false
set_option linter.unnecessarySimpa false
open Go Go.RowKit Go.Proofs.YtpbpfngichfgeaaGreatDoorW.PrintWords Go.Proofs.YtpbpfngichfgeaaGreatDoorW.PrintLast Go.Proofs.YtpbpfngichfgeaaGreatDoorW.PrintMore

theorem kEv_Es : kEv.E = [5] := rfl
theorem infoI64 : (Tryz.prog.info? 3).map (fun i => (i.zero, i.size, i.bytes)) = some (some (.int .i64 0), 1, 8) := by kernel_rfl
theorem infoThg : (Tryz.prog.info? 57).map (fun i => (i.zero, i.size, i.bytes)) = some (some (.agg #[.string ⟨#[]⟩, .string ⟨#[]⟩, .int .i64 0, .int .i64 0, .int .i64 0, .int .i64 0, .int .i64 0, .int .i64 0, .string ⟨#[]⟩, .string ⟨#[]⟩, .string ⟨#[]⟩, .bool false, .int .i64 0]), 13, 144) := by kernel_rfl
theorem fi0 (w : World) : FI w (((w.alloc (.cells arZero 49)).alloc (.cells newCells 77)).alloc (.cells arZero 49)) w.heap.size (w.heap.size + 1 + 1) (w.heap.size + 1) ps0 (.slice none 0 0) (.slice none 0 0) (.slice none 0 0) (.slice none 0 0) arc0 (.slice none 0 0) := by
  have s1 : (w.alloc (.cells arZero 49)).heap.size = w.heap.size + 1 := by simp
  have s2 : ((w.alloc (.cells arZero 49)).alloc (.cells newCells 77)).heap.size = w.heap.size + 1 + 1 := by simp
  have b4 := ((Blk.new w 49 arZero).alloc (.cells newCells 77)).alloc (.cells arZero 49)
  have b7 := Blk.new ((w.alloc (.cells arZero 49)).alloc (.cells newCells 77)) 49 arZero
  rw [s2] at b7
  have p := PSx.new (w.alloc (.cells arZero 49))
  rw [s1] at p
  have hn : ∀ k, Own (w.heap.size + 1) (.slice none 0 0) (.slice none 0 0) (.slice none 0 0) (.slice none 0 0) k → k = w.heap.size + 1 := by
    intro k hk
    rcases hk with h | h | h | h | h
    · exact h
    all_goals simp [Value.ownBlock] at h
  have hb : Below w.heap.size w (((w.alloc (.cells arZero 49)).alloc (.cells newCells 77)).alloc (.cells arZero 49)) :=
    below_alloc (below_alloc (below_alloc (Below.refl _ _) _) _) _
  refine ⟨hb, Nat.le_refl _, by omega, by omega, b4, b7, Kd.R_nil _ _ _ _ _, ?_, fun k hk => by have := hn k hk; omega⟩
  refine PSx.move (s := ps0) p (fun k hk => ?_)
  rw [hn k hk]
  exact Below.heap_alloc _ _ _ (by simp)

theorem C_lit1 (W : World) (x : Int) : Kd.C (Kd.int .i64) (W.alloc (.cells #[.int .i64 x] 3)) (some ⟨W.heap.size, 0, none⟩) 1 [x] := by
  refine ⟨rfl, by decide, fun _ => ⟨_, rfl, fun j p hp => ?_⟩⟩
  have hj : j = 0 := by rcases j with _ | j; rfl; simp at hp
  subst hj
  obtain rfl : x = p := by simpa using hp
  refine ⟨[.int .i64 x], rfl, rfl, fun i u hu => ?_⟩
  have hi : i = 0 := by rcases i with _ | i; rfl; simp at hu
  subst hi
  obtain rfl : Value.int .i64 x = u := by simpa using hu
  show (W.alloc (.cells #[.int .i64 x] 3)).cell? (Addr.add ⟨W.heap.size, 0, none⟩ 0) = _
  have := (Blk.new W 3 #[.int .i64 x]).cell 0
  simpa [Addr.add] using this
theorem R_lit0i (W : World) (ok : Nat → Prop) (h : ok W.heap.size) : Kd.R (Kd.int .i64) 3 (W.alloc (.cells #[] 3)) W.heap.size ok (.slice (some ⟨W.heap.size, 0, none⟩) 0 0) [] :=
  ⟨fun k hk => by simp [Value.ownBlock] at hk; rw [← hk]; exact h, OwnRow.lit W W.heap.size (Reps.none _ _) (Nat.le_refl _) (by simp)⟩
theorem FI.below {w0 w w' : World} {g4 g7 gp : Nat} {s : PSt} {vb vt vg vl vth : Value} {b : Arc} (h : FI w0 w g4 g7 gp s vb vt vg vl b vth) (hb : Below w.heap.size w w') : FI w0 w' g4 g7 gp s vb vt vg vl b vth :=
  h.step ⟨hb.os, hb.tape, hb.output, hb.size, fun k hk _ => hb.block k hk⟩ (h.b7.below hb h.b7.lt) (Kd.R_below h.th hb)
theorem int_ne (q : Nat) (hq : q ∈ 3 :: (Kd.int .i64).E) : q ≠ 77 ∧ q ≠ 5 ∧ q ≠ 66 := by
  rcases List.mem_cons.1 hq with h | h
  · subst h; decide
  · cases h
theorem int_ne2 (q : Nat) (hq : q ∈ 3 :: (Kd.int .i64).E) : q ≠ 49 ∧ q ≠ 57 := by
  rcases List.mem_cons.1 hq with h | h
  · subst h; decide
  · cases h
theorem ev_ne2 (q : Nat) (hq : q ∈ 43 :: kEv.E) : q ≠ 49 ∧ q ≠ 57 := by
  rcases List.mem_cons.1 hq with h | h
  · subst h; decide
  · rw [kEv_Es] at h
    rcases List.mem_cons.1 h with h | h
    · subst h; decide
    · cases h
theorem evs_step {b b2 b' : Arc} {out : List Evt} {k : Nat} (h : Arc.evs (some b) (out.take k) = some b2) (h' : Arc.evs (some b) out = some b') (hk : k < out.length) :
    ∃ b3, b2.ev (out.getD k default) = some b3 ∧ Arc.evs (some b) (out.take (k + 1)) = some b3 := by
  have e1 : out.getD k default = out[k] := by rw [List.getD_eq_getElem?_getD, List.getElem?_eq_getElem hk]; rfl
  have e2 : out.take (k + 1) = out.take k ++ [out[k]] := List.take_succ_eq_append_getElem hk
  have e3 : Arc.evs (some b) (out.take (k + 1)) = b2.ev out[k] := by
    rw [e2, evs_append, h]
    rfl
  cases hb : b2.ev out[k] with
  | none =>
    exfalso
    have e4 : out = out.take (k + 1) ++ out.drop (k + 1) := (List.take_append_drop _ _).symm
    rw [e4, evs_append, e3, hb, evs_none] at h'
    cases h'
  | some b3 => exact ⟨b3, by rw [e1]; exact hb, by rw [e3]; exact hb⟩
theorem clamp_w (y : Int) (n p : Nat) (hp : p ≤ n) : ∃ (q : Nat) (mv : Int), p + q ≤ n ∧ ((n : Int) ≤ y → p + q = n) ∧ (if (n : Int) - (p : Int) < y then (n : Int) - (p : Int) else y) = mv ∧ (if 0 < mv then mv else 0) = (q : Int) := by
  by_cases h1 : (n : Int) - (p : Int) < y
  · refine ⟨n - p, (n : Int) - p, by omega, fun _ => by omega, if_pos h1, ?_⟩
    split <;> omega
  · refine ⟨y.toNat, y, by omega, fun h => by omega, if_neg h1, ?_⟩
    split <;> omega
theorem rd_last (l : List Int) (x : Int) (k : Nat) (hk : k = l.length) : rdOf (0 : Int) (l ++ [x]) (k : Int) = x := by
  unfold rdOf
  rw [Int.toNat_natCast, hk, List.getD_eq_getElem?_getD, List.getElem?_append_right (Nat.le_refl _)]
  simp
theorem OkS.clean {s : PSt} (h : OkS s) : ({ s with out := [] } : PSt) = s := by
  have := h.out
  obtain ⟨_, _, _, _, _, _, _, _, _, _, _, _, _, _, _, o⟩ := s
  cases this
  rfl
/-- What a Feed of the next piece does. -/
theorem piece_any {w0 w : World} {g4 g7 gp : Nat} {s : PSt} {b : Arc} {vb vt vg vl vth : Value} (he : EnvE w0) (hf : FI w0 w g4 g7 gp s vb vt vg vl b vth) (A : Option Addr) (c n : Nat) (xs : List Int) (hx : Kd.C (Kd.int .u8) w0 A n xs) (hn : xs.length = n) (hc : n ≤ c) (hb : ∀ x ∈ xs, 0 ≤ x ∧ x < 256) (hl : n ≤ 100000)
    (p q : Nat) (hpq : p + q ≤ n) (hj : foldB j0 (xs.take p) = (s, some b)) :
    ∃ (A' : Option Addr) (c' : Nat) (r : PSt) (b' : Arc), (∀ W : World, (Instr.slice 32 (.slice A n c) (some (.int .i64 (p : Int))) (some (.int .i64 ((p : Int) + (q : Int)))) none).run Tryz.prog W = .ok (.slice A' q c') W) ∧
      Calls Tryz.prog 17 #[.pointer (some ⟨gp, 0, none⟩), .slice A' q c'] w (Fed w (Own gp vb vt vg vl) gp r) ∧
      foldB j0 (xs.take (p + q)) = ({ r with out := [] }, some b') ∧ Arc.evs (some b) r.out = some b' := by
  obtain ⟨i0, hi, hz0, hz1, hz2⟩ := info_parts infoU8
  obtain ⟨s1, b1, f1, f2, f3, f4, f5, f6⟩ := fold0 (xs.take p) (fun x hx => hb x (List.mem_of_mem_take hx)) (by rw [List.length_take]; omega)
  rw [hj] at f1
  obtain ⟨rfl, rfl⟩ : s = s1 ∧ b = b1 := by
    have h1 := congrArg Prod.fst f1
    have h2 := congrArg Prod.snd f1
    exact ⟨h1, Option.some.inj h2⟩
  rw [List.length_take] at f5
  obtain ⟨A', h1, h2, h3⟩ := print_mid_int (P := Tryz.prog) (k := .u8) 32 5 Tryz.underlying32 hi hz1 A c xs (p : Int) ((p : Int) + (q : Int)) (by omega) (by omega) (by omega) (by omega)
  have e1 : ((p : Int) + (q : Int)).toNat = p + q := by omega
  have e2 : ((p : Nat) : Int).toNat = p := by omega
  rw [e1, e2] at h1 h2 h3
  have hlen : ((xs.take (p + q)).drop p).length = q := by rw [List.length_drop, List.length_take]; omega
  obtain ⟨ys, hys⟩ : ∃ ys, (xs.take (p + q)).drop p = ys := ⟨_, rfl⟩
  have hyb : ∀ x ∈ ys, 0 ≤ x ∧ x < 256 := fun x hx => hb x (by rw [← hys] at hx; exact List.mem_of_mem_take (List.mem_of_mem_drop hx))
  rw [hys] at h1 h2 h3 hlen
  have hsplit : xs.take (p + q) = xs.take p ++ ys := by
    have e := List.take_append_drop p (xs.take (p + q))
    rw [hys, List.take_take, Nat.min_eq_left (Nat.le_add_right p q)] at e
    exact e.symm
  obtain ⟨s2, b2, k1, k2, k3, k4, k5, k6⟩ := fold0 (xs.take (p + q)) (fun x hx => hb x (List.mem_of_mem_take hx)) (by rw [List.length_take]; omega)
  have hat : s.at_ + ys.length ≤ 1099511627776 := by omega
  have hj2 : foldB j0 (xs.take (p + q)) = ({ s.feed ys with out := [] }, Arc.evs (some b) (s.feed ys).out) := by
    rw [hsplit, foldB_append, hj]
    exact (feed_fold s ys (some b) f2 hyb hat).symm
  have he2 : Arc.evs (some b) (s.feed ys).out = some b2 := by
    rw [hj2] at k1
    exact congrArg Prod.snd k1
  refine ⟨A', c - p, s.feed ys, b2, fun W => ?_, ?_, by rw [hj2, he2], he2⟩
  · have := h1 W
    rw [hn, hlen] at this
    exact this
  · have hI : In w (Own gp vb vt vg vl) A' ys := fun W hW => Kd.C_of_reads (h1 := fun _ => rfl) (h2 W (Kd.reads_of_C (by rw [hn]; exact Kd.C_below hx (frm_below hf.bl hW hf.ow))))
    have := feed_next w (he.below hf.bl) gp s vb vt vg vl hf.ps (fun k hk => Nat.le_trans (ng_of_env he) (hf.ow k hk)) (by rw [f2.clean]; exact f2.wf) (by rw [f2.clean]; exact f2.wm) A' (c - p) ys hI h3 hyb (by omega) hat
    rw [hlen, f2.clean] at this
    exact this

theorem R_max {α : Type} {d : Kd α} {e base : Nat} {ok : Nat → Prop} {w : World} {v : Value} {xs : List α} (h : d.R e w base ok v xs) : xs.length ≤ 9223372036854775807 := by
  obtain ⟨inner, ho⟩ := Kd.R_own h
  rcases ho.2 with ⟨_, h0⟩ | ⟨g, cap, cur, _, _, _, h1, h2, _⟩
  · omega
  · unfold maxLen at h2; omega
theorem onLast_len (f : Thg → Thg) (l : List Thg) : (onLast f l).length = l.length := by
  unfold onLast
  cases h : l.getLast? with
  | none => rfl
  | some t =>
    have hne : l ≠ [] := by rintro rfl; simp at h
    have : 0 < l.length := List.length_pos_iff.2 hne
    simp
    omega
theorem ev_len {a b : Arc} {x : Evt} (h : a.ev x = some b) : b.things.length ≤ a.things.length + 1 := by
  unfold Arc.ev at h
  split at h
  · cases h
  · split at h
    · split at h
      · cases h
      · cases h; simp
    · split at h
      · cases h
      · cases h; show (onLast _ _).length ≤ _; rw [onLast_len]; omega
    · split at h
      · cases h
      · cases h; show (onLast _ _).length ≤ _; rw [onLast_len]; omega
    · cases h; show a.things.length ≤ _; omega
    · cases h; show a.things.length ≤ _; omega
theorem evs_len : ∀ (l : List Evt) (a b : Arc), Arc.evs (some a) l = some b → b.things.length ≤ a.things.length + l.length
  | [], a, b, h => by
    have : some a = some b := h
    cases this
    exact Nat.le_refl _
  | x :: l, a, b, h => by
    have h2 : Arc.evs (a.ev x) l = some b := h
    cases hc : a.ev x with
    | none => rw [hc, evs_none] at h2; cases h2
    | some c =>
      rw [hc] at h2
      have k1 := ev_len hc
      have k2 := evs_len l c b h2
      show _ ≤ _ + (l.length + 1)
      omega
theorem fold_none : ∀ (ys : List Int) (s : PSt), (foldB (s, none) ys).2 = none
  | [], s => rfl
  | y :: ys, s => by
    show (foldB (byte1 (s, none) y) ys).2 = none
    unfold byte1
    split
    · exact fold_none ys s
    · show (foldB ({ (s.round [y]).1 with out := [] }, Arc.evs none (s.round [y]).1.out) ys).2 = none
      rw [evs_none]
      exact fold_none ys _
theorem foldB_len : ∀ (xs : List Int) (s s' : PSt) (a b : Arc), OkS s → (∀ x ∈ xs, 0 ≤ x ∧ x < 256) → s.at_ + xs.length ≤ 1099511627776 → foldB (s, some a) xs = (s', some b) → b.things.length ≤ a.things.length + 2 * xs.length
  | [], s, s', a, b, hs, hb, ha, h => by
    have : ((s, some a) : J) = (s', some b) := h
    cases this
    exact Nat.le_refl _
  | x :: xs, s, s', a, b, hs, hb, ha, h => by
    have hal : s.at_ + ((xs.length + 1 : Nat) : Int) ≤ 1099511627776 := ha
    have h2 : foldB (byte1 (s, some a) x) xs = (s', some b) := h
    by_cases h4 : s.st = 4
    · have e : byte1 (s, some a) x = (s, some a) := if_pos h4
      rw [e] at h2
      have := foldB_len xs s s' a b hs (fun y hy => hb y (by simp [hy])) (by omega) h2
      show _ ≤ _ + 2 * (xs.length + 1)
      omega
    · have e : byte1 (s, some a) x = ({ (s.round [x]).1 with out := [] }, Arc.evs (some a) (s.round [x]).1.out) := if_neg h4
      rw [e] at h2
      have hx1 : ∀ y ∈ ([x] : List Int), 0 ≤ y ∧ y < 256 := fun y hy => by rw [List.mem_singleton.1 hy]; exact hb x (by simp)
      have ro := round_ok hs.wf hs.wm (xs := [x]) (by simp) h4 hx1 (by show s.at_ + ((1 : Nat) : Int) ≤ _; omega) (by rw [hs.out]; simp) (show s.round [x] = ((s.round [x]).1, (s.round [x]).2) from rfl)
      obtain ⟨o1, o2, o3, o4⟩ := hs.next h4 (xs := [x]) (by simp) hx1 (by show s.at_ + ((1 : Nat) : Int) ≤ _; omega)
      have hone : (s.round [x]).2 = 1 := by simp at o3; omega
      have hro := ro.out
      rw [hs.out] at hro
      cases hc : Arc.evs (some a) (s.round [x]).1.out with
      | none =>
        rw [hc] at h2
        have := fold_none xs { (s.round [x]).1 with out := [] }
        rw [h2] at this
        cases this
      | some c =>
        rw [hc] at h2
        have k1 := evs_len _ a c hc
        have k2 := foldB_len xs _ s' c b o1 (fun y hy => hb y (by simp [hy])) (by show (s.round [x]).1.at_ + _ ≤ _; rw [o4, hone]; omega) h2
        have hz : ([] : List Evt).length = 0 := rfl
        show _ ≤ _ + 2 * (xs.length + 1)
        omega
theorem ev_beg {b b3 : Arc} {e : En} {a : Int} (h : b.ev ⟨.beg e, a⟩ = some b3) : b.over = false ∧ b.opn = false ∧ b3 = { b with things := b.things ++ [⟨e, [], false, a⟩], opn := true } := by
  unfold Arc.ev at h
  split at h
  · cases h
  · rename_i h1
    simp only at h
    split at h
    · cases h
    · rename_i h2
      cases h
      exact ⟨by simpa using h1, by simpa using h2, rfl⟩
theorem ev_dat {b b3 : Arc} {d : List Int} {a : Int} (ho : Opn b) (h : b.ev ⟨.dat d, a⟩ = some b3) : b.over = false ∧ b.opn = true ∧ d ≠ [] ∧ ∃ l t, b.things = l ++ [t] ∧ b3 = { b with things := l ++ [{ t with data := t.data ++ d, at_ := a }] } := by
  unfold Arc.ev at h
  split at h
  · cases h
  · rename_i h1
    simp only at h
    split at h
    · cases h
    · rename_i h2
      have h3 : b.opn = true := by
        cases q : b.opn with
        | true => rfl
        | false => exact absurd (.inl q) h2
      obtain ⟨l, t, hl, _⟩ := ho.opn h3
      cases h
      refine ⟨by simpa using h1, h3, fun e => h2 (.inr e), l, t, hl, ?_⟩
      rw [hl, onLast_add]
theorem ev_fin {b b3 : Arc} {a : Int} (ho : Opn b) (h : b.ev ⟨.fin, a⟩ = some b3) : b.over = false ∧ b.opn = true ∧ ∃ l t, b.things = l ++ [t] ∧ b3 = { b with opn := false, things := l ++ [{ t with whole := true, at_ := a }] } := by
  unfold Arc.ev at h
  split at h
  · cases h
  · rename_i h1
    simp only at h
    split at h
    · cases h
    · rename_i h2
      have h3 : b.opn = true := by
        cases q : b.opn with
        | true => rfl
        | false => exact absurd q h2
      obtain ⟨l, t, hl, _⟩ := ho.opn h3
      cases h
      refine ⟨by simpa using h1, h3, l, t, hl, ?_⟩
      rw [hl, onLast_add]
theorem ev_don {b b3 : Arc} {a : Int} (h : b.ev ⟨.don, a⟩ = some b3) : b.over = false ∧ b3 = { b with done := true, over := true } := by
  unfold Arc.ev at h
  split at h
  · cases h
  · rename_i h1
    cases h
    exact ⟨by simpa using h1, rfl⟩
theorem ev_bad {b b3 : Arc} {c p a : Int} (h : b.ev ⟨.bad c p, a⟩ = some b3) : b.over = false ∧ b3 = { b with code := c, place := p, over := true } := by
  unfold Arc.ev at h
  split at h
  · cases h
  · rename_i h1
    cases h
    exact ⟨by simpa using h1, rfl⟩
theorem mid_ext {b b2 b' : Arc} {out : List Evt} {k : Nat} (ho : Opn b) (h : Arc.evs (some b) (out.take k) = some b2) (h' : Arc.evs (some b) out = some b') : Opn b2 ∧ b2.things.length ≤ b'.things.length := by
  have o2 := (evs_ext _ b b2 ho h).2
  refine ⟨o2, ?_⟩
  have e4 : out = out.take k ++ out.drop k := (List.take_append_drop _ _).symm
  rw [e4, evs_append, h] at h'
  exact (evs_ext _ b2 b' o2 h').1.len
/-- Event number i, its cells by value. -/
theorem ev_facts {w : World} {base : Nat} {ok : Nat → Prop} {g n cap : Nat} {out : List Evt} (h : Kd.R kEv 43 w base ok (.slice (some ⟨g, 0, none⟩) n cap) out) (i : Nat) (hi : i < n) (k : EvK) (a : Int) (hx : out.getD i default = ⟨k, a⟩)
    (kn : Int) (en : En) (ve : Value) (d : List Int) (hkn : k.num = kn) (hen : k.en = en) (hve : errV k.err = ve) (hd : k.data = d) :
    ∃ Ad cd, w.cell? ⟨g, i * 14, none⟩ = some (.int .i64 kn) ∧ w.cell? ⟨g, i * 14 + 1, none⟩ = some (.string en.path) ∧ w.cell? ⟨g, i * 14 + 2, none⟩ = some (.string en.link) ∧ w.cell? ⟨g, i * 14 + 3, none⟩ = some (.int .i64 en.kd) ∧ w.cell? ⟨g, i * 14 + 4, none⟩ = some (.int .i64 en.md) ∧
      w.cell? ⟨g, i * 14 + 5, none⟩ = some (.int .i64 en.uid) ∧ w.cell? ⟨g, i * 14 + 6, none⟩ = some (.int .i64 en.gid) ∧ w.cell? ⟨g, i * 14 + 7, none⟩ = some (.int .i64 en.mt) ∧ w.cell? ⟨g, i * 14 + 8, none⟩ = some (.int .i64 en.sz) ∧ w.cell? ⟨g, i * 14 + 9, none⟩ = some (.string en.user) ∧
      w.cell? ⟨g, i * 14 + 10, none⟩ = some (.string en.group) ∧ w.cell? ⟨g, i * 14 + 11, none⟩ = some (.slice Ad d.length cd) ∧ w.cell? ⟨g, i * 14 + 12, none⟩ = some ve ∧ w.cell? ⟨g, i * 14 + 13, none⟩ = some (.int .i64 a) ∧
      Kd.R (Kd.int .u8) 5 w base (fun k => ok k ∧ k ≠ g) (.slice Ad d.length cd) d := by
  subst hkn hen hve hd
  obtain ⟨vd, qc, hR⟩ := ev_at h i hi _ hx
  obtain ⟨Ad, cd, hv⟩ := Kd.R_slice hR
  have hv' : vd = .slice Ad k.data.length cd := hv
  subst hv'
  exact ⟨Ad, cd, qc 0 _ rfl, qc 1 _ rfl, qc 2 _ rfl, qc 3 _ rfl, qc 4 _ rfl, qc 5 _ rfl, qc 6 _ rfl, qc 7 _ rfl, qc 8 _ rfl, qc 9 _ rfl, qc 10 _ rfl, qc 11 _ rfl, qc 12 _ rfl, qc 13 _ rfl, hR⟩
abbrev evArr (kn : Int) (en : En) (vd ve : Value) (a : Int) : Array Value := #[.int .i64 kn, .string en.path, .string en.link, .int .i64 en.kd, .int .i64 en.md, .int .i64 en.uid, .int .i64 en.gid, .int .i64 en.mt, .int .i64 en.sz, .string en.user, .string en.group, vd, ve, .int .i64 a]
end Go.Proofs.YtpbpfngichfgeaaGreatDoor

namespace Go.Proofs.YtpbpfngichfgeaaGreatDoor
set_option linter.unusedVariables false
set_option linter.unusedSectionVars false
set_option linter.unusedSimpArgs false
set_option linter.unnecessarySimpa false
open Go Go.RowKit Go.Proofs.YtpbpfngichfgeaaGreatDoorW.PrintWords Go.Proofs.YtpbpfngichfgeaaGreatDoorW.PrintLast Go.Proofs.YtpbpfngichfgeaaGreatDoorW.PrintMore

section
variable {w0 w w' : World} {g4 g7 gp : Nat} {s : PSt} {vb vt vg vl vth : Value} {b : Arc}
theorem FI.add (h : FI w0 w g4 g7 gp s vb vt vg vl b vth) {w6 : World} {v6 : Value} {t : Thg} (ho : Kd.R kThg 57 w6 w0.heap.size (fun _ => True) v6 (b.things ++ [t])) (hg : w.grownBy w6 vth.ownBlock) (o : Bool) :
    FI w0 (w6.setCell ⟨g7, 0, none⟩ v6) g4 g7 gp s vb vt vg vl { b with things := b.things ++ [t], opn := o } v6 ∧ Frm (FW g7 vth) w (w6.setCell ⟨g7, 0, none⟩ v6) := by
  have b7 : Blk w6 g7 49 (arCells vth b) := h.b7.grown hg (Kd.R_ne h.th h.b7 (by decide))
  have hF : Frm (FW g7 vth) w (w6.setCell ⟨g7, 0, none⟩ v6) := ((Frm.refl _ w).grown hg (fun k hk _ => .inr hk.symm)).set (p := ⟨g7, 0, none⟩) (fun _ => .inl rfl) v6
  exact ⟨h.step hF (b7.set_ 0 v6) (Kd.R_set ho b7 (by rw [kThg_E]; decide) 0 v6), hF⟩
theorem FI.set (h : FI w0 w g4 g7 gp s vb vt vg vl b vth) (j : Nat) (u : Value) (b' : Arc) (hc : (arCells vth b).setIfInBounds j u = arCells vth b') (ht : b'.things = b.things) :
    FI w0 (w.setCell ⟨g7, j, none⟩ u) g4 g7 gp s vb vt vg vl b' vth ∧ Frm (FW g7 vth) w (w.setCell ⟨g7, j, none⟩ u) := by
  have hF : Frm (FW g7 vth) w (w.setCell ⟨g7, j, none⟩ u) := (Frm.refl _ w).set (p := ⟨g7, j, none⟩) (fun _ => .inl rfl) u
  refine ⟨h.step hF (by rw [← hc]; exact h.b7.set_ j u) ?_, hF⟩
  rw [ht]
  exact Kd.R_set h.th h.b7 (by rw [kThg_E]; decide) j u
theorem setCells_one (W : World) (g o : Nat) (v : Value) : W.setCells g o [v] = W.setCell ⟨g, o, none⟩ v := rfl
/-- A cell of the last thing is written. -/
theorem th_put {base : Nat} {Gt n cap : Nat} {l : List Thg} {t t' : Thg} (h : Kd.R kThg 57 w base (fun _ => True) (.slice (some ⟨Gt, 0, none⟩) n cap) (l ++ [t])) (j : Nat) (u : Value) (hj : j < 13)
    (hc : (thCells t.en (strOfNums t.data) t.whole t.at_).set j u = thCells t'.en (strOfNums t'.data) t'.whole t'.at_) :
    Kd.R kThg 57 (w.setCell ⟨Gt, l.length * 13 + j, none⟩ u) base (fun _ => True) (.slice (some ⟨Gt, 0, none⟩) n cap) (l ++ [t']) := by
  have hn : n = l.length + 1 := by
    have := (Kd.R_reads' h).1
    rw [List.length_append] at this
    exact this
  obtain ⟨c, hcl, hM, hcc, _⟩ := Kd.R_elem h t (l.length : Int) (by omega) (by omega)
  have eg : (l ++ [t]).getD (l.length : Int).toNat t = t := by
    rw [Int.toNat_natCast, List.getD_eq_getElem?_getD, List.getElem?_append_right (Nat.le_refl _)]
    simp
  rw [eg] at hM
  have hct := kThg_of_M hM
  have hsz : kThg.sz = 13 := rfl
  have q := (Kd.R_seg h (l.length : Int) (by omega) (by omega) (c := c) (seg := [u]) (j := j) (okp := fun k => True ∧ k ≠ Gt) hcl hcc (by rw [hsz]; show j + 1 ≤ 13; omega) (x' := t') (by
    have e : c.take j ++ [u] ++ c.drop (j + [u].length) = thCells t'.en (strOfNums t'.data) t'.whole t'.at_ := by
      rw [← hc, hct]
      show _ ++ [u] ++ List.drop (j + 1) _ = _
      rw [List.append_assoc, List.singleton_append, List.set_eq_take_append_cons_drop, if_pos (by show j < 13; exact hj)]
    rw [e]
    exact kThg_M _ rfl) (fun k hk => ⟨trivial, hk.2⟩)).1
  rw [setCells_one] at q
  have e1 : (l ++ [t]).set (l.length : Int).toNat t' = l ++ [t'] := by
    rw [Int.toNat_natCast, List.set_append_right _ _ (Nat.le_refl _)]
    simp
  rw [e1] at q
  simp only [Int.toNat_natCast, hsz] at q
  exact q
theorem FI.put2 (h : FI w0 w g4 g7 gp s vb vt vg vl b vth) {Gt n cap : Nat} (hv : vth = .slice (some ⟨Gt, 0, none⟩) n cap) {l : List Thg} {t t1 t2 : Thg} (hl : b.things = l ++ [t]) (j1 j2 : Nat) (u1 u2 : Value) (h1 : j1 < 13) (h2 : j2 < 13)
    (hc1 : (thCells t.en (strOfNums t.data) t.whole t.at_).set j1 u1 = thCells t1.en (strOfNums t1.data) t1.whole t1.at_) (hc2 : (thCells t1.en (strOfNums t1.data) t1.whole t1.at_).set j2 u2 = thCells t2.en (strOfNums t2.data) t2.whole t2.at_) (o : Bool) :
    FI w0 ((w.setCell ⟨Gt, l.length * 13 + j1, none⟩ u1).setCell ⟨Gt, l.length * 13 + j2, none⟩ u2) g4 g7 gp s vb vt vg vl { b with things := l ++ [t2], opn := o } vth ∧
      Frm (FW g7 vth) w ((w.setCell ⟨Gt, l.length * 13 + j1, none⟩ u1).setCell ⟨Gt, l.length * 13 + j2, none⟩ u2) := by
  subst hv
  have hne : g7 ≠ Gt := fun e => Kd.R_ne h.th h.b7 (by decide) (by rw [e]; simp [Value.ownBlock])
  have hF : Frm (FW g7 (.slice (some ⟨Gt, 0, none⟩) n cap)) w ((w.setCell ⟨Gt, l.length * 13 + j1, none⟩ u1).setCell ⟨Gt, l.length * 13 + j2, none⟩ u2) :=
    ((Frm.refl _ w).set (p := ⟨Gt, l.length * 13 + j1, none⟩) (fun _ => .inr (by simp [Value.ownBlock])) u1).set (p := ⟨Gt, l.length * 13 + j2, none⟩) (fun _ => .inr (by simp [Value.ownBlock])) u2
  have ht := h.th
  rw [hl] at ht
  have b7 : Blk ((w.setCell ⟨Gt, l.length * 13 + j1, none⟩ u1).setCell ⟨Gt, l.length * 13 + j2, none⟩ u2) g7 49 (arCells (.slice (some ⟨Gt, 0, none⟩) n cap) { b with things := l ++ [t2], opn := o }) :=
    (h.b7.far (p := ⟨Gt, l.length * 13 + j1, none⟩) hne u1).far (p := ⟨Gt, l.length * 13 + j2, none⟩) hne u2
  exact ⟨h.step hF b7 (th_put (th_put ht j1 u1 h1 hc1) j2 u2 h2 hc2), hF⟩
end
theorem FI.clean {w0 w : World} {g4 g7 gp : Nat} {s : PSt} {vb vt vg vl vth : Value} {b : Arc} (h : FI w0 w g4 g7 gp s vb vt vg vl b vth) : FI w0 w g4 g7 gp { s with out := [] } vb vt vg vl b vth := ⟨h.bl, h.n4, h.n7, h.ne, h.b4, h.b7, h.th, h.ps, h.ow⟩
def FedEnd (w : World) (xs : List Int) (e : Ending) (w' : World) : Prop :=
  ∃ v, e = .returned (.tuple #[.agg #[v, .bool (arcOf xs).done, .int .i64 (arcOf xs).code, .int .i64 (arcOf xs).place], .bool true]) ∧ Kd.R kThg 57 w' w.heap.size (fun _ => True) v (arcOf xs).things ∧ Below w.heap.size w w'
theorem fed_rets {w wz : World} {g7 gp : Nat} {s : PSt} {vb vt vg vl vth : Value} {b : Arc} {tmps : Array Value} {xs : List Int} (h : FI w wz w.heap.size g7 gp s vb vt vg vl b vth) (hp : tmps.getD 4 undef = .pointer (some ⟨w.heap.size, 0, none⟩)) (hu : tmps.getD 5 undef = .bool true) (hb : arcOf xs = b) :
    bodyPost Tryz.prog Tryz.f20 (FedEnd w xs) .ret { tmps := tmps, defers := [] } ((((wz.setCell ⟨w.heap.size, 0, none⟩ vth).setCell ⟨w.heap.size, 1, none⟩ (.bool b.done)).setCell ⟨w.heap.size, 2, none⟩ (.int .i64 b.code)).setCell ⟨w.heap.size, 3, none⟩ (.int .i64 b.place)) := by
  have b4 := (((h.b4.set_ 0 vth).set_ 1 (.bool b.done)).set_ 2 (.int .i64 b.code)).set_ 3 (.int .i64 b.place)
  have b4' : Blk ((((wz.setCell ⟨w.heap.size, 0, none⟩ vth).setCell ⟨w.heap.size, 1, none⟩ (.bool b.done)).setCell ⟨w.heap.size, 2, none⟩ (.int .i64 b.code)).setCell ⟨w.heap.size, 3, none⟩ (.int .i64 b.place)) w.heap.size 49 #[vth, .bool b.done, .int .i64 b.code, .int .i64 b.place] := by simpa using b4
  refine bodyPost_ret (v := .tuple #[.agg #[vth, .bool b.done, .int .i64 b.code, .int .i64 b.place], .bool true]) (by rw [← hu]; exact results_ct rfl _ _ w.heap.size 49 #[vth, .bool b.done, .int .i64 b.code, .int .i64 b.place] (0, 0) _ hp b4' Tryz.underlying49 rfl (by kernel_rfl)) rfl ?_
  refine ⟨vth, by rw [hb], ?_, ?_⟩
  · rw [hb]
    have k : ∀ (W : World) (j : Nat) (u : Value) (cs : Array Value), Blk W w.heap.size 49 cs → Kd.R kThg 57 W w.heap.size (fun _ => True) vth b.things → Kd.R kThg 57 (W.setCell ⟨w.heap.size, j, none⟩ u) w.heap.size (fun _ => True) vth b.things :=
      fun W j u cs hb hr => Kd.R_set hr hb (by rw [kThg_E]; decide) j u
    exact k _ 3 _ _ (((h.b4.set_ 0 vth).set_ 1 (.bool b.done)).set_ 2 (.int .i64 b.code)) (k _ 2 _ _ ((h.b4.set_ 0 vth).set_ 1 (.bool b.done)) (k _ 1 _ _ (h.b4.set_ 0 vth) (k _ 0 _ _ h.b4 h.th)))
  · have k : ∀ (W : World) (j : Nat) (u : Value), Below w.heap.size w W → Below w.heap.size w (W.setCell ⟨w.heap.size, j, none⟩ u) := fun W j u hb => hb.setCell (p := ⟨w.heap.size, j, none⟩) (Nat.le_refl _) u
    exact k _ _ _ (k _ _ _ (k _ _ _ (k _ _ _ h.bl)))
theorem fed_rets2 {w wz : World} {g7 gp : Nat} {s : PSt} {vb vt vg vl vth : Value} {b : Arc} {tmps : Array Value} {xs : List Int} (dn : Bool) (cd pl : Int) (h : FI w wz w.heap.size g7 gp s vb vt vg vl b vth) (hp : tmps.getD 4 undef = .pointer (some ⟨w.heap.size, 0, none⟩)) (hu : tmps.getD 5 undef = .bool true) (hb : arcOf xs = b) (h1 : b.done = dn) (h2 : b.code = cd) (h3 : b.place = pl) :
    bodyPost Tryz.prog Tryz.f20 (FedEnd w xs) .ret { tmps := tmps, defers := [] } ((((wz.setCell ⟨w.heap.size, 0, none⟩ vth).setCell ⟨w.heap.size, 1, none⟩ (.bool dn)).setCell ⟨w.heap.size, 2, none⟩ (.int .i64 cd)).setCell ⟨w.heap.size, 3, none⟩ (.int .i64 pl)) := by
  subst h1 h2 h3
  exact fed_rets h hp hu hb
theorem strOfNums_size (l : List Int) : (strOfNums l).size = l.length := by
  unfold strOfNums
  show Array.size _ = _
  simp
/-- How many bytes events, things have. -/
def dlen : List Evt → Nat
  | [] => 0
  | x :: l => x.k.data.length + dlen l
theorem dlen_append : ∀ l m : List Evt, dlen (l ++ m) = dlen l + dlen m
  | [], m => by show dlen m = 0 + dlen m; omega
  | x :: l, m => by
    show x.k.data.length + dlen (l ++ m) = x.k.data.length + dlen l + dlen m
    rw [dlen_append l m]
    omega
def dsum : List Thg → Nat
  | [] => 0
  | t :: l => t.data.length + dsum l
theorem dsum_append : ∀ l m : List Thg, dsum (l ++ m) = dsum l + dsum m
  | [], m => by show dsum m = 0 + dsum m; omega
  | x :: l, m => by
    show x.data.length + dsum (l ++ m) = x.data.length + dsum l + dsum m
    rw [dsum_append l m]
    omega
theorem ev_dsum {a b : Arc} {x : Evt} (ho : Opn a) (h : a.ev x = some b) : dsum b.things = dsum a.things + x.k.data.length := by
  obtain ⟨k, p⟩ := x
  cases k with
  | beg e =>
    obtain ⟨_, _, rfl⟩ := ev_beg h
    show dsum (a.things ++ [_]) = _
    rw [dsum_append]
    rfl
  | dat d =>
    obtain ⟨_, _, _, l, t, hl, rfl⟩ := ev_dat ho h
    show dsum (l ++ [_]) = _
    rw [hl, dsum_append, dsum_append]
    show dsum l + ((t.data ++ d).length + 0) = dsum l + (t.data.length + 0) + d.length
    rw [List.length_append]
    omega
  | fin =>
    obtain ⟨_, _, l, t, hl, rfl⟩ := ev_fin ho h
    show dsum (l ++ [_]) = _
    rw [hl, dsum_append, dsum_append]
    rfl
  | don => obtain ⟨_, rfl⟩ := ev_don h; rfl
  | bad c p => obtain ⟨_, rfl⟩ := ev_bad h; rfl
theorem evs_dsum : ∀ (l : List Evt) (a b : Arc), Opn a → Arc.evs (some a) l = some b → dsum b.things = dsum a.things + dlen l
  | [], a, b, ho, h => by
    have : some a = some b := h
    cases this
    rfl
  | x :: l, a, b, ho, h => by
    have h2 : Arc.evs (a.ev x) l = some b := h
    cases hc : a.ev x with
    | none => rw [hc, evs_none] at h2; cases h2
    | some c =>
      rw [hc] at h2
      have k1 := ev_dsum ho hc
      have k2 := evs_dsum l c b (ev_ext a c x ho hc).2 h2
      show _ = _ + (x.k.data.length + dlen l)
      omega
theorem dl_say (s : PSt) (k : EvK) : dlen (s.say k).out = dlen s.out + k.data.length := by
  show dlen (s.out ++ [_]) = _
  rw [dlen_append]
  rfl
theorem dl_bad (s : PSt) (c : Int) : dlen (s.bad c).out = dlen s.out := dl_say _ _
theorem dl_told (s : PSt) : dlen s.told.out = dlen s.out := by
  unfold PSt.told
  split
  · rfl
  · split
    · rfl
    · split
      · exact dl_bad _ _
      · split
        · split
          · exact dl_bad _ _
          · rfl
        · split
          · exact dl_bad _ _
          · rfl
theorem dl_thing (s : PSt) (h : Hd) : dlen (s.thing h).out = dlen s.out := by
  unfold PSt.thing
  simp only
  split
  · exact dl_bad _ _
  · split
    · refine (dl_say _ _).trans ?_
      exact dl_say _ _
    · exact dl_say _ _
theorem dl_head (s : PSt) : dlen s.head.out = dlen s.out := by
  unfold PSt.head
  simp only
  split
  · split
    · exact dl_say _ _
    · rfl
  · split
    · exact dl_bad _ _
    · split
      · exact dl_bad _ _
      · split
        · exact dl_bad _ _
        · split
          · exact dl_thing _ _
          · split
            · exact dl_bad _ _
            · split
              · exact dl_bad _ _
              · split
                · exact dl_told _
                · rfl
theorem dl_round (s : PSt) (xs : List Int) : dlen (s.round xs).1.out ≤ dlen s.out + xs.length := by
  have h1 : ∀ a b : Nat, a = b → a ≤ b + xs.length := fun a b h => by omega
  unfold PSt.round
  split
  · simp only
    split
    · exact h1 _ _ (dl_head _)
    · exact h1 _ _ rfl
  · split
    · simp only
      split
      · exact h1 _ _ (dl_told _)
      · exact h1 _ _ rfl
    · split
      · have h2 : ∀ (s : PSt) (m : Nat), dlen (s.say (.dat (xs.take m))).out ≤ dlen s.out + xs.length := fun s m => by
          rw [dl_say]
          show _ + (xs.take m).length ≤ _
          rw [List.length_take]
          omega
        simp only
        split
        · refine Nat.le_trans (Nat.le_of_eq (dl_say _ _)) ?_
          exact h2 _ _
        · exact h2 _ _
      · simp only
        split
        · exact h1 _ _ rfl
        · exact h1 _ _ rfl
theorem foldB_dsum : ∀ (xs : List Int) (s s' : PSt) (a b : Arc), Opn a → s.out = [] → foldB (s, some a) xs = (s', some b) → dsum b.things ≤ dsum a.things + xs.length
  | [], s, s', a, b, ho, hs, h => by
    have : ((s, some a) : J) = (s', some b) := h
    cases this
    exact Nat.le_refl _
  | x :: xs, s, s', a, b, ho, hs, h => by
    have h2 : foldB (byte1 (s, some a) x) xs = (s', some b) := h
    by_cases h4 : s.st = 4
    · have e : byte1 (s, some a) x = (s, some a) := if_pos h4
      rw [e] at h2
      have := foldB_dsum xs s s' a b ho hs h2
      show _ ≤ _ + (xs.length + 1)
      omega
    · have e : byte1 (s, some a) x = ({ (s.round [x]).1 with out := [] }, Arc.evs (some a) (s.round [x]).1.out) := if_neg h4
      rw [e] at h2
      have hd := dl_round s [x]
      rw [hs] at hd
      cases hc : Arc.evs (some a) (s.round [x]).1.out with
      | none =>
        rw [hc] at h2
        have := fold_none xs { (s.round [x]).1 with out := [] }
        rw [h2] at this
        cases this
      | some c =>
        rw [hc] at h2
        have k1 := evs_dsum _ a c ho hc
        have k2 := foldB_dsum xs _ s' c b (evs_ext _ a c ho hc).2 rfl h2
        have hz : dlen [] = 0 := rfl
        have hz1 : ([x] : List Int).length = 1 := rfl
        show _ ≤ _ + (xs.length + 1)
        omega
/-- The bytes of the last thing, and those that come, are so many at most. -/
theorem mid_dsum {b b2 b3 b' : Arc} {out : List Evt} {k : Nat} {d : List Int} {l : List Thg} {t : Thg} {n : Nat} (ho : Opn b) (h : Arc.evs (some b) (out.take k) = some b2) (h3 : Arc.evs (some b) (out.take (k + 1)) = some b3) (h' : Arc.evs (some b) out = some b') (hb : dsum b'.things ≤ n)
    (hl : b3.things = l ++ [t]) : t.data.length ≤ n := by
  have o3 := (evs_ext _ b b3 ho h3).2
  have e4 : out = out.take (k + 1) ++ out.drop (k + 1) := (List.take_append_drop _ _).symm
  rw [e4, evs_append, h3] at h'
  have q := evs_dsum _ b3 b' o3 h'
  rw [hl, dsum_append] at q
  have : dsum [t] = t.data.length := rfl
  omega
theorem strOfNums_add (l m : List Int) : strOfNums (l ++ m) = strOfNums l ++ strOfNums m := by
  unfold strOfNums
  apply ByteArray.ext
  simp [ByteArray.data_append]
end Go.Proofs.YtpbpfngichfgeaaGreatDoor
