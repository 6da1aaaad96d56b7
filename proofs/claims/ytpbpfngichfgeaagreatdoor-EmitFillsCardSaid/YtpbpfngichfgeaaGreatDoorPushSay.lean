/-
  Several texts in one: YtpbpfngichfgeaaGreatDoorPushS, YtpbpfngichfgeaaGreatDoorPushA, YtpbpfngichfgeaaGreatDoorPushB.
-/
import Derived.Test.YtpbpfngichfgeaaGreatDoorPushV
import Derived.Test.YtpbpfngichfgeaaGreatDoorWords
import Derived.Deep.RegionHeld3
import Derived.Deep.RegionLaw
import Derived.Outline
namespace Go.Proofs.YtpbpfngichfgeaaGreatDoor
set_option linter.unusedVariables false
set_option linter.unusedSimpArgs false
open Go Go.RowKit Go.Proofs.YtpbpfngichfgeaaGreatDoorW.PrintWords Go.Proofs.YtpbpfngichfgeaaGreatDoorW.PrintLast Go.Proofs.YtpbpfngichfgeaaGreatDoorW.PrintMore

abbrev errV (e : Option (Int × Int)) : Value := match e with
  | none => .nilIface
  | some (c, p) => .iface 105 (.agg #[.int .i64 p, .iface 27 (.int .i64 c)])
abbrev kErr : Kd (Option (Int × Int)) := Kd.scalar errV (fun x => by cases x <;> rfl)
abbrev kRec : Kd Rec := Kd.pair Kd.string Kd.string
abbrev kEn : Kd (ByteArray × ByteArray × Int × Int × Int × Int × Int × Int × ByteArray × ByteArray) :=
  Kd.pair Kd.string (Kd.pair Kd.string (Kd.pair (Kd.int .i64) (Kd.pair (Kd.int .i64) (Kd.pair (Kd.int .i64) (Kd.pair (Kd.int .i64) (Kd.pair (Kd.int .i64) (Kd.pair (Kd.int .i64) (Kd.pair Kd.string Kd.string))))))))
def En.tup (e : En) : ByteArray × ByteArray × Int × Int × Int × Int × Int × Int × ByteArray × ByteArray := (e.path, e.link, e.kd, e.md, e.uid, e.gid, e.mt, e.sz, e.user, e.group)
def EvK.num : EvK → Int
  | .beg _ => 1
  | .dat _ => 2
  | .fin => 3
  | .don => 4
  | .bad _ _ => 5
def EvK.en : EvK → En
  | .beg e => e
  | _ => en0
def EvK.data : EvK → List Int
  | .dat b => b
  | _ => []
def EvK.err : EvK → Option (Int × Int)
  | .bad c p => some (c, p)
  | _ => none
def Evt.tup (x : Evt) : Int × (ByteArray × ByteArray × Int × Int × Int × Int × Int × Int × ByteArray × ByteArray) × List Int × Option (Int × Int) × Int := (x.k.num, x.k.en.tup, x.k.data, x.k.err, x.at_)
abbrev kEvT : Kd (Int × (ByteArray × ByteArray × Int × Int × Int × Int × Int × Int × ByteArray × ByteArray) × List Int × Option (Int × Int) × Int) :=
  Kd.pair (Kd.int .i64) (Kd.pair kEn (Kd.pair (Kd.slice 5 (Kd.int .u8)) (Kd.pair kErr (Kd.int .i64))))
def kEv : Kd Evt := Kd.iso kEvT Evt.tup
/-- An event's cells. -/
abbrev evCells (k : EvK) (vd : Value) (a : Int) : List Value := [.int .i64 k.num, .string k.en.path, .string k.en.link, .int .i64 k.en.kd, .int .i64 k.en.md, .int .i64 k.en.uid, .int .i64 k.en.gid, .int .i64 k.en.mt, .int .i64 k.en.sz, .string k.en.user, .string k.en.group, vd, errV k.err, .int .i64 a]
theorem kEv_M {w : World} {base : Nat} {ok : Nat → Prop} {k : EvK} {vd : Value} {a : Int} (h : Kd.R (Kd.int .u8) 5 w base ok vd k.data) : kEv.M w base ok ⟨k, a⟩ (evCells k vd a) :=
  ⟨[_], _, rfl, rfl, [_, _, _, _, _, _, _, _, _, _], _, rfl,
    ⟨[_], _, rfl, rfl, [_], _, rfl, rfl, [_], _, rfl, rfl, [_], _, rfl, rfl, [_], _, rfl, rfl, [_], _, rfl, rfl, [_], _, rfl, rfl, [_], _, rfl, rfl, [_], [_], rfl, rfl, rfl⟩,
    [vd], _, rfl, ⟨vd, rfl, h⟩, [_], [_], rfl, rfl, rfl⟩

/-- What a call may change: blocks of F0 and new ones. -/
structure Frm (F0 : Nat → Prop) (w w' : World) : Prop where
  os : w'.os = w.os
  tape : w'.tape = w.tape
  output : w'.output = w.output
  size : w.heap.size ≤ w'.heap.size
  block : ∀ k, k < w.heap.size → ¬ F0 k → w'.heap[k]? = w.heap[k]?
theorem Frm.refl (F0 : Nat → Prop) (w : World) : Frm F0 w w := ⟨rfl, rfl, rfl, Nat.le_refl _, fun _ _ _ => rfl⟩
section
variable {F0 : Nat → Prop} {w0 w w' : World}
theorem Frm.below (h : Frm F0 w0 w) (hb : Below w.heap.size w w') : Frm F0 w0 w' :=
  ⟨hb.os.trans h.os, hb.tape.trans h.tape, hb.output.trans h.output, Nat.le_trans h.size hb.size, fun k hk hn => (hb.block k (Nat.lt_of_lt_of_le hk h.size)).trans (h.block k hk hn)⟩
theorem Frm.set (h : Frm F0 w0 w) {p : Addr} (hp : p.block < w0.heap.size → F0 p.block) (u : Value) : Frm F0 w0 (w.setCell p u) :=
  ⟨h.os, h.tape, h.output, by simpa [World.setCell] using h.size, fun k hk hn => (Below.heap_setCell w p u k (fun e => hn (by rw [e]; exact hp (by omega)))).trans (h.block k hk hn)⟩
theorem Frm.grown (h : Frm F0 w0 w) {row : Option Nat} (hg : w.grownBy w' row) (hr : ∀ k, row = some k → k < w0.heap.size → F0 k) : Frm F0 w0 w' :=
  ⟨hg.os.trans h.os, hg.tape.trans h.tape, hg.output.trans h.output, Nat.le_trans h.size hg.size, fun k hk hn => (hg.block k (Nat.lt_of_lt_of_le hk h.size) (fun e => hn (hr k e.symm hk))).trans (h.block k hk hn)⟩
end
/-- The rows of the parser. B: the heap's size when Feed began (rows of events are newer). -/
structure RW (B : Nat) (F0 : Nat → Prop) (w : World) (vb vt vg vl vo : Value) (b t : List Int) (gl lo : List Rec) (ev : List Evt) : Prop where
  b : Kd.R (Kd.int .u8) 5 w 0 (fun k => k < B → F0 k) vb b
  t : Kd.R (Kd.int .u8) 5 w 0 (fun k => (k < B → F0 k) ∧ some k ≠ vb.ownBlock) vt t
  g : Kd.R kRec 66 w 0 (fun k => k < B → F0 k) vg gl
  l : Kd.R kRec 66 w 0 (fun k => (k < B → F0 k) ∧ some k ≠ vg.ownBlock) vl lo
  o : Kd.R kEv 43 w B (fun k => some k ≠ vt.ownBlock ∧ some k ≠ vb.ownBlock) vo ev
section
variable {B : Nat} {F0 : Nat → Prop} {w w' : World} {vb vt vg vl vo : Value} {b t : List Int} {gl lo : List Rec} {ev : List Evt}
theorem RW.below (h : RW B F0 w vb vt vg vl vo b t gl lo ev) (hb : Below w.heap.size w w') : RW B F0 w' vb vt vg vl vo b t gl lo ev :=
  ⟨Kd.R_below h.b hb, Kd.R_below h.t hb, Kd.R_below h.g hb, Kd.R_below h.l hb, Kd.R_below h.o hb⟩
theorem RW.set (h : RW B F0 w vb vt vg vl vo b t gl lo ev) {g : Nat} {cs : Array Value} (hg : Blk w g 77 cs) (j : Nat) (u : Value) : RW B F0 (w.setCell ⟨g, j, none⟩ u) vb vt vg vl vo b t gl lo ev :=
  ⟨Kd.R_set h.b hg (by decide) j u, Kd.R_set h.t hg (by decide) j u, Kd.R_set h.g hg (by decide) j u, Kd.R_set h.l hg (by decide) j u, Kd.R_set h.o hg (by decide) j u⟩
end
abbrev pCells (s : PSt) (vb vt vg vl vo : Value) : Array Value := #[.int .i64 s.st, vb, .int .i64 s.at_, .int .i64 s.place, .bool s.blank, .int .i64 s.cls, vt, vg, vl, .string s.nm, .string s.lk, .int .i64 s.left, .int .i64 s.pad, errV s.err, .bool s.done, vo]
structure PSx (w0 : World) (F0 : Nat → Prop) (w : World) (g : Nat) (s : PSt) (vb vt vg vl vo : Value) : Prop where
  fr : Frm F0 w0 w
  lt : g < w0.heap.size
  fg : F0 g
  blk : Blk w g 77 (pCells s vb vt vg vl vo)
  rw_ : RW w0.heap.size F0 w vb vt vg vl vo s.block s.text s.glob s.loc s.out
def PS (w0 : World) (F0 : Nat → Prop) (w : World) (g : Nat) (s : PSt) : Prop := ∃ vb vt vg vl vo, PSx w0 F0 w g s vb vt vg vl vo
section
variable {w0 : World} {F0 : Nat → Prop} {w w' : World} {g : Nat} {s : PSt} {vb vt vg vl vo : Value}
theorem PSx.below (h : PSx w0 F0 w g s vb vt vg vl vo) (hb : Below w.heap.size w w') : PSx w0 F0 w' g s vb vt vg vl vo :=
  ⟨h.fr.below hb, h.lt, h.fg, h.blk.below hb h.blk.lt, h.rw_.below hb⟩
/-- A field of the parser is written that is no row. -/
theorem PSx.setF (h : PSx w0 F0 w g s vb vt vg vl vo) (j : Nat) (u : Value) (s' : PSt) (hc : (pCells s vb vt vg vl vo).setIfInBounds j u = pCells s' vb vt vg vl vo)
    (hb : s'.block = s.block) (ht : s'.text = s.text) (hg : s'.glob = s.glob) (hl : s'.loc = s.loc) (ho : s'.out = s.out) : PSx w0 F0 (w.setCell ⟨g, j, none⟩ u) g s' vb vt vg vl vo :=
  ⟨h.fr.set (p := ⟨g, j, none⟩) (fun _ => h.fg) u, h.lt, h.fg, by rw [← hc]; exact h.blk.set_ j u, by rw [hb, ht, hg, hl, ho]; exact h.rw_.set h.blk j u⟩
theorem PSx.cells (h : PSx w0 F0 w g s vb vt vg vl vo) : w.cell? ⟨g, 0, none⟩ = some (.int .i64 s.st) ∧ w.cell? ⟨g, 1, none⟩ = some vb ∧ w.cell? ⟨g, 2, none⟩ = some (.int .i64 s.at_) ∧ w.cell? ⟨g, 3, none⟩ = some (.int .i64 s.place) ∧ w.cell? ⟨g, 4, none⟩ = some (.bool s.blank) ∧ w.cell? ⟨g, 5, none⟩ = some (.int .i64 s.cls) ∧ w.cell? ⟨g, 6, none⟩ = some vt ∧ w.cell? ⟨g, 7, none⟩ = some vg ∧ w.cell? ⟨g, 8, none⟩ = some vl ∧ w.cell? ⟨g, 9, none⟩ = some (.string s.nm) ∧ w.cell? ⟨g, 10, none⟩ = some (.string s.lk) ∧ w.cell? ⟨g, 11, none⟩ = some (.int .i64 s.left) ∧ w.cell? ⟨g, 12, none⟩ = some (.int .i64 s.pad) ∧ w.cell? ⟨g, 13, none⟩ = some (errV s.err) ∧ w.cell? ⟨g, 14, none⟩ = some (.bool s.done) ∧ w.cell? ⟨g, 15, none⟩ = some vo := by
  have q := fun i => h.blk.cell i
  exact ⟨q 0, q 1, q 2, q 3, q 4, q 5, q 6, q 7, q 8, q 9, q 10, q 11, q 12, q 13, q 14, q 15⟩
theorem PSx.free (h : PSx w0 F0 w g s vb vt vg vl vo) (i : Nat) : w.frozen? ⟨g, i, none⟩ = false := h.blk.frozen i
end
end Go.Proofs.YtpbpfngichfgeaaGreatDoor

namespace Go.Proofs.YtpbpfngichfgeaaGreatDoor
set_option linter.unusedVariables false
set_option linter.unusedSimpArgs false
open Go Go.RowKit Go.Proofs.YtpbpfngichfgeaaGreatDoorW.PrintWords Go.Proofs.YtpbpfngichfgeaaGreatDoorW.PrintLast Go.Proofs.YtpbpfngichfgeaaGreatDoorW.PrintMore

/-- What a method does to the parser. -/
def Does (w0 : World) (F0 : Nat → Prop) (g : Nat) (s : PSt) (e : Ending) (w' : World) : Prop := e = .returned (.tuple #[]) ∧ PS w0 F0 w' g s
set_option maxHeartbeats 2000000 in
set_option maxRecDepth 100000 in
theorem skip_any (w0 : World) (F0 : Nat → Prop) (w : World) (g : Nat) (s : PSt) (vb vt vg vl vo : Value) (h : PSx w0 F0 w g s vb vt vg vl vo) :
    Calls Tryz.prog 68 #[.pointer (some ⟨g, 0, none⟩)] w fun e w' => e = .returned (.tuple #[]) ∧ PSx w0 F0 w' g s.skip vb vt vg vl vo := by
  have H := Lib.hid h
  obtain ⟨c0, c1, c2, c3, c4, c5, c6, c7, c8, c9, c10, c11, c12, c13, c14, c15⟩ := h.cells
  have f0 := h.free 0
  clear h c1 c2 c3 c4 c5 c6 c7 c8 c9 c10 c11 c13 c14 c15
  by_cases hp : s.pad = 0
  · have e1 : Hid (s.skip = { s with st := 0 }) := by show _ = _; unfold PSt.skip; rw [if_pos hp]
    have HP := Lib.hid hp
    rw [hp] at c12
    clear hp
    go_enter Tryz.func68, Tryz.ntmps68
    go_wp2
    go_end0
    refine ⟨rfl, ?_⟩
    rw [e1.out]
    exact (H.out.setF 0 (.int .i64 3) { s with st := 3 } rfl rfl rfl rfl rfl rfl).setF 0 (.int .i64 0) { s with st := 0 } rfl rfl rfl rfl rfl rfl
  · have e1 : Hid (s.skip = { s with st := 3 }) := by show _ = _; unfold PSt.skip; rw [if_neg hp]
    have hq : (s.pad == 0) = false := by simpa using hp
    clear hp
    go_enter Tryz.func68, Tryz.ntmps68
    go_wp2
    go_end0
    refine ⟨rfl, ?_⟩
    rw [e1.out]
    exact H.out.setF 0 (.int .i64 3) { s with st := 3 } rfl rfl rfl rfl rfl rfl

theorem infoEv : (Tryz.prog.info? 43).map (fun i => (i.zero, i.size, i.bytes)) = some (some (.agg #[.int .i64 0, .string ⟨#[]⟩, .string ⟨#[]⟩, .int .i64 0, .int .i64 0, .int .i64 0, .int .i64 0, .int .i64 0, .int .i64 0, .string ⟨#[]⟩, .string ⟨#[]⟩, .slice none 0 0, .nilIface, .int .i64 0]), 14, 168) := by kernel_rfl
/-- Rows of bytes are no rows of events. -/
theorem R_no_ev {α : Type} {d : Kd α} {e : Nat} {w : World} {base : Nat} {ok : Nat → Prop} {v vo : Value} {xs : List α} (h : d.R e w base ok v xs) {base' n : Nat} {ys : List Value} {t : Nat} {sz : Nat} (ho : w.ownsRow base' t sz vo n ys) (ht : ∀ q, q ∈ e :: d.E → q ≠ t) : d.R e w base (fun k => ok k ∧ some k ≠ vo.ownBlock) v xs := by
  cases hv : vo.ownBlock with
  | none => exact Kd.R_mono h (fun k hk => ⟨hk, by simp⟩)
  | some b =>
    obtain ⟨cells, hb⟩ := own_typed ho b hv
    exact Kd.R_mono (Kd.R_types h hb ht) (fun k hk => ⟨hk.1, fun e => hk.2 (Option.some.inj e)⟩)
theorem M_no_ev {α : Type} {d : Kd α} {w : World} {base : Nat} {ok : Nat → Prop} {vo : Value} {x : α} {cs : List Value} (h : d.M w base ok x cs) {base' n : Nat} {ys : List Value} {t : Nat} {sz : Nat} (ho : w.ownsRow base' t sz vo n ys) (ht : ∀ q, q ∈ d.E → q ≠ t) : d.M w base (fun k => ok k ∧ some k ≠ vo.ownBlock) x cs := by
  cases hv : vo.ownBlock with
  | none => exact d.M_mono (fun k hk => ⟨hk, by simp⟩) h
  | some b =>
    obtain ⟨cells, hb⟩ := own_typed ho b hv
    exact d.M_mono (fun k hk => ⟨hk.1, fun e => hk.2 (Option.some.inj e)⟩) (Kd.M_types h hb ht)
/-- A new event stands in the row of events. -/
theorem RW.said {B : Nat} {F0 : Nat → Prop} {w w' : World} {vb vt vg vl vo vo' : Value} {b t : List Int} {gl lo : List Rec} {ev : List Evt} {x : Evt} (h : RW B F0 w vb vt vg vl vo b t gl lo ev)
    (ho : Kd.R kEv 43 w' B (fun k => some k ≠ vt.ownBlock ∧ some k ≠ vb.ownBlock) vo' (ev ++ [x])) (hg : w.grownBy w' vo.ownBlock) : RW B F0 w' vb vt vg vl vo' b t gl lo (ev ++ [x]) := by
  obtain ⟨inner, own⟩ := Kd.R_own h.o
  refine ⟨?_, ?_, ?_, ?_, ho⟩
  · exact Kd.R_mono (Kd.R_grown (R_no_ev h.b own (by decide)) hg (fun k hk => hk.2)) (fun k hk => hk.1)
  · exact Kd.R_mono (Kd.R_grown (R_no_ev h.t own (by decide)) hg (fun k hk => hk.2)) (fun k hk => hk.1)
  · exact Kd.R_mono (Kd.R_grown (R_no_ev h.g own (by decide)) hg (fun k hk => hk.2)) (fun k hk => hk.1)
  · exact Kd.R_mono (Kd.R_grown (R_no_ev h.l own (by decide)) hg (fun k hk => hk.2)) (fun k hk => hk.1)
theorem cell_blk {w w1 : World} {g : Nat} (h : w1.heap[g]? = w.heap[g]?) (i : Nat) : w1.cell? ⟨g, i, none⟩ = w.cell? ⟨g, i, none⟩ := by simp only [World.cell?, h]
theorem frozen_blk {w w1 : World} {g : Nat} (h : w1.heap[g]? = w.heap[g]?) (i : Nat) : w1.frozen? ⟨g, i, none⟩ = w.frozen? ⟨g, i, none⟩ := by simp only [World.frozen?, h]
/-- append(v, x) in a region that draws its order, behind the draw. -/
theorem R_append_stepD {P : Program} {ops : Array Oper} {o : Oper} {a : Act} {Q : Exit → Act → World → Prop} {Kc : Act → World → Prop} {α : Type} (d : Kd α) {W : World} (base : Nat) (hw : o.guard = none) (s x : Operand) (t e : TypeId) (z : Value) (bytes : Nat)
    (ho : o.op = .call { callee := .builtin .append, args := #[s, x], argTypes := #[t, t] })
    (ht : P.underlying t = some (.slice e)) (hinfo : (P.info? e).map (fun i => (i.zero, i.size, i.bytes)) = some (some z, d.sz, bytes)) (hz : z.cells.size = d.sz) (hs0 : 0 < d.sz) (hb0 : 0 < bytes)
    (v : Value) (xs : List α) (p : α) (cs : Array Value) (ok okp : Nat → Prop) (hs : a.eval s = v) (hx : a.eval x = .slice (some ⟨W.heap.size, 0, none⟩) 1 1) (hp : d.M W base okp p cs.toList) (hokp : ∀ k, okp k → ok k ∧ some k ≠ v.ownBlock) (hfresh : ∀ k, W.heap.size ≤ k → ok k)
    (HO : d.R e W base ok v xs) (hbase : base ≤ W.heap.size) (hl : (xs.length + 1) * bytes ≤ 140737488355328)
    (h : ∀ v1 w1, d.R e w1 base ok v1 (xs ++ [p]) → W.grownBy w1 v.ownBlock → (v1.ownBlock = v.ownBlock ∨ ∃ b, v1.ownBlock = some b ∧ W.heap.size ≤ b) → Kc (a.put o.dst v1) w1) :
    if Region.wanted o (yielded ops a.tmps) = true then Oper.wp P o a (W.alloc (.cells cs e)).drew Kc Q else Kc (a.put o.dst undef) (W.alloc (.cells cs e)).drew := by
  have hwt : Region.wanted o (yielded ops a.tmps) = true := by simp [Region.wanted, hw]
  obtain ⟨cs⟩ := cs
  exact Kd.R_append_step d (w0 := W.drew) (W := W.drew) base hwt s x t e z bytes ho ht hinfo hz hs0 hb0 v xs p cs ok okp hs hx (Kd.M_below hp ((Below.refl _ _).drew)) hokp hfresh (Kd.R_below HO ((Below.refl _ _).drew)) (Below.refl _ _) hbase hl (fun v1 w1 h1 _ h2 h3 => h v1 w1 h1 ⟨h2.os, h2.tape, h2.output, h2.size, h2.block⟩ h3)
/-- What say leaves. -/
def Said (w0 : World) (F0 : Nat → Prop) (w : World) (g : Nat) (s : PSt) (vb vt vg vl vo : Value) (e : Ending) (w' : World) : Prop :=
  e = .returned (.tuple #[]) ∧ ∃ vo', PSx w0 F0 w' g s vb vt vg vl vo' ∧ ∀ j, j < w.heap.size → j ≠ g → some j ≠ vo.ownBlock → w'.heap[j]? = w.heap[j]?
set_option maxHeartbeats 4000000 in
set_option maxRecDepth 100000 in
theorem say_any (w0 : World) (F0 : Nat → Prop) (w : World) (g : Nat) (s : PSt) (vb vt vg vl vo : Value) (h : PSx w0 F0 w g s vb vt vg vl vo) (k : EvK) (vd : Value)
    (hd : Kd.R (Kd.int .u8) 5 w w0.heap.size (fun k => some k ≠ vt.ownBlock ∧ some k ≠ vb.ownBlock) vd k.data) (hlen : s.out.length ≤ 100000000) (kn : Int) (hkn : k.num = kn) (en : En) (hen : k.en = en) (ve : Value) (hve : errV k.err = ve) (hve2 : ve = .nilIface ∨ ∃ t x, ve = .iface t x) :
    Calls Tryz.prog 38 #[.pointer (some ⟨g, 0, none⟩), .agg #[.int .i64 kn, .string en.path, .string en.link, .int .i64 en.kd, .int .i64 en.md, .int .i64 en.uid, .int .i64 en.gid, .int .i64 en.mt, .int .i64 en.sz, .string en.user, .string en.group, vd, ve, .int .i64 0]] w (Said w0 F0 w g (s.say k) vb vt vg vl vo) := by
  obtain ⟨path, link, kd, md, uid, gid, mt, sz, user, group⟩ := en
  obtain ⟨Ad, cd, rfl⟩ := Kd.R_slice hd
  obtain ⟨Ao, co, rfl⟩ := Kd.R_slice h.rw_.o
  have hw := h.blk.lt
  obtain ⟨c0, c1, c2, c3, c4, c5, c6, c7, c8, c9, c10, c11, c12, c13, c14, c15⟩ := h.cells
  have HD := Lib.hid hd
  have HLN := Lib.hid hlen
  have HK := Lib.hid hkn
  have HE := Lib.hid hen
  have HV := Lib.hid hve
  have H0 := Lib.hid h
  clear hd hlen hkn hen hve h c0 c1 c3 c4 c5 c6 c7 c8 c9 c10 c11 c12 c13 c14 c15
  have walk : ∀ (cs : Array Value), cs = #[.int .i64 kn, .string path, .string link, .int .i64 kd, .int .i64 md, .int .i64 uid, .int .i64 gid, .int .i64 mt, .int .i64 sz, .string user, .string group, .slice Ad k.data.length cd, ve, .int .i64 s.at_] →
      Aside0 (PSx w0 F0 (w.alloc (.cells cs 43)) g s vb vt vg vl (.slice Ao s.out.length co) ∧ Blk (w.alloc (.cells cs 43)) w.heap.size 43 cs ∧ Below w.heap.size w (w.alloc (.cells cs 43)) ∧
        Kd.R (Kd.int .u8) 5 (w.alloc (.cells cs 43)) w0.heap.size (fun k => some k ≠ vt.ownBlock ∧ some k ≠ vb.ownBlock) (.slice Ad k.data.length cd) k.data) :=
    fun cs _ => ⟨H0.out.below (below_alloc (Below.refl _ _) _), Blk.new w _ _, below_alloc (Below.refl _ _) _, Kd.R_alloc HD.out _⟩
  rcases hve2 with rfl | ⟨tv, xv, rfl⟩
  all_goals
    have WK := walk _ rfl
    clear walk
    go_enter Tryz.func38, Tryz.ntmps38
    go_wp2
    generalize w.alloc _ = W1 at WK ⊢
    obtain ⟨bx, hbx⟩ : ∃ bx, w.heap.size = bx := ⟨_, rfl⟩
    rw [hbx] at WK ⊢
    have HBX := Lib.hid hbx
    clear hbx
    have PX := WK.out.1
    have BX := WK.out.2.1
    have hb1 := WK.out.2.2.1
    have hgl := PX.blk.lt
    have hbl := BX.lt
    have y15 : W1.cell? ⟨g, 15, none⟩ = some (.slice Ao s.out.length co) := PX.blk.cell 15
    have z15 := PX.free 15
    have x0 : W1.cell? ⟨bx, 0, none⟩ = some (Value.int .i64 kn) := BX.cell 0
    have x1 : W1.cell? ⟨bx, 1, none⟩ = some (Value.string path) := BX.cell 1
    have x2 : W1.cell? ⟨bx, 2, none⟩ = some (Value.string link) := BX.cell 2
    have x3 : W1.cell? ⟨bx, 3, none⟩ = some (Value.int .i64 kd) := BX.cell 3
    have x4 : W1.cell? ⟨bx, 4, none⟩ = some (Value.int .i64 md) := BX.cell 4
    have x5 : W1.cell? ⟨bx, 5, none⟩ = some (Value.int .i64 uid) := BX.cell 5
    have x6 : W1.cell? ⟨bx, 6, none⟩ = some (Value.int .i64 gid) := BX.cell 6
    have x7 : W1.cell? ⟨bx, 7, none⟩ = some (Value.int .i64 mt) := BX.cell 7
    have x8 : W1.cell? ⟨bx, 8, none⟩ = some (Value.int .i64 sz) := BX.cell 8
    have x9 : W1.cell? ⟨bx, 9, none⟩ = some (Value.string user) := BX.cell 9
    have x10 : W1.cell? ⟨bx, 10, none⟩ = some (Value.string group) := BX.cell 10
    have x11 : W1.cell? ⟨bx, 11, none⟩ = some (Value.slice Ad k.data.length cd) := BX.cell 11
    have x12 := BX.cell 12
    simp only [List.getElem?_toArray, List.getElem?_cons_succ, List.getElem?_cons_zero] at x12
    have x13 : W1.cell? ⟨bx, 13, none⟩ = some (Value.int .i64 s.at_) := BX.cell 13
    have HOO := Lib.hid PX.rw_.o
    have HW0 := Lib.hid PX.fr.size
    clear PX BX hb1
    have hm : kEv.M W1 w0.heap.size (fun k => (some k ≠ vt.ownBlock ∧ some k ≠ vb.ownBlock) ∧ some k ≠ (Value.slice Ao s.out.length co).ownBlock) ⟨k, s.at_⟩ (evCells k (.slice Ad k.data.length cd) s.at_) := by
      obtain ⟨inner, own⟩ := Kd.R_own HOO.out
      exact M_no_ev (kEv_M WK.out.2.2.2) own (by decide)
    simp only [evCells, HK.out, HE.out, HV.out] at hm
    have HM := Lib.hid hm
    clear hm
    have HFR : Hid (∀ k, W1.heap.size ≤ k → some k ≠ vt.ownBlock ∧ some k ≠ vb.ownBlock) := by
      intro k hk
      obtain ⟨i1, o1⟩ := Kd.R_own WK.out.1.rw_.t
      obtain ⟨i2, o2⟩ := Kd.R_own WK.out.1.rw_.b
      exact ⟨fun e => by have := own_lt o1 k e.symm; omega, fun e => by have := own_lt o2 k e.symm; omega⟩
    have HLE : Hid ((s.out.length + 1) * 168 ≤ 140737488355328) := by have := HLN.out; show _ ≤ _; omega
    have HNG : Hid (some g ≠ (Value.slice Ao s.out.length co).ownBlock) := Kd.R_ne HOO.out WK.out.1.blk (by decide)
    go_region_law (refine R_append_stepD kEv (W := W1) w0.heap.size (by rfl) (.tmp 13) (.tmp 15) 38 43 _ 168 (by rfl) Tryz.underlying38 infoEv (by rfl) (by decide) (by decide) (.slice Ao s.out.length co) s.out ⟨k, s.at_⟩ _ _ _ (by rfl) (by rfl) HM.out (fun _ h => h) HFR.out HOO.out HW0.out HLE.out ?_; intro v1 w1 ho1 hg1 hat1; obtain ⟨A1, c1, hv1⟩ := Kd.R_slice ho1; subst hv1; have y15' := (cell_blk (hg1.block g hgl HNG.out) 15).trans y15; have z15' := (frozen_blk (hg1.block g hgl HNG.out) 15).trans z15)
    all_goals
      go_end0
      have e : (s.out ++ [(⟨k, s.at_⟩ : Evt)]).length = s.out.length + 1 := by simp
      rw [e] at ho1 hat1
      have rw1 := WK.out.1.rw_.said ho1 hg1
      have blk1 := WK.out.1.blk.grown hg1 HNG.out
      obtain ⟨inner, own⟩ := Kd.R_own HOO.out
      have fr1 := WK.out.1.fr.grown hg1 (fun q hq hlt => absurd (own_base own q hq) (by omega))
      refine ⟨rfl, .slice A1 (s.out.length + 1) c1, ⟨fr1.set (p := ⟨g, 15, none⟩) (fun _ => WK.out.1.fg) _, WK.out.1.lt, WK.out.1.fg, blk1.set_ 15 _, rw1.set blk1 15 _⟩, fun j hj hjg hjo => ?_⟩
      rw [Below.heap_setCell _ _ _ _ (by simpa using hjg)]
      have hb := WK.out.2.2.1
      have := HBX.out
      exact (hg1.block j (by have := hb.size; omega) hjo).trans (hb.block j (by omega))
end Go.Proofs.YtpbpfngichfgeaaGreatDoor

namespace Go.Proofs.YtpbpfngichfgeaaGreatDoor
set_option linter.unusedVariables false
set_option linter.unusedSimpArgs false
open Go Go.RowKit Go.Proofs.YtpbpfngichfgeaaGreatDoorW.PrintWords Go.Proofs.YtpbpfngichfgeaaGreatDoorW.PrintLast Go.Proofs.YtpbpfngichfgeaaGreatDoorW.PrintMore

theorem say_nil (w0 : World) (F0 : Nat → Prop) (w : World) (g : Nat) (s : PSt) (vb vt vg vl vo : Value) (h : PSx w0 F0 w g s vb vt vg vl vo) (k : EvK) (hd : k.data = []) (hlen : s.out.length ≤ 100000000) (kn : Int) (hkn : k.num = kn) (hen : k.en = en0) (ve : Value) (hve : errV k.err = ve) (hve2 : ve = .nilIface ∨ ∃ t x, ve = .iface t x) :
    Calls Tryz.prog 38 #[.pointer (some ⟨g, 0, none⟩), .agg #[.int .i64 kn, .string ⟨#[]⟩, .string ⟨#[]⟩, .int .i64 0, .int .i64 0, .int .i64 0, .int .i64 0, .int .i64 0, .int .i64 0, .string ⟨#[]⟩, .string ⟨#[]⟩, .slice none 0 0, ve, .int .i64 0]] w (Said w0 F0 w g (s.say k) vb vt vg vl vo) :=
  say_any w0 F0 w g s vb vt vg vl vo h k (.slice none 0 0) (by rw [hd]; exact Kd.R_nil _ _ _ _ _) hlen kn hkn en0 hen ve hve hve2
set_option maxHeartbeats 2000000 in
set_option maxRecDepth 100000 in
theorem finish_any (w0 : World) (F0 : Nat → Prop) (w : World) (g : Nat) (s : PSt) (vb vt vg vl vo : Value) (h : PSx w0 F0 w g s vb vt vg vl vo) (hlen : s.out.length ≤ 100000000) :
    Calls Tryz.prog 39 #[.pointer (some ⟨g, 0, none⟩)] w (Does w0 F0 g s.finish) := by
  have HC := Lib.hid (say_nil w0 F0 w g s vb vt vg vl vo h .fin rfl hlen 3 rfl rfl .nilIface rfl (.inl rfl))
  clear h
  go_enter Tryz.func39, Tryz.ntmps39
  go_wp2_with (first | (go_at_call 38; (with_reducible refine HC.out.mono ?_); rintro e w1 ⟨rfl, vo1, hP1, hf1⟩) | (go_at_call 68; (with_reducible refine (skip_any w0 F0 w1 g (s.say .fin) vb vt vg vl vo1 hP1).mono ?_); rintro e w2 ⟨rfl, hP2⟩))
  go_end0
  exact ⟨rfl, vb, vt, vg, vl, vo1, hP2⟩
theorem fnew_any (c p : Int) (w : World) (hc : (c == 0) = false) : Calls Tryz.prog 32 #[.int .i64 c, .int .i64 p] w fun e w' => e = .returned (.iface 105 (.agg #[.int .i64 p, .iface 27 (.int .i64 c)])) ∧ w = w' := by
  go_enter Tryz.func32, Tryz.ntmps32
  go_wp2
  go_ret
  exact ⟨rfl, rfl⟩
set_option maxHeartbeats 4000000 in
set_option maxRecDepth 100000 in
theorem bad_any (w0 : World) (F0 : Nat → Prop) (w : World) (g : Nat) (s : PSt) (vb vt vg vl vo : Value) (h : PSx w0 F0 w g s vb vt vg vl vo) (c : Int) (hc : c ≠ 0) (hlen : s.out.length ≤ 100000000) :
    Calls Tryz.prog 62 #[.pointer (some ⟨g, 0, none⟩), .int .i64 c] w (Does w0 F0 g (s.bad c)) := by
  have hc1 : (c == 0) = false := by simpa using hc
  obtain ⟨p, hp⟩ : ∃ p, s.place = p := ⟨_, rfl⟩
  have h1 : PSx w0 F0 ((w.setCell ⟨g, 0, none⟩ (.int .i64 4)).setCell ⟨g, 13, none⟩ (.iface 105 (.agg #[.int .i64 p, .iface 27 (.int .i64 c)]))) g { s with st := 4, err := some (c, s.place) } vb vt vg vl vo :=
    (h.setF 0 (.int .i64 4) { s with st := 4 } rfl rfl rfl rfl rfl rfl).setF 13 (.iface 105 (.agg #[.int .i64 p, .iface 27 (.int .i64 c)])) { s with st := 4, err := some (c, s.place) } (by rw [hp]; rfl) rfl rfl rfl rfl rfl
  have HC := Lib.hid (say_nil w0 F0 _ g _ vb vt vg vl vo h1 (.bad c p) rfl hlen 5 rfl rfl (.iface 105 (.agg #[.int .i64 p, .iface 27 (.int .i64 c)])) rfl (.inr ⟨_, _, rfl⟩))
  obtain ⟨c0, c1, c2, c3, c4, c5, c6, c7, c8, c9, c10, c11, c12, c13, c14, c15⟩ := h.cells
  have f0 := h.free 0
  have f13 := h.free 13
  have HP := Lib.hid hp
  rw [hp] at c3
  have hgl := h.blk.lt
  clear h1 h hp hc c1 c2 c4 c5 c6 c7 c8 c9 c10 c11 c12 c14 c15
  rcases hs : s.err with _ | ⟨ec, ep⟩
  all_goals
    rw [hs] at c13
    have HS := Lib.hid hs
    clear hs
    go_enter Tryz.func62, Tryz.ntmps62
    go_wp2_with (first | (go_at_call 32; (with_reducible refine (fnew_any c p _ hc1).mono ?_); rintro e w1 ⟨rfl, rfl⟩) | (go_at_call 38; (with_reducible refine HC.out.mono ?_); rintro e w1 ⟨rfl, vo1, hP1, hf1⟩))
    go_end0
    refine ⟨rfl, vb, vt, vg, vl, vo1, ?_⟩
    rw [← HP.out] at hP1
    exact hP1
end Go.Proofs.YtpbpfngichfgeaaGreatDoor
