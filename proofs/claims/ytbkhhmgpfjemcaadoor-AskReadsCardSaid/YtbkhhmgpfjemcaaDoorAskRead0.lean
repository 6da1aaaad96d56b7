/-
  (ask.form).read, walked: what stands behind a word.
-/
import Derived.Test.YtbkhhmgpfjemcaaDoorAskNum
import Derived.Test.YtbkhhmgpfjemcaaDoorPAskAx1
import Derived.Laws.Rows
import Derived.RegionTactic
import Derived.Outline
namespace Go.Proofs.YtbkhhmgpfjemcaaDoor
set_option linter.unusedVariables false
set_option linter.unusedSimpArgs false
open Go.RowKit Go.Sort

theorem results_cell_row_tmp {P : Program} {fn : Func} {p u : Tmp} {ty : TypeId} (h : fn.results = #[.cell p ty, .tmp u]) (tmps : Array Value) (w : World) (g : Nat) (t : TypeId) (cs : Array Value) (fr : Nat × Nat) (d : TypeDesc)
    (hp : tmps.getD p undef = .pointer (some ⟨g, 0, none⟩)) (hg : w.heap[g]? = some (.cells cs t fr))
    (hu : P.underlying ty = some d) (hd : (match d with | .struct _ | .array _ _ => true | _ => false) = true) (hi : (P.info? ty).map (·.size) = some cs.size) :
    (results fn tmps).run P w = .ok (.tuple #[.agg cs, tmps.getD u undef]) w := by
  have hp' : tmps[p]?.getD undef = .pointer (some ⟨g, 0, none⟩) := by simpa using hp
  simp [results, h, hp', asAddr, run_loadVar_row w g t ty cs fr d hg hu hd hi]
/-- The four blocks of a read: the form, the result, what is asked, the three numbers' places. -/
structure RSt (w wc : World) (form a arr : Array Value) : Prop where
  b : Below w.heap.size w wc
  h : Blk wc (w.heap.size) 47 form
  r : Blk wc (w.heap.size + 1) 25 #[.int .i64 0, .int .i64 0, .int .i64 0, .int .i64 0, .string ⟨#[]⟩, .slice none 0 0]
  e : Blk wc (w.heap.size + 1 + 1) 25 a
  l : Blk wc (w.heap.size + 1 + 1 + 1) 57 arr
section
variable {w wc w' : World} {form a arr : Array Value}
theorem RSt.next (s : RSt w wc form a arr) (hb : Below wc.heap.size wc w') : RSt w w' form a arr := ⟨below_next s.b hb, s.h.below hb s.h.lt, s.r.below hb s.r.lt, s.e.below hb s.e.lt, s.l.below hb s.l.lt⟩
theorem RSt.alloc (s : RSt w wc form a arr) (o : Obj) : RSt w (wc.alloc o) form a arr := s.next ((Below.refl _ _).alloc (Nat.le_refl _) _)
theorem RSt.setE (s : RSt w wc form a arr) (i : Nat) (v : Value) : RSt w (wc.setCell ⟨w.heap.size + 1 + 1, i, none⟩ v) form (a.setIfInBounds i v) arr :=
  ⟨s.b.setCell (p := ⟨w.heap.size + 1 + 1, i, none⟩) (by show _ ≤ w.heap.size + 1 + 1; omega) v, s.h.far (by simp <;> omega) _, s.r.far (by simp) _, s.e.set_ i v, s.l.far (by simp) _⟩
theorem RSt.first (w : World) (form a arr : Array Value) : RSt w ((((w.alloc (.cells form 47)).alloc (.cells #[.int .i64 0, .int .i64 0, .int .i64 0, .int .i64 0, .string ⟨#[]⟩, .slice none 0 0] 25)).alloc (.cells a 25)).alloc (.cells arr 57)) form a arr where
  b := ((((Below.refl _ _).alloc (Nat.le_refl _) _).alloc (by simp) _).alloc (by simp; omega) _).alloc (by simp; omega) _
  h := (((Blk.new w _ _).alloc _).alloc _).alloc _
  r := by have := (((Blk.new (w.alloc (.cells form 47)) 25 #[.int .i64 0, .int .i64 0, .int .i64 0, .int .i64 0, .string ⟨#[]⟩, .slice none 0 0]).alloc (.cells a 25)).alloc (.cells arr 57)); simpa using this
  e := by have := ((Blk.new ((w.alloc (.cells form 47)).alloc (.cells #[.int .i64 0, .int .i64 0, .int .i64 0, .int .i64 0, .string ⟨#[]⟩, .slice none 0 0] 25)) 25 a).alloc (.cells arr 57)); simpa using this
  l := by have := Blk.new (((w.alloc (.cells form 47)).alloc (.cells #[.int .i64 0, .int .i64 0, .int .i64 0, .int .i64 0, .string ⟨#[]⟩, .slice none 0 0] 25)).alloc (.cells a 25)) 57 arr; simpa using this
end
def setRow (wc : World) (g : Nat) (v0 v1 v2 v3 v4 v5 : Value) : World := World.setCell (World.setCell (World.setCell (World.setCell (World.setCell (World.setCell wc ⟨g, 0, none⟩ v0) ⟨g, 1, none⟩ v1) ⟨g, 2, none⟩ v2) ⟨g, 3, none⟩ v3) ⟨g, 4, none⟩ v4) ⟨g, 5, none⟩ v5
/-- A read's end: the value; where bytes are asked, the slice is the call's own. -/
def ReadEnd (k t n c : Int) (p : ByteArray) (bs : List Int) (er : Int) (w : World) (e : Ending) (w' : World) : Prop :=
  ∃ v : Value, e = .returned (.tuple #[.agg #[.int .i64 k, .int .i64 t, .int .i64 n, .int .i64 c, .string p, v], .int .i64 er]) ∧ YtbkhhmgpfjemcaaDoorW.PrintWords.Kd.R (YtbkhhmgpfjemcaaDoorW.PrintWords.Kd.int .u8) 5 w' w.heap.size (fun _ => True) v bs ∧ Below w.heap.size w w'
end Go.Proofs.YtbkhhmgpfjemcaaDoor
