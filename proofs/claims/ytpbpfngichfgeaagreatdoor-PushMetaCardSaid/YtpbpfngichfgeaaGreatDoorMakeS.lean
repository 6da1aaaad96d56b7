/-
  The states of entry.Make: the two arguments' boxes, the result's, the entry's.
-/
import Derived.Test.YtpbpfngichfgeaaGreatDoorEntries
import Derived.Laws.Rows
namespace Go.Proofs.YtpbpfngichfgeaaGreatDoor
set_option linter.unusedVariables false
set_option linter.unusedSimpArgs false
open Go.RowKit

structure St (w wc : World) (hdr ahd res ent : Array Value) : Prop where
  b : Below w.heap.size w wc
  h : Blk wc (w.heap.size) 36 hdr
  a : Blk wc (w.heap.size + 1) 75 ahd
  r : Blk wc (w.heap.size + 1 + 1) 41 res
  e : Blk wc (w.heap.size + 1 + 1 + 1) 41 ent
section
variable {w wc w' : World} {hdr ahd res ent : Array Value}
theorem St.next (s : St w wc hdr ahd res ent) (hb : Below wc.heap.size wc w') : St w w' hdr ahd res ent :=
  ⟨below_next s.b hb, s.h.below hb s.h.lt, s.a.below hb s.a.lt, s.r.below hb s.r.lt, s.e.below hb s.e.lt⟩
theorem St.drew (s : St w wc hdr ahd res ent) : St w wc.drew hdr ahd res ent := ⟨s.b.drew, s.h, s.a, s.r, s.e⟩
theorem St.alloc (s : St w wc hdr ahd res ent) (o : Obj) : St w (wc.alloc o) hdr ahd res ent := s.next ((Below.refl _ _).alloc (Nat.le_refl _) _)
theorem St.setE (s : St w wc hdr ahd res ent) (i : Nat) (v : Value) : St w (wc.setCell ⟨w.heap.size + 1 + 1 + 1, i, none⟩ v) hdr ahd res (ent.setIfInBounds i v) :=
  ⟨s.b.setCell (p := ⟨w.heap.size + 1 + 1 + 1, i, none⟩) (by show _ ≤ w.heap.size + 1 + 1 + 1; omega) v, s.h.far (by simp <;> omega) _, s.a.far (by simp <;> omega) _, s.r.far (by simp) _, s.e.set_ i v⟩
theorem St.setR (s : St w wc hdr ahd res ent) (i : Nat) (v : Value) : St w (wc.setCell ⟨w.heap.size + 1 + 1, i, none⟩ v) hdr ahd (res.setIfInBounds i v) ent :=
  ⟨s.b.setCell (p := ⟨w.heap.size + 1 + 1, i, none⟩) (by show _ ≤ w.heap.size + 1 + 1; omega) v, s.h.far (by simp <;> omega) _, s.a.far (by simp) _, s.r.set_ i v, s.e.far (by simp) _⟩
theorem St.first (w : World) (hdr ahd res ent : Array Value) : St w ((((w.alloc (.cells hdr 36)).alloc (.cells ahd 75)).alloc (.cells res 41)).alloc (.cells ent 41)) hdr ahd res ent where
  b := ((((Below.refl _ _).alloc (Nat.le_refl _) _).alloc (by simp) _).alloc (by simp; omega) _).alloc (by simp; omega) _
  h := (((Blk.new w _ _).alloc _).alloc _).alloc _
  a := (((by simpa using Blk.new (w.alloc (.cells hdr 36)) 75 ahd : Blk _ (w.heap.size + 1) 75 ahd).alloc _).alloc _)
  r := ((by simpa using Blk.new ((w.alloc (.cells hdr 36)).alloc (.cells ahd 75)) 41 res : Blk _ (w.heap.size + 1 + 1) 41 res).alloc _)
  e := (by simpa using Blk.new (((w.alloc (.cells hdr 36)).alloc (.cells ahd 75)).alloc (.cells res 41)) 41 ent : Blk _ (w.heap.size + 1 + 1 + 1) 41 ent)
end
/-- The cells of the two arguments' boxes. -/
theorem St.args {w wc : World} {res ent : Array Value} {h0 h1 h2 h3 h4 h5 h6 h7 h8 h9 h10 h11 a0 a1 a2 a3 : Value} (s : St w wc #[h0, h1, h2, h3, h4, h5, h6, h7, h8, h9, h10, h11] #[a0, a1, a2, a3] res ent) : wc.cell? ⟨w.heap.size, 0, none⟩ = some h0 ∧ wc.cell? ⟨w.heap.size, 1, none⟩ = some h1 ∧ wc.cell? ⟨w.heap.size, 2, none⟩ = some h2 ∧ wc.cell? ⟨w.heap.size, 3, none⟩ = some h3 ∧ wc.cell? ⟨w.heap.size, 4, none⟩ = some h4 ∧ wc.cell? ⟨w.heap.size, 5, none⟩ = some h5 ∧ wc.cell? ⟨w.heap.size, 6, none⟩ = some h6 ∧ wc.cell? ⟨w.heap.size, 7, none⟩ = some h7 ∧ wc.cell? ⟨w.heap.size, 8, none⟩ = some h8 ∧ wc.cell? ⟨w.heap.size, 9, none⟩ = some h9 ∧ wc.cell? ⟨w.heap.size, 10, none⟩ = some h10 ∧ wc.cell? ⟨w.heap.size, 11, none⟩ = some h11 ∧ wc.cell? ⟨w.heap.size + 1, 0, none⟩ = some a0 ∧ wc.cell? ⟨w.heap.size + 1, 1, none⟩ = some a1 ∧ wc.cell? ⟨w.heap.size + 1, 2, none⟩ = some a2 ∧ wc.cell? ⟨w.heap.size + 1, 3, none⟩ = some a3 :=
  ⟨s.h.cell 0, s.h.cell 1, s.h.cell 2, s.h.cell 3, s.h.cell 4, s.h.cell 5, s.h.cell 6, s.h.cell 7, s.h.cell 8, s.h.cell 9, s.h.cell 10, s.h.cell 11, s.a.cell 0, s.a.cell 1, s.a.cell 2, s.a.cell 3⟩
theorem St.ents {w wc : World} {hdr ahd res : Array Value} {e0 e1 e2 e3 e4 e5 e6 e7 e8 e9 : Value} (s : St w wc hdr ahd res #[e0, e1, e2, e3, e4, e5, e6, e7, e8, e9]) : wc.cell? ⟨w.heap.size + 1 + 1 + 1, 0, none⟩ = some e0 ∧ wc.cell? ⟨w.heap.size + 1 + 1 + 1, 1, none⟩ = some e1 ∧ wc.cell? ⟨w.heap.size + 1 + 1 + 1, 2, none⟩ = some e2 ∧ wc.cell? ⟨w.heap.size + 1 + 1 + 1, 3, none⟩ = some e3 ∧ wc.cell? ⟨w.heap.size + 1 + 1 + 1, 4, none⟩ = some e4 ∧ wc.cell? ⟨w.heap.size + 1 + 1 + 1, 5, none⟩ = some e5 ∧ wc.cell? ⟨w.heap.size + 1 + 1 + 1, 6, none⟩ = some e6 ∧ wc.cell? ⟨w.heap.size + 1 + 1 + 1, 7, none⟩ = some e7 ∧ wc.cell? ⟨w.heap.size + 1 + 1 + 1, 8, none⟩ = some e8 ∧ wc.cell? ⟨w.heap.size + 1 + 1 + 1, 9, none⟩ = some e9 :=
  ⟨s.e.cell 0, s.e.cell 1, s.e.cell 2, s.e.cell 3, s.e.cell 4, s.e.cell 5, s.e.cell 6, s.e.cell 7, s.e.cell 8, s.e.cell 9⟩
theorem St.entsf {w wc : World} {hdr ahd res ent : Array Value} (s : St w wc hdr ahd res ent) : wc.frozen? ⟨w.heap.size + 1 + 1 + 1, 0, none⟩ = false ∧ wc.frozen? ⟨w.heap.size + 1 + 1 + 1, 1, none⟩ = false ∧ wc.frozen? ⟨w.heap.size + 1 + 1 + 1, 2, none⟩ = false ∧ wc.frozen? ⟨w.heap.size + 1 + 1 + 1, 3, none⟩ = false ∧ wc.frozen? ⟨w.heap.size + 1 + 1 + 1, 4, none⟩ = false ∧ wc.frozen? ⟨w.heap.size + 1 + 1 + 1, 5, none⟩ = false ∧ wc.frozen? ⟨w.heap.size + 1 + 1 + 1, 6, none⟩ = false ∧ wc.frozen? ⟨w.heap.size + 1 + 1 + 1, 7, none⟩ = false ∧ wc.frozen? ⟨w.heap.size + 1 + 1 + 1, 8, none⟩ = false ∧ wc.frozen? ⟨w.heap.size + 1 + 1 + 1, 9, none⟩ = false :=
  ⟨s.e.frozen 0, s.e.frozen 1, s.e.frozen 2, s.e.frozen 3, s.e.frozen 4, s.e.frozen 5, s.e.frozen 6, s.e.frozen 7, s.e.frozen 8, s.e.frozen 9⟩
theorem St.ress {w wc : World} {hdr ahd ent : Array Value} {e0 e1 e2 e3 e4 e5 e6 e7 e8 e9 : Value} (s : St w wc hdr ahd #[e0, e1, e2, e3, e4, e5, e6, e7, e8, e9] ent) : wc.cell? ⟨w.heap.size + 1 + 1, 0, none⟩ = some e0 ∧ wc.cell? ⟨w.heap.size + 1 + 1, 1, none⟩ = some e1 ∧ wc.cell? ⟨w.heap.size + 1 + 1, 2, none⟩ = some e2 ∧ wc.cell? ⟨w.heap.size + 1 + 1, 3, none⟩ = some e3 ∧ wc.cell? ⟨w.heap.size + 1 + 1, 4, none⟩ = some e4 ∧ wc.cell? ⟨w.heap.size + 1 + 1, 5, none⟩ = some e5 ∧ wc.cell? ⟨w.heap.size + 1 + 1, 6, none⟩ = some e6 ∧ wc.cell? ⟨w.heap.size + 1 + 1, 7, none⟩ = some e7 ∧ wc.cell? ⟨w.heap.size + 1 + 1, 8, none⟩ = some e8 ∧ wc.cell? ⟨w.heap.size + 1 + 1, 9, none⟩ = some e9 :=
  ⟨s.r.cell 0, s.r.cell 1, s.r.cell 2, s.r.cell 3, s.r.cell 4, s.r.cell 5, s.r.cell 6, s.r.cell 7, s.r.cell 8, s.r.cell 9⟩
theorem St.ressf {w wc : World} {hdr ahd res ent : Array Value} (s : St w wc hdr ahd res ent) : wc.frozen? ⟨w.heap.size + 1 + 1, 0, none⟩ = false ∧ wc.frozen? ⟨w.heap.size + 1 + 1, 1, none⟩ = false ∧ wc.frozen? ⟨w.heap.size + 1 + 1, 2, none⟩ = false ∧ wc.frozen? ⟨w.heap.size + 1 + 1, 3, none⟩ = false ∧ wc.frozen? ⟨w.heap.size + 1 + 1, 4, none⟩ = false ∧ wc.frozen? ⟨w.heap.size + 1 + 1, 5, none⟩ = false ∧ wc.frozen? ⟨w.heap.size + 1 + 1, 6, none⟩ = false ∧ wc.frozen? ⟨w.heap.size + 1 + 1, 7, none⟩ = false ∧ wc.frozen? ⟨w.heap.size + 1 + 1, 8, none⟩ = false ∧ wc.frozen? ⟨w.heap.size + 1 + 1, 9, none⟩ = false :=
  ⟨s.r.frozen 0, s.r.frozen 1, s.r.frozen 2, s.r.frozen 3, s.r.frozen 4, s.r.frozen 5, s.r.frozen 6, s.r.frozen 7, s.r.frozen 8, s.r.frozen 9⟩

theorem results_cell_row_tmp {P : Program} {fn : Func} {p u : Tmp} {ty : TypeId} (h : fn.results = #[.cell p ty, .tmp u]) (tmps : Array Value) (w : World) (g : Nat) (t : TypeId) (cs : Array Value) (fr : Nat × Nat) (d : TypeDesc)
    (hp : tmps.getD p undef = .pointer (some ⟨g, 0, none⟩)) (hg : w.heap[g]? = some (.cells cs t fr))
    (hu : P.underlying ty = some d) (hd : (match d with | .struct _ | .array _ _ => true | _ => false) = true) (hi : (P.info? ty).map (·.size) = some cs.size) :
    (results fn tmps).run P w = .ok (.tuple #[.agg cs, tmps.getD u undef]) w := by
  have hp' : tmps[p]?.getD undef = .pointer (some ⟨g, 0, none⟩) := by simpa using hp
  simp [results, h, hp', asAddr, run_loadVar_row w g t ty cs fr d hg hu hd hi]
theorem make_ret {w wF : World} {hdr ahd res ent : Array Value} {tmps : Array Value} {V : Value} (s : St w wF hdr ahd res ent) (hp : tmps.getD 4 undef = .pointer (some ⟨w.heap.size + 1 + 1, 0, none⟩)) (hs : res.size = 10) (hV : V = .tuple #[.agg res, tmps.getD 5 undef]) :
    bodyPost Tryz.prog Tryz.f95 (Gives V w) .ret { tmps := tmps, defers := [] } wF :=
  bodyPost_ret (by rw [hV]; exact results_cell_row_tmp rfl _ _ _ _ _ _ _ hp s.r Tryz.underlying41 rfl (by rw [hs]; kernel_rfl)) rfl ⟨rfl, s.b⟩
theorem St.rets {w wc : World} {hdr ahd ent : Array Value} (s : St w wc hdr ahd #[.string ⟨#[]⟩, .string ⟨#[]⟩, .int .i64 0, .int .i64 0, .int .i64 0, .int .i64 0, .int .i64 0, .int .i64 0, .string ⟨#[]⟩, .string ⟨#[]⟩] ent) (v0 v1 v2 v3 v4 v5 v6 v7 v8 v9 : Value) : St w (World.setCell (World.setCell (World.setCell (World.setCell (World.setCell (World.setCell (World.setCell (World.setCell (World.setCell (World.setCell wc ⟨w.heap.size + 1 + 1, 0, none⟩ v0) ⟨w.heap.size + 1 + 1, 1, none⟩ v1) ⟨w.heap.size + 1 + 1, 2, none⟩ v2) ⟨w.heap.size + 1 + 1, 3, none⟩ v3) ⟨w.heap.size + 1 + 1, 4, none⟩ v4) ⟨w.heap.size + 1 + 1, 5, none⟩ v5) ⟨w.heap.size + 1 + 1, 6, none⟩ v6) ⟨w.heap.size + 1 + 1, 7, none⟩ v7) ⟨w.heap.size + 1 + 1, 8, none⟩ v8) ⟨w.heap.size + 1 + 1, 9, none⟩ v9) hdr ahd #[v0, v1, v2, v3, v4, v5, v6, v7, v8, v9] ent := by
  have h := (((((((((s.setR 0 v0).setR 1 v1).setR 2 v2).setR 3 v3).setR 4 v4).setR 5 v5).setR 6 v6).setR 7 v7).setR 8 v8).setR 9 v9
  simpa using h
theorem make_rets {w wc : World} {hdr ahd ent tmps : Array Value} {V : Value} (s : St w wc hdr ahd #[.string ⟨#[]⟩, .string ⟨#[]⟩, .int .i64 0, .int .i64 0, .int .i64 0, .int .i64 0, .int .i64 0, .int .i64 0, .string ⟨#[]⟩, .string ⟨#[]⟩] ent) (v0 v1 v2 v3 v4 v5 v6 v7 v8 v9 u : Value) (hp : tmps.getD 4 undef = .pointer (some ⟨w.heap.size + 1 + 1, 0, none⟩)) (hu : tmps.getD 5 undef = u)
    (hV : V = .tuple #[.agg #[v0, v1, v2, v3, v4, v5, v6, v7, v8, v9], u]) : bodyPost Tryz.prog Tryz.f95 (Gives V w) .ret { tmps := tmps, defers := [] } (World.setCell (World.setCell (World.setCell (World.setCell (World.setCell (World.setCell (World.setCell (World.setCell (World.setCell (World.setCell wc ⟨w.heap.size + 1 + 1, 0, none⟩ v0) ⟨w.heap.size + 1 + 1, 1, none⟩ v1) ⟨w.heap.size + 1 + 1, 2, none⟩ v2) ⟨w.heap.size + 1 + 1, 3, none⟩ v3) ⟨w.heap.size + 1 + 1, 4, none⟩ v4) ⟨w.heap.size + 1 + 1, 5, none⟩ v5) ⟨w.heap.size + 1 + 1, 6, none⟩ v6) ⟨w.heap.size + 1 + 1, 7, none⟩ v7) ⟨w.heap.size + 1 + 1, 8, none⟩ v8) ⟨w.heap.size + 1 + 1, 9, none⟩ v9) :=
  make_ret (s.rets v0 v1 v2 v3 v4 v5 v6 v7 v8 v9) hp rfl (by rw [hu]; exact hV)
end Go.Proofs.YtpbpfngichfgeaaGreatDoor
