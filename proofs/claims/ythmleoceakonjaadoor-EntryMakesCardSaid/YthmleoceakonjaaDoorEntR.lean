/-
  pannierref09.Make, walked.
-/
import Derived.Test.YthmleoceakonjaaDoorPEntMx2
namespace Go.Proofs.YthmleoceakonjaaDoor
set_option linter.unusedVariables false
set_option linter.unusedSimpArgs false
open Go.RowKit Go.Proofs.YthmleoceakonjaaDoorW.PrintWords Go.Proofs.YthmleoceakonjaaDoorW.PrintLast Go.Proofs.YthmleoceakonjaaDoorW.PrintMore

abbrev xCells (form typ : Int) (t0 t1 t2 t3 t4 : ByteArray) (n0 n1 n2 n3 n4 : Int) : Array Value := #[.int .i64 form, .int .u8 typ, .string t0, .string t1, .string t2, .string t3, .string t4, .int .i64 n0, .int .i64 n1, .int .i64 n2, .int .i64 n3, .int .i64 n4]
abbrev eCells (path link : ByteArray) (k md uid gid mt sz : Int) (user group : ByteArray) : Array Value := #[.string path, .string link, .int .i64 k, .int .i64 md, .int .i64 uid, .int .i64 gid, .int .i64 mt, .int .i64 sz, .string user, .string group]
/-- The memory of pannierref09.Make. -/
structure RM (W : World) (bx br be : Nat) (x e : Array Value) (wc : World) : Prop where
  x : Blk wc bx 36 x
  r : Blk wc br 29 (eCells ⟨#[]⟩ ⟨#[]⟩ 0 0 0 0 0 0 ⟨#[]⟩ ⟨#[]⟩)
  e : Blk wc be 29 e
  n1 : br ≠ be
  b : Below W.heap.size W wc
theorem RM.next {W wc w' : World} {bx br be : Nat} {x e : Array Value} (s : RM W bx br be x e wc) (hb : Below wc.heap.size wc w') : RM W bx br be x e w' :=
  ⟨s.x.below hb s.x.lt, s.r.below hb s.r.lt, s.e.below hb s.e.lt, s.n1, s.b.trans (hb.mono s.b.size)⟩
def kindR (typ : Int) : Int := if typ = 0 ∨ typ = 48 ∨ typ = 55 then 1 else if typ = 49 then 2 else if typ = 50 then 3 else if typ = 53 then 4 else 0
set_option maxHeartbeats 8000000 in
set_option maxRecDepth 100000 in
theorem refMake_none (form typ : Int) (t0 t1 t2 t3 t4 : ByteArray) (n0 n1 n2 n3 n4 : Int) (Al Ag : Option Addr) (l g cl cg : Nat) (nm lk : ByteArray) (w : World) (hk : kindR typ = 0) :
    Calls Tryd.prog 7 #[.agg (xCells form typ t0 t1 t2 t3 t4 n0 n1 n2 n3 n4), .slice Al l cl, .slice Ag g cg, .string nm, .string lk] w fun e w' => e = .returned (.tuple #[.agg (eCells ⟨#[]⟩ ⟨#[]⟩ 0 0 0 0 0 0 ⟨#[]⟩ ⟨#[]⟩), .int .i64 80]) ∧ Below w.heap.size w w' := by
  unfold kindR at hk
  have h0 : (typ == 0) = false := by simp; intro h; subst h; simp at hk
  have h1 : (typ == 48) = false := by simp; intro h; subst h; simp at hk
  have h2 : (typ == 55) = false := by simp; intro h; subst h; simp at hk
  have h3 : (typ == 49) = false := by simp; intro h; subst h; simp at hk
  have h4 : (typ == 50) = false := by simp; intro h; subst h; simp at hk
  have h5 : (typ == 53) = false := by simp; intro h; subst h; simp at hk
  clear hk
  go_enter Tryd.func7, Tryd.ntmps7
  go_wp2
  refine bodyPost_ret (results_ct rfl _ _ (w.heap.size + 1) 29 (eCells ⟨#[]⟩ ⟨#[]⟩ 0 0 0 0 0 0 ⟨#[]⟩ ⟨#[]⟩) (0, 0) _ rfl ?_ Tryd.underlying29 rfl (by kernel_rfl)) rfl ?_
  · have := (Blk.new (w.alloc (.cells (xCells form typ t0 t1 t2 t3 t4 n0 n1 n2 n3 n4) 36)) 29 (eCells ⟨#[]⟩ ⟨#[]⟩ 0 0 0 0 0 0 ⟨#[]⟩ ⟨#[]⟩)).alloc (.cells (eCells ⟨#[]⟩ ⟨#[]⟩ 0 0 0 0 0 0 ⟨#[]⟩ ⟨#[]⟩) 29)
    simpa [Blk] using this
  · exact ⟨rfl, below_alloc (below_alloc (below_alloc (Below.refl _ _) _) _) _⟩
theorem RM.drewN {W wc : World} {bx br be : Nat} {x e : Array Value} (s : RM W bx br be x e wc) (n : Nat) : RM W bx br be x e (wc.drewN n) :=
  ⟨s.x.drewN n, s.r.drewN n, s.e.drewN n, s.n1, ⟨s.b.os, s.b.tape, s.b.output, s.b.size, s.b.block⟩⟩
theorem RM.set {W wc : World} {bx br be : Nat} {x e : Array Value} (s : RM W bx br be x e wc) (hbe : W.heap.size ≤ be) (i : Nat) (v : Value) : RM W bx br be x (e.setIfInBounds i v) (wc.setCell ⟨be, i, none⟩ v) :=
  ⟨s.x.far (Blk.ne_ s.x s.e (by decide)) v, s.r.far s.n1 v, s.e.set_ i v, s.n1, s.b.setCell (p := ⟨be, i, none⟩) hbe v⟩
theorem RM.s3 {W wc : World} {bx br be : Nat} {form typ : Int} {t0 t1 t2 t3 t4 : ByteArray} {n0 n1 n2 n3 n4 : Int} {e : Array Value} (s : RM W bx br be (xCells form typ t0 t1 t2 t3 t4 n0 n1 n2 n3 n4) e wc) :
    Below W.heap.size W wc ∧ wc.cell? ⟨bx, 3, none⟩ = some (.string t1) := ⟨s.b, by have := s.x.cell 3; simpa using this⟩
theorem RM.drew {W wc : World} {bx br be : Nat} {x e : Array Value} (s : RM W bx br be x e wc) : RM W bx br be x e wc.drew := s.drewN 1
theorem RM.first (w : World) (x : Array Value) (k : Int) :
    RM w w.heap.size (w.heap.size + 1) (w.heap.size + 1 + 1) x (eCells ⟨#[]⟩ ⟨#[]⟩ k 0 0 0 0 0 ⟨#[]⟩ ⟨#[]⟩) (((w.alloc (.cells x 36)).alloc (.cells (eCells ⟨#[]⟩ ⟨#[]⟩ 0 0 0 0 0 0 ⟨#[]⟩ ⟨#[]⟩) 29)).alloc (.cells (eCells ⟨#[]⟩ ⟨#[]⟩ k 0 0 0 0 0 ⟨#[]⟩ ⟨#[]⟩) 29)) where
  x := ((Blk.new w _ _).alloc _).alloc _
  r := by simpa [Blk] using (Blk.new (w.alloc _) _ _).alloc _
  e := by simpa [Blk] using Blk.new ((w.alloc _).alloc _) _ _
  n1 := by omega
  b := below_alloc (below_alloc (below_alloc (Below.refl _ _) _) _) _
end Go.Proofs.YthmleoceakonjaaDoor
