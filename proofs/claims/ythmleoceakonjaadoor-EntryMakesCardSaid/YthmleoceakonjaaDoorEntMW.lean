/-
  The law EntryMakes, walked.
-/
import Derived.Test.YthmleoceakonjaaDoorEntMP
namespace Go.Proofs.YthmleoceakonjaaDoor
set_option linter.unusedVariables false
set_option linter.unusedSimpArgs false
open Go.RowKit Go.Proofs.YthmleoceakonjaaDoorW.PrintWords Go.Proofs.YthmleoceakonjaaDoorW.PrintLast Go.Proofs.YthmleoceakonjaaDoorW.PrintMore Go.Proofs.YthmleoceakonjaaDoor.PEntM

noncomputable def lawRest (n : Nat) : Code := dropC n (Tryd.f3.body.getD .skip)
/-- The memory of EntryMakes: the two arguments' boxes. -/
structure LA (w wc : World) (hd ah : Array Value) : Prop where
  b : Below w.heap.size w wc
  h : Blk wc w.heap.size 23 hd
  a : Blk wc (w.heap.size + 1) 26 ah
/-- .. and the entry that entry.Make made. -/
structure LE (w wc : World) (hd ah : Array Value) (be : Nat) (en : Array Value) : Prop extends LA w wc hd ah where
  e : Blk wc be 29 en
/-- .. and the document's header. -/
structure LX (w wc : World) (hd ah : Array Value) (be : Nat) (en : Array Value) (bx : Nat) (x : Array Value) : Prop extends LE w wc hd ah be en where
  x : Blk wc bx 36 x
theorem LA.next {w wc w' : World} {hd ah : Array Value} (s : LA w wc hd ah) (hb : Below wc.heap.size wc w') : LA w w' hd ah := ⟨below_next s.b hb, s.h.below hb s.h.lt, s.a.below hb s.a.lt⟩
theorem LE.next {w wc w' : World} {hd ah en : Array Value} {be : Nat} (s : LE w wc hd ah be en) (hb : Below wc.heap.size wc w') : LE w w' hd ah be en := ⟨s.toLA.next hb, s.e.below hb s.e.lt⟩
theorem LX.next {w wc w' : World} {hd ah en x : Array Value} {be bx : Nat} (s : LX w wc hd ah be en bx x) (hb : Below wc.heap.size wc w') : LX w w' hd ah be en bx x := ⟨s.toLE.next hb, s.x.below hb s.x.lt⟩
theorem LA.heads {w wc : World} {ah : Array Value} {h0 h1 h2 h3 h4 h5 h6 h7 h8 h9 h10 h11 : Value} (s : LA w wc #[h0, h1, h2, h3, h4, h5, h6, h7, h8, h9, h10, h11] ah) : wc.cell? ⟨w.heap.size, 0, none⟩ = some h0 ∧ wc.cell? ⟨w.heap.size, 1, none⟩ = some h1 ∧ wc.cell? ⟨w.heap.size, 2, none⟩ = some h2 ∧ wc.cell? ⟨w.heap.size, 3, none⟩ = some h3 ∧ wc.cell? ⟨w.heap.size, 4, none⟩ = some h4 ∧ wc.cell? ⟨w.heap.size, 5, none⟩ = some h5 ∧ wc.cell? ⟨w.heap.size, 6, none⟩ = some h6 ∧ wc.cell? ⟨w.heap.size, 7, none⟩ = some h7 ∧ wc.cell? ⟨w.heap.size, 8, none⟩ = some h8 ∧ wc.cell? ⟨w.heap.size, 9, none⟩ = some h9 ∧ wc.cell? ⟨w.heap.size, 10, none⟩ = some h10 ∧ wc.cell? ⟨w.heap.size, 11, none⟩ = some h11 :=
  ⟨s.h.cell 0, s.h.cell 1, s.h.cell 2, s.h.cell 3, s.h.cell 4, s.h.cell 5, s.h.cell 6, s.h.cell 7, s.h.cell 8, s.h.cell 9, s.h.cell 10, s.h.cell 11⟩
theorem LA.aheads {w wc : World} {hd : Array Value} {h0 h1 h2 h3 : Value} (s : LA w wc hd #[h0, h1, h2, h3]) : wc.cell? ⟨w.heap.size + 1, 0, none⟩ = some h0 ∧ wc.cell? ⟨w.heap.size + 1, 1, none⟩ = some h1 ∧ wc.cell? ⟨w.heap.size + 1, 2, none⟩ = some h2 ∧ wc.cell? ⟨w.heap.size + 1, 3, none⟩ = some h3 :=
  ⟨s.a.cell 0, s.a.cell 1, s.a.cell 2, s.a.cell 3⟩
theorem LX.xs {w wc : World} {hd ah en : Array Value} {be bx : Nat} {h0 h1 h2 h3 h4 h5 h6 h7 h8 h9 h10 h11 : Value} (s : LX w wc hd ah be en bx #[h0, h1, h2, h3, h4, h5, h6, h7, h8, h9, h10, h11]) : wc.cell? ⟨bx, 0, none⟩ = some h0 ∧ wc.cell? ⟨bx, 1, none⟩ = some h1 ∧ wc.cell? ⟨bx, 2, none⟩ = some h2 ∧ wc.cell? ⟨bx, 3, none⟩ = some h3 ∧ wc.cell? ⟨bx, 4, none⟩ = some h4 ∧ wc.cell? ⟨bx, 5, none⟩ = some h5 ∧ wc.cell? ⟨bx, 6, none⟩ = some h6 ∧ wc.cell? ⟨bx, 7, none⟩ = some h7 ∧ wc.cell? ⟨bx, 8, none⟩ = some h8 ∧ wc.cell? ⟨bx, 9, none⟩ = some h9 ∧ wc.cell? ⟨bx, 10, none⟩ = some h10 ∧ wc.cell? ⟨bx, 11, none⟩ = some h11 :=
  ⟨s.x.cell 0, s.x.cell 1, s.x.cell 2, s.x.cell 3, s.x.cell 4, s.x.cell 5, s.x.cell 6, s.x.cell 7, s.x.cell 8, s.x.cell 9, s.x.cell 10, s.x.cell 11⟩
theorem LE.es {w wc : World} {hd ah : Array Value} {be : Nat} {h0 h1 h2 h3 h4 h5 h6 h7 h8 h9 : Value} (s : LE w wc hd ah be #[h0, h1, h2, h3, h4, h5, h6, h7, h8, h9]) : wc.cell? ⟨be, 0, none⟩ = some h0 ∧ wc.cell? ⟨be, 1, none⟩ = some h1 ∧ wc.cell? ⟨be, 2, none⟩ = some h2 ∧ wc.cell? ⟨be, 3, none⟩ = some h3 ∧ wc.cell? ⟨be, 4, none⟩ = some h4 ∧ wc.cell? ⟨be, 5, none⟩ = some h5 ∧ wc.cell? ⟨be, 6, none⟩ = some h6 ∧ wc.cell? ⟨be, 7, none⟩ = some h7 ∧ wc.cell? ⟨be, 8, none⟩ = some h8 ∧ wc.cell? ⟨be, 9, none⟩ = some h9 :=
  ⟨s.e.cell 0, s.e.cell 1, s.e.cell 2, s.e.cell 3, s.e.cell 4, s.e.cell 5, s.e.cell 6, s.e.cell 7, s.e.cell 8, s.e.cell 9⟩
theorem bcell {W w1 : World} (hb : Below W.heap.size W w1) : (∀ b o, b < W.heap.size → w1.cell? ⟨b, o, none⟩ = W.cell? ⟨b, o, none⟩) ∧ (∀ b o, b < W.heap.size → w1.frozen? ⟨b, o, none⟩ = W.frozen? ⟨b, o, none⟩) :=
  ⟨fun b o h => hb.cell (p := ⟨b, o, none⟩) h, fun b o h => hb.frozen (p := ⟨b, o, none⟩) h⟩
theorem LX.one {w wc : World} {hd ah en x : Array Value} {be bx Z : Nat} (s : LX w wc hd ah be en bx x) (h1 : w.heap.size + 1 < Z) (h2 : be < Z) (h3 : bx < Z) (i : Nat) (v : Value) : LX w (wc.setCell ⟨Z, i, none⟩ v) hd ah be en bx x where
  b := s.b.setCell (p := ⟨Z, i, none⟩) (by show _ ≤ Z; omega) v
  h := s.h.far (by show _ ≠ Z; omega) v
  a := s.a.far (by show _ ≠ Z; omega) v
  e := s.e.far (by show _ ≠ Z; omega) v
  x := s.x.far (by show _ ≠ Z; omega) v
theorem LX.ten {w wc : World} {hd ah en x : Array Value} {be bx Z : Nat} (s : LX w wc hd ah be en bx x) (h1 : w.heap.size + 1 < Z) (h2 : be < Z) (h3 : bx < Z) (v0 v1 v2 v3 v4 v5 v6 v7 v8 v9 : Value) : LX w (World.setCell (World.setCell (World.setCell (World.setCell (World.setCell (World.setCell (World.setCell (World.setCell (World.setCell (World.setCell wc ⟨Z, 0, none⟩ v0) ⟨Z, 1, none⟩ v1) ⟨Z, 2, none⟩ v2) ⟨Z, 3, none⟩ v3) ⟨Z, 4, none⟩ v4) ⟨Z, 5, none⟩ v5) ⟨Z, 6, none⟩ v6) ⟨Z, 7, none⟩ v7) ⟨Z, 8, none⟩ v8) ⟨Z, 9, none⟩ v9) hd ah be en bx x :=
  (((((((((s.one h1 h2 h3 0 v0).one h1 h2 h3 1 v1).one h1 h2 h3 2 v2).one h1 h2 h3 3 v3).one h1 h2 h3 4 v4).one h1 h2 h3 5 v5).one h1 h2 h3 6 v6).one h1 h2 h3 7 v7).one h1 h2 h3 8 v8).one h1 h2 h3 9 v9
theorem blk_of_below {W w1 : World} {cs : Array Value} {t : TypeId} (h : Below (W.alloc (.cells cs t)).heap.size (W.alloc (.cells cs t)) w1) : Blk w1 W.heap.size t cs := (Blk.new W t cs).below h (by simp)
theorem blk_of_below_d {W w1 : World} {cs : Array Value} {t : TypeId} (h : Below (World.drew (W.alloc (.cells cs t))).heap.size (World.drew (W.alloc (.cells cs t))) w1) : Blk w1 W.heap.size t cs := (Blk.new W t cs).drew.below h (by simp)
theorem blk_cells10 {wc : World} {Z : Nat} {t : TypeId} {h0 h1 h2 h3 h4 h5 h6 h7 h8 h9 : Value} (s : Blk wc Z t #[h0, h1, h2, h3, h4, h5, h6, h7, h8, h9]) : wc.cell? ⟨Z, 0, none⟩ = some h0 ∧ wc.cell? ⟨Z, 1, none⟩ = some h1 ∧ wc.cell? ⟨Z, 2, none⟩ = some h2 ∧ wc.cell? ⟨Z, 3, none⟩ = some h3 ∧ wc.cell? ⟨Z, 4, none⟩ = some h4 ∧ wc.cell? ⟨Z, 5, none⟩ = some h5 ∧ wc.cell? ⟨Z, 6, none⟩ = some h6 ∧ wc.cell? ⟨Z, 7, none⟩ = some h7 ∧ wc.cell? ⟨Z, 8, none⟩ = some h8 ∧ wc.cell? ⟨Z, 9, none⟩ = some h9 ∧ wc.frozen? ⟨Z, 0, none⟩ = false ∧ wc.frozen? ⟨Z, 1, none⟩ = false ∧ wc.frozen? ⟨Z, 2, none⟩ = false ∧ wc.frozen? ⟨Z, 3, none⟩ = false ∧ wc.frozen? ⟨Z, 4, none⟩ = false ∧ wc.frozen? ⟨Z, 5, none⟩ = false ∧ wc.frozen? ⟨Z, 6, none⟩ = false ∧ wc.frozen? ⟨Z, 7, none⟩ = false ∧ wc.frozen? ⟨Z, 8, none⟩ = false ∧ wc.frozen? ⟨Z, 9, none⟩ = false :=
  ⟨s.cell 0, s.cell 1, s.cell 2, s.cell 3, s.cell 4, s.cell 5, s.cell 6, s.cell 7, s.cell 8, s.cell 9, s.frozen 0, s.frozen 1, s.frozen 2, s.frozen 3, s.frozen 4, s.frozen 5, s.frozen 6, s.frozen 7, s.frozen 8, s.frozen 9⟩
set_option maxHeartbeats 8000000 in
set_option maxRecDepth 100000 in
theorem law_s5 (w wc : World) (form : Int) (name link pre user group : ByteArray) (typ mode uid gid size mtime : Int) (g l : List S45) (Ag Al : Option Addr) (cg cl : Nat) (nm lk : ByteArray) (ep eq : ByteArray) (ek em eu eg et es : Int) (eo er : ByteArray) (c : Int) (be bx : Nat) (u0 u1 u4 u8 u9 u10 u11 u12 u13 u14 u15 u16 u17 u18 u19 u20 u21 u22 u23 u24 u25 u26 u27 u28 u29 u30 u31 u32 u33 u34 u35 u36 u37 u38 u39 u40 u41 u42 u43 u44 u45 u46 u47 u48 u49 u50 u51 u52 u53 u54 u55 u56 u57 u58 u59 u60 u61 u62 u63 u64 u65 u66 u67 u68 u69 u70 u71 u72 u73 u74 u75 u76 u77 : Value)
    (hl : Kd.C k45 w Al l.length l) (hcl : l.length ≤ cl) (hg : Kd.C k45 w Ag g.length g) (hcg : g.length ≤ cg) (ll : l.length ≤ 70) (lg : g.length ≤ 70)
    (hfull : pre.size + name.size ≤ 4611686018427387903) (hnm : nm.size ≤ 4611686018427387904) (hsz : ∀ key, (lookup (recP g) (recP l) key).size ≤ 281474976710656)
    (hM : makeV form name link pre user group typ mode uid gid size mtime (recP g) (recP l) nm lk = .tuple #[.agg #[.string ep, .string eq, .int .i64 ek, .int .i64 em, .int .i64 eu, .int .i64 eg, .int .i64 et, .int .i64 es, .string eo, .string er], .int .i64 c]) (S : LX w wc #[.int .i64 form, .string name, .string link, .string pre, .string user, .string group, .int .u8 typ, .int .i64 mode, .int .i64 uid, .int .i64 gid, .int .i64 size, .int .i64 mtime] #[.slice Ag g.length cg, .slice Al l.length cl, .string nm, .string lk] be #[.string ep, .string eq, .int .i64 ek, .int .i64 em, .int .i64 eu, .int .i64 eg, .int .i64 et, .int .i64 es, .string eo, .string er] bx #[.int .i64 form, .int .u8 typ, .string name, .string link, .string pre, .string user, .string group, .int .i64 mode, .int .i64 uid, .int .i64 gid, .int .i64 size, .int .i64 mtime]) :
    Code.wp Tryd.prog (lawRest 5) (bodyPost Tryd.prog Tryd.f3 (Gives (.bool true) w)) ⟨(u0 :: u1 :: (.pointer (some ⟨w.heap.size, 0, none⟩)) :: (.pointer (some ⟨w.heap.size + 1, 0, none⟩)) :: u4 :: (.pointer (some ⟨be, 0, none⟩)) :: (.int .i64 c) :: (.pointer (some ⟨bx, 0, none⟩)) :: u8 :: u9 :: u10 :: u11 :: u12 :: u13 :: u14 :: u15 :: u16 :: u17 :: u18 :: u19 :: u20 :: u21 :: u22 :: u23 :: u24 :: u25 :: u26 :: u27 :: u28 :: u29 :: u30 :: u31 :: u32 :: u33 :: u34 :: u35 :: u36 :: u37 :: u38 :: u39 :: u40 :: u41 :: u42 :: u43 :: u44 :: u45 :: u46 :: u47 :: u48 :: u49 :: u50 :: u51 :: u52 :: u53 :: u54 :: u55 :: u56 :: u57 :: u58 :: u59 :: u60 :: u61 :: u62 :: u63 :: u64 :: u65 :: u66 :: u67 :: u68 :: u69 :: u70 :: u71 :: u72 :: u73 :: u74 :: u75 :: u76 :: u77 :: []).toArray, []⟩ wc := by
  conv => arg 2; whnf
  have HL := Lib.hid hl
  have HG := Lib.hid hg
  have HM := Lib.hid hM
  have HSZ := Lib.hid hsz
  have HS := Aside0.mk S
  have q1 := S.a.lt
  have q2 := S.e.lt
  have q3 := S.x.lt
  have HK : ∀ w', LX w w' #[.int .i64 form, .string name, .string link, .string pre, .string user, .string group, .int .u8 typ, .int .i64 mode, .int .i64 uid, .int .i64 gid, .int .i64 size, .int .i64 mtime] #[.slice Ag g.length cg, .slice Al l.length cl, .string nm, .string lk] be #[.string ep, .string eq, .int .i64 ek, .int .i64 em, .int .i64 eu, .int .i64 eg, .int .i64 et, .int .i64 es, .string eo, .string er] bx #[.int .i64 form, .int .u8 typ, .string name, .string link, .string pre, .string user, .string group, .int .i64 mode, .int .i64 uid, .int .i64 gid, .int .i64 size, .int .i64 mtime] → (Aside0 (LX w w' #[.int .i64 form, .string name, .string link, .string pre, .string user, .string group, .int .u8 typ, .int .i64 mode, .int .i64 uid, .int .i64 gid, .int .i64 size, .int .i64 mtime] #[.slice Ag g.length cg, .slice Al l.length cl, .string nm, .string lk] be #[.string ep, .string eq, .int .i64 ek, .int .i64 em, .int .i64 eu, .int .i64 eg, .int .i64 et, .int .i64 es, .string eo, .string er] bx #[.int .i64 form, .int .u8 typ, .string name, .string link, .string pre, .string user, .string group, .int .i64 mode, .int .i64 uid, .int .i64 gid, .int .i64 size, .int .i64 mtime]) ∧ w'.cell? ⟨w.heap.size + 1, 0, none⟩ = some ((.slice Ag g.length cg)) ∧ w'.cell? ⟨w.heap.size + 1, 1, none⟩ = some ((.slice Al l.length cl)) ∧ w'.cell? ⟨w.heap.size + 1, 2, none⟩ = some ((.string nm)) ∧ w'.cell? ⟨w.heap.size + 1, 3, none⟩ = some ((.string lk)) ∧ w'.cell? ⟨bx, 0, none⟩ = some (.int .i64 form) ∧ w'.cell? ⟨bx, 1, none⟩ = some (.int .u8 typ) ∧ w'.cell? ⟨bx, 2, none⟩ = some (.string name) ∧ w'.cell? ⟨bx, 3, none⟩ = some (.string link) ∧ w'.cell? ⟨bx, 4, none⟩ = some (.string pre) ∧ w'.cell? ⟨bx, 5, none⟩ = some (.string user) ∧ w'.cell? ⟨bx, 6, none⟩ = some (.string group) ∧ w'.cell? ⟨bx, 7, none⟩ = some (.int .i64 mode) ∧ w'.cell? ⟨bx, 8, none⟩ = some (.int .i64 uid) ∧ w'.cell? ⟨bx, 9, none⟩ = some (.int .i64 gid) ∧ w'.cell? ⟨bx, 10, none⟩ = some (.int .i64 size) ∧ w'.cell? ⟨bx, 11, none⟩ = some (.int .i64 mtime) ∧ w'.cell? ⟨be, 0, none⟩ = some (.string ep) ∧ w'.cell? ⟨be, 1, none⟩ = some (.string eq) ∧ w'.cell? ⟨be, 2, none⟩ = some (.int .i64 ek) ∧ w'.cell? ⟨be, 3, none⟩ = some (.int .i64 em) ∧ w'.cell? ⟨be, 4, none⟩ = some (.int .i64 eu) ∧ w'.cell? ⟨be, 5, none⟩ = some (.int .i64 eg) ∧ w'.cell? ⟨be, 6, none⟩ = some (.int .i64 et) ∧ w'.cell? ⟨be, 7, none⟩ = some (.int .i64 es) ∧ w'.cell? ⟨be, 8, none⟩ = some (.string eo) ∧ w'.cell? ⟨be, 9, none⟩ = some (.string er)) := fun w' s => by
    obtain ⟨a0, a1, a2, a3⟩ := s.toLA.aheads
    obtain ⟨x0, x1, x2, x3, x4, x5, x6, x7, x8, x9, x10, x11⟩ := s.xs
    obtain ⟨e0, e1, e2, e3, e4, e5, e6, e7, e8, e9⟩ := s.toLE.es
    exact ⟨⟨s⟩, a0, a1, a2, a3, x0, x1, x2, x3, x4, x5, x6, x7, x8, x9, x10, x11, e0, e1, e2, e3, e4, e5, e6, e7, e8, e9⟩
  have HKK := Aside0.mk HK
  clear hl hg hM hsz S HK
  go_step
  go_region_held3 (fun w' => Aside0 (LX w w' #[.int .i64 form, .string name, .string link, .string pre, .string user, .string group, .int .u8 typ, .int .i64 mode, .int .i64 uid, .int .i64 gid, .int .i64 size, .int .i64 mtime] #[.slice Ag g.length cg, .slice Al l.length cl, .string nm, .string lk] be #[.string ep, .string eq, .int .i64 ek, .int .i64 em, .int .i64 eu, .int .i64 eg, .int .i64 et, .int .i64 es, .string eo, .string er] bx #[.int .i64 form, .int .u8 typ, .string name, .string link, .string pre, .string user, .string group, .int .i64 mode, .int .i64 uid, .int .i64 gid, .int .i64 size, .int .i64 mtime]) ∧ w'.cell? ⟨w.heap.size + 1, 0, none⟩ = some ((.slice Ag g.length cg)) ∧ w'.cell? ⟨w.heap.size + 1, 1, none⟩ = some ((.slice Al l.length cl)) ∧ w'.cell? ⟨w.heap.size + 1, 2, none⟩ = some ((.string nm)) ∧ w'.cell? ⟨w.heap.size + 1, 3, none⟩ = some ((.string lk)) ∧ w'.cell? ⟨bx, 0, none⟩ = some (.int .i64 form) ∧ w'.cell? ⟨bx, 1, none⟩ = some (.int .u8 typ) ∧ w'.cell? ⟨bx, 2, none⟩ = some (.string name) ∧ w'.cell? ⟨bx, 3, none⟩ = some (.string link) ∧ w'.cell? ⟨bx, 4, none⟩ = some (.string pre) ∧ w'.cell? ⟨bx, 5, none⟩ = some (.string user) ∧ w'.cell? ⟨bx, 6, none⟩ = some (.string group) ∧ w'.cell? ⟨bx, 7, none⟩ = some (.int .i64 mode) ∧ w'.cell? ⟨bx, 8, none⟩ = some (.int .i64 uid) ∧ w'.cell? ⟨bx, 9, none⟩ = some (.int .i64 gid) ∧ w'.cell? ⟨bx, 10, none⟩ = some (.int .i64 size) ∧ w'.cell? ⟨bx, 11, none⟩ = some (.int .i64 mtime) ∧ w'.cell? ⟨be, 0, none⟩ = some (.string ep) ∧ w'.cell? ⟨be, 1, none⟩ = some (.string eq) ∧ w'.cell? ⟨be, 2, none⟩ = some (.int .i64 ek) ∧ w'.cell? ⟨be, 3, none⟩ = some (.int .i64 em) ∧ w'.cell? ⟨be, 4, none⟩ = some (.int .i64 eu) ∧ w'.cell? ⟨be, 5, none⟩ = some (.int .i64 eg) ∧ w'.cell? ⟨be, 6, none⟩ = some (.int .i64 et) ∧ w'.cell? ⟨be, 7, none⟩ = some (.int .i64 es) ∧ w'.cell? ⟨be, 8, none⟩ = some (.string eo) ∧ w'.cell? ⟨be, 9, none⟩ = some (.string er)) (with_reducible first | (refine HKK.out _ ?_; refine LX.ten hLn ?_ ?_ ?_ _ _ _ _ _ _ _ _ _ _ <;> omega) | exact HKK.out _ (HS.out.next (below_drewN' (Below.refl _ _) _)) | exact HKK.out _ (HS.out.next ((Below.refl _ _).drew)) | exact HKK.out _ hLn | exact HKK.out _ (HS.out.next (below_alloc ((Below.refl _ _).drew) _)) | exact HKK.out _ (hLn.next (below_alloc (Below.refl _ _) _))) (first | (go_at_call 8; (with_reducible refine (plain_any Al cl l _ (Kd.C_below HL.out (‹Aside0 (LX _ _ _ _ _ _ _ _) ∧ _›).1.out.b) hcl (by omega)).mono ?_); rintro e wl ⟨Al', cl', rfl, hcl', hCl', hbl⟩; have hLn := (‹Aside0 (LX _ _ _ _ _ _ _ _) ∧ _›).1.out.next hbl; have shbl := hbl.size; (try simp at shbl); (first | (with_reducible have hz := Aside0.mk (blk_of_below hbl)) | (with_reducible have hz := Aside0.mk (blk_of_below_d hbl)) | (with_reducible have hz := Aside0.mk (Blk.below hz.out hbl hz.out.lt)) | skip); (first | (have hz := Aside0.mk (show Blk _ wc.heap.size _ _ from hz.out)) | skip)) | (go_at_call 8; (with_reducible refine (plain_any Ag cg g _ (Kd.C_below HG.out (‹Aside0 (LX _ _ _ _ _ _ _ _) ∧ _›).1.out.b) hcg (by omega)).mono ?_); rintro e wg ⟨Ag', cg', rfl, hcg', hCg', hbg⟩; have hLn := (‹Aside0 (LX _ _ _ _ _ _ _ _) ∧ _›).1.out.next hbg; have shbg := hbg.size; (try simp at shbg); (first | (with_reducible have hz := Aside0.mk (blk_of_below hbg)) | (with_reducible have hz := Aside0.mk (blk_of_below_d hbg)) | (with_reducible have hz := Aside0.mk (Blk.below hz.out hbg hz.out.lt)) | skip); (first | (have hz := Aside0.mk (show Blk _ wc.heap.size _ _ from hz.out)) | skip)) | (go_at_call 7; (with_reducible refine (refMake_is form typ name link pre user group mode uid gid size mtime Al' Ag' cl' cg' l g nm lk _ _ (by with_reducible first | exact hCl' | exact Kd.C_below hCl' hbg | exact Kd.C_below hCl' (below_alloc (Below.refl _ _) _) | exact Kd.C_below hCl' (below_alloc hbg _) | exact Kd.C_below hCl' (below_out hbg)) hcl' (by with_reducible first | exact hCg' | exact Kd.C_below hCg' hbl | exact Kd.C_below hCg' (below_alloc (Below.refl _ _) _) | exact Kd.C_below hCg' (below_alloc hbl _) | exact Kd.C_below hCg' (below_out hbl)) hcg' (by omega) (by omega) hfull hnm HSZ.out HM.out).mono ?_); rintro e wm ⟨rfl, hbm⟩; have hLn := (‹Aside0 (LX _ _ _ _ _ _ _ _) ∧ _›).1.out.next hbm; have shbm := hbm.size; (try simp at shbm); (first | (with_reducible have hz := Aside0.mk (blk_of_below hbm)) | (with_reducible have hz := Aside0.mk (blk_of_below_d hbm)) | (with_reducible have hz := Aside0.mk (Blk.below hz.out hbm hz.out.lt)) | skip); (first | (have hz := Aside0.mk (show Blk _ wc.heap.size _ _ from hz.out)) | skip); (first | (have hzz := blk_cells10 hz.out; obtain ⟨z0, z1, z2, z3, z4, z5, z6, z7, z8, z9, y0, y1, y2, y3, y4, y5, y6, y7, y8, y9⟩ := hzz) | skip)))
  all_goals go_wp2
  all_goals go_ret
  all_goals exact ⟨rfl, (‹Aside0 (LX _ _ _ _ _ _ _ _) ∧ _›).1.out.b⟩

def SomeX (w wc : World) (hd ah : Array Value) (be : Nat) (en x : Array Value) (v : Value) : Prop := ∃ bx, v = .pointer (some ⟨bx, 0, none⟩) ∧ LX w wc hd ah be en bx x
def SomeE (w wc : World) (hd ah en : Array Value) (v : Value) : Prop := ∃ be, v = .pointer (some ⟨be, 0, none⟩) ∧ LE w wc hd ah be en
set_option maxHeartbeats 8000000 in
set_option maxRecDepth 100000 in
theorem law_s4 (w wc : World) (form : Int) (name link pre user group : ByteArray) (typ mode uid gid size mtime : Int) (g l : List S45) (Ag Al : Option Addr) (cg cl : Nat) (nm lk : ByteArray) (ep eq : ByteArray) (ek em eu eg et es : Int) (eo er : ByteArray) (c : Int) (be : Nat) (u0 u1 u4 u7 u8 u9 u10 u11 u12 u13 u14 u15 u16 u17 u18 u19 u20 u21 u22 u23 u24 u25 u26 u27 u28 u29 u30 u31 u32 u33 u34 u35 u36 u37 u38 u39 u40 u41 u42 u43 u44 u45 u46 u47 u48 u49 u50 u51 u52 u53 u54 u55 u56 u57 u58 u59 u60 u61 u62 u63 u64 u65 u66 u67 u68 u69 u70 u71 u72 u73 u74 u75 u76 u77 : Value)
    (hl : Kd.C k45 w Al l.length l) (hcl : l.length ≤ cl) (hg : Kd.C k45 w Ag g.length g) (hcg : g.length ≤ cg) (ll : l.length ≤ 70) (lg : g.length ≤ 70)
    (hfull : pre.size + name.size ≤ 4611686018427387903) (hnm : nm.size ≤ 4611686018427387904) (hsz : ∀ key, (lookup (recP g) (recP l) key).size ≤ 281474976710656)
    (hM : makeV form name link pre user group typ mode uid gid size mtime (recP g) (recP l) nm lk = .tuple #[.agg #[.string ep, .string eq, .int .i64 ek, .int .i64 em, .int .i64 eu, .int .i64 eg, .int .i64 et, .int .i64 es, .string eo, .string er], .int .i64 c]) (S : LE w wc #[.int .i64 form, .string name, .string link, .string pre, .string user, .string group, .int .u8 typ, .int .i64 mode, .int .i64 uid, .int .i64 gid, .int .i64 size, .int .i64 mtime] #[.slice Ag g.length cg, .slice Al l.length cl, .string nm, .string lk] be #[.string ep, .string eq, .int .i64 ek, .int .i64 em, .int .i64 eu, .int .i64 eg, .int .i64 et, .int .i64 es, .string eo, .string er]) :
    Code.wp Tryd.prog (lawRest 4) (bodyPost Tryd.prog Tryd.f3 (Gives (.bool true) w)) ⟨(u0 :: u1 :: (.pointer (some ⟨w.heap.size, 0, none⟩)) :: (.pointer (some ⟨w.heap.size + 1, 0, none⟩)) :: u4 :: (.pointer (some ⟨be, 0, none⟩)) :: (.int .i64 c) :: u7 :: u8 :: u9 :: u10 :: u11 :: u12 :: u13 :: u14 :: u15 :: u16 :: u17 :: u18 :: u19 :: u20 :: u21 :: u22 :: u23 :: u24 :: u25 :: u26 :: u27 :: u28 :: u29 :: u30 :: u31 :: u32 :: u33 :: u34 :: u35 :: u36 :: u37 :: u38 :: u39 :: u40 :: u41 :: u42 :: u43 :: u44 :: u45 :: u46 :: u47 :: u48 :: u49 :: u50 :: u51 :: u52 :: u53 :: u54 :: u55 :: u56 :: u57 :: u58 :: u59 :: u60 :: u61 :: u62 :: u63 :: u64 :: u65 :: u66 :: u67 :: u68 :: u69 :: u70 :: u71 :: u72 :: u73 :: u74 :: u75 :: u76 :: u77 :: []).toArray, []⟩ wc := by
  conv => arg 2; whnf
  have HS := Aside0.mk S
  obtain ⟨x0, x1, x2, x3, x4, x5, x6, x7, x8, x9, x10, x11⟩ := S.toLA.heads
  have HL := Lib.hid hl
  have HG := Lib.hid hg
  have HM := Lib.hid hM
  have HSZ := Lib.hid hsz
  clear hl hg hM hsz S
  go_step
  go_cut [7] (fun v7 wc => SomeX w wc #[.int .i64 form, .string name, .string link, .string pre, .string user, .string group, .int .u8 typ, .int .i64 mode, .int .i64 uid, .int .i64 gid, .int .i64 size, .int .i64 mtime] #[.slice Ag g.length cg, .slice Al l.length cl, .string nm, .string lk] be #[.string ep, .string eq, .int .i64 ek, .int .i64 em, .int .i64 eu, .int .i64 eg, .int .i64 et, .int .i64 es, .string eo, .string er] #[.int .i64 form, .int .u8 typ, .string name, .string link, .string pre, .string user, .string group, .int .i64 mode, .int .i64 uid, .int .i64 gid, .int .i64 size, .int .i64 mtime] v7)
  case first =>
    go_wp2
    go_meet
    case rel => exact ⟨_, rfl, ⟨HS.out.next (below_alloc (Below.refl _ _) _), Blk.new _ _ _⟩⟩
  case rest =>
    obtain ⟨bx, rfl, S⟩ := hcut
    clear x0 x1 x2 x3 x4 x5 x6 x7 x8 x9 x10 x11 HS
    go_step
    exact law_s5 w _ form name link pre user group typ mode uid gid size mtime g l Ag Al cg cl nm lk ep eq ek em eu eg et es eo er c be bx _ _ _ _ _ _ _ _ _ _ _ _ _ _ _ _ _ _ _ _ _ _ _ _ _ _ _ _ _ _ _ _ _ _ _ _ _ _ _ _ _ _ _ _ _ _ _ _ _ _ _ _ _ _ _ _ _ _ _ _ _ _ _ _ _ _ _ _ _ _ _ _ _ HL.out hcl HG.out hcg ll lg hfull hnm HSZ.out HM.out S

set_option maxHeartbeats 8000000 in
set_option maxRecDepth 100000 in
theorem law_s3 (w wc : World) (form : Int) (name link pre user group : ByteArray) (typ mode uid gid size mtime : Int) (g l : List S45) (Ag Al : Option Addr) (cg cl : Nat) (nm lk : ByteArray) (ep eq : ByteArray) (ek em eu eg et es : Int) (eo er : ByteArray) (c : Int) (u0 u1 u4 u5 u6 u7 u8 u9 u10 u11 u12 u13 u14 u15 u16 u17 u18 u19 u20 u21 u22 u23 u24 u25 u26 u27 u28 u29 u30 u31 u32 u33 u34 u35 u36 u37 u38 u39 u40 u41 u42 u43 u44 u45 u46 u47 u48 u49 u50 u51 u52 u53 u54 u55 u56 u57 u58 u59 u60 u61 u62 u63 u64 u65 u66 u67 u68 u69 u70 u71 u72 u73 u74 u75 u76 u77 : Value)
    (he : EnvE w) (hl : Kd.C k45 w Al l.length l) (hcl : l.length ≤ cl) (hg : Kd.C k45 w Ag g.length g) (hcg : g.length ≤ cg) (ll : l.length ≤ 70) (lg : g.length ≤ 70)
    (hfull : pre.size + name.size ≤ 4611686018427387903) (hnm : nm.size ≤ 4611686018427387904) (hsz : ∀ key, (lookup (recP g) (recP l) key).size ≤ 281474976710656)
    (hM : makeV form name link pre user group typ mode uid gid size mtime (recP g) (recP l) nm lk = .tuple #[.agg #[.string ep, .string eq, .int .i64 ek, .int .i64 em, .int .i64 eu, .int .i64 eg, .int .i64 et, .int .i64 es, .string eo, .string er], .int .i64 c]) (S : LA w wc #[.int .i64 form, .string name, .string link, .string pre, .string user, .string group, .int .u8 typ, .int .i64 mode, .int .i64 uid, .int .i64 gid, .int .i64 size, .int .i64 mtime] #[.slice Ag g.length cg, .slice Al l.length cl, .string nm, .string lk]) :
    Code.wp Tryd.prog (lawRest 3) (bodyPost Tryd.prog Tryd.f3 (Gives (.bool true) w)) ⟨(u0 :: u1 :: (.pointer (some ⟨w.heap.size, 0, none⟩)) :: (.pointer (some ⟨w.heap.size + 1, 0, none⟩)) :: u4 :: u5 :: u6 :: u7 :: u8 :: u9 :: u10 :: u11 :: u12 :: u13 :: u14 :: u15 :: u16 :: u17 :: u18 :: u19 :: u20 :: u21 :: u22 :: u23 :: u24 :: u25 :: u26 :: u27 :: u28 :: u29 :: u30 :: u31 :: u32 :: u33 :: u34 :: u35 :: u36 :: u37 :: u38 :: u39 :: u40 :: u41 :: u42 :: u43 :: u44 :: u45 :: u46 :: u47 :: u48 :: u49 :: u50 :: u51 :: u52 :: u53 :: u54 :: u55 :: u56 :: u57 :: u58 :: u59 :: u60 :: u61 :: u62 :: u63 :: u64 :: u65 :: u66 :: u67 :: u68 :: u69 :: u70 :: u71 :: u72 :: u73 :: u74 :: u75 :: u76 :: u77 :: []).toArray, []⟩ wc := by
  conv => arg 2; whnf
  have HS := Aside0.mk S
  obtain ⟨x0, x1, x2, x3, x4, x5, x6, x7, x8, x9, x10, x11⟩ := S.heads
  obtain ⟨a0, a1, a2, a3⟩ := S.aheads
  have HL := Lib.hid hl
  have HG := Lib.hid hg
  have HM := Lib.hid hM
  have HSZ := Lib.hid hsz
  have HE := Lib.hid he
  have eg : (recP g).length = g.length := by simp [recP]
  have el : (recP l).length = l.length := by simp [recP]
  have HC := Lib.hid (make_any form name link pre user group typ mode uid gid size mtime (recP g) (recP l) Ag Al cg cl nm lk wc (recs_of (Kd.C_below hg S.b)) (recs_of (Kd.C_below hl S.b)) (by omega) (by omega) hfull hnm hsz (he.below S.b))
  have HC2 := HC.out
  rw [hM] at HC2
  unfold hdrV ahdV at HC2
  rw [eg, el] at HC2
  clear HC
  have HC := Lib.hid HC2
  clear hl hg hM hsz S he eg el HC2
  go_step
  go_cut [5, 6] (fun v5 v6 wc => v6 = .int .i64 c ∧ SomeE w wc #[.int .i64 form, .string name, .string link, .string pre, .string user, .string group, .int .u8 typ, .int .i64 mode, .int .i64 uid, .int .i64 gid, .int .i64 size, .int .i64 mtime] #[.slice Ag g.length cg, .slice Al l.length cl, .string nm, .string lk] #[.string ep, .string eq, .int .i64 ek, .int .i64 em, .int .i64 eu, .int .i64 eg, .int .i64 et, .int .i64 es, .string eo, .string er] v5)
  case first =>
    go_wp2_with (go_at_call 6; (with_reducible refine HC.out.mono ?_); rintro e wm ⟨rfl, hbm⟩)
    go_meet
    case rel => exact ⟨rfl, _, rfl, ⟨HS.out.next (below_alloc hbm _), Blk.new _ _ _⟩⟩
  case rest =>
    obtain ⟨rfl, be, rfl, S⟩ := hcut
    clear x0 x1 x2 x3 x4 x5 x6 x7 x8 x9 x10 x11 a0 a1 a2 a3 HS HC
    go_step
    exact law_s4 w _ form name link pre user group typ mode uid gid size mtime g l Ag Al cg cl nm lk ep eq ek em eu eg et es eo er c be _ _ _ _ _ _ _ _ _ _ _ _ _ _ _ _ _ _ _ _ _ _ _ _ _ _ _ _ _ _ _ _ _ _ _ _ _ _ _ _ _ _ _ _ _ _ _ _ _ _ _ _ _ _ _ _ _ _ _ _ _ _ _ _ _ _ _ _ _ _ _ _ _ _ HL.out hcl HG.out hcg ll lg hfull hnm HSZ.out HM.out S

set_option maxHeartbeats 8000000 in
set_option maxRecDepth 100000 in
theorem makesLaw_walk (w : World) (form : Int) (name link pre user group : ByteArray) (typ mode uid gid size mtime : Int) (g l : List S45) (Ag Al : Option Addr) (cg cl : Nat) (nm lk : ByteArray) (he : EnvE w)
    (hl : Kd.C k45 w Al l.length l) (hcl : l.length ≤ cl) (hg : Kd.C k45 w Ag g.length g) (hcg : g.length ≤ cg) (hfull : pre.size + name.size ≤ 4611686018427387903) (hnm : nm.size ≤ 4611686018427387904) (hsz0 : l.length ≤ 70 → g.length ≤ 70 → ∀ key, (lookup (recP g) (recP l) key).size ≤ 281474976710656) :
    Calls Tryd.prog 3 #[.agg #[.int .i64 form, .string name, .string link, .string pre, .string user, .string group, .int .u8 typ, .int .i64 mode, .int .i64 uid, .int .i64 gid, .int .i64 size, .int .i64 mtime], .agg #[.slice Ag g.length cg, .slice Al l.length cl, .string nm, .string lk]] w (Gives (.bool true) w) := by
  have HE := Lib.hid he
  have HSZ := Lib.hid hsz0
  have HL := Lib.hid hl
  have HG := Lib.hid hg
  have HA : ∀ w', Below ((w.alloc (.cells #[.int .i64 form, .string name, .string link, .string pre, .string user, .string group, .int .u8 typ, .int .i64 mode, .int .i64 uid, .int .i64 gid, .int .i64 size, .int .i64 mtime] 23)).alloc (.cells #[.slice Ag g.length cg, .slice Al l.length cl, .string nm, .string lk] 26)).heap.size ((w.alloc (.cells #[.int .i64 form, .string name, .string link, .string pre, .string user, .string group, .int .u8 typ, .int .i64 mode, .int .i64 uid, .int .i64 gid, .int .i64 size, .int .i64 mtime] 23)).alloc (.cells #[.slice Ag g.length cg, .slice Al l.length cl, .string nm, .string lk] 26)) w' → LA w w' #[.int .i64 form, .string name, .string link, .string pre, .string user, .string group, .int .u8 typ, .int .i64 mode, .int .i64 uid, .int .i64 gid, .int .i64 size, .int .i64 mtime] #[.slice Ag g.length cg, .slice Al l.length cl, .string nm, .string lk] := fun w' hb =>
    ⟨below_next (below_alloc (below_alloc (Below.refl _ _) _) _) hb, ((Blk.new w _ _).alloc _).below hb (by simp; omega), (by simpa using Blk.new (w.alloc (.cells #[.int .i64 form, .string name, .string link, .string pre, .string user, .string group, .int .u8 typ, .int .i64 mode, .int .i64 uid, .int .i64 gid, .int .i64 size, .int .i64 mtime] 23)) 26 #[.slice Ag g.length cg, .slice Al l.length cl, .string nm, .string lk] : Blk _ (w.heap.size + 1) _ _).below hb (by simp)⟩
  have HAA := Aside0.mk HA
  clear he hsz0 HA hl hg
  by_cases q1 : 70 < l.length
  · go_enter Tryd.func3, Tryd.ntmps3
    go_upto_if 11 with (go_at_call 5; (with_reducible refine (makes_any _ (HE.out.below (by (repeat' (first | assumption | exact Below.refl _ _ | refine Below.setCell ?_ (by show _ ≤ _; omega) _ | refine Below.drew ?_ | refine below_alloc ?_ _))))).mono ?_); rintro e w1 ⟨rfl, hb1⟩)
    obtain ⟨a0, a1, a2, a3⟩ := (HAA.out _ hb1).aheads
    go_wp2
    (go_ret; exact ⟨rfl, below_next (below_alloc (below_alloc (Below.refl _ _) _) _) hb1⟩)
  by_cases q2 : 70 < g.length
  · go_enter Tryd.func3, Tryd.ntmps3
    go_upto_if 11 with (go_at_call 5; (with_reducible refine (makes_any _ (HE.out.below (by (repeat' (first | assumption | exact Below.refl _ _ | refine Below.setCell ?_ (by show _ ≤ _; omega) _ | refine Below.drew ?_ | refine below_alloc ?_ _))))).mono ?_); rintro e w1 ⟨rfl, hb1⟩)
    obtain ⟨a0, a1, a2, a3⟩ := (HAA.out _ hb1).aheads
    go_wp2
    (go_ret; exact ⟨rfl, below_next (below_alloc (below_alloc (Below.refl _ _) _) _) hb1⟩)
  obtain ⟨ep, eq, ek, em, eu, eg, et, es, eo, er, c, hM⟩ := makeV_form form name link pre user group typ mode uid gid size mtime (recP g) (recP l) nm lk
  have HM := Lib.hid hM
  clear hM
  go_enter Tryd.func3, Tryd.ntmps3
  go_upto_if 11 with (go_at_call 5; (with_reducible refine (makes_any _ (HE.out.below (by (repeat' (first | assumption | exact Below.refl _ _ | refine Below.setCell ?_ (by show _ ≤ _; omega) _ | refine Below.drew ?_ | refine below_alloc ?_ _))))).mono ?_); rintro e w1 ⟨rfl, hb1⟩)
  have S0 := Aside0.mk (HAA.out _ hb1)
  obtain ⟨a0, a1, a2, a3⟩ := S0.out.aheads
  go_upto_if 21 with (fail)
  go_cut [] (fun wc => Aside0 (LA w wc #[.int .i64 form, .string name, .string link, .string pre, .string user, .string group, .int .u8 typ, .int .i64 mode, .int .i64 uid, .int .i64 gid, .int .i64 size, .int .i64 mtime] #[.slice Ag g.length cg, .slice Al l.length cl, .string nm, .string lk]))
  case first => (go_wp2; go_meet; (case rel => exact S0))
  case rest =>
    go_step
    exact law_s3 w _ form name link pre user group typ mode uid gid size mtime g l Ag Al cg cl nm lk ep eq ek em eu eg et es eo er c _ _ _ _ _ _ _ _ _ _ _ _ _ _ _ _ _ _ _ _ _ _ _ _ _ _ _ _ _ _ _ _ _ _ _ _ _ _ _ _ _ _ _ _ _ _ _ _ _ _ _ _ _ _ _ _ _ _ _ _ _ _ _ _ _ _ _ _ _ _ _ _ _ _ _ _ HE.out HL.out hcl HG.out hcg (by omega) (by omega) hfull hnm (HSZ.out (by omega) (by omega)) HM.out hcut.out
end Go.Proofs.YthmleoceakonjaaDoor
