/-
 head.Decode, walked: the header of a block.
-/
import Derived.Test.YtpbpfngichfgeaaGreatDoorPushPV
import Derived.Test.YtpbpfngichfgeaaGreatDoorPushSay
import Derived.Deep.RegionHeld3
import Derived.Outline
namespace Go.Proofs.YtpbpfngichfgeaaGreatDoor
set_option linter.unusedVariables false
set_option linter.unusedSimpArgs false
open Go Go.RowKit Go.Proofs.YtpbpfngichfgeaaGreatDoorW.PrintWords Go.Proofs.YtpbpfngichfgeaaGreatDoorW.PrintLast Go.Proofs.YtpbpfngichfgeaaGreatDoorW.PrintMore

def DecEnd (r : Hd × Int) (w : World) (e : Ending) (w' : World) : Prop := e = .returned (.tuple #[r.1.val, .int .i64 r.2]) ∧ Below w.heap.size w w'
/-- b[i:j] of a row of bytes. -/
theorem mid_run (A : Option Addr) (c : Nat) (l : List Int) (w : World) (hC : Kd.C (Kd.int .u8) w A l.length l) (hc : l.length ≤ c) (i j : Nat) (hij : i ≤ j) (hj : j ≤ l.length) :
    ∃ A', (∀ W : World, (Instr.slice 32 (.slice A l.length c) (some (.int .i64 (i : Int))) (some (.int .i64 (j : Int))) none).run Tryz.prog W = .ok (.slice A' (j - i) (c - i)) W) ∧ Kd.C (Kd.int .u8) w A' (j - i) (fldL l i j) ∧ j - i ≤ c - i := by
  obtain ⟨i0, hi, hz0, hz1, hz2⟩ := info_parts infoU8
  obtain ⟨A', h1, h2, h3⟩ := print_mid_int (P := Tryz.prog) (k := .u8) 32 5 Tryz.underlying32 hi hz1 A c l (i : Int) (j : Int) (by omega) (by omega) (by omega) hc
  simp only [Int.toNat_natCast] at h1 h2 h3
  rw [PPua.fld_mid] at h1 h2 h3
  rw [PPua.fld_len hij hj] at h1 h2 h3
  refine ⟨A', h1, ?_, h3⟩
  have := Kd.C_of_reads (h1 := fun _ => rfl) (h2 w (Kd.reads_of_C hC))
  exact this
theorem text_any (A : Option Addr) (c : Nat) (x : List Int) (w : World) (hC : Kd.C (Kd.int .u8) w A x.length x) (hc : x.length ≤ c) (hx : x.length ≤ 1000000) (hb : ∀ y ∈ x, 0 ≤ y ∧ y < 256) (he : EnvE w) :
    Calls Tryz.prog 92 #[.slice A x.length c] w (Gives (.string (textZ x)) w) :=
  PPua.head_text.calls A c x (textZ x) w hC hc he (PPua.text_val x hx hb)
theorem results_ct {P : Program} {fn : Func} {p u : Tmp} {ty : TypeId} (h : fn.results = #[.cell p ty, .tmp u]) (tmps : Array Value) (w : World) (g : Nat) (t : TypeId) (cs : Array Value) (fr : Nat × Nat) (d : TypeDesc)
    (hp : tmps.getD p undef = .pointer (some ⟨g, 0, none⟩)) (hg : w.heap[g]? = some (.cells cs t fr))
    (hu : P.underlying ty = some d) (hd : (match d with | .struct _ | .array _ _ => true | _ => false) = true) (hi : (P.info? ty).map (·.size) = some cs.size) :
    (results fn tmps).run P w = .ok (.tuple #[.agg cs, tmps.getD u undef]) w := by
  have hp' : tmps[p]?.getD undef = .pointer (some ⟨g, 0, none⟩) := by simpa using hp
  simp [results, h, hp', asAddr, run_loadVar_row w g t ty cs fr d hg hu hd hi]
abbrev zHd : Array Value := #[.int .i64 0, .string ⟨#[]⟩, .string ⟨#[]⟩, .string ⟨#[]⟩, .string ⟨#[]⟩, .string ⟨#[]⟩, .int .u8 0, .int .i64 0, .int .i64 0, .int .i64 0, .int .i64 0, .int .i64 0]
theorem blk12 {wc : World} {g : Nat} {t : TypeId} {h0 h1 h2 h3 h4 h5 h6 h7 h8 h9 h10 h11 : Value} (s : Blk wc g t #[h0, h1, h2, h3, h4, h5, h6, h7, h8, h9, h10, h11]) : wc.cell? ⟨g, 0, none⟩ = some h0 ∧ wc.cell? ⟨g, 1, none⟩ = some h1 ∧ wc.cell? ⟨g, 2, none⟩ = some h2 ∧ wc.cell? ⟨g, 3, none⟩ = some h3 ∧ wc.cell? ⟨g, 4, none⟩ = some h4 ∧ wc.cell? ⟨g, 5, none⟩ = some h5 ∧ wc.cell? ⟨g, 6, none⟩ = some h6 ∧ wc.cell? ⟨g, 7, none⟩ = some h7 ∧ wc.cell? ⟨g, 8, none⟩ = some h8 ∧ wc.cell? ⟨g, 9, none⟩ = some h9 ∧ wc.cell? ⟨g, 10, none⟩ = some h10 ∧ wc.cell? ⟨g, 11, none⟩ = some h11 :=
  ⟨s.cell 0, s.cell 1, s.cell 2, s.cell 3, s.cell 4, s.cell 5, s.cell 6, s.cell 7, s.cell 8, s.cell 9, s.cell 10, s.cell 11⟩
theorem froz12 {wc : World} {g : Nat} {t : TypeId} {cs : Array Value} (s : Blk wc g t cs) : wc.frozen? ⟨g, 0, none⟩ = false ∧ wc.frozen? ⟨g, 1, none⟩ = false ∧ wc.frozen? ⟨g, 2, none⟩ = false ∧ wc.frozen? ⟨g, 3, none⟩ = false ∧ wc.frozen? ⟨g, 4, none⟩ = false ∧ wc.frozen? ⟨g, 5, none⟩ = false ∧ wc.frozen? ⟨g, 6, none⟩ = false ∧ wc.frozen? ⟨g, 7, none⟩ = false ∧ wc.frozen? ⟨g, 8, none⟩ = false ∧ wc.frozen? ⟨g, 9, none⟩ = false ∧ wc.frozen? ⟨g, 10, none⟩ = false ∧ wc.frozen? ⟨g, 11, none⟩ = false :=
  ⟨s.frozen 0, s.frozen 1, s.frozen 2, s.frozen 3, s.frozen 4, s.frozen 5, s.frozen 6, s.frozen 7, s.frozen 8, s.frozen 9, s.frozen 10, s.frozen 11⟩
theorem dec_ret1 {w wc : World} {br : Nat} (hb : Below w.heap.size w wc) (r : Hd × Int) {v0 v1 v2 v3 v4 v5 v6 v7 v8 v9 v10 v11 : Value} (hr : Blk wc br 36 #[v0, v1, v2, v3, v4, v5, v6, v7, v8, v9, v10, v11]) {tmps : Array Value}
    (hv : r.1.val = .agg #[v0, v1, v2, v3, v4, v5, v6, v7, v8, v9, v10, v11]) (hp : tmps.getD 2 undef = .pointer (some ⟨br, 0, none⟩)) (hu : tmps.getD 3 undef = .int .i64 r.2) :
    bodyPost Tryz.prog Tryz.f63 (DecEnd r w) .ret { tmps := tmps, defers := [] } wc := by
  refine bodyPost_ret (v := .tuple #[r.1.val, .int .i64 r.2]) ?_ rfl ⟨rfl, hb⟩
  rw [hv, ← hu]
  exact results_ct rfl _ _ br 36 #[v0, v1, v2, v3, v4, v5, v6, v7, v8, v9, v10, v11] (0, 0) _ hp hr Tryz.underlying36 rfl (by kernel_rfl)
/-- The result's block is written whole, and handed back. -/
theorem dec_rets {w wc : World} {br : Nat} (hb : Below w.heap.size w wc) (hr : Blk wc br 36 #[.int .i64 0, .string ⟨#[]⟩, .string ⟨#[]⟩, .string ⟨#[]⟩, .string ⟨#[]⟩, .string ⟨#[]⟩, .int .u8 0, .int .i64 0, .int .i64 0, .int .i64 0, .int .i64 0, .int .i64 0]) (hn : w.heap.size ≤ br) (r : Hd × Int) (v0 v1 v2 v3 v4 v5 v6 v7 v8 v9 v10 v11 : Value) {tmps : Array Value}
    (hv : r.1.val = .agg #[v0, v1, v2, v3, v4, v5, v6, v7, v8, v9, v10, v11]) (hp : tmps.getD 2 undef = .pointer (some ⟨br, 0, none⟩)) (hu : tmps.getD 3 undef = .int .i64 r.2) :
    bodyPost Tryz.prog Tryz.f63 (DecEnd r w) .ret { tmps := tmps, defers := [] } (World.setCell (World.setCell (World.setCell (World.setCell (World.setCell (World.setCell (World.setCell (World.setCell (World.setCell (World.setCell (World.setCell (World.setCell wc ⟨br, 0, none⟩ v0) ⟨br, 1, none⟩ v1) ⟨br, 2, none⟩ v2) ⟨br, 3, none⟩ v3) ⟨br, 4, none⟩ v4) ⟨br, 5, none⟩ v5) ⟨br, 6, none⟩ v6) ⟨br, 7, none⟩ v7) ⟨br, 8, none⟩ v8) ⟨br, 9, none⟩ v9) ⟨br, 10, none⟩ v10) ⟨br, 11, none⟩ v11) := by
  have k : ∀ {W' : World} {cs : Array Value}, (Blk W' br 36 cs ∧ Below w.heap.size w W') → ∀ (i : Nat) (x : Value), (Blk (W'.setCell ⟨br, i, none⟩ x) br 36 (cs.setIfInBounds i x) ∧ Below w.heap.size w (W'.setCell ⟨br, i, none⟩ x)) :=
    fun h i x => ⟨h.1.set_ i x, h.2.setCell (p := ⟨br, i, none⟩) hn x⟩
  have h := (k (k (k (k (k (k (k (k (k (k (k (k ⟨hr, hb⟩ 0 v0) 1 v1) 2 v2) 3 v3) 4 v4) 5 v5) 6 v6) 7 v7) 8 v8) 9 v9) 10 v10) 11 v11)
  have hb2 : Blk (World.setCell (World.setCell (World.setCell (World.setCell (World.setCell (World.setCell (World.setCell (World.setCell (World.setCell (World.setCell (World.setCell (World.setCell wc ⟨br, 0, none⟩ v0) ⟨br, 1, none⟩ v1) ⟨br, 2, none⟩ v2) ⟨br, 3, none⟩ v3) ⟨br, 4, none⟩ v4) ⟨br, 5, none⟩ v5) ⟨br, 6, none⟩ v6) ⟨br, 7, none⟩ v7) ⟨br, 8, none⟩ v8) ⟨br, 9, none⟩ v9) ⟨br, 10, none⟩ v10) ⟨br, 11, none⟩ v11) br 36 #[v0, v1, v2, v3, v4, v5, v6, v7, v8, v9, v10, v11] := by simpa using h.1
  refine bodyPost_ret (v := .tuple #[r.1.val, .int .i64 r.2]) ?_ rfl ⟨rfl, h.2⟩
  rw [hv, ← hu]
  exact results_ct rfl _ _ br 36 #[v0, v1, v2, v3, v4, v5, v6, v7, v8, v9, v10, v11] (0, 0) _ hp hb2 Tryz.underlying36 rfl (by kernel_rfl)
set_option maxHeartbeats 4000000 in
set_option maxRecDepth 100000 in
theorem dec_len (A : Option Addr) (c : Nat) (l : List Int) (w : World) (hl : l.length ≠ 512) (hl2 : l.length ≤ 1000000) :
    Calls Tryz.prog 63 #[.slice A l.length c] w (DecEnd (hd0, 1) w) := by
  have h1 : ((l.length : Int) != 512) = true := by simp; omega
  have h2 : ¬ l.length = 512 := hl
  go_enter Tryz.func63, Tryz.ntmps63
  go_wp2
  exact dec_ret1 (below_alloc (Below.refl _ _) _) (hd0, 1) (Blk.new w _ _) rfl rfl rfl
set_option maxHeartbeats 4000000 in
set_option maxRecDepth 100000 in
theorem dec_sum (A : Option Addr) (c : Nat) (l : List Int) (w : World) (hC : Kd.C (Kd.int .u8) w A l.length l) (hc : l.length ≤ c) (hl : l.length = 512) (hb : ∀ y ∈ l, 0 ≤ y ∧ y < 256) (hr : rightV l = false) :
    Calls Tryz.prog 63 #[.slice A l.length c] w (DecEnd (hd0, 50) w) := by
  have hp := PPua.right_val l hl hb 0
  rw [hr] at hp
  have HR := Lib.hid (fun W (hW : Below w.heap.size w W) => PPua.sum_Right.calls 22 A c l false W (Kd.C_below hC hW) hc hp)
  rw [hl] at HR ⊢
  clear hC hc hl hb hr hp
  have hB0 : Blk (w.alloc (.cells #[.int .i64 0, .string ⟨#[]⟩, .string ⟨#[]⟩, .string ⟨#[]⟩, .string ⟨#[]⟩, .string ⟨#[]⟩, .int .u8 0, .int .i64 0, .int .i64 0, .int .i64 0, .int .i64 0, .int .i64 0] 36)) w.heap.size 36 #[.int .i64 0, .string ⟨#[]⟩, .string ⟨#[]⟩, .string ⟨#[]⟩, .string ⟨#[]⟩, .string ⟨#[]⟩, .int .u8 0, .int .i64 0, .int .i64 0, .int .i64 0, .int .i64 0, .int .i64 0] := Blk.new w _ _
  have HB0 : Aside0 (Below w.heap.size w (w.alloc (.cells #[.int .i64 0, .string ⟨#[]⟩, .string ⟨#[]⟩, .string ⟨#[]⟩, .string ⟨#[]⟩, .string ⟨#[]⟩, .int .u8 0, .int .i64 0, .int .i64 0, .int .i64 0, .int .i64 0, .int .i64 0] 36)) ∧ Blk (w.alloc (.cells #[.int .i64 0, .string ⟨#[]⟩, .string ⟨#[]⟩, .string ⟨#[]⟩, .string ⟨#[]⟩, .string ⟨#[]⟩, .int .u8 0, .int .i64 0, .int .i64 0, .int .i64 0, .int .i64 0, .int .i64 0] 36)) w.heap.size 36 #[.int .i64 0, .string ⟨#[]⟩, .string ⟨#[]⟩, .string ⟨#[]⟩, .string ⟨#[]⟩, .string ⟨#[]⟩, .int .u8 0, .int .i64 0, .int .i64 0, .int .i64 0, .int .i64 0, .int .i64 0]) := ⟨below_alloc (Below.refl _ _) _, hB0⟩
  clear hB0
  go_enter Tryz.func63, Tryz.ntmps63
  go_upto_block 0 with (fail)
  generalize w.alloc _ = W1 at HB0 ⊢
  have HR1 := Lib.hid (HR.out W1 HB0.out.1)
  clear HR
  go_wp2_with (go_at_call 91; (with_reducible refine HR1.out.mono ?_); rintro e w1 ⟨rfl, hb1⟩; have BB := Aside0.mk (HB0.out.2.below hb1 HB0.out.2.lt); obtain ⟨x0, x1, x2, x3, x4, x5, x6, x7, x8, x9, x10, x11⟩ := blk12 BB.out; obtain ⟨f0, f1, f2, f3, f4, f5, f6, f7, f8, f9, f10, f11⟩ := froz12 BB.out; have B1 : Aside0 (Below w.heap.size w w1) := ⟨below_next HB0.out.1 hb1⟩)
  exact dec_rets B1.out BB.out (Nat.le_refl _) (hd0, 50) _ _ _ _ _ _ _ _ _ _ _ _ rfl rfl rfl
structure DM (w wc : World) (bh : Nat) (hd : Array Value) : Prop where
  b : Below w.heap.size w wc
  r : Blk wc w.heap.size 36 #[.int .i64 0, .string ⟨#[]⟩, .string ⟨#[]⟩, .string ⟨#[]⟩, .string ⟨#[]⟩, .string ⟨#[]⟩, .int .u8 0, .int .i64 0, .int .i64 0, .int .i64 0, .int .i64 0, .int .i64 0]
  h : Blk wc bh 36 hd
  n : w.heap.size < bh
theorem DM.next {w wc w' : World} {bh : Nat} {hd : Array Value} (s : DM w wc bh hd) (hb : Below wc.heap.size wc w') : DM w w' bh hd := ⟨below_next s.b hb, s.r.below hb s.r.lt, s.h.below hb s.h.lt, s.n⟩
theorem DM.set {w wc : World} {bh : Nat} {hd : Array Value} (s : DM w wc bh hd) (i : Nat) (v : Value) : DM w (wc.setCell ⟨bh, i, none⟩ v) bh (hd.setIfInBounds i v) :=
  ⟨s.b.setCell (p := ⟨bh, i, none⟩) (Nat.le_of_lt s.n) v, s.r.far (p := ⟨bh, i, none⟩) (Nat.ne_of_lt s.n) v, s.h.set_ i v, s.n⟩
structure DS (w W : World) : Prop where
  b : Below w.heap.size w W
  r : Blk W w.heap.size 36 #[.int .i64 0, .string ⟨#[]⟩, .string ⟨#[]⟩, .string ⟨#[]⟩, .string ⟨#[]⟩, .string ⟨#[]⟩, .int .u8 0, .int .i64 0, .int .i64 0, .int .i64 0, .int .i64 0, .int .i64 0]
theorem DS.next {w W w2 : World} (s : DS w W) (hb : Below W.heap.size W w2) : DS w w2 := ⟨below_next s.b hb, s.r.below hb s.r.lt⟩
theorem DS.st1 {w W : World} {bh : Nat} (s : DS w W) (h1 : w.heap.size < bh) (i : Nat) (v : Value) : DS w (W.setCell ⟨bh, i, none⟩ v) :=
  ⟨s.b.setCell (p := ⟨bh, i, none⟩) (Nat.le_of_lt h1) v, s.r.far (p := ⟨bh, i, none⟩) (Nat.ne_of_lt h1) v⟩
theorem DS.twelve {w W : World} {bh : Nat} (s : DS w W) (h1 : w.heap.size < bh) (v0 v1 v2 v3 v4 v5 v6 v7 v8 v9 v10 v11 : Value) : DS w (World.setCell (World.setCell (World.setCell (World.setCell (World.setCell (World.setCell (World.setCell (World.setCell (World.setCell (World.setCell (World.setCell (World.setCell W ⟨bh, 0, none⟩ v0) ⟨bh, 1, none⟩ v1) ⟨bh, 2, none⟩ v2) ⟨bh, 3, none⟩ v3) ⟨bh, 4, none⟩ v4) ⟨bh, 5, none⟩ v5) ⟨bh, 6, none⟩ v6) ⟨bh, 7, none⟩ v7) ⟨bh, 8, none⟩ v8) ⟨bh, 9, none⟩ v9) ⟨bh, 10, none⟩ v10) ⟨bh, 11, none⟩ v11) :=
  ((((((((((((s.st1 h1 0 v0).st1 h1 1 v1).st1 h1 2 v2).st1 h1 3 v3).st1 h1 4 v4).st1 h1 5 v5).st1 h1 6 v6).st1 h1 7 v7).st1 h1 8 v8).st1 h1 9 v9).st1 h1 10 v10).st1 h1 11 v11)
theorem DM.new {w W : World} {cs : Array Value} (s : DS w W) : DM w (W.alloc (.cells cs 36)) W.heap.size cs :=
  ⟨below_next s.b (below_alloc (Below.refl _ _) _), s.r.alloc _, Blk.new _ _ _, s.r.lt⟩
theorem DM.twelve {w W : World} {bh : Nat} {hd : Array Value} (s : DM w W bh hd) (hh : hd = #[.int .i64 0, .string ⟨#[]⟩, .string ⟨#[]⟩, .string ⟨#[]⟩, .string ⟨#[]⟩, .string ⟨#[]⟩, .int .u8 0, .int .i64 0, .int .i64 0, .int .i64 0, .int .i64 0, .int .i64 0]) (v0 v1 v2 v3 v4 v5 v6 v7 v8 v9 v10 v11 : Value) : DM w (World.setCell (World.setCell (World.setCell (World.setCell (World.setCell (World.setCell (World.setCell (World.setCell (World.setCell (World.setCell (World.setCell (World.setCell W ⟨bh, 0, none⟩ v0) ⟨bh, 1, none⟩ v1) ⟨bh, 2, none⟩ v2) ⟨bh, 3, none⟩ v3) ⟨bh, 4, none⟩ v4) ⟨bh, 5, none⟩ v5) ⟨bh, 6, none⟩ v6) ⟨bh, 7, none⟩ v7) ⟨bh, 8, none⟩ v8) ⟨bh, 9, none⟩ v9) ⟨bh, 10, none⟩ v10) ⟨bh, 11, none⟩ v11) bh #[v0, v1, v2, v3, v4, v5, v6, v7, v8, v9, v10, v11] := by
  subst hh
  have h := ((((((((((((s.set 0 v0).set 1 v1).set 2 v2).set 3 v3).set 4 v4).set 5 v5).set 6 v6).set 7 v7).set 8 v8).set 9 v9).set 10 v10).set 11 v11)
  exact ⟨h.b, h.r, by simpa using h.h, h.n⟩
theorem hblk_of_below {W w1 : World} {cs : Array Value} {t : TypeId} (h : Below (W.alloc (.cells cs t)).heap.size (W.alloc (.cells cs t)) w1) : Blk w1 W.heap.size t cs := (Blk.new W t cs).below h (by simp)
theorem hblk_of_below_d {W w1 : World} {cs : Array Value} {t : TypeId} (h : Below (World.drew (W.alloc (.cells cs t))).heap.size (World.drew (W.alloc (.cells cs t))) w1) : Blk w1 W.heap.size t cs := (Blk.new W t cs).drew.below h (by simp)
abbrev TT5 : TypeId := 184
structure DT (w wc : World) (bh : Nat) (hd : Array Value) (tb : Nat) (tab : Array Value) : Prop extends DM w wc bh hd where
  t : Blk wc tb TT5 tab
  n2 : bh ≠ tb
theorem DT.next {w wc w' : World} {bh : Nat} {hd : Array Value} {tb : Nat} {tab : Array Value} (s : DT w wc bh hd tb tab) (hb : Below wc.heap.size wc w') : DT w w' bh hd tb tab := ⟨s.toDM.next hb, s.t.below hb s.t.lt, s.n2⟩
theorem DT.set {w wc : World} {bh : Nat} {hd : Array Value} {tb : Nat} {tab : Array Value} (s : DT w wc bh hd tb tab) (i : Nat) (v : Value) : DT w (wc.setCell ⟨bh, i, none⟩ v) bh (hd.setIfInBounds i v) tb tab :=
  ⟨s.toDM.set i v, s.t.far (p := ⟨bh, i, none⟩) (Ne.symm s.n2) v, s.n2⟩
/-- The header's cells behind so many rounds. -/
def hdK (n0 n1 : ByteArray) (typ : Int) (l : List Int) : Nat → Array Value
  | 0 => #[.int .i64 0, .string n0, .string n1, .string ⟨#[]⟩, .string ⟨#[]⟩, .string ⟨#[]⟩, .int .u8 typ, .int .i64 0, .int .i64 0, .int .i64 0, .int .i64 0, .int .i64 0]
  | k + 1 => (hdK n0 n1 typ l k).setIfInBounds (7 + k) (.int .i64 (numQ l k).1)
theorem hdK_cell (n0 n1 : ByteArray) (typ : Int) (l : List Int) : ∀ k j, k ≤ j → j < 5 → (hdK n0 n1 typ l k)[7 + j]? = some (.int .i64 0)
  | 0, j, _, hj => by rcases (by omega : j = 0 ∨ j = 1 ∨ j = 2 ∨ j = 3 ∨ j = 4) with rfl | rfl | rfl | rfl | rfl <;> rfl
  | k + 1, j, hk, hj => by
    rw [hdK, Array.getElem?_setIfInBounds_ne (by omega)]
    exact hdK_cell n0 n1 typ l k j (by omega) hj
theorem hdK_five (n0 n1 : ByteArray) (typ : Int) (l : List Int) : hdK n0 n1 typ l 5 = #[.int .i64 0, .string n0, .string n1, .string ⟨#[]⟩, .string ⟨#[]⟩, .string ⟨#[]⟩, .int .u8 typ, .int .i64 (numQ l 0).1, .int .i64 (numQ l 1).1, .int .i64 (numQ l 2).1, .int .i64 (numQ l 3).1, .int .i64 (numQ l 4).1] := by
  simp [hdK]
theorem nFr_facts (k : Nat) (hk : k < 5) : nFr k < nFr (k + 1) ∧ nFr (k + 1) ≤ 148 ∧ 8 ≤ nFr (k + 1) - nFr k ∧ nFr (k + 1) - nFr k ≤ 12 := by
  rcases (by omega : k = 0 ∨ k = 1 ∨ k = 2 ∨ k = 3 ∨ k = 4) with rfl | rfl | rfl | rfl | rfl <;> decide
theorem blk3 {wc : World} {Z : Nat} {t : TypeId} {h0 h1 h2 : Value} (s : Blk wc Z t #[h0, h1, h2]) : wc.cell? ⟨Z, 0, none⟩ = some h0 ∧ wc.cell? ⟨Z, 1, none⟩ = some h1 ∧ wc.cell? ⟨Z, 2, none⟩ = some h2 := ⟨s.cell 0, s.cell 1, s.cell 2⟩
theorem parse_any (A : Option Addr) (c : Nat) (x : List Int) (w : World) (hC : Kd.C (Kd.int .u8) w A x.length x) (hc : x.length ≤ c) (h2 : 2 ≤ x.length) (hx : x.length ≤ 1000000) (hb : ∀ y ∈ x, 0 ≤ y ∧ y < 256) :
    Calls Tryz.prog 93 #[.slice A x.length c] w fun e w' => e = .returned (.tuple #[.int .i64 (octV x).1, .int .i64 (octV x).2]) ∧ Below w.heap.size w w' :=
  PPua.octal_Parse.calls (0 + 2 * x.length + 6) A c x (octV x).1 (octV x).2 w hC hc (PPua.parse_val x hx h2 hb 0)
/-- The first number that is none. -/
theorem dec_bad {l : List Int} {k : Nat} (hl : l.length = 512) (hr : rightV l = true) (hk : k < 5) (h0 : ∀ j, j < k → (numQ l j).2 = 0) (hq : (numQ l k).2 ≠ 0) : decV l = (hd0, (numQ l k).2) := by
  unfold decV
  rw [if_neg (by omega), if_neg (by rw [hr]; decide)]
  rcases (by omega : k = 0 ∨ k = 1 ∨ k = 2 ∨ k = 3 ∨ k = 4) with rfl | rfl | rfl | rfl | rfl
  · rw [if_pos hq]
  · rw [if_neg (by rw [h0 0 (by omega)]; decide), if_pos hq]
  · rw [if_neg (by rw [h0 0 (by omega)]; decide), if_neg (by rw [h0 1 (by omega)]; decide), if_pos hq]
  · rw [if_neg (by rw [h0 0 (by omega)]; decide), if_neg (by rw [h0 1 (by omega)]; decide), if_neg (by rw [h0 2 (by omega)]; decide), if_pos hq]
  · rw [if_neg (by rw [h0 0 (by omega)]; decide), if_neg (by rw [h0 1 (by omega)]; decide), if_neg (by rw [h0 2 (by omega)]; decide), if_neg (by rw [h0 3 (by omega)]; decide), if_pos hq]
theorem nums_inj : ∀ (a b : List Int), (∀ x ∈ a, 0 ≤ x ∧ x < 256) → (∀ x ∈ b, 0 ≤ x ∧ x < 256) → (a.map fun n => UInt8.ofNat n.toNat) = (b.map fun n => UInt8.ofNat n.toNat) → a = b
  | [], [], _, _, _ => rfl
  | [], y :: b, _, _, h => by simp at h
  | x :: a, [], _, _, h => by simp at h
  | x :: a, y :: b, ha, hb, h => by
    simp only [List.map_cons, List.cons.injEq] at h
    have h1 := ha x (by simp)
    have h2 := hb y (by simp)
    have e := congrArg UInt8.toNat h.1
    rw [UInt8.toNat_ofNat', UInt8.toNat_ofNat'] at e
    rw [nums_inj a b (fun z hz => ha z (by simp [hz])) (fun z hz => hb z (by simp [hz])) h.2]
    congr 1
    omega
theorem strNums_ne {a b : List Int} (ha : ∀ x ∈ a, 0 ≤ x ∧ x < 256) (hb : ∀ x ∈ b, 0 ≤ x ∧ x < 256) (h : a ≠ b) : strOfNums a ≠ strOfNums b := fun e => h (nums_inj a b ha hb (congrArg (fun s : ByteArray => s.data.toList) e))
def FP (l : List Int) (f : Int) (p : ByteArray) : Prop := (fldL l 257 265 = ustarM ∧ f = 1 ∧ p = textZ (fldL l 345 500)) ∨ (fldL l 257 265 = gnuM ∧ f = 2 ∧ p = ⟨#[]⟩)
theorem dec_good {l : List Int} (hl : l.length = 512) (hr : rightV l = true) (h0 : ∀ j, j < 5 → (numQ l j).2 = 0) : decV l =
    (⟨(if fldL l 257 265 = ustarM then 1 else if fldL l 257 265 = gnuM then 2 else 0), textZ (fldL l 0 100), textZ (fldL l 157 257), (if fldL l 257 265 = ustarM then textZ (fldL l 345 500) else ⟨#[]⟩),
    (if fldL l 257 265 = ustarM ∨ fldL l 257 265 = gnuM then textZ (fldL l 265 297) else ⟨#[]⟩), (if fldL l 257 265 = ustarM ∨ fldL l 257 265 = gnuM then textZ (fldL l 297 329) else ⟨#[]⟩),
    l.getD 156 0, (numQ l 0).1, (numQ l 1).1, (numQ l 2).1, (numQ l 3).1, (numQ l 4).1⟩, 0) := by
  unfold decV
  rw [if_neg (by omega), if_neg (by rw [hr]; decide), if_neg (by rw [h0 0 (by omega)]; decide), if_neg (by rw [h0 1 (by omega)]; decide), if_neg (by rw [h0 2 (by omega)]; decide), if_neg (by rw [h0 3 (by omega)]; decide), if_neg (by rw [h0 4 (by omega)]; decide)]
theorem FP.val {l : List Int} {f : Int} {p : ByteArray} (h : FP l f p) (hl : l.length = 512) (hr : rightV l = true) (h0 : ∀ j, j < 5 → (numQ l j).2 = 0) : decV l =
    (⟨f, textZ (fldL l 0 100), textZ (fldL l 157 257), p, textZ (fldL l 265 297), textZ (fldL l 297 329), l.getD 156 0, (numQ l 0).1, (numQ l 1).1, (numQ l 2).1, (numQ l 3).1, (numQ l 4).1⟩, 0) := by
  rw [dec_good hl hr h0]
  have hne : gnuM ≠ ustarM := by decide
  rcases h with ⟨e, rfl, rfl⟩ | ⟨e, rfl, rfl⟩
  · rw [if_pos e, if_pos e, if_pos (.inl e), if_pos (.inl e)]
  · rw [if_neg (by rw [e]; exact hne), if_pos e, if_neg (by rw [e]; exact hne), if_pos (.inr e), if_pos (.inr e)]
theorem none_val {l : List Int} (hl : l.length = 512) (hr : rightV l = true) (h0 : ∀ j, j < 5 → (numQ l j).2 = 0) (h1 : fldL l 257 265 ≠ ustarM) (h2 : fldL l 257 265 ≠ gnuM) : decV l =
    (⟨0, textZ (fldL l 0 100), textZ (fldL l 157 257), ⟨#[]⟩, ⟨#[]⟩, ⟨#[]⟩, l.getD 156 0, (numQ l 0).1, (numQ l 1).1, (numQ l 2).1, (numQ l 3).1, (numQ l 4).1⟩, 0) := by
  rw [dec_good hl hr h0, if_neg h1, if_neg h2, if_neg h1, if_neg (by rintro (h | h); exact h1 h; exact h2 h), if_neg (by rintro (h | h); exact h1 h; exact h2 h)]
set_option maxHeartbeats 8000000 in
set_option maxRecDepth 100000 in
theorem dec_main (ad : Addr) (c : Nat) (l : List Int) (w : World) (hC : Kd.C (Kd.int .u8) w (some ad) l.length l) (hc : l.length ≤ c) (hl : l.length = 512) (hb : ∀ y ∈ l, 0 ≤ y ∧ y < 256) (hr : rightV l = true) (he : EnvE w) :
    Calls Tryz.prog 63 #[.slice (some ad) l.length c] w (DecEnd (decV l) w) := by
  have hp := PPua.right_val l hl hb 0
  rw [hr] at hp
  have HR := Lib.hid (fun W (hW : Below w.heap.size w W) => PPua.sum_Right.calls 22 (some ad) c l true W (Kd.C_below hC hW) hc hp)
  obtain ⟨A1, cut1, C1, k1⟩ := mid_run (some ad) c l w hC hc 0 100 (by omega) (by omega)
  obtain ⟨A2, cut2, C2, k2⟩ := mid_run (some ad) c l w hC hc 157 257 (by omega) (by omega)
  have l1 : (fldL l 0 100).length = 100 := PPua.fld_len (by omega) (by omega)
  have l2 : (fldL l 157 257).length = 100 := PPua.fld_len (by omega) (by omega)
  have HT1 : Hid (∀ W, Below w.heap.size w W → Calls Tryz.prog 92 #[.slice A1 100 c] W (Gives (.string (textZ (fldL l 0 100))) W)) := fun W hW => by
    have := text_any A1 c (fldL l 0 100) W (by rw [l1]; exact Kd.C_below C1 hW) (by omega) (by omega) (PPua.fld_range hb 0 100) (he.below hW)
    rw [l1] at this
    exact this
  have HT2 : Hid (∀ W, Below w.heap.size w W → Calls Tryz.prog 92 #[.slice A2 100 (c - 157)] W (Gives (.string (textZ (fldL l 157 257))) W)) := fun W hW => by
    have := text_any A2 (c - 157) (fldL l 157 257) W (by rw [l2]; exact Kd.C_below C2 hW) (by omega) (by omega) (PPua.fld_range hb 157 257) (he.below hW)
    rw [l2] at this
    exact this
  have cut1' : ∀ W : World, (Instr.slice 32 (.slice (some ad) 512 c) (some (.int .i64 0)) (some (.int .i64 100)) none).run Tryz.prog W = .ok (.slice A1 100 c) W := by rw [hl] at cut1; exact cut1
  have cut2' : ∀ W : World, (Instr.slice 32 (.slice (some ad) 512 c) (some (.int .i64 157)) (some (.int .i64 257)) none).run Tryz.prog W = .ok (.slice A2 100 (c - 157)) W := by rw [hl] at cut2; exact cut2
  obtain ⟨ad', e', x156⟩ := Kd.at_int hC 156 (by omega) (by omega)
  cases e'
  obtain ⟨typ, htyp⟩ : ∃ typ, rd l 156 = typ := ⟨_, rfl⟩
  rw [htyp] at x156
  have hadl : ad.block < w.heap.size := by
    have := cell_lt x156
    rwa [block_of_add] at this
  have HX : Hid (∀ W, Below w.heap.size w W → W.cell? ⟨ad.block, ad.off + 156, none⟩ = some (.int .u8 typ)) := fun W hW => (hW.cell (p := ad.add 156) (by rw [block_of_add]; exact hadl)).trans x156
  have HTY := Lib.hid htyp
  rw [hl] at HR ⊢
  have HCC := Lib.hid hC
  have HBT := Lib.hid hb
  have HRT := Lib.hid hr
  have HL := Lib.hid hl
  have HEE := Lib.hid he
  have hc5 : 512 ≤ c := by omega
  clear hC hc hl hb hr hp cut1 cut2 C1 C2 k1 k2 l1 l2 x156 htyp he
  have HB0 : Aside0 (Below w.heap.size w (w.alloc (.cells #[.int .i64 0, .string ⟨#[]⟩, .string ⟨#[]⟩, .string ⟨#[]⟩, .string ⟨#[]⟩, .string ⟨#[]⟩, .int .u8 0, .int .i64 0, .int .i64 0, .int .i64 0, .int .i64 0, .int .i64 0] 36)) ∧ Blk (w.alloc (.cells #[.int .i64 0, .string ⟨#[]⟩, .string ⟨#[]⟩, .string ⟨#[]⟩, .string ⟨#[]⟩, .string ⟨#[]⟩, .int .u8 0, .int .i64 0, .int .i64 0, .int .i64 0, .int .i64 0, .int .i64 0] 36)) w.heap.size 36 #[.int .i64 0, .string ⟨#[]⟩, .string ⟨#[]⟩, .string ⟨#[]⟩, .string ⟨#[]⟩, .string ⟨#[]⟩, .int .u8 0, .int .i64 0, .int .i64 0, .int .i64 0, .int .i64 0, .int .i64 0]) := ⟨below_alloc (Below.refl _ _) _, Blk.new w _ _⟩
  go_enter Tryz.func63, Tryz.ntmps63
  go_upto_block 0 with (fail)
  generalize w.alloc _ = W1 at HB0 ⊢
  have HR1 := Lib.hid (HR.out W1 HB0.out.1)
  clear HR
  go_upto_region 5 with (go_at_call 91; (with_reducible refine HR1.out.mono ?_); rintro e w1 ⟨rfl, hb1⟩)
  have hBB : DS w w1 := ⟨below_next HB0.out.1 hb1, HB0.out.2.below hb1 HB0.out.2.lt⟩
  have BB := Aside0.mk hBB
  have q3 := hBB.r.lt
  have HKK := Aside0.mk (show ∀ w', DS w w' → (Aside0 (DS w w') ∧ w'.cell? ⟨ad.block, ad.off + 156, none⟩ = some (.int .u8 typ)) from fun w' s => ⟨⟨s⟩, HX.out _ s.b⟩)
  have hst := HKK.out _ hBB
  clear HR1 HB0 hb1 hBB
  go_cut [4] (fun v4 wc => ∃ bh, v4 = .pointer (some ⟨bh, 0, none⟩) ∧ Aside0 (DM w wc bh #[.int .i64 0, .string (textZ (fldL l 0 100)), .string (textZ (fldL l 157 257)), .string ⟨#[]⟩, .string ⟨#[]⟩, .string ⟨#[]⟩, .int .u8 typ, .int .i64 0, .int .i64 0, .int .i64 0, .int .i64 0, .int .i64 0]))
  case first =>
    go_region_held3 (fun w' => Aside0 (DS w w') ∧ w'.cell? ⟨ad.block, ad.off + 156, none⟩ = some (.int .u8 typ)) (with_reducible first | (refine HKK.out _ ?_; refine DS.twelve hLn ?_ _ _ _ _ _ _ _ _ _ _ _ _; omega) | exact HKK.out _ (BB.out.next ((Below.refl _ _).drew)) | exact HKK.out _ hLn | exact HKK.out _ (BB.out.next (below_alloc ((Below.refl _ _).drew) _)) | exact HKK.out _ (hLn.next (below_alloc (Below.refl _ _) _))) (first | (go_at_call 92; (with_reducible refine (HT1.out _ (‹Aside0 (DS w _) ∧ _›).1.out.b).mono ?_); rintro e w3 ⟨rfl, hb3⟩; have hLn := (‹Aside0 (DS w _) ∧ _›).1.out.next hb3; have hq3 := hLn.r.lt; have shb3 := hb3.size; (try simp at shb3); (first | (with_reducible have hz := Aside0.mk (hblk_of_below hb3)) | (with_reducible have hz := Aside0.mk (hblk_of_below_d hb3)) | (with_reducible have hz := Aside0.mk (Blk.below hz.out hb3 hz.out.lt)) | skip); (first | (have hz := Aside0.mk (show Blk _ w1.heap.size _ _ from hz.out)) | skip); (first | (have hzz := blk12 hz.out; have hzf := froz12 hz.out; obtain ⟨z0, z1, z2, z3, z4, z5, z6, z7, z8, z9, z10, z11⟩ := hzz; obtain ⟨z12, z13, z14, z15, z16, z17, z18, z19, z20, z21, z22, z23⟩ := hzf) | skip)) | (go_at_call 92; (with_reducible refine (HT2.out _ (‹Aside0 (DS w _) ∧ _›).1.out.b).mono ?_); rintro e w3 ⟨rfl, hb3⟩; have hLn := (‹Aside0 (DS w _) ∧ _›).1.out.next hb3; have hq3 := hLn.r.lt; have shb3 := hb3.size; (try simp at shb3); (first | (with_reducible have hz := Aside0.mk (hblk_of_below hb3)) | (with_reducible have hz := Aside0.mk (hblk_of_below_d hb3)) | (with_reducible have hz := Aside0.mk (Blk.below hz.out hb3 hz.out.lt)) | skip); (first | (have hz := Aside0.mk (show Blk _ w1.heap.size _ _ from hz.out)) | skip); (first | (have hzz := blk12 hz.out; have hzf := froz12 hz.out; obtain ⟨z0, z1, z2, z3, z4, z5, z6, z7, z8, z9, z10, z11⟩ := hzz; obtain ⟨z12, z13, z14, z15, z16, z17, z18, z19, z20, z21, z22, z23⟩ := hzf) | skip)))
    all_goals go_wp2
    all_goals go_meet
    all_goals first
      | (with_reducible exact ⟨_, rfl, ⟨DM.new hLn⟩⟩)
      | (with_reducible refine ⟨_, rfl, ⟨DM.twelve (DM.new hLn) ?_ _ _ _ _ _ _ _ _ _ _ _ _⟩⟩; · rfl)
      | (with_reducible refine ⟨_, rfl, ⟨DM.twelve (hd := #[.int .i64 0, .string ⟨#[]⟩, .string ⟨#[]⟩, .string ⟨#[]⟩, .string ⟨#[]⟩, .string ⟨#[]⟩, .int .u8 0, .int .i64 0, .int .i64 0, .int .i64 0, .int .i64 0, .int .i64 0]) ⟨hLn.b, hLn.r, hz.out, ?_⟩ rfl _ _ _ _ _ _ _ _ _ _ _ _⟩⟩; first | assumption | omega)
  case rest =>
    obtain ⟨bh, rfl, HS⟩ := hcut
    clear hst BB
    go_step
    go_upto_block 1 with (fail)
    obtain ⟨n0, hn0⟩ : ∃ n0, textZ (fldL l 0 100) = n0 := ⟨_, rfl⟩
    obtain ⟨n1, hn1⟩ : ∃ n1, textZ (fldL l 157 257) = n1 := ⟨_, rfl⟩
    have HN0 := Lib.hid hn0
    have HN1 := Lib.hid hn1
    rw [hn0, hn1] at HS
    clear hn0 hn1 HT1 HT2 cut1' cut2' HX
    have S1 : Aside0 (DT w (wc.alloc (.cells #[.pointer (some ⟨bh, 7, none⟩), .int .i64 100, .int .i64 108, .pointer (some ⟨bh, 8, none⟩), .int .i64 108, .int .i64 116, .pointer (some ⟨bh, 9, none⟩), .int .i64 116, .int .i64 124, .pointer (some ⟨bh, 10, none⟩), .int .i64 124, .int .i64 136, .pointer (some ⟨bh, 11, none⟩), .int .i64 136, .int .i64 148] TT5)) bh (hdK n0 n1 typ l 0) wc.heap.size #[.pointer (some ⟨bh, 7, none⟩), .int .i64 100, .int .i64 108, .pointer (some ⟨bh, 8, none⟩), .int .i64 108, .int .i64 116, .pointer (some ⟨bh, 9, none⟩), .int .i64 116, .int .i64 124, .pointer (some ⟨bh, 10, none⟩), .int .i64 124, .int .i64 136, .pointer (some ⟨bh, 11, none⟩), .int .i64 136, .int .i64 148]) := ⟨⟨HS.out.next (below_alloc (Below.refl _ _) _), Blk.new _ _ _, Nat.ne_of_lt HS.out.h.lt⟩⟩
    obtain ⟨tb, htb⟩ : ∃ tb, wc.heap.size = tb := ⟨_, rfl⟩
    rw [htb] at S1 ⊢
    clear htb HS
    generalize wc.alloc _ = W2 at S1 ⊢
    go_cut [] (fun wc => Aside0 (DM w wc bh (hdK n0 n1 typ l 5)) ∧ Hid (∀ j, j < 5 → (numQ l j).2 = 0))
    case first =>
      go_wp2_with fail
      go_loopw [41] (fun i wr => ∃ k : Nat, k ≤ 5 ∧ i = .int .i64 k ∧ Hid (∀ j, j < k → (numQ l j).2 = 0) ∧ Aside0 (DT w wr bh (hdK n0 n1 typ l k) tb #[.pointer (some ⟨bh, 7, none⟩), .int .i64 100, .int .i64 108, .pointer (some ⟨bh, 8, none⟩), .int .i64 108, .int .i64 116, .pointer (some ⟨bh, 9, none⟩), .int .i64 116, .int .i64 124, .pointer (some ⟨bh, 10, none⟩), .int .i64 124, .int .i64 136, .pointer (some ⟨bh, 11, none⟩), .int .i64 136, .int .i64 148])) (fun i _ => 5 - (intOf i).toNat)
      case atStart => exact ⟨0, by omega, rfl, (fun j hj => absurd hj (by omega)), S1⟩
      case round =>
        clear S1
        obtain ⟨k, hk, rfl, H0, SK⟩ := hrel
        by_cases hlt : k < 5
        · have hc3 : ∃ (a b : Nat), nFr k = a ∧ nFr (k + 1) = b ∧ wr.cell? ⟨tb, k * 3, none⟩ = some (.pointer (some ⟨bh, 7 + k, none⟩)) ∧ wr.cell? ⟨tb, k * 3 + 1, none⟩ = some (.int .i64 a) ∧ wr.cell? ⟨tb, k * 3 + 2, none⟩ = some (.int .i64 b) := by
            have q := fun i => SK.out.t.cell i
            rcases (by omega : k = 0 ∨ k = 1 ∨ k = 2 ∨ k = 3 ∨ k = 4) with rfl | rfl | rfl | rfl | rfl
            · exact ⟨_, _, rfl, rfl, q 0, q 1, q 2⟩
            · exact ⟨_, _, rfl, rfl, q 3, q 4, q 5⟩
            · exact ⟨_, _, rfl, rfl, q 6, q 7, q 8⟩
            · exact ⟨_, _, rfl, rfl, q 9, q 10, q 11⟩
            · exact ⟨_, _, rfl, rfl, q 12, q 13, q 14⟩
          obtain ⟨a, b, ha, hb, c0, c1, c2⟩ := hc3
          obtain ⟨g1, g2, g3, g4⟩ := nFr_facts k hlt
          rw [ha, hb] at g1 g3 g4
          rw [hb] at g2
          have hlen := HL.out
          obtain ⟨Ak, cutk, Ck, kk⟩ := mid_run (some ad) c l w HCC.out (by omega) a b (by omega) (by omega)
          have lk : (fldL l a b).length = b - a := PPua.fld_len (by omega) (by omega)
          rw [hlen] at cutk
          have HP : Hid (∀ W, Below w.heap.size w W → Calls Tryz.prog 93 #[.slice Ak (b - a) (c - a)] W fun e w' => e = .returned (.tuple #[.int .i64 (octV (fldL l a b)).1, .int .i64 (octV (fldL l a b)).2]) ∧ Below W.heap.size W w') := fun W hW => by
            have := parse_any Ak (c - a) (fldL l a b) W (by rw [lk]; exact Kd.C_below Ck hW) (by omega) (by omega) (by omega) (PPua.fld_range HBT.out a b)
            rw [lk] at this
            exact this
          have hqq : octV (fldL l a b) = numQ l k := by unfold numQ; rw [ha, hb]
          obtain ⟨q1, q2, hq⟩ : ∃ q1 q2, octV (fldL l a b) = (q1, q2) := ⟨_, _, rfl⟩
          rw [hq] at HP hqq
          have HQ := Lib.hid hqq
          have HPW : Hid (∀ W, Below wr.heap.size wr W → Calls Tryz.prog 93 #[.slice Ak (b - a) (c - a)] W fun e w' => e = .returned (.tuple #[.int .i64 q1, .int .i64 q2]) ∧ Below W.heap.size W w') := fun W hW => HP.out W (below_next SK.out.b hW)
          clear ha hb hlen Ck lk hq hqq HP
          have sbh := SK.out.h.lt
          have stb := SK.out.t.lt
          go_upto_region 10 with (go_at_call 93; (with_reducible refine (HPW.out _ (below_alloc (Below.refl _ _) _)).mono ?_); rintro e w4 ⟨rfl, hb4⟩)
          obtain ⟨d0, d1, d2⟩ := blk3 (hblk_of_below hb4)
          have SW : Aside0 (DT w w4 bh (hdK n0 n1 typ l k) tb #[.pointer (some ⟨bh, 7, none⟩), .int .i64 100, .int .i64 108, .pointer (some ⟨bh, 8, none⟩), .int .i64 108, .int .i64 116, .pointer (some ⟨bh, 9, none⟩), .int .i64 116, .int .i64 124, .pointer (some ⟨bh, 10, none⟩), .int .i64 124, .int .i64 136, .pointer (some ⟨bh, 11, none⟩), .int .i64 136, .int .i64 148]) := ⟨(SK.out.next (below_alloc (Below.refl _ _) _)).next hb4⟩
          clear SK hb4 c0 c1 c2 cutk HPW
          obtain ⟨b6, hb6⟩ : ∃ b6, wr.heap.size = b6 := ⟨_, rfl⟩
          rw [hb6] at d0 d1 d2 ⊢
          clear hb6
          by_cases hz : q2 = 0
          · have HZ := Lib.hid hz
            subst hz
            have e7 : w4.cell? ⟨bh, 7 + k, none⟩ = some (.int .i64 0) := by rw [SW.out.h.cell]; exact hdK_cell n0 n1 typ l k k (Nat.le_refl _) hlt
            have f7 := SW.out.h.frozen (7 + k)
            go_wp2
            go_roundw
            case rel =>
              refine ⟨k + 1, by omega, by go_num, ?_, ⟨?_⟩⟩
              · intro j hj
                by_cases hjk : j < k
                · exact H0.out j hjk
                · obtain rfl : j = k := by omega
                  rw [← HQ.out]
              · have := SW.out.set (7 + k) (.int .i64 q1)
                have e : hdK n0 n1 typ l (k + 1) = (hdK n0 n1 typ l k).setIfInBounds (7 + k) (.int .i64 q1) := by rw [hdK, ← HQ.out]
                rw [e]
                exact this
            case measure => simp [intOf]; omega
          · have hdv : decV l = (hd0, q2) := by
              have := dec_bad (k := k) HL.out HRT.out hlt H0.out (by rw [← HQ.out]; exact hz)
              rw [this, ← HQ.out]
            have HDV := Lib.hid hdv
            have hz1 : (q2 == 0) = false := by simpa using hz
            have hz2 : (q2 != 0) = true := by simpa using hz
            obtain ⟨x0, x1, x2, x3, x4, x5, x6, x7, x8, x9, x10, x11⟩ := blk12 SW.out.r
            obtain ⟨y0, y1, y2, y3, y4, y5, y6, y7, y8, y9, y10, y11⟩ := froz12 SW.out.r
            clear hdv hz
            go_wp2
            rw [HDV.out]
            exact dec_rets SW.out.b SW.out.r (Nat.le_refl _) (hd0, q2) _ _ _ _ _ _ _ _ _ _ _ _ rfl rfl rfl
        · obtain rfl : k = 5 := by omega
          go_wp2
          go_meet
          case rel => exact ⟨⟨SK.out.toDM⟩, H0⟩
    case rest =>
      obtain ⟨HS5, H05⟩ := hcut
      go_step
      obtain ⟨m0, hm0⟩ : ∃ m, (numQ l 0).1 = m := ⟨_, rfl⟩
      obtain ⟨m1, hm1⟩ : ∃ m, (numQ l 1).1 = m := ⟨_, rfl⟩
      obtain ⟨m2, hm2⟩ : ∃ m, (numQ l 2).1 = m := ⟨_, rfl⟩
      obtain ⟨m3, hm3⟩ : ∃ m, (numQ l 3).1 = m := ⟨_, rfl⟩
      obtain ⟨m4, hm4⟩ : ∃ m, (numQ l 4).1 = m := ⟨_, rfl⟩
      rw [hdK_five, hm0, hm1, hm2, hm3, hm4] at HS5
      have HM : Hid ((numQ l 0).1 = m0 ∧ (numQ l 1).1 = m1 ∧ (numQ l 2).1 = m2 ∧ (numQ l 3).1 = m3 ∧ (numQ l 4).1 = m4) := ⟨hm0, hm1, hm2, hm3, hm4⟩
      clear hm0 hm1 hm2 hm3 hm4
      have hlen := HL.out
      obtain ⟨A3, cut3, C3, k3⟩ := mid_run (some ad) c l w HCC.out (by omega) 257 265 (by omega) (by omega)
      have l3 : (fldL l 257 265).length = 8 := PPua.fld_len (by omega) (by omega)
      have cut3' : ∀ W : World, (Instr.slice 32 (.slice (some ad) 512 c) (some (.int .i64 257)) (some (.int .i64 265)) none).run Tryz.prog W = .ok (.slice A3 8 (c - 257)) W := by rw [hlen] at cut3; exact cut3
      obtain ⟨M, hM⟩ : ∃ M, strOfNums (fldL l 257 265) = M := ⟨_, rfl⟩
      have hcv : (convert 32 9 (.slice A3 8 (c - 257))).run Tryz.prog wc = .ok (.string M) wc := by
        rw [← hM]
        exact Kd.C_string (n := 8) Tryz.underlying32 Tryz.underlying5 Tryz.underlying9 (Kd.C_below C3 HS5.out.b)
      have HMM := Lib.hid hM
      clear hM cut3 C3 k3 l3 hlen
      go_upto_block 3 with (fail)
      clear hcv cut3'
      have hlen := HL.out
      obtain ⟨A4, cut4, C4, k4⟩ := mid_run (some ad) c l w HCC.out (by omega) 345 500 (by omega) (by omega)
      have l4 : (fldL l 345 500).length = 155 := PPua.fld_len (by omega) (by omega)
      have cut4' : ∀ W : World, (Instr.slice 32 (.slice (some ad) 512 c) (some (.int .i64 345)) (some (.int .i64 500)) none).run Tryz.prog W = .ok (.slice A4 155 (c - 345)) W := by rw [hlen] at cut4; exact cut4
      have HT4 : Hid (∀ W, Below w.heap.size w W → Calls Tryz.prog 92 #[.slice A4 155 (c - 345)] W (Gives (.string (textZ (fldL l 345 500))) W)) := fun W hW => by
        have := text_any A4 (c - 345) (fldL l 345 500) W (by rw [l4]; exact Kd.C_below C4 hW) (by omega) (by omega) (PPua.fld_range HBT.out 345 500) (HEE.out.below hW)
        rw [l4] at this
        exact this
      clear cut4 C4 k4 l4 hlen
      obtain ⟨p4, hp4⟩ : ∃ p, textZ (fldL l 345 500) = p := ⟨_, rfl⟩
      rw [hp4] at HT4
      have HP4 := Lib.hid hp4
      clear hp4
      go_cut [] (fun wc => ∃ (f : Int) (p : ByteArray), Aside0 (DM w wc bh #[.int .i64 f, .string n0, .string n1, .string p, .string ⟨#[]⟩, .string ⟨#[]⟩, .int .u8 typ, .int .i64 m0, .int .i64 m1, .int .i64 m2, .int .i64 m3, .int .i64 m4]) ∧ Hid (FP l f p))
      case first =>
        obtain ⟨x0, x1, x2, x3, x4, x5, x6, x7, x8, x9, x10, x11⟩ := blk12 HS5.out.h
        obtain ⟨y0, y1, y2, y3, y4, y5, y6, y7, y8, y9, y10, y11⟩ := froz12 HS5.out.h
        by_cases hu : fldL l 257 265 = ustarM
        · have HU := Lib.hid hu
          have hMu : M = ⟨#[117, 115, 116, 97, 114, 0, 48, 48]⟩ := by rw [← HMM.out, hu]; rfl
          subst hMu
          clear hu
          have SF : Aside0 (DM w (wc.setCell ⟨bh, 0, none⟩ (.int .i64 1)) bh #[.int .i64 1, .string n0, .string n1, .string ⟨#[]⟩, .string ⟨#[]⟩, .string ⟨#[]⟩, .int .u8 typ, .int .i64 m0, .int .i64 m1, .int .i64 m2, .int .i64 m3, .int .i64 m4]) := ⟨by simpa using HS5.out.set 0 (.int .i64 1)⟩
          have HT5 := Lib.hid (HT4.out _ SF.out.b)
          clear x1 x2 x4 x5 x6 x7 x8 x9 x10 x11
          go_wp2_with (go_at_call 92; (with_reducible refine HT5.out.mono ?_); rintro e w5 ⟨rfl, hb5⟩; have hD5 := SF.out.next hb5; have z3 : w5.cell? ⟨bh, 3, none⟩ = some (.string ⟨#[]⟩) := hD5.h.cell 3; have z3f := hD5.h.frozen 3; have HD5 := Aside0.mk hD5; clear hD5)
          go_meet
          case rel => exact ⟨1, p4, ⟨by simpa using HD5.out.set 3 (.string p4)⟩, .inl ⟨HU.out, rfl, HP4.out.symm⟩⟩
        · have hr1 := PPua.fld_range HBT.out 257 265
          have hMu : M ≠ ⟨#[117, 115, 116, 97, 114, 0, 48, 48]⟩ := by rw [← HMM.out]; exact strNums_ne (b := ustarM) hr1 (by decide) hu
          have b1 : (M.toList == [117, 115, 116, 97, 114, 0, 48, 48]) = false := by
            have e : (⟨#[117, 115, 116, 97, 114, 0, 48, 48]⟩ : ByteArray).toList = [117, 115, 116, 97, 114, 0, 48, 48] := by rw [ByteArray.toList_eq]
            rw [← e]; exact str_false hMu
          have HU := Lib.hid hu
          clear hu hMu
          by_cases hg : fldL l 257 265 = gnuM
          · have HG := Lib.hid hg
            have hMg : M = ⟨#[117, 115, 116, 97, 114, 32, 32, 0]⟩ := by rw [← HMM.out, hg]; rfl
            subst hMg
            clear hg hr1
            go_wp2
            go_meet
            case rel => exact ⟨2, ⟨#[]⟩, ⟨by simpa using HS5.out.set 0 (.int .i64 2)⟩, .inr ⟨HG.out, rfl, rfl⟩⟩
          · have hMg : M ≠ ⟨#[117, 115, 116, 97, 114, 32, 32, 0]⟩ := by rw [← HMM.out]; exact strNums_ne (b := gnuM) hr1 (by decide) hg
            have b2 : (M.toList == [117, 115, 116, 97, 114, 32, 32, 0]) = false := by
              have e : (⟨#[117, 115, 116, 97, 114, 32, 32, 0]⟩ : ByteArray).toList = [117, 115, 116, 97, 114, 32, 32, 0] := by rw [ByteArray.toList_eq]
              rw [← e]; exact str_false hMg
            have HG := Lib.hid hg
            clear hg hMg hr1
            obtain ⟨z0, z1, z2, z3, z4, z5, z6, z7, z8, z9, z10, z11⟩ := blk12 HS5.out.r
            obtain ⟨t0, t1, t2, t3, t4, t5, t6, t7, t8, t9, t10, t11⟩ := froz12 HS5.out.r
            go_wp2
            rw [none_val HL.out HRT.out H05.out HU.out HG.out]
            have hty : l.getD 156 0 = typ := HTY.out
            rw [hty, HN0.out, HN1.out, HM.out.1, HM.out.2.1, HM.out.2.2.1, HM.out.2.2.2.1, HM.out.2.2.2.2]
            exact dec_rets HS5.out.b HS5.out.r (Nat.le_refl _) (⟨0, n0, n1, ⟨#[]⟩, ⟨#[]⟩, ⟨#[]⟩, typ, m0, m1, m2, m3, m4⟩, 0) _ _ _ _ _ _ _ _ _ _ _ _ rfl rfl rfl
      case rest =>
        obtain ⟨f, p, HD, HF⟩ := hcut
        go_step
        clear HT4 HS5
        have hlen := HL.out
        obtain ⟨A5, cut5, C5, k5⟩ := mid_run (some ad) c l w HCC.out (by omega) 265 297 (by omega) (by omega)
        obtain ⟨A6, cut6, C6, k6⟩ := mid_run (some ad) c l w HCC.out (by omega) 297 329 (by omega) (by omega)
        have l5 : (fldL l 265 297).length = 32 := PPua.fld_len (by omega) (by omega)
        have l6 : (fldL l 297 329).length = 32 := PPua.fld_len (by omega) (by omega)
        have cut5' : ∀ W : World, (Instr.slice 32 (.slice (some ad) 512 c) (some (.int .i64 265)) (some (.int .i64 297)) none).run Tryz.prog W = .ok (.slice A5 32 (c - 265)) W := by rw [hlen] at cut5; exact cut5
        have cut6' : ∀ W : World, (Instr.slice 32 (.slice (some ad) 512 c) (some (.int .i64 297)) (some (.int .i64 329)) none).run Tryz.prog W = .ok (.slice A6 32 (c - 297)) W := by rw [hlen] at cut6; exact cut6
        have HT5 : Hid (∀ W, Below w.heap.size w W → Calls Tryz.prog 92 #[.slice A5 32 (c - 265)] W (Gives (.string (textZ (fldL l 265 297))) W)) := fun W hW => by
          have := text_any A5 (c - 265) (fldL l 265 297) W (by rw [l5]; exact Kd.C_below C5 hW) (by omega) (by omega) (PPua.fld_range HBT.out 265 297) (HEE.out.below hW)
          rw [l5] at this
          exact this
        have HT6 : Hid (∀ W, Below w.heap.size w W → Calls Tryz.prog 92 #[.slice A6 32 (c - 297)] W (Gives (.string (textZ (fldL l 297 329))) W)) := fun W hW => by
          have := text_any A6 (c - 297) (fldL l 297 329) W (by rw [l6]; exact Kd.C_below C6 hW) (by omega) (by omega) (PPua.fld_range HBT.out 297 329) (HEE.out.below hW)
          rw [l6] at this
          exact this
        clear cut5 cut6 C5 C6 k5 k6 l5 l6 hlen
        obtain ⟨p5, hp5⟩ : ∃ p, textZ (fldL l 265 297) = p := ⟨_, rfl⟩
        obtain ⟨p6, hp6⟩ : ∃ p, textZ (fldL l 297 329) = p := ⟨_, rfl⟩
        rw [hp5] at HT5
        rw [hp6] at HT6
        have HP5 := Lib.hid hp5
        have HP6 := Lib.hid hp6
        clear hp5 hp6
        go_upto_region 21 with (fail)
        go_cut [] (fun wc => Aside0 (DM w wc bh #[.int .i64 f, .string n0, .string n1, .string p, .string p5, .string p6, .int .u8 typ, .int .i64 m0, .int .i64 m1, .int .i64 m2, .int .i64 m3, .int .i64 m4]))
        case first =>
          go_region_with (first | ((with_reducible refine (HT5.out _ (by first | exact hLn.b | exact HD.out.b.drew | exact HD.out.b)).mono ?_); rintro e w6 ⟨rfl, hb6⟩; have hLn := (by first | exact hLn.next hb6 | exact HD.out.next (below_next ((Below.refl _ _).drew) hb6) | exact HD.out.next hb6 : DM w w6 bh #[.int .i64 f, .string n0, .string n1, .string p, .string ⟨#[]⟩, .string ⟨#[]⟩, .int .u8 typ, .int .i64 m0, .int .i64 m1, .int .i64 m2, .int .i64 m3, .int .i64 m4]); have r4 : w6.cell? ⟨bh, 4, none⟩ = some (.string ⟨#[]⟩) := hLn.h.cell 4; have r5 : w6.cell? ⟨bh, 5, none⟩ = some (.string ⟨#[]⟩) := hLn.h.cell 5; have r4f := hLn.h.frozen 4; have r5f := hLn.h.frozen 5) | ((with_reducible refine (HT6.out _ (by first | exact hLn.b | exact HD.out.b.drew | exact HD.out.b)).mono ?_); rintro e w6 ⟨rfl, hb6⟩; have hLn := (by first | exact hLn.next hb6 | exact HD.out.next (below_next ((Below.refl _ _).drew) hb6) | exact HD.out.next hb6 : DM w w6 bh #[.int .i64 f, .string n0, .string n1, .string p, .string ⟨#[]⟩, .string ⟨#[]⟩, .int .u8 typ, .int .i64 m0, .int .i64 m1, .int .i64 m2, .int .i64 m3, .int .i64 m4]); have r4 : w6.cell? ⟨bh, 4, none⟩ = some (.string ⟨#[]⟩) := hLn.h.cell 4; have r5 : w6.cell? ⟨bh, 5, none⟩ = some (.string ⟨#[]⟩) := hLn.h.cell 5; have r4f := hLn.h.frozen 4; have r5f := hLn.h.frozen 5))
          all_goals go_wp2
          all_goals go_meet
          exact ⟨by simpa using (hLn.set 4 (.string p5)).set 5 (.string p6)⟩
        case rest =>
          obtain ⟨z0, z1, z2, z3, z4, z5, z6, z7, z8, z9, z10, z11⟩ := blk12 hcut.out.r
          obtain ⟨t0, t1, t2, t3, t4, t5, t6, t7, t8, t9, t10, t11⟩ := froz12 hcut.out.r
          obtain ⟨x0, x1, x2, x3, x4, x5, x6, x7, x8, x9, x10, x11⟩ := blk12 hcut.out.h
          go_step
          go_wp2
          rw [HF.out.val HL.out HRT.out H05.out]
          have hty : l.getD 156 0 = typ := HTY.out
          rw [hty, HN0.out, HN1.out, HP5.out, HP6.out, HM.out.1, HM.out.2.1, HM.out.2.2.1, HM.out.2.2.2.1, HM.out.2.2.2.2]
          exact dec_rets hcut.out.b hcut.out.r (Nat.le_refl _) (⟨f, n0, n1, p, p5, p6, typ, m0, m1, m2, m3, m4⟩, 0) _ _ _ _ _ _ _ _ _ _ _ _ rfl rfl rfl
theorem dec_any (A : Option Addr) (c : Nat) (l : List Int) (w : World) (hC : Kd.C (Kd.int .u8) w A l.length l) (hc : l.length ≤ c) (hl2 : l.length ≤ 1000000) (hb : ∀ y ∈ l, 0 ≤ y ∧ y < 256) (he : EnvE w) :
    Calls Tryz.prog 63 #[.slice A l.length c] w (DecEnd (decV l) w) := by
  by_cases hl : l.length = 512
  · cases hr : rightV l with
    | false =>
      have e : decV l = (hd0, 50) := by unfold decV; rw [if_neg (by omega), if_pos hr]
      rw [e]
      exact dec_sum A c l w hC hc hl hb hr
    | true =>
      obtain ⟨ad, rfl, _⟩ := Kd.at_int hC 0 (by omega) (by omega)
      exact dec_main ad c l w hC hc hl hb hr he
  · have e : decV l = (hd0, 1) := by unfold decV; rw [if_pos hl]
    rw [e]
    exact dec_len A c l w hl hl2
end Go.Proofs.YtpbpfngichfgeaaGreatDoor
