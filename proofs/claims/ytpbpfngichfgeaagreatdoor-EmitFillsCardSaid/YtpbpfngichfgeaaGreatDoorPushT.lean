/-
  The parser's method thing, walked: an entry begins.
-/
import Derived.Test.YtpbpfngichfgeaaGreatDoorPushCs
namespace Go.Proofs.YtpbpfngichfgeaaGreatDoor
set_option linter.unusedVariables false
set_option linter.unusedSimpArgs false
open Go Go.RowKit Go.Proofs.YtpbpfngichfgeaaGreatDoorW.PrintWords Go.Proofs.YtpbpfngichfgeaaGreatDoorW.PrintLast Go.Proofs.YtpbpfngichfgeaaGreatDoorW.PrintMore

theorem blk10 {wc : World} {g : Nat} {t : TypeId} {h0 h1 h2 h3 h4 h5 h6 h7 h8 h9 : Value} (s : Blk wc g t #[h0, h1, h2, h3, h4, h5, h6, h7, h8, h9]) : wc.cell? ⟨g, 0, none⟩ = some h0 ∧ wc.cell? ⟨g, 1, none⟩ = some h1 ∧ wc.cell? ⟨g, 2, none⟩ = some h2 ∧ wc.cell? ⟨g, 3, none⟩ = some h3 ∧ wc.cell? ⟨g, 4, none⟩ = some h4 ∧ wc.cell? ⟨g, 5, none⟩ = some h5 ∧ wc.cell? ⟨g, 6, none⟩ = some h6 ∧ wc.cell? ⟨g, 7, none⟩ = some h7 ∧ wc.cell? ⟨g, 8, none⟩ = some h8 ∧ wc.cell? ⟨g, 9, none⟩ = some h9 :=
  ⟨s.cell 0, s.cell 1, s.cell 2, s.cell 3, s.cell 4, s.cell 5, s.cell 6, s.cell 7, s.cell 8, s.cell 9⟩
theorem froz10 {wc : World} {g : Nat} {t : TypeId} {cs : Array Value} (s : Blk wc g t cs) : wc.frozen? ⟨g, 0, none⟩ = false ∧ wc.frozen? ⟨g, 1, none⟩ = false ∧ wc.frozen? ⟨g, 2, none⟩ = false ∧ wc.frozen? ⟨g, 3, none⟩ = false ∧ wc.frozen? ⟨g, 4, none⟩ = false ∧ wc.frozen? ⟨g, 5, none⟩ = false ∧ wc.frozen? ⟨g, 6, none⟩ = false ∧ wc.frozen? ⟨g, 7, none⟩ = false ∧ wc.frozen? ⟨g, 8, none⟩ = false ∧ wc.frozen? ⟨g, 9, none⟩ = false :=
  ⟨s.frozen 0, s.frozen 1, s.frozen 2, s.frozen 3, s.frozen 4, s.frozen 5, s.frozen 6, s.frozen 7, s.frozen 8, s.frozen 9⟩
theorem below_ten {B be : Nat} {a W : World} (h : Below B a W) (hb : B ≤ be) (v0 v1 v2 v3 v4 v5 v6 v7 v8 v9 : Value) : Below B a (World.setCell (World.setCell (World.setCell (World.setCell (World.setCell (World.setCell (World.setCell (World.setCell (World.setCell (World.setCell W ⟨be, 0, none⟩ v0) ⟨be, 1, none⟩ v1) ⟨be, 2, none⟩ v2) ⟨be, 3, none⟩ v3) ⟨be, 4, none⟩ v4) ⟨be, 5, none⟩ v5) ⟨be, 6, none⟩ v6) ⟨be, 7, none⟩ v7) ⟨be, 8, none⟩ v8) ⟨be, 9, none⟩ v9) :=
  ((((((((((h.setCell (p := ⟨be, 0, none⟩) hb v0).setCell (p := ⟨be, 1, none⟩) hb v1).setCell (p := ⟨be, 2, none⟩) hb v2).setCell (p := ⟨be, 3, none⟩) hb v3).setCell (p := ⟨be, 4, none⟩) hb v4).setCell (p := ⟨be, 5, none⟩) hb v5).setCell (p := ⟨be, 6, none⟩) hb v6).setCell (p := ⟨be, 7, none⟩) hb v7).setCell (p := ⟨be, 8, none⟩) hb v8).setCell (p := ⟨be, 9, none⟩) hb v9)
structure NB (w1 W : World) (be : Nat) (cs : Array Value) : Prop where
  b : Below w1.heap.size w1 W
  e : Blk W be 41 cs
  n : w1.heap.size ≤ be
theorem NB.set {w1 W : World} {be : Nat} {cs : Array Value} (s : NB w1 W be cs) (i : Nat) (v : Value) : NB w1 (W.setCell ⟨be, i, none⟩ v) be (cs.setIfInBounds i v) := ⟨s.b.setCell (p := ⟨be, i, none⟩) s.n v, s.e.set_ i v, s.n⟩
theorem NB.new {w1 W : World} {cs : Array Value} (h : Below w1.heap.size w1 W) : NB w1 (W.alloc (.cells cs 41)) W.heap.size cs := ⟨below_next h (below_alloc (Below.refl _ _) _), Blk.new _ _ _, h.size⟩
theorem NB.ten {w1 W : World} {be : Nat} {cs : Array Value} (s : NB w1 W be cs) (hc : cs = #[.string ⟨#[]⟩, .string ⟨#[]⟩, .int .i64 0, .int .i64 0, .int .i64 0, .int .i64 0, .int .i64 0, .int .i64 0, .string ⟨#[]⟩, .string ⟨#[]⟩]) (v0 v1 v2 v3 v4 v5 v6 v7 v8 v9 : Value) : NB w1 (World.setCell (World.setCell (World.setCell (World.setCell (World.setCell (World.setCell (World.setCell (World.setCell (World.setCell (World.setCell W ⟨be, 0, none⟩ v0) ⟨be, 1, none⟩ v1) ⟨be, 2, none⟩ v2) ⟨be, 3, none⟩ v3) ⟨be, 4, none⟩ v4) ⟨be, 5, none⟩ v5) ⟨be, 6, none⟩ v6) ⟨be, 7, none⟩ v7) ⟨be, 8, none⟩ v8) ⟨be, 9, none⟩ v9) be #[v0, v1, v2, v3, v4, v5, v6, v7, v8, v9] := by
  subst hc
  have h := ((((((((((s.set 0 v0).set 1 v1).set 2 v2).set 3 v3).set 4 v4).set 5 v5).set 6 v6).set 7 v7).set 8 v8).set 9 v9)
  exact ⟨h.b, by simpa using h.e, h.n⟩
theorem recs_of {w : World} {A : Option Addr} {l : List Rec} (h : kRec.C w A l.length l) : Recs w A l := by
  rcases Nat.eq_zero_or_pos l.length with h0 | hpos
  · exact .inl (List.length_eq_zero_iff.1 h0)
  refine .inr ?_
  have at0 : ∀ i, i < l.length → ∃ ad : Addr, A = some ad ∧ w.cell? (ad.add (i * 2 + 0)) = some (.string (l.getD i default).1) ∧ w.cell? (ad.add (i * 2 + 1)) = some (.string (l.getD i default).2) := by
    intro i hi
    obtain ⟨ad, c, e, hlc, hk, hcell⟩ := ReadsRow.get_ h (default : Rec) (i : Int) (by omega) (by omega)
    obtain ⟨c0, c1, rfl, h0, h1⟩ := hk
    obtain rfl : c0 = [.string (l.getD i default).1] := h0
    obtain rfl : c1 = [.string (l.getD i default).2] := h1
    exact ⟨ad, e, hcell 0 _ rfl, hcell 1 _ rfl⟩
  obtain ⟨ad, e, h0, _⟩ := at0 0 hpos
  obtain ⟨b, off, sp⟩ := ad
  have hsp : sp = none := by
    simp only [Nat.zero_mul, Addr.add, if_true] at h0
    unfold World.cell? at h0
    split at h0
    · cases sp with
      | none => rfl
      | some _ => simp at h0
    · cases h0
  subst hsp
  have hlt := World.block_lt_of_cell? w _ h0
  have ea : ∀ k, (Addr.add ⟨b, off, none⟩ k) = ⟨b, off + k, none⟩ := by
    intro k
    unfold Addr.add
    split
    · rename_i h; rw [h]; rfl
    · rfl
  refine ⟨b, off, e, by simpa [Addr.add] using hlt, fun i hi => ?_⟩
  obtain ⟨ad', e', h0', h1'⟩ := at0 i hi
  obtain rfl : ad' = ⟨b, off, none⟩ := by rw [e] at e'; exact (Option.some.inj e').symm
  simp only [ea] at h0' h1'
  exact ⟨h0', h1'⟩
/-- How large a header's texts may be. -/
structure HdSm (h : Hd) : Prop where
  full : h.pre.size + h.name.size ≤ 4611686018427387903
theorem finE_nonneg {md : Int} {path user group : ByteArray} {uid gid mt k z : Int} {l : ByteArray} {e : En} (hm : finE md path user group uid gid mt k z l = (e, 0)) : 0 ≤ e.sz := by
  unfold finE at hm
  by_cases h : z < 0 ∨ uid < 0 ∨ gid < 0
  · rw [if_pos h] at hm; simp at hm
  · rw [if_neg h] at hm
    simp only [Prod.mk.injEq] at hm
    rw [← hm.1]
    show 0 ≤ z
    omega
theorem mkE_nonneg {h : Hd} {g l : List Rec} {nm lk : ByteArray} {e : En} (hm : mkE h g l nm lk = (e, 0)) : 0 ≤ e.sz := by
  unfold mkE at hm
  by_cases h0 : kindOf h.typ = 0
  · simp only [h0, if_true] at hm
    simp at hm
  · simp only [h0, if_false] at hm
    generalize numOf g l ⟨#[115, 105, 122, 101]⟩ h.size = q0 at hm
    generalize numOf g l ⟨#[117, 105, 100]⟩ h.uid = q1 at hm
    generalize numOf g l ⟨#[103, 105, 100]⟩ h.gid = q2 at hm
    generalize numOf g l ⟨#[109, 116, 105, 109, 101]⟩ h.mtime = q3 at hm
    rcases q0 with _ | q0
    · simp at hm
    rcases q1 with _ | q1
    · simp at hm
    rcases q2 with _ | q2
    · simp at hm
    rcases q3 with _ | q3
    · simp at hm
    exact finE_nonneg hm
theorem PSx.locN {w0 : World} {F0 : Nat → Prop} {w : World} {g : Nat} {s : PSt} {vb vt vg vl vo : Value} (h : PSx w0 F0 w g s vb vt vg vl vo) : PSx w0 F0 (w.setCell ⟨g, 8, none⟩ (.slice none 0 0)) g { s with loc := [] } vb vt vg (.slice none 0 0) vo :=
  ⟨h.fr.set (p := ⟨g, 8, none⟩) (fun _ => h.fg) _, h.lt, h.fg, h.blk.set_ 8 _, (h.rw_.set h.blk 8 _).locN⟩
theorem PSx.textN {w0 : World} {F0 : Nat → Prop} {w : World} {g : Nat} {s : PSt} {vb vt vg vl vo : Value} (h : PSx w0 F0 w g s vb vt vg vl vo) : PSx w0 F0 (w.setCell ⟨g, 6, none⟩ (.slice none 0 0)) g { s with text := [] } vb (.slice none 0 0) vg vl vo :=
  ⟨h.fr.set (p := ⟨g, 6, none⟩) (fun _ => h.fg) _, h.lt, h.fg, h.blk.set_ 6 _, (h.rw_.set h.blk 6 _).textN⟩
def Made (w0 : World) (F0 : Nat → Prop) (g : Nat) (s : PSt) (e : Ending) (w' : World) : Prop := Does w0 F0 g s e w'
section
variable (w0 : World) (F0 : Nat → Prop) (w : World) (g : Nat) (s : PSt) (vb vt vg vl vo : Value) (h : PSx w0 F0 w g s vb vt vg vl vo) (hw : WFs s) (he : EnvE w0) (hF : ∀ k, F0 k → 7 ≤ k)
include h hw he hF
set_option maxHeartbeats 8000000 in
set_option maxRecDepth 100000 in
theorem thing_any (hd : Hd) (hs : HdSm hd) (hol : s.out.length ≤ 99999990) : Calls Tryz.prog 65 #[.pointer (some ⟨g, 0, none⟩), hd.val] w (Does w0 F0 g (s.thing hd)) := by
  obtain ⟨form, name, link, pre, user, group, typ, mode, uid, gid, size, mtime⟩ := hd
  obtain ⟨Ag, cg, rfl, hcg, hCg⟩ := Kd.R_reads h.rw_.g
  obtain ⟨Al, cl, rfl, hcl, hCl⟩ := Kd.R_reads h.rw_.l
  have hE : EnvE w := h.fr.env hF he
  obtain ⟨en, err, hmk⟩ : ∃ en err, mkE ⟨form, name, link, pre, user, group, typ, mode, uid, gid, size, mtime⟩ s.glob s.loc s.nm s.lk = (en, err) := ⟨_, _, rfl⟩
  have hval := mkE_val ⟨form, name, link, pre, user, group, typ, mode, uid, gid, size, mtime⟩ s.glob s.loc s.nm s.lk
  rw [hmk] at hval
  have HMK := Lib.hid hmk
  obtain ⟨ep, el, ek, em, eu, eg, et, es, eo, er⟩ := en
  have HMC : Hid (∀ W, Below w.heap.size w W → Calls Tryz.prog 95 #[.agg #[.int .i64 form, .string name, .string link, .string pre, .string user, .string group, .int .u8 typ, .int .i64 mode, .int .i64 uid, .int .i64 gid, .int .i64 size, .int .i64 mtime], .agg #[.slice Ag s.glob.length cg, .slice Al s.loc.length cl, .string s.nm, .string s.lk]] W (Gives (.tuple #[.agg #[.string ep, .string el, .int .i64 ek, .int .i64 em, .int .i64 eu, .int .i64 eg, .int .i64 et, .int .i64 es, .string eo, .string er], .int .i64 err]) W)) := fun W hW => by
    have := make_any form name link pre user group typ mode uid gid size mtime s.glob s.loc Ag Al cg cl s.nm s.lk W (recs_of (Kd.C_below hCg hW)) (recs_of (Kd.C_below hCl hW)) (by have := hw.gl; omega) (by have := hw.ll; omega) hs.full (by have := hw.nm; omega) (fun key => Nat.le_trans (lookup_le (n := 8192) (fun r hr => (hw.gs r hr).2) (fun r hr => (hw.ls r hr).2) key) (by decide)) (hE.below hW)
    rw [hval] at this
    exact this
  have HW := Lib.hid hw
  have HOL := Lib.hid hol
  clear hol
  have H0 : Aside0 (PSx w0 F0 (w.alloc (.cells #[.int .i64 form, .string name, .string link, .string pre, .string user, .string group, .int .u8 typ, .int .i64 mode, .int .i64 uid, .int .i64 gid, .int .i64 size, .int .i64 mtime] 36)) g s vb vt (.slice Ag s.glob.length cg) (.slice Al s.loc.length cl) vo ∧ Blk (w.alloc (.cells #[.int .i64 form, .string name, .string link, .string pre, .string user, .string group, .int .u8 typ, .int .i64 mode, .int .i64 uid, .int .i64 gid, .int .i64 size, .int .i64 mtime] 36)) w.heap.size 36 #[.int .i64 form, .string name, .string link, .string pre, .string user, .string group, .int .u8 typ, .int .i64 mode, .int .i64 uid, .int .i64 gid, .int .i64 size, .int .i64 mtime] ∧ Below w.heap.size w (w.alloc (.cells #[.int .i64 form, .string name, .string link, .string pre, .string user, .string group, .int .u8 typ, .int .i64 mode, .int .i64 uid, .int .i64 gid, .int .i64 size, .int .i64 mtime] 36))) := ⟨h.below (below_alloc (Below.refl _ _) _), Blk.new w _ _, below_alloc (Below.refl _ _) _⟩
  clear h hw he hF hcg hCg hcl hCl hE hmk hval hs
  go_enter Tryz.func65, Tryz.ntmps65
  go_upto_region 1 with (fail)
  generalize w.alloc _ = W1 at H0 ⊢
  obtain ⟨bx, hbx⟩ : ∃ bx, w.heap.size = bx := ⟨_, rfl⟩
  have HM1 : Hid (∀ W, Below W1.heap.size W1 W → Calls Tryz.prog 95 #[.agg #[.int .i64 form, .string name, .string link, .string pre, .string user, .string group, .int .u8 typ, .int .i64 mode, .int .i64 uid, .int .i64 gid, .int .i64 size, .int .i64 mtime], .agg #[.slice Ag s.glob.length cg, .slice Al s.loc.length cl, .string s.nm, .string s.lk]] W (Gives (.tuple #[.agg #[.string ep, .string el, .int .i64 ek, .int .i64 em, .int .i64 eu, .int .i64 eg, .int .i64 et, .int .i64 es, .string eo, .string er], .int .i64 err]) W)) := fun W hW => HMC.out W (below_next H0.out.2.2 hW)
  have H1 : Aside0 (PSx w0 F0 W1 g s vb vt (.slice Ag s.glob.length cg) (.slice Al s.loc.length cl) vo ∧ Blk W1 bx 36 #[.int .i64 form, .string name, .string link, .string pre, .string user, .string group, .int .u8 typ, .int .i64 mode, .int .i64 uid, .int .i64 gid, .int .i64 size, .int .i64 mtime]) := ⟨H0.out.1, by rw [← hbx]; exact H0.out.2.1⟩
  rw [hbx]
  clear hbx HMC H0
  have q1 := H1.out.1.blk.lt
  have q2 := H1.out.2.lt
  have HKK := Aside0.mk (show ∀ W', Below W1.heap.size W1 W' → (Aside0 (Below W1.heap.size W1 W') ∧ W'.cell? ⟨bx, 0, none⟩ = some (.int .i64 form) ∧ W'.cell? ⟨bx, 1, none⟩ = some (.string name) ∧ W'.cell? ⟨bx, 2, none⟩ = some (.string link) ∧ W'.cell? ⟨bx, 3, none⟩ = some (.string pre) ∧ W'.cell? ⟨bx, 4, none⟩ = some (.string user) ∧ W'.cell? ⟨bx, 5, none⟩ = some (.string group) ∧ W'.cell? ⟨bx, 6, none⟩ = some (.int .u8 typ) ∧ W'.cell? ⟨bx, 7, none⟩ = some (.int .i64 mode) ∧ W'.cell? ⟨bx, 8, none⟩ = some (.int .i64 uid) ∧ W'.cell? ⟨bx, 9, none⟩ = some (.int .i64 gid) ∧ W'.cell? ⟨bx, 10, none⟩ = some (.int .i64 size) ∧ W'.cell? ⟨bx, 11, none⟩ = some (.int .i64 mtime) ∧ W'.cell? ⟨g, 7, none⟩ = some (.slice Ag s.glob.length cg) ∧ W'.cell? ⟨g, 8, none⟩ = some (.slice Al s.loc.length cl) ∧ W'.cell? ⟨g, 9, none⟩ = some (.string s.nm) ∧ W'.cell? ⟨g, 10, none⟩ = some (.string s.lk)) from fun W' b => by
    obtain ⟨x0, x1, x2, x3, x4, x5, x6, x7, x8, x9, x10, x11⟩ := blk12 (H1.out.2.below b H1.out.2.lt)
    obtain ⟨c0, c1, c2, c3, c4, c5, c6, c7, c8, c9, c10, c11, c12, c13, c14, c15⟩ := (H1.out.1.below b).cells
    exact ⟨⟨b⟩, x0, x1, x2, x3, x4, x5, x6, x7, x8, x9, x10, x11, c7, c8, c9, c10⟩)
  have hst := HKK.out _ (Below.refl _ _)
  go_cut [4, 5] (fun v4 v5 wc => ∃ be, v4 = .pointer (some ⟨be, 0, none⟩) ∧ v5 = .int .i64 err ∧ Aside0 (NB W1 wc be #[.string ep, .string el, .int .i64 ek, .int .i64 em, .int .i64 eu, .int .i64 eg, .int .i64 et, .int .i64 es, .string eo, .string er]))
  case first =>
    go_region_held3 (fun W' => Aside0 (Below W1.heap.size W1 W') ∧ W'.cell? ⟨bx, 0, none⟩ = some (.int .i64 form) ∧ W'.cell? ⟨bx, 1, none⟩ = some (.string name) ∧ W'.cell? ⟨bx, 2, none⟩ = some (.string link) ∧ W'.cell? ⟨bx, 3, none⟩ = some (.string pre) ∧ W'.cell? ⟨bx, 4, none⟩ = some (.string user) ∧ W'.cell? ⟨bx, 5, none⟩ = some (.string group) ∧ W'.cell? ⟨bx, 6, none⟩ = some (.int .u8 typ) ∧ W'.cell? ⟨bx, 7, none⟩ = some (.int .i64 mode) ∧ W'.cell? ⟨bx, 8, none⟩ = some (.int .i64 uid) ∧ W'.cell? ⟨bx, 9, none⟩ = some (.int .i64 gid) ∧ W'.cell? ⟨bx, 10, none⟩ = some (.int .i64 size) ∧ W'.cell? ⟨bx, 11, none⟩ = some (.int .i64 mtime) ∧ W'.cell? ⟨g, 7, none⟩ = some (.slice Ag s.glob.length cg) ∧ W'.cell? ⟨g, 8, none⟩ = some (.slice Al s.loc.length cl) ∧ W'.cell? ⟨g, 9, none⟩ = some (.string s.nm) ∧ W'.cell? ⟨g, 10, none⟩ = some (.string s.lk)) (with_reducible first | (refine HKK.out _ ?_; refine below_ten hLn ?_ _ _ _ _ _ _ _ _ _ _; omega) | exact HKK.out _ ((Below.refl _ _).drew) | exact HKK.out _ hLn | exact HKK.out _ (below_alloc ((Below.refl _ _).drew) _) | exact HKK.out _ (below_next hLn (below_alloc (Below.refl _ _) _))) ((go_at_call 95; (with_reducible refine (HM1.out _ (‹Aside0 (Below W1.heap.size W1 _) ∧ _›).1.out).mono ?_); rintro e w3 ⟨rfl, hb3⟩; have hLn := below_next (‹Aside0 (Below W1.heap.size W1 _) ∧ _›).1.out hb3; have shb3 := hb3.size; (try simp at shb3); (first | (with_reducible have hz := Aside0.mk (hblk_of_below hb3)) | (with_reducible have hz := Aside0.mk (hblk_of_below_d hb3)) | skip); (first | (have hz := Aside0.mk (show Blk _ W1.heap.size _ _ from hz.out)) | skip); (first | (have hzz := blk10 hz.out; have hzf := froz10 hz.out; obtain ⟨z0, z1, z2, z3, z4, z5, z6, z7, z8, z9⟩ := hzz; obtain ⟨y0, y1, y2, y3, y4, y5, y6, y7, y8, y9⟩ := hzf) | skip)))
    all_goals go_wp2
    all_goals go_meet
    all_goals first
      | (with_reducible exact ⟨_, rfl, rfl, ⟨NB.new hLn⟩⟩)
      | (with_reducible refine ⟨_, rfl, rfl, ⟨NB.ten (NB.new hLn) ?_ _ _ _ _ _ _ _ _ _ _⟩⟩; · rfl)
      | (with_reducible refine ⟨_, rfl, rfl, ⟨NB.ten (cs := #[.string ⟨#[]⟩, .string ⟨#[]⟩, .int .i64 0, .int .i64 0, .int .i64 0, .int .i64 0, .int .i64 0, .int .i64 0, .string ⟨#[]⟩, .string ⟨#[]⟩]) ⟨hLn, hz.out, ?_⟩ rfl _ _ _ _ _ _ _ _ _ _⟩⟩; first | assumption | omega | exact Nat.le_refl _)
  case rest =>
    obtain ⟨be, rfl, rfl, HN⟩ := hcut
    clear hst HKK HM1
    go_step
    have PW : Aside0 (PSx w0 F0 wc g s vb vt (.slice Ag s.glob.length cg) (.slice Al s.loc.length cl) vo) := ⟨H1.out.1.below HN.out.b⟩
    by_cases he0 : err = 0
    case neg =>
      have HR : Hid (s.thing ⟨form, name, link, pre, user, group, typ, mode, uid, gid, size, mtime⟩ = s.bad err) := by
        show _ = _
        unfold PSt.thing
        rw [HMK.out]
        exact if_pos he0
      have e1 : (err != 0) = true := by simpa using he0
      have HE0 := Lib.hid he0
      clear he0
      go_wp2_with ((go_at_call 62; (with_reducible refine (bad_any w0 F0 _ g s _ _ _ _ _ PW.out err HE0.out HW.out.ol).mono ?_); rintro e3 w3 ⟨rfl, hD⟩))
      go_end0
      rw [HR.out]
      exact ⟨rfl, hD⟩
    case pos =>
      subst he0
      have hsz := mkE_nonneg HMK.out
      obtain ⟨c0, c1, c2, c3, c4, c5, c6, c7, c8, c9, c10, c11, c12, c13, c14, c15⟩ := PW.out.cells
      have f7 := PW.out.free 7
      have f8 := PW.out.free 8
      have f9 := PW.out.free 9
      have f10 := PW.out.free 10
      have hne : be ≠ g := fun e => by
        have h1 := HN.out.e
        have h2 := PW.out.blk
        rw [e] at h1
        exact absurd rfl (Blk.ne_ h1 h2 (by decide))
      clear c0 c1 c2 c3 c4 c5 c6 c11 c12 c13 c14 c15
      go_upto_region 5 with (fail)
      have P5 : Aside0 (PSx w0 F0 ((((wc.setCell ⟨g, 7, none⟩ (.slice Ag s.glob.length cg)).setCell ⟨g, 8, none⟩ (.slice none 0 0)).setCell ⟨g, 9, none⟩ (.string ⟨#[]⟩)).setCell ⟨g, 10, none⟩ (.string ⟨#[]⟩)) g { s with loc := [], nm := ⟨#[]⟩, lk := ⟨#[]⟩ } vb vt (.slice Ag s.glob.length cg) (.slice none 0 0) vo) :=
        ⟨((((PW.out.setF 7 (.slice Ag s.glob.length cg) s rfl rfl rfl rfl rfl rfl).locN).setF 9 (.string ⟨#[]⟩) { s with loc := [], nm := ⟨#[]⟩ } rfl rfl rfl rfl rfl rfl).setF 10 (.string ⟨#[]⟩) { s with loc := [], nm := ⟨#[]⟩, lk := ⟨#[]⟩ } rfl rfl rfl rfl rfl rfl)⟩
      have E5 : Aside0 (Blk ((((wc.setCell ⟨g, 7, none⟩ (.slice Ag s.glob.length cg)).setCell ⟨g, 8, none⟩ (.slice none 0 0)).setCell ⟨g, 9, none⟩ (.string ⟨#[]⟩)).setCell ⟨g, 10, none⟩ (.string ⟨#[]⟩)) be 41 #[.string ep, .string el, .int .i64 ek, .int .i64 em, .int .i64 eu, .int .i64 eg, .int .i64 et, .int .i64 es, .string eo, .string er]) :=
        ⟨(((HN.out.e.far (p := ⟨g, 7, none⟩) hne _).far (p := ⟨g, 8, none⟩) hne _).far (p := ⟨g, 9, none⟩) hne _).far (p := ⟨g, 10, none⟩) hne _⟩
      clear c7 c8 c9 c10 f7 f8 f9 f10 PW HN H1 q1 q2
      generalize World.setCell _ _ _ = W5 at P5 E5 ⊢
      obtain ⟨x0, x1, x2, x3, x4, x5, x6, x7, x8, x9⟩ := blk10 E5.out
      have HC := Lib.hid (say_any w0 F0 W5 g _ _ _ _ _ _ P5.out (.beg ⟨ep, el, ek, em, eu, eg, et, es, eo, er⟩) (.slice none 0 0) (Kd.R_nil _ _ _ _ _) HW.out.ol 1 rfl ⟨ep, el, ek, em, eu, eg, et, es, eo, er⟩ rfl .nilIface rfl (.inl rfl))
      go_upto_region 6 with (go_at_call 38; (with_reducible refine HC.out.mono ?_); rintro e6 w6 ⟨rfl, vo6, hP6, hf6⟩)
      have P6 := Aside0.mk hP6
      have E6 : Aside0 (Blk w6 be 41 #[.string ep, .string el, .int .i64 ek, .int .i64 em, .int .i64 eu, .int .i64 eg, .int .i64 et, .int .i64 es, .string eo, .string er]) := ⟨(hf6 be E5.out.lt hne (Kd.R_ne P5.out.rw_.o E5.out (by decide))).trans E5.out⟩
      clear x0 x1 x2 x3 x4 x5 x6 x7 x8 x9 hP6 hf6 HC E5
      have u7 : w6.cell? ⟨be, 7, none⟩ = some (.int .i64 es) := E6.out.cell 7
      obtain ⟨d0, d1, d2, d3, d4, d5, d6, d7, d8, d9, d10, d11, d12, d13, d14, d15⟩ := P6.out.cells
      have g0 := P6.out.free 0
      have g11 := P6.out.free 11
      have g12 := P6.out.free 12
      clear d1 d2 d3 d4 d5 d6 d7 d8 d9 d10 d13 d14 d15
      have HPD : Hid (∀ W, Calls Tryz.prog 16 #[.int .i64 es] W fun e w' => e = .returned (.int .i64 (padOf es)) ∧ Drawn0 W w') := fun W => PPua.entry_Pad.calls es (padOf es) W (PPua.pad_val es hsz)
      go_region_with ((with_reducible refine (HPD.out _).mono ?_); rintro e7 w7 ⟨rfl, ⟨nd, rfl⟩⟩)
      all_goals clear u7 d0 d11 d12 g0 g11 g12 HPD
      all_goals
        have P7 : Aside0 (PSx w0 F0 ((((w6.drewN (1 + nd)).setCell ⟨g, 0, none⟩ (.int .i64 2)).setCell ⟨g, 11, none⟩ (.int .i64 es)).setCell ⟨g, 12, none⟩ (.int .i64 (padOf es))) g { ({ s with loc := [], nm := ⟨#[]⟩, lk := ⟨#[]⟩ } : PSt).say (.beg ⟨ep, el, ek, em, eu, eg, et, es, eo, er⟩) with st := 2, left := es, pad := padOf es } vb vt (.slice Ag s.glob.length cg) (.slice none 0 0) vo6) :=
          ⟨(((P6.out.below (below_drewN' (Below.refl _ _) (1 + nd))).setF 0 (.int .i64 2) { ({ s with loc := [], nm := ⟨#[]⟩, lk := ⟨#[]⟩ } : PSt).say (.beg ⟨ep, el, ek, em, eu, eg, et, es, eo, er⟩) with st := 2 } rfl rfl rfl rfl rfl rfl).setF 11 (.int .i64 es) { ({ s with loc := [], nm := ⟨#[]⟩, lk := ⟨#[]⟩ } : PSt).say (.beg ⟨ep, el, ek, em, eu, eg, et, es, eo, er⟩) with st := 2, left := es } rfl rfl rfl rfl rfl rfl).setF 12 (.int .i64 (padOf es)) _ rfl rfl rfl rfl rfl rfl⟩
        have E7 : Aside0 (Blk ((((w6.drewN (1 + nd)).setCell ⟨g, 0, none⟩ (.int .i64 2)).setCell ⟨g, 11, none⟩ (.int .i64 es)).setCell ⟨g, 12, none⟩ (.int .i64 (padOf es))) be 41 #[.string ep, .string el, .int .i64 ek, .int .i64 em, .int .i64 eu, .int .i64 eg, .int .i64 et, .int .i64 es, .string eo, .string er]) :=
          ⟨((((E6.out.drewN (1 + nd)).far (p := ⟨g, 0, none⟩) hne _).far (p := ⟨g, 11, none⟩) hne _).far (p := ⟨g, 12, none⟩) hne _)⟩
        generalize World.setCell _ _ _ = W7 at P7 E7 ⊢
        have u7 : W7.cell? ⟨be, 7, none⟩ = some (.int .i64 es) := E7.out.cell 7
        by_cases hz : es = 0
        · have HR : Hid (s.thing ⟨form, name, link, pre, user, group, typ, mode, uid, gid, size, mtime⟩ = PSt.finish { ({ s with loc := [], nm := ⟨#[]⟩, lk := ⟨#[]⟩ } : PSt).say (.beg ⟨ep, el, ek, em, eu, eg, et, es, eo, er⟩) with st := 2, left := es, pad := padOf es }) := by
            show _ = _
            unfold PSt.thing
            rw [HMK.out]
            exact (if_neg (fun h => h rfl)).trans (if_pos hz)
          have e1 : (es == 0) = true := by simpa using hz
          clear hz
          go_wp2_with ((go_at_call 39; (with_reducible refine (finish_any w0 F0 _ g _ _ _ _ _ _ P7.out (by have h7 := HOL.out; simp only [PSt.say, List.length_append, List.length_singleton]; omega)).mono ?_); rintro e3 w3 ⟨rfl, hD⟩))
          go_end0
          rw [HR.out]
          exact ⟨rfl, hD⟩
        · have HR : Hid (s.thing ⟨form, name, link, pre, user, group, typ, mode, uid, gid, size, mtime⟩ = { ({ s with loc := [], nm := ⟨#[]⟩, lk := ⟨#[]⟩ } : PSt).say (.beg ⟨ep, el, ek, em, eu, eg, et, es, eo, er⟩) with st := 2, left := es, pad := padOf es }) := by
            show _ = _
            unfold PSt.thing
            rw [HMK.out]
            exact (if_neg (fun h => h rfl)).trans (if_neg hz)
          have e1 : (es == 0) = false := by simpa using hz
          clear hz
          go_wp2
          go_end0
          rw [HR.out]
          exact ⟨rfl, _, _, _, _, _, P7.out⟩
end
end Go.Proofs.YtpbpfngichfgeaaGreatDoor
