/-
  Several texts in one: YtpbpfngichfgeaaGreatDoorPushF0, YtpbpfngichfgeaaGreatDoorPushR.
-/
import Derived.Test.YtpbpfngichfgeaaGreatDoorPushH
namespace Go.Proofs.YtpbpfngichfgeaaGreatDoor
set_option linter.unusedVariables false
set_option linter.unusedSimpArgs false
open Go Go.RowKit Go.Proofs.YtpbpfngichfgeaaGreatDoorW.PrintWords Go.Proofs.YtpbpfngichfgeaaGreatDoorW.PrintLast Go.Proofs.YtpbpfngichfgeaaGreatDoorW.PrintMore

/-- The bytes that came, as they stand in every world that the call may make. -/
def In (w0 : World) (F0 : Nat → Prop) (A : Option Addr) (xs : List Int) : Prop := ∀ W, Frm F0 w0 W → Kd.C (Kd.int .u8) W A xs.length xs
theorem in_take {w0 : World} {F0 : Nat → Prop} {A : Option Addr} {xs : List Int} (h : In w0 F0 A xs) (n : Nat) (hn : n ≤ xs.length) : In w0 F0 A (xs.take n) := fun W hW => Kd.C_take (h W hW) hn
theorem cut_to (A : Option Addr) (c : Nat) (xs : List Int) (n : Nat) (hn : n ≤ xs.length) (hc : xs.length ≤ c) :
    ∀ W : World, (Instr.slice 32 (.slice A xs.length c) none (some (.int .i64 (n : Int))) none).run Tryz.prog W = .ok (.slice A n c) W := by
  obtain ⟨i0, hi, hz0, hz1, hz2⟩ := info_parts infoU8
  have h := (print_take_int (P := Tryz.prog) (k := .u8) 32 5 Tryz.underlying32 hi hz1 A c xs (n : Int) (by omega) (by omega) hc).1
  simp only [Int.toNat_natCast] at h
  have hl : (xs.take n).length = n := by rw [List.length_take]; omega
  rw [hl] at h
  exact h
theorem cut_from {w0 : World} {F0 : Nat → Prop} {A : Option Addr} (c : Nat) {xs : List Int} (h : In w0 F0 A xs) (n : Nat) (hn : n ≤ xs.length) (hc : xs.length ≤ c) :
    ∃ A', (∀ W : World, (Instr.slice 32 (.slice A xs.length c) (some (.int .i64 (n : Int))) none none).run Tryz.prog W = .ok (.slice A' (xs.drop n).length (c - n)) W) ∧ In w0 F0 A' (xs.drop n) ∧ (xs.drop n).length ≤ c - n := by
  obtain ⟨i0, hi, hz0, hz1, hz2⟩ := info_parts infoU8
  obtain ⟨A', h1, h2, h3⟩ := print_cut_int (P := Tryz.prog) (k := .u8) 32 5 Tryz.underlying32 hi hz1 A c xs (n : Int) (by omega) (by omega) hc
  simp only [Int.toNat_natCast] at h1 h2 h3
  refine ⟨A', h1, fun W hW => ?_, h3⟩
  exact Kd.C_of_reads (h1 := fun _ => rfl) (h2 W (Kd.reads_of_C (h W hW)))
/-- append(v, row...) in a region that draws its order, behind the draw. -/
theorem R_rows_stepD {P : Program} {ops : Array Oper} {o : Oper} {a : Act} {Q : Exit → Act → World → Prop} {Kc : Act → World → Prop} {W : World} (hw : o.guard = none) (s x : Operand) (t e : TypeId) (z : Value) (bytes : Nat)
    (ho : o.op = .call { callee := .builtin .append, args := #[s, x], argTypes := #[t, t] })
    (ht : P.underlying t = some (.slice e)) (hinfo : (P.info? e).map (fun i => (i.zero, i.size, i.bytes)) = some (some z, (Kd.int .u8).sz, bytes)) (hz : z.cells.size = (Kd.int .u8).sz) (hb0 : 0 < bytes)
    (v : Value) (xs ys : List Int) (A : Option Addr) (m c : Nat) (ok : Nat → Prop) (hs : a.eval s = v) (hx : a.eval x = .slice A m c)
    (HO : (Kd.int .u8).R e W 0 ok v xs) (HR : Kd.C (Kd.int .u8) W A m ys) (hfresh : ∀ k, W.heap.size ≤ k → ok k) (hl : (xs.length + m) * bytes ≤ 140737488355328)
    (h : ∀ v1 w1, (Kd.int .u8).R e w1 0 ok v1 (xs ++ ys) → W.grownBy w1 v.ownBlock → (v1.ownBlock = v.ownBlock ∨ ∃ b, v1.ownBlock = some b ∧ W.heap.size ≤ b) → Kc (a.put o.dst v1) w1) :
    if Region.wanted o (yielded ops a.tmps) = true then Oper.wp P o a W.drew Kc Q else Kc (a.put o.dst undef) W.drew := by
  have hwt : Region.wanted o (yielded ops a.tmps) = true := by simp [Region.wanted, hw]
  exact Kd.R_append_rows_step (Kd.int .u8) (Rr := (Kd.int .u8).K W) (w0 := W.drew) (W := W.drew) 0 hwt s x t e z bytes ho ht hinfo hz (by decide) hb0 v xs ys A m c ok (fun _ => False) hs hx (Kd.R_below HO ((Below.refl _ _).drew)) HR (fun _ _ hh => hh) (fun _ hk => hk.elim) hfresh (Below.refl _ _) (Nat.zero_le _) hl (fun v1 w1 h1 _ h2 h3 => h v1 w1 h1 ⟨h2.os, h2.tape, h2.output, h2.size, h2.block⟩ h3)
/-- block = block[:0]. -/
theorem PSx.block0 {w0 : World} {F0 : Nat → Prop} {w : World} {g : Nat} {s : PSt} {A : Option Addr} {n c : Nat} {vt vg vl vo : Value} (h : PSx w0 F0 w g s (.slice A n c) vt vg vl vo) :
    PSx w0 F0 (w.setCell ⟨g, 1, none⟩ (.slice A 0 c)) g { s with block := [] } (.slice A 0 c) vt vg vl vo := by
  refine ⟨h.fr.set (p := ⟨g, 1, none⟩) (fun _ => h.fg) _, h.lt, h.fg, h.blk.set_ 1 _, ?_⟩
  have r := h.rw_.set h.blk 1 (.slice A 0 c)
  have e : (Value.slice A n c).ownBlock = (Value.slice A 0 c).ownBlock := by rcases A with _ | ⟨b, o, sp⟩ <;> simp [Value.ownBlock]
  refine ⟨Kd.R_take (m := 0) r.b (Nat.zero_le _), ?_, r.g, r.l, ?_⟩
  · have q := r.t; rw [e] at q; exact q
  · have q := r.o; rw [e] at q; exact q
/-- What holds of the parser between two rounds. -/
structure WFm (s : PSt) : Prop where
  s0 : 0 ≤ s.st
  s4 : s.st ≤ 4
  bl : s.block.length < 512
  p0 : 0 ≤ s.pad
  p1 : s.pad ≤ 511
  p3 : s.st = 3 → 1 ≤ s.pad
  l1 : s.st = 1 → 1 ≤ s.left ∧ (s.text.length : Int) + s.left ≤ 8192
  l2 : s.st = 2 → 1 ≤ s.left ∧ s.left ≤ 9223372036854775807
def slLen : Value → Nat
  | .slice _ n _ => n
  | _ => 0
end Go.Proofs.YtpbpfngichfgeaaGreatDoor

namespace Go.Proofs.YtpbpfngichfgeaaGreatDoor
set_option linter.unusedVariables false
set_option linter.unusedSimpArgs false
open Go Go.RowKit Go.Proofs.YtpbpfngichfgeaaGreatDoorW.PrintWords Go.Proofs.YtpbpfngichfgeaaGreatDoorW.PrintLast Go.Proofs.YtpbpfngichfgeaaGreatDoorW.PrintMore

/-! numbers in bounds -/
theorem bits_le (x y : Int) : bits .or .i64 x y ≤ 9223372036854775807 := by
  unfold bits
  have h : ∀ n, IntKind.i64.wrap n ≤ 9223372036854775807 := fun n => by
    simp only [IntKind.wrap, IntKind.bits, IntKind.signed, Bool.true_and, decide_eq_true_eq, show (64 - 1 : Nat) = 63 from rfl]
    split <;> omega
  exact h _
theorem ite_le {c : Prop} [Decidable c] {a M : Int} (h : a ≤ M) (h0 : 0 ≤ M) : (if c then a else 0) ≤ M := by split <;> assumption
theorem binV_le : ∀ (l : List Int) (n : Int), n ≤ 9223372036854775807 → (binV n l).1 ≤ 9223372036854775807
  | [], n, h => h
  | b :: r, n, h => by
    unfold binV
    split
    · show (0 : Int) ≤ _; omega
    · exact binV_le r _ (bits_le _ _)
theorem digV_le : ∀ (l : List Int) (n m : Int) (r : List Int), n ≤ 9223372036854775807 → digV n l = some (m, r) → m ≤ 9223372036854775807
  | [], n, m, r, h, e => by
    simp only [digV, Option.some.injEq, Prod.mk.injEq] at e
    omega
  | b :: l, n, m, r, h, e => by
    unfold digV at e
    split at e
    · rename_i hb
      split at e
      · cases e
      · exact digV_le l _ m r (by omega) e
    · simp only [Option.some.injEq, Prod.mk.injEq] at e
      omega
theorem octT_le (l : List Int) : (octT l).1 ≤ 9223372036854775807 := by
  unfold octT
  split
  · show (0 : Int) ≤ _; omega
  · rename_i n r h
    have := digV_le _ 0 n r (by omega) h
    split
    · exact this
    · show (0 : Int) ≤ _; omega
theorem octV_le (l : List Int) : (octV l).1 ≤ 9223372036854775807 := by
  unfold octV
  split
  · exact octT_le _
  · split
    · split
      · exact binV_le _ _ (by omega)
      · split
        · exact binV_le _ _ (by omega)
        · show (0 : Int) ≤ _; omega
    · exact octT_le _
theorem decV_size (b : List Int) : (decV b).1.size ≤ 9223372036854775807 := by
  have h0 : hd0.size ≤ 9223372036854775807 := by decide
  unfold decV
  split
  · exact h0
  iterate 6
    split
    · exact h0
  exact octV_le _
theorem numOf_le {g l : List Rec} {key : ByteArray} {d v : Int} (hd : d ≤ 9223372036854775807) (h : numOf g l key d = some v) : v ≤ 9223372036854775807 := by
  unfold numOf at h
  split at h
  · exact (numberOf_bounds h).2
  · cases h; exact hd
theorem finE_sz (md : Int) (path user group : ByteArray) (uid gid mt k s : Int) (l : ByteArray) (h : s ≤ 9223372036854775807) : (finE md path user group uid gid mt k s l).1.sz ≤ 9223372036854775807 := by
  unfold finE
  split
  · show (0 : Int) ≤ _; omega
  · exact h
theorem mkE_le (h : Hd) (g l : List Rec) (nm lk : ByteArray) (hs : h.size ≤ 9223372036854775807) : (mkE h g l nm lk).1.sz ≤ 9223372036854775807 := by
  have h0 : en0.sz ≤ 9223372036854775807 := by decide
  unfold mkE
  simp only
  split
  · exact h0
  · split
    · rename_i hsz _ _ _
      exact finE_sz _ _ _ _ _ _ _ _ _ _ (ite_le (numOf_le hs hsz) (by omega))
    · exact h0
theorem padOf_bounds (n : Int) : 0 ≤ padOf n ∧ padOf n ≤ 511 := by
  unfold padOf
  omega

/-! the state -/
structure WFq (s : PSt) : Prop where
  s0 : 0 ≤ s.st
  s4 : s.st ≤ 4
  p0 : 0 ≤ s.pad
  p1 : s.pad ≤ 511
  p3 : s.st = 3 → 1 ≤ s.pad
  l1 : s.st = 1 → 1 ≤ s.left ∧ (s.text.length : Int) + s.left ≤ 8192
  l2 : s.st = 2 → 1 ≤ s.left ∧ s.left ≤ 9223372036854775807
structure Q (s s' : PSt) (k : Nat) : Prop where
  wf : WFs s'
  q : WFq s'
  blk : s'.block = s.block
  at_ : s'.at_ = s.at_
  out : s'.out.length ≤ s.out.length + k
/-- What only some fields bear on. -/
theorem WFs.of {s s' : PSt} (h : WFs s) (h1 : s'.block = s.block) (h2 : s'.text = s.text) (h3 : s'.glob = s.glob) (h4 : s'.loc = s.loc) (h5 : s'.nm = s.nm) (h6 : s'.lk = s.lk) (h7 : s'.at_ = s.at_) (h8 : s'.out.length ≤ 100000000) : WFs s' := by
  obtain ⟨a1, a2, a3, a4, a5, a6, a7, a8, a9, b1, b2, b3, b4⟩ := h
  constructor <;> first | (rw [h1]; assumption) | (rw [h2]; assumption) | (rw [h3]; assumption) | (rw [h4]; assumption) | (rw [h5]; assumption) | (rw [h6]; assumption) | (rw [h7]; assumption) | assumption
theorem say_len (s : PSt) (k : EvK) : (s.say k).out.length = s.out.length + 1 := by simp [PSt.say]
theorem Q.bad {s : PSt} (h : WFs s) (p0 : 0 ≤ s.pad) (p1 : s.pad ≤ 511) (ho : s.out.length + 1 ≤ 100000000) (c : Int) : Q s (s.bad c) 1 := by
  refine ⟨h.of rfl rfl rfl rfl rfl rfl rfl ?_, ⟨?_, ?_, p0, p1, ?_, ?_, ?_⟩, rfl, rfl, ?_⟩
  · unfold PSt.bad; rw [say_len]; exact ho
  · show (0 : Int) ≤ 4; omega
  · show (4 : Int) ≤ 4; omega
  · intro h; exact absurd (show (4 : Int) = 3 from h) (by omega)
  · intro h; exact absurd (show (4 : Int) = 1 from h) (by omega)
  · intro h; exact absurd (show (4 : Int) = 2 from h) (by omega)
  · unfold PSt.bad; rw [say_len]; exact Nat.le_refl _
theorem Q.skip {s : PSt} (h : WFs s) (p0 : 0 ≤ s.pad) (p1 : s.pad ≤ 511) : Q s s.skip 0 := by
  refine ⟨h.of rfl rfl rfl rfl rfl rfl rfl h.ol, ?_, rfl, rfl, Nat.le_refl _⟩
  have e : s.skip.st = if s.pad = 0 then 0 else 3 := rfl
  refine ⟨?_, ?_, p0, p1, ?_, ?_, ?_⟩
  · rw [e]; split <;> omega
  · rw [e]; split <;> omega
  · rw [e]; intro h; show 1 ≤ s.pad; split at h <;> omega
  · rw [e]; intro h; split at h <;> omega
  · rw [e]; intro h; split at h <;> omega
theorem Q.trans {s s' s'' : PSt} {k k' n : Nat} (h1 : s'.block = s.block) (h2 : s'.at_ = s.at_) (h3 : s'.out.length ≤ s.out.length + k) (h : Q s' s'' k') (hn : k + k' ≤ n) : Q s s'' n :=
  ⟨h.wf, h.q, h.blk.trans h1, h.at_.trans h2, by have := h.out; omega⟩
theorem Q.finish {s : PSt} (h : WFs s) (p0 : 0 ≤ s.pad) (p1 : s.pad ≤ 511) (ho : s.out.length + 1 ≤ 100000000) : Q s s.finish 1 := by
  have h1 : WFs (s.say .fin) := h.of rfl rfl rfl rfl rfl rfl rfl (by rw [say_len]; exact ho)
  exact Q.trans (s' := s.say .fin) (k := 1) rfl rfl (by rw [say_len]; exact Nat.le_refl _) (Q.skip h1 p0 p1) (by omega)
theorem Q.told {s : PSt} (h : WFs s) (p0 : 0 ≤ s.pad) (p1 : s.pad ≤ 511) (ho : s.out.length + 1 ≤ 100000000) : Q s s.told 1 := by
  have hts := textZ_size s.text
  have htl := h.tl
  have hsm := paxV_small s.text
  unfold PSt.told
  split
  · refine Q.trans (s' := { s with nm := textZ s.text }) (k := 0) rfl rfl (Nat.le_refl _) (Q.skip ?_ p0 p1) (by omega)
    exact ⟨h.bb, h.tb, h.bl, h.tl, h.gl, h.ll, h.gs, h.ls, (by show (textZ s.text).size ≤ _; omega), h.lk, h.a0, h.a1, h.ol⟩
  · split
    · refine Q.trans (s' := { s with lk := textZ s.text }) (k := 0) rfl rfl (Nat.le_refl _) (Q.skip ?_ p0 p1) (by omega)
      exact ⟨h.bb, h.tb, h.bl, h.tl, h.gl, h.ll, h.gs, h.ls, h.nm, (by show (textZ s.text).size ≤ _; omega), h.a0, h.a1, h.ol⟩
    · split
      · exact Q.bad h p0 p1 ho _
      · split
        · split
          · exact Q.bad h p0 p1 ho _
          · rename_i hg
            refine Q.trans (s' := { s with glob := s.glob ++ (paxV s.text).1 }) (k := 0) rfl rfl (Nat.le_refl _) (Q.skip ?_ p0 p1) (by omega)
            refine ⟨h.bb, h.tb, h.bl, h.tl, (by show (s.glob ++ _).length ≤ _; rw [List.length_append]; omega), h.ll, ?_, h.ls, h.nm, h.lk, h.a0, h.a1, h.ol⟩
            intro r hr
            rcases List.mem_append.1 hr with hr | hr
            · exact h.gs r hr
            · have := hsm.2 r hr; exact ⟨by omega, by omega⟩
        · split
          · exact Q.bad h p0 p1 ho _
          · rename_i hg
            refine Q.trans (s' := { s with loc := s.loc ++ (paxV s.text).1 }) (k := 0) rfl rfl (Nat.le_refl _) (Q.skip ?_ p0 p1) (by omega)
            refine ⟨h.bb, h.tb, h.bl, h.tl, h.gl, (by show (s.loc ++ _).length ≤ _; rw [List.length_append]; omega), h.gs, ?_, h.nm, h.lk, h.a0, h.a1, h.ol⟩
            intro r hr
            rcases List.mem_append.1 hr with hr | hr
            · exact h.ls r hr
            · have := hsm.2 r hr; exact ⟨by omega, by omega⟩
theorem Q.thing {s : PSt} (h : WFs s) (p0 : 0 ≤ s.pad) (p1 : s.pad ≤ 511) (ho : s.out.length + 2 ≤ 100000000) (hd : Hd) (hz : hd.size ≤ 9223372036854775807) : Q s (s.thing hd) 2 := by
  obtain ⟨en, err, hmk⟩ : ∃ en err, mkE hd s.glob s.loc s.nm s.lk = (en, err) := ⟨_, _, rfl⟩
  have hle := mkE_le hd s.glob s.loc s.nm s.lk hz
  rw [hmk] at hle
  unfold PSt.thing
  rw [hmk]
  simp only
  split
  · exact Q.trans (k := 0) rfl rfl (Nat.le_refl _) (Q.bad h p0 p1 (by omega) err) (by omega)
  · rename_i he
    have he0 : err = 0 := Decidable.not_not.1 he
    subst he0
    have hnn := mkE_nonneg hmk
    have hpd := padOf_bounds en.sz
    have hw : WFs { ({ s with loc := [], nm := ⟨#[]⟩, lk := ⟨#[]⟩ } : PSt).say (.beg en) with st := 2, left := en.sz, pad := padOf en.sz } :=
      ⟨h.bb, h.tb, h.bl, h.tl, h.gl, (by show (0 : Nat) ≤ _; omega), h.gs, (by intro r hr; exact absurd (show r ∈ ([] : List Rec) from hr) (by simp)), (by show (0 : Nat) ≤ _; omega), (by show (0 : Nat) ≤ _; omega), h.a0, h.a1, (by show (PSt.say _ _).out.length ≤ _; rw [say_len]; show s.out.length + 1 ≤ _; omega)⟩
    have ho1 : ({ ({ s with loc := [], nm := ⟨#[]⟩, lk := ⟨#[]⟩ } : PSt).say (.beg en) with st := 2, left := en.sz, pad := padOf en.sz } : PSt).out.length = s.out.length + 1 := by show (PSt.say _ _).out.length = _; rw [say_len]
    split
    · exact Q.trans (s' := { ({ s with loc := [], nm := ⟨#[]⟩, lk := ⟨#[]⟩ } : PSt).say (.beg en) with st := 2, left := en.sz, pad := padOf en.sz }) (k := 1) rfl rfl (by rw [ho1]; exact Nat.le_refl _) (Q.finish hw hpd.1 hpd.2 (by rw [ho1]; omega)) (by omega)
    · rename_i hz0
      refine ⟨hw, ⟨by show (0 : Int) ≤ 2; omega, by show (2 : Int) ≤ 4; omega, hpd.1, hpd.2, ?_, ?_, ?_⟩, rfl, rfl, by rw [ho1]; omega⟩
      · intro h; exact absurd (show (2 : Int) = 3 from h) (by omega)
      · intro h; exact absurd (show (2 : Int) = 1 from h) (by omega)
      · intro _; exact ⟨by show 1 ≤ en.sz; omega, hle⟩
theorem Q.head {s : PSt} (h : WFs s) (p0 : 0 ≤ s.pad) (p1 : s.pad ≤ 511) (hst : s.st = 0) (ho : s.out.length + 2 ≤ 100000000) : Q s s.head 2 := by
  have hsz := decV_size s.block
  unfold PSt.head
  simp only
  split
  · split
    · have ho1 : ({ ({ s with st := 4, done := true } : PSt).say .don with blank := true } : PSt).out.length = s.out.length + 1 := by show (PSt.say _ _).out.length = _; rw [say_len]
      refine ⟨h.of rfl rfl rfl rfl rfl rfl rfl (by rw [ho1]; omega), ⟨by show (0 : Int) ≤ 4; omega, by show (4 : Int) ≤ 4; omega, p0, p1, ?_, ?_, ?_⟩, rfl, rfl, by rw [ho1]; omega⟩
      · intro h; exact absurd (show (4 : Int) = 3 from h) (by omega)
      · intro h; exact absurd (show (4 : Int) = 1 from h) (by omega)
      · intro h; exact absurd (show (4 : Int) = 2 from h) (by omega)
    · refine ⟨h.of rfl rfl rfl rfl rfl rfl rfl h.ol, ⟨by show 0 ≤ s.st; omega, by show s.st ≤ 4; omega, p0, p1, ?_, ?_, ?_⟩, rfl, rfl, by show s.out.length ≤ _; omega⟩
      · intro h; have : s.st = 3 := h; omega
      · intro h; have : s.st = 1 := h; omega
      · intro h; have : s.st = 2 := h; omega
  · split
    · exact Q.trans (k := 0) rfl rfl (Nat.le_refl _) (Q.bad h p0 p1 (by omega) _) (by omega)
    · split
      · exact Q.trans (k := 0) rfl rfl (Nat.le_refl _) (Q.bad h p0 p1 (by omega) _) (by omega)
      · have hc := h.cl (clsOf (decV s.block).1.typ)
        split
        · exact Q.trans (s' := { s with cls := clsOf (decV s.block).1.typ }) (k := 0) rfl rfl (Nat.le_refl _) (Q.bad hc p0 p1 (by show s.out.length + 1 ≤ _; omega) _) (by omega)
        · split
          · exact Q.trans (s' := { s with cls := clsOf (decV s.block).1.typ }) (k := 0) rfl rfl (Nat.le_refl _) (Q.thing hc p0 p1 (by show s.out.length + 2 ≤ _; omega) _ hsz) (by omega)
          · split
            · exact Q.trans (s' := { s with cls := clsOf (decV s.block).1.typ }) (k := 0) rfl rfl (Nat.le_refl _) (Q.bad hc p0 p1 (by show s.out.length + 1 ≤ _; omega) _) (by omega)
            · rename_i hn
              split
              · exact Q.trans (s' := { s with cls := clsOf (decV s.block).1.typ }) (k := 0) rfl rfl (Nat.le_refl _) (Q.bad hc p0 p1 (by show s.out.length + 1 ≤ _; omega) _) (by omega)
              · rename_i hb
                have hpd := padOf_bounds (decV s.block).1.size
                have hw := h.cls_ (clsOf (decV s.block).1.typ) 1 (decV s.block).1.size (padOf (decV s.block).1.size)
                split
                · exact Q.trans (s' := { s with cls := clsOf (decV s.block).1.typ, st := 1, left := (decV s.block).1.size, pad := padOf (decV s.block).1.size, text := [] }) (k := 0) rfl rfl (Nat.le_refl _) (Q.told hw hpd.1 hpd.2 (by show s.out.length + 1 ≤ _; omega)) (by omega)
                · rename_i hz
                  refine ⟨hw, ⟨by show (0 : Int) ≤ 1; omega, by show (1 : Int) ≤ 4; omega, hpd.1, hpd.2, ?_, ?_, ?_⟩, rfl, rfl, by show s.out.length ≤ _; omega⟩
                  · intro h; exact absurd (show (1 : Int) = 3 from h) (by omega)
                  · intro _
                    refine ⟨by show 1 ≤ (decV s.block).1.size; omega, ?_⟩
                    show ((0 : Nat) : Int) + (decV s.block).1.size ≤ 8192
                    omega
                  · intro h; exact absurd (show (1 : Int) = 2 from h) (by omega)
/-- One round of Feed keeps the bounds. -/
structure RoundOk (s s' : PSt) (xs : List Int) (n : Nat) : Prop where
  wf : WFs s'
  wm : WFm s'
  pos : 0 < n
  le : n ≤ xs.length
  at_ : s'.at_ = s.at_ + n
  out : s'.out.length ≤ s.out.length + 2
theorem WFq.m {s : PSt} (h : WFq s) (hb : s.block.length < 512) : WFm s := ⟨h.s0, h.s4, hb, h.p0, h.p1, h.p3, h.l1, h.l2⟩
theorem round_ok {s s' : PSt} {xs : List Int} {n : Nat} (h : WFs s) (hm : WFm s) (hp : 0 < xs.length) (h4 : s.st ≠ 4) (hb : ∀ x ∈ xs, 0 ≤ x ∧ x < 256) (ha : s.at_ + xs.length ≤ 1099511627776) (ho : s.out.length + 2 ≤ 99999990) (hr : s.round xs = (s', n)) : RoundOk s s' xs n := by
  have hbt : ∀ m, ∀ x ∈ xs.take m, 0 ≤ x ∧ x < 256 := fun m x hx => hb x (List.mem_of_mem_take hx)
  have a0 := h.a0
  have p0 := hm.p0
  have p1 := hm.p1
  unfold PSt.round at hr
  by_cases s0 : s.st = 0
  · rw [if_pos s0] at hr
    obtain ⟨m, hmn⟩ : ∃ m, min xs.length (512 - s.block.length) = m := ⟨_, rfl⟩
    simp only [hmn] at hr
    have hbl := hm.bl
    have hm1 : 0 < m := by omega
    have hm2 : m ≤ xs.length := by omega
    have hzl : (s.block ++ xs.take m).length = s.block.length + m := by rw [List.length_append, List.length_take]; omega
    have hzb : ∀ x ∈ s.block ++ xs.take m, 0 ≤ x ∧ x < 256 := by
      intro x hx
      rcases List.mem_append.1 hx with hx | hx
      · exact h.bb x hx
      · exact hbt m x hx
    by_cases hq : (s.block ++ xs.take m).length = 512
    · rw [if_pos hq] at hr
      simp only [Prod.mk.injEq] at hr
      obtain ⟨hr1, hr2⟩ := hr
      subst hr2
      have hw : WFs { s with block := s.block ++ xs.take m, at_ := s.at_ + m, place := s.at_ + m - 512 } :=
        ⟨hzb, h.tb, (by show (s.block ++ xs.take m).length ≤ 512; omega), h.tl, h.gl, h.ll, h.gs, h.ls, h.nm, h.lk, (by show 0 ≤ s.at_ + (m : Int); omega), (by show s.at_ + (m : Int) ≤ _; omega), h.ol⟩
      have hq := Q.head hw p0 p1 s0 (by show s.out.length + 2 ≤ _; omega)
      rw [← hr1]
      have hwf := hq.wf
      refine ⟨⟨(by intro x hx; exact absurd (show x ∈ ([] : List Int) from hx) (by simp)), hwf.tb, (by show (0 : Nat) ≤ _; omega), hwf.tl, hwf.gl, hwf.ll, hwf.gs, hwf.ls, hwf.nm, hwf.lk, hwf.a0, hwf.a1, hwf.ol⟩, ⟨hq.q.s0, hq.q.s4, (by show (0 : Nat) < _; omega), hq.q.p0, hq.q.p1, hq.q.p3, hq.q.l1, hq.q.l2⟩, hm1, hm2, hq.at_, hq.out⟩
    · rw [if_neg hq] at hr
      simp only [Prod.mk.injEq] at hr
      obtain ⟨hr1, hr2⟩ := hr
      subst hr2
      rw [← hr1]
      refine ⟨⟨hzb, h.tb, (by show (s.block ++ xs.take m).length ≤ 512; omega), h.tl, h.gl, h.ll, h.gs, h.ls, h.nm, h.lk, (by show 0 ≤ s.at_ + (m : Int); omega), (by show s.at_ + (m : Int) ≤ _; omega), h.ol⟩, ⟨hm.s0, hm.s4, (by show (s.block ++ xs.take m).length < 512; omega), p0, p1, hm.p3, hm.l1, hm.l2⟩, hm1, hm2, rfl, by show s.out.length ≤ _; omega⟩
  rw [if_neg s0] at hr
  by_cases s1 : s.st = 1
  · rw [if_pos s1] at hr
    obtain ⟨l1, l2⟩ := hm.l1 s1
    obtain ⟨m, hmn⟩ : ∃ m, min xs.length s.left.toNat = m := ⟨_, rfl⟩
    simp only [hmn] at hr
    have hm1 : 0 < m := by omega
    have hm2 : m ≤ xs.length := by omega
    have hm3 : (m : Int) ≤ s.left := by omega
    have hzl : (s.text ++ xs.take m).length = s.text.length + m := by rw [List.length_append, List.length_take]; omega
    have hzb : ∀ x ∈ s.text ++ xs.take m, 0 ≤ x ∧ x < 256 := by
      intro x hx
      rcases List.mem_append.1 hx with hx | hx
      · exact h.tb x hx
      · exact hbt m x hx
    have hw : WFs { s with text := s.text ++ xs.take m, at_ := s.at_ + m, left := s.left - m } :=
      ⟨h.bb, hzb, h.bl, (by show (s.text ++ xs.take m).length ≤ 8192; omega), h.gl, h.ll, h.gs, h.ls, h.nm, h.lk, (by show 0 ≤ s.at_ + (m : Int); omega), (by show s.at_ + (m : Int) ≤ _; omega), h.ol⟩
    by_cases hq : s.left - (m : Int) = 0
    · rw [if_pos hq] at hr
      simp only [Prod.mk.injEq] at hr
      obtain ⟨hr1, hr2⟩ := hr
      subst hr2
      have q := Q.told hw p0 p1 (by show s.out.length + 1 ≤ _; omega)
      rw [← hr1]
      exact ⟨q.wf, q.q.m (by rw [q.blk]; exact hm.bl), hm1, hm2, q.at_, by have := q.out; exact Nat.le_trans this (by show s.out.length + 1 ≤ _; omega)⟩
    · rw [if_neg hq] at hr
      simp only [Prod.mk.injEq] at hr
      obtain ⟨hr1, hr2⟩ := hr
      subst hr2
      rw [← hr1]
      refine ⟨hw, ⟨hm.s0, hm.s4, hm.bl, p0, p1, hm.p3, ?_, ?_⟩, hm1, hm2, rfl, by show s.out.length ≤ _; omega⟩
      · intro _
        refine ⟨by show 1 ≤ s.left - (m : Int); omega, ?_⟩
        show ((s.text ++ xs.take m).length : Int) + (s.left - (m : Int)) ≤ 8192
        omega
      · intro h2; have h2' : s.st = 2 := h2; omega
  rw [if_neg s1] at hr
  by_cases s2 : s.st = 2
  · rw [if_pos s2] at hr
    obtain ⟨l1, l2⟩ := hm.l2 s2
    obtain ⟨m, hmn⟩ : ∃ m, min xs.length s.left.toNat = m := ⟨_, rfl⟩
    simp only [hmn] at hr
    have hm1 : 0 < m := by omega
    have hm2 : m ≤ xs.length := by omega
    have hm3 : (m : Int) ≤ s.left := by omega
    have ho1 : ({ ({ s with at_ := s.at_ + m } : PSt).say (.dat (xs.take m)) with left := s.left - m } : PSt).out.length = s.out.length + 1 := by show (PSt.say _ _).out.length = _; rw [say_len]
    have hw : WFs { ({ s with at_ := s.at_ + m } : PSt).say (.dat (xs.take m)) with left := s.left - m } :=
      ⟨h.bb, h.tb, h.bl, h.tl, h.gl, h.ll, h.gs, h.ls, h.nm, h.lk, (by show 0 ≤ s.at_ + (m : Int); omega), (by show s.at_ + (m : Int) ≤ _; omega), (by rw [ho1]; omega)⟩
    by_cases hq : s.left - (m : Int) = 0
    · rw [if_pos hq] at hr
      simp only [Prod.mk.injEq] at hr
      obtain ⟨hr1, hr2⟩ := hr
      subst hr2
      have q := Q.finish hw p0 p1 (by rw [ho1]; omega)
      rw [← hr1]
      exact ⟨q.wf, q.q.m (by rw [q.blk]; exact hm.bl), hm1, hm2, q.at_, by have := q.out; rw [ho1] at this; omega⟩
    · rw [if_neg hq] at hr
      simp only [Prod.mk.injEq] at hr
      obtain ⟨hr1, hr2⟩ := hr
      subst hr2
      rw [← hr1]
      refine ⟨hw, ⟨hm.s0, hm.s4, hm.bl, p0, p1, hm.p3, ?_, ?_⟩, hm1, hm2, rfl, by rw [ho1]; omega⟩
      · intro h2; have h2' : s.st = 1 := h2; omega
      · intro _; exact ⟨by show 1 ≤ s.left - (m : Int); omega, by show s.left - (m : Int) ≤ _; omega⟩
  rw [if_neg s2] at hr
  have s3 : s.st = 3 := by have := hm.s0; have := hm.s4; omega
  have p3 := hm.p3 s3
  obtain ⟨m, hmn⟩ : ∃ m, min xs.length s.pad.toNat = m := ⟨_, rfl⟩
  simp only [hmn] at hr
  have hm1 : 0 < m := by omega
  have hm2 : m ≤ xs.length := by omega
  have hm3 : (m : Int) ≤ s.pad := by omega
  have hw : ∀ st, WFs { s with at_ := s.at_ + m, pad := s.pad - m, st := st } := fun st =>
    ⟨h.bb, h.tb, h.bl, h.tl, h.gl, h.ll, h.gs, h.ls, h.nm, h.lk, (by show 0 ≤ s.at_ + (m : Int); omega), (by show s.at_ + (m : Int) ≤ _; omega), h.ol⟩
  by_cases hq : s.pad - (m : Int) = 0
  · rw [if_pos hq] at hr
    simp only [Prod.mk.injEq] at hr
    obtain ⟨hr1, hr2⟩ := hr
    subst hr2
    rw [← hr1]
    refine ⟨hw 0, ⟨by show (0 : Int) ≤ 0; omega, by show (0 : Int) ≤ 4; omega, hm.bl, by show 0 ≤ s.pad - (m : Int); omega, by show s.pad - (m : Int) ≤ _; omega, ?_, ?_, ?_⟩, hm1, hm2, rfl, by show s.out.length ≤ _; omega⟩
    · intro h; exact absurd (show (0 : Int) = 3 from h) (by omega)
    · intro h; exact absurd (show (0 : Int) = 1 from h) (by omega)
    · intro h; exact absurd (show (0 : Int) = 2 from h) (by omega)
  · rw [if_neg hq] at hr
    simp only [Prod.mk.injEq] at hr
    obtain ⟨hr1, hr2⟩ := hr
    subst hr2
    rw [← hr1]
    have hw2 := hw s.st
    refine ⟨hw2, ⟨hm.s0, hm.s4, hm.bl, by show 0 ≤ s.pad - (m : Int); omega, by show s.pad - (m : Int) ≤ _; omega, ?_, hm.l1, hm.l2⟩, hm1, hm2, rfl, by show s.out.length ≤ _; omega⟩
    · intro _; show 1 ≤ s.pad - (m : Int); omega
end Go.Proofs.YtpbpfngichfgeaaGreatDoor
