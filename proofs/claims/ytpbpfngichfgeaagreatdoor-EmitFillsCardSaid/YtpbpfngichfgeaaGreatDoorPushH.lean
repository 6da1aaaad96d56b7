/-
  The parser's method head, walked: a block of 512 bytes.
-/
import Derived.Test.YtpbpfngichfgeaaGreatDoorPushT
import Derived.Test.YtpbpfngichfgeaaGreatDoorHdDec
namespace Go.Proofs.YtpbpfngichfgeaaGreatDoor
set_option linter.unusedVariables false
set_option linter.unusedSimpArgs false
open Go Go.RowKit Go.Proofs.YtpbpfngichfgeaaGreatDoorW.PrintWords Go.Proofs.YtpbpfngichfgeaaGreatDoorW.PrintLast Go.Proofs.YtpbpfngichfgeaaGreatDoorW.PrintMore

theorem textZ_size (l : List Int) : (textZ l).size ≤ l.length := by
  unfold textZ
  show ((strOfNums _).data.size) ≤ _
  have h : (l.takeWhile (· != 0)).length ≤ l.length := (List.takeWhile_sublist _).length_le
  simpa [strOfNums] using h
theorem fldL_size (l : List Int) (i j : Nat) : (fldL l i j).length ≤ l.length := by
  unfold fldL
  simp only [List.length_take, List.length_drop]
  omega
theorem decV_sm (l : List Int) : HdSm (decV l).1 := by
  have h0 : HdSm hd0 := ⟨by decide⟩
  unfold decV
  split
  · exact h0
  rename_i hl
  iterate 6
    split
    · exact h0
  refine ⟨?_⟩
  have h1 := textZ_size (fldL l 0 100)
  have h2 := fldL_size l 0 100
  have h3 := textZ_size (fldL l 345 500)
  have h4 := fldL_size l 345 500
  have h5 : (⟨#[]⟩ : ByteArray).size = 0 := rfl
  show (if _ then _ else _ : ByteArray).size + (textZ (fldL l 0 100)).size ≤ _
  split
  · omega
  · rw [h5]; omega
theorem WFs.cls_ {s : PSt} (h : WFs s) (a b c d : Int) : WFs { s with cls := a, st := b, left := c, pad := d, text := [] } :=
  ⟨h.bb, (by intro x hx; exact absurd hx (by simp)), h.bl, (by show (0 : Nat) ≤ _; omega), h.gl, h.ll, h.gs, h.ls, h.nm, h.lk, h.a0, h.a1, h.ol⟩
theorem WFs.cl {s : PSt} (h : WFs s) (a : Int) : WFs { s with cls := a } :=
  ⟨h.bb, h.tb, h.bl, h.tl, h.gl, h.ll, h.gs, h.ls, h.nm, h.lk, h.a0, h.a1, h.ol⟩
section
variable (w0 : World) (F0 : Nat → Prop) (w : World) (g : Nat) (s : PSt) (vb vt vg vl vo : Value) (h : PSx w0 F0 w g s vb vt vg vl vo) (hw : WFs s) (hol : s.out.length ≤ 99999990) (he : EnvE w0) (hF : ∀ k, F0 k → 7 ≤ k)
include h hw hol he hF
omit he hF in
set_option maxHeartbeats 8000000 in
set_option maxRecDepth 100000 in
theorem head_b1 (hb : blankV s.block = true) (hs : s.blank = true) : Calls Tryz.prog 36 #[.pointer (some ⟨g, 0, none⟩)] w (Does w0 F0 g s.head) := by
  have HR : Hid (s.head = { ({ s with st := 4, done := true }).say .don with blank := true }) := by show _ = _; unfold PSt.head; rw [if_pos hb, if_pos hs]
  obtain ⟨A, c, rfl, hcl, hC⟩ := Kd.R_reads h.rw_.b
  have hblk := hw.bl
  have HBL : Hid (Calls Tryz.prog 61 #[.slice A s.block.length c] w (fun e w' => e = .returned (.bool true) ∧ Below w.heap.size w w')) :=
    (PPua.head_Blank.calls (s.block.length + 1) A c s.block _ w hC hcl (by rw [PPua.blank_val _ (by omega), hb])).mono (by rintro e w' ⟨rfl, ⟨nd, rfl⟩⟩; exact ⟨rfl, below_drewN' (Below.refl _ _) nd⟩)
  obtain ⟨c0, c1, c2, c3, c4, c5, c6, c7, c8, c9, c10, c11, c12, c13, c14, c15⟩ := h.cells
  have HOL := Lib.hid hol
  have HW := Lib.hid hw
  have HS := Lib.hid hs
  have H := Lib.hid h
  clear h hw hol hcl hC hblk hb hs
  go_enter Tryz.func36, Tryz.ntmps36
  go_wp2_with (first | (go_at_call 61; (with_reducible refine (HBL.out).mono ?_); rintro e w1 ⟨rfl, hb1⟩; have P1 := Aside0.mk (H.out.below hb1); obtain ⟨k0, k1, k2, k3, k4, k5, k6, k7, k8, k9, k10, k11, k12, k13, k14, k15⟩ := P1.out.cells; have f0 := P1.out.free 0; have f4 := P1.out.free 4; have f14 := P1.out.free 14; have hg1 := P1.out.blk.lt; rw [HS.out] at k4; clear c0 c1 c2 c3 c4 c5 c6 c7 c8 c9 c10 c11 c12 c13 c14 c15 hb1 k5 k6 k7 k8 k9 k10 k11 k12 k13 k15) | (go_at_call 38; (with_reducible refine (say_nil w0 F0 _ g _ _ _ _ _ _ ((P1.out.setF 0 (.int .i64 4) { s with st := 4 } rfl rfl rfl rfl rfl rfl).setF 14 (.bool true) { s with st := 4, done := true } rfl rfl rfl rfl rfl rfl) .don rfl (show s.out.length ≤ 100000000 from by have := HOL.out; omega) 4 rfl rfl .nilIface rfl (.inl rfl)).mono ?_); rintro e2 w2 ⟨rfl, vo2, hP2, hf2⟩; have f4b := hP2.free 4; have hg2 := hP2.blk.lt; have k4b : w2.cell? ⟨g, 4, none⟩ = some (.bool s.blank) := hP2.cells.2.2.2.2.1))
  go_end0
  rw [HR.out]
  exact ⟨rfl, _, _, _, _, _, hP2.setF 4 (.bool true) _ rfl rfl rfl rfl rfl rfl⟩
omit he hF in
set_option maxHeartbeats 8000000 in
set_option maxRecDepth 100000 in
theorem head_b2 (hb : blankV s.block = true) (hs : s.blank = false) : Calls Tryz.prog 36 #[.pointer (some ⟨g, 0, none⟩)] w (Does w0 F0 g s.head) := by
  have HR : Hid (s.head = { s with blank := true }) := by show _ = _; unfold PSt.head; rw [if_pos hb, if_neg (by rw [hs]; decide)]
  obtain ⟨A, c, rfl, hcl, hC⟩ := Kd.R_reads h.rw_.b
  have hblk := hw.bl
  have HBL : Hid (Calls Tryz.prog 61 #[.slice A s.block.length c] w (fun e w' => e = .returned (.bool true) ∧ Below w.heap.size w w')) :=
    (PPua.head_Blank.calls (s.block.length + 1) A c s.block _ w hC hcl (by rw [PPua.blank_val _ (by omega), hb])).mono (by rintro e w' ⟨rfl, ⟨nd, rfl⟩⟩; exact ⟨rfl, below_drewN' (Below.refl _ _) nd⟩)
  obtain ⟨c0, c1, c2, c3, c4, c5, c6, c7, c8, c9, c10, c11, c12, c13, c14, c15⟩ := h.cells
  have HOL := Lib.hid hol
  have HW := Lib.hid hw
  have HS := Lib.hid hs
  have H := Lib.hid h
  clear h hw hol hcl hC hblk hb hs
  go_enter Tryz.func36, Tryz.ntmps36
  go_wp2_with (first | (go_at_call 61; (with_reducible refine (HBL.out).mono ?_); rintro e w1 ⟨rfl, hb1⟩; have P1 := Aside0.mk (H.out.below hb1); obtain ⟨k0, k1, k2, k3, k4, k5, k6, k7, k8, k9, k10, k11, k12, k13, k14, k15⟩ := P1.out.cells; have f0 := P1.out.free 0; have f4 := P1.out.free 4; have f14 := P1.out.free 14; have hg1 := P1.out.blk.lt; rw [HS.out] at k4; clear c0 c1 c2 c3 c4 c5 c6 c7 c8 c9 c10 c11 c12 c13 c14 c15 hb1 k5 k6 k7 k8 k9 k10 k11 k12 k13 k15))
  go_end0
  rw [HR.out]
  exact ⟨rfl, _, _, _, _, _, P1.out.setF 4 (.bool true) _ rfl rfl rfl rfl rfl rfl⟩
omit he hF in
set_option maxHeartbeats 8000000 in
set_option maxRecDepth 100000 in
theorem head_b3 (hb : blankV s.block = false) (hs : s.blank = true) : Calls Tryz.prog 36 #[.pointer (some ⟨g, 0, none⟩)] w (Does w0 F0 g s.head) := by
  have HR : Hid (s.head = s.bad 120) := by show _ = _; unfold PSt.head; rw [if_neg (by rw [hb]; decide), if_pos hs]
  obtain ⟨A, c, rfl, hcl, hC⟩ := Kd.R_reads h.rw_.b
  have hblk := hw.bl
  have HBL : Hid (Calls Tryz.prog 61 #[.slice A s.block.length c] w (fun e w' => e = .returned (.bool false) ∧ Below w.heap.size w w')) :=
    (PPua.head_Blank.calls (s.block.length + 1) A c s.block _ w hC hcl (by rw [PPua.blank_val _ (by omega), hb])).mono (by rintro e w' ⟨rfl, ⟨nd, rfl⟩⟩; exact ⟨rfl, below_drewN' (Below.refl _ _) nd⟩)
  obtain ⟨c0, c1, c2, c3, c4, c5, c6, c7, c8, c9, c10, c11, c12, c13, c14, c15⟩ := h.cells
  have HOL := Lib.hid hol
  have HW := Lib.hid hw
  have HS := Lib.hid hs
  have H := Lib.hid h
  clear h hw hol hcl hC hblk hb hs
  go_enter Tryz.func36, Tryz.ntmps36
  go_wp2_with (first | (go_at_call 61; (with_reducible refine (HBL.out).mono ?_); rintro e w1 ⟨rfl, hb1⟩; have P1 := Aside0.mk (H.out.below hb1); obtain ⟨k0, k1, k2, k3, k4, k5, k6, k7, k8, k9, k10, k11, k12, k13, k14, k15⟩ := P1.out.cells; have f0 := P1.out.free 0; have f4 := P1.out.free 4; have f14 := P1.out.free 14; have hg1 := P1.out.blk.lt; rw [HS.out] at k4; clear c0 c1 c2 c3 c4 c5 c6 c7 c8 c9 c10 c11 c12 c13 c14 c15 hb1 k5 k6 k7 k8 k9 k10 k11 k12 k13 k15) | (go_at_call 62; (with_reducible refine (bad_any w0 F0 _ g s _ _ _ _ _ P1.out 120 (by decide) (by have := HOL.out; omega)).mono ?_); rintro e3 w3 ⟨rfl, hD⟩))
  go_end0
  rw [HR.out]
  exact ⟨rfl, hD⟩
set_option maxHeartbeats 8000000 in
set_option maxRecDepth 100000 in
theorem head_long (hb : blankV s.block = false) (hs : s.blank = false) : Calls Tryz.prog 36 #[.pointer (some ⟨g, 0, none⟩)] w (Does w0 F0 g s.head) := by
  obtain ⟨hd, err, hdv⟩ : ∃ hd err, decV s.block = (hd, err) := ⟨_, _, rfl⟩
  have hsm := decV_sm s.block
  rw [hdv] at hsm
  have HSM := Lib.hid hsm
  have HDV := Lib.hid hdv
  obtain ⟨A, c, rfl, hcl, hC⟩ := Kd.R_reads h.rw_.b
  have hblk := hw.bl
  have HBL : Hid (Calls Tryz.prog 61 #[.slice A s.block.length c] w (fun e w' => e = .returned (.bool false) ∧ Below w.heap.size w w')) :=
    (PPua.head_Blank.calls (s.block.length + 1) A c s.block _ w hC hcl (by rw [PPua.blank_val _ (by omega), hb])).mono (by rintro e w' ⟨rfl, ⟨nd, rfl⟩⟩; exact ⟨rfl, below_drewN' (Below.refl _ _) nd⟩)
  obtain ⟨c0, c1, c2, c3, c4, c5, c6, c7, c8, c9, c10, c11, c12, c13, c14, c15⟩ := h.cells
  have HOL := Lib.hid hol
  have HW := Lib.hid hw
  have HDE : Hid (∀ W, Below w.heap.size w W → Calls Tryz.prog 63 #[.slice A s.block.length c] W (DecEnd (hd, err) W)) := fun W hW => by
    have := dec_any A c s.block W (Kd.C_below hC hW) hcl (by omega) hw.bb ((h.fr.env hF he).below hW)
    rw [hdv] at this
    exact this
  have HB0 := Lib.hid hb
  have HS := Lib.hid hs
  have H := Lib.hid h
  have HE := Lib.hid he
  have HF := Lib.hid hF
  clear h hw hol he hF hcl hC hblk hb hs hdv hsm
  obtain ⟨form, name, link, pre, user, group, typ, mode, uid, gid, size, mtime⟩ := hd
  go_enter Tryz.func36, Tryz.ntmps36
  go_upto_region 8 with (first | (go_at_call 61; (with_reducible refine (HBL.out).mono ?_); rintro e w1 ⟨rfl, hb1⟩; have P1 := Aside0.mk (H.out.below hb1); obtain ⟨k0, k1, k2, k3, k4, k5, k6, k7, k8, k9, k10, k11, k12, k13, k14, k15⟩ := P1.out.cells; have hg1 := P1.out.blk.lt; have hb1d := hb1; rw [HS.out] at k4; clear c0 c1 c2 c3 c4 c5 c6 c7 c8 c9 c10 c11 c12 c13 c14 c15 hb1 k0 k2 k3 k5 k6 k7 k8 k9 k10 k11 k12 k13 k14 k15) | (go_at_call 63; (with_reducible refine (HDE.out _ hb1d).mono ?_); rintro e2 w2 ⟨rfl, hb2⟩))
  have P2 := Aside0.mk (P1.out.below (below_next hb2 (below_alloc (Below.refl _ _) (.cells #[.int .i64 form, .string name, .string link, .string pre, .string user, .string group, .int .u8 typ, .int .i64 mode, .int .i64 uid, .int .i64 gid, .int .i64 size, .int .i64 mtime] 36))))
  have B2 := Aside0.mk (Blk.new w2 36 #[.int .i64 form, .string name, .string link, .string pre, .string user, .string group, .int .u8 typ, .int .i64 mode, .int .i64 uid, .int .i64 gid, .int .i64 size, .int .i64 mtime])
  clear HDE HBL hb1d hb2 k1 k4 hg1 P1 H
  obtain ⟨bh, hbh⟩ : ∃ bh, w2.heap.size = bh := ⟨_, rfl⟩
  rw [hbh] at B2 ⊢
  generalize w2.alloc _ = W2 at P2 B2 ⊢
  clear hbh
  by_cases he0 : err = 0
  case neg =>
    have HR : Hid (s.head = s.bad err) := by
      show _ = _
      unfold PSt.head
      rw [if_neg (by rw [HB0.out]; decide), if_neg (by rw [HS.out]; decide), HDV.out]
      exact if_pos he0
    have e1 : (err != 0) = true := by simpa using he0
    have HE0 := Lib.hid he0
    clear he0
    go_wp2_with ((go_at_call 62; (with_reducible refine (bad_any w0 F0 _ g s _ _ _ _ _ P2.out err HE0.out (by have := HOL.out; omega)).mono ?_); rintro e3 w3 ⟨rfl, hD⟩))
    go_end0
    rw [HR.out]
    exact ⟨rfl, hD⟩
  case pos =>
  subst he0
  obtain ⟨cl, hcl⟩ : ∃ cl, clsOf typ = cl := ⟨_, rfl⟩
  have HKC : Hid (∀ W, Calls Tryz.prog 64 #[.int .u8 typ] W fun e w' => e = .returned (.int .i64 cl) ∧ Drawn0 W w') := fun W => PPua.kind_Class.calls typ cl W (by rw [PPua.class_val, hcl])
  have HR : Hid (s.head = if cl = 0 then ({ s with cls := cl } : PSt).bad 80 else if cl = 1 then ({ s with cls := cl } : PSt).thing ⟨form, name, link, pre, user, group, typ, mode, uid, gid, size, mtime⟩ else
      if size < 0 then ({ s with cls := cl } : PSt).bad 90 else if 8192 < size then ({ s with cls := cl } : PSt).bad 2 else
      if size = 0 then ({ s with cls := cl, st := 1, left := size, pad := padOf size, text := [] } : PSt).told else { s with cls := cl, st := 1, left := size, pad := padOf size, text := [] }) := by
    show _ = _
    unfold PSt.head
    rw [if_neg (by rw [HB0.out]; decide), if_neg (by rw [HS.out]; decide), HDV.out]
    subst hcl
    exact if_neg (fun h => h rfl)
  clear hcl
  obtain ⟨x0, x1, x2, x3, x4, x5, x6, x7, x8, x9, x10, x11⟩ := blk12 B2.out
  have f5 := P2.out.free 5
  have k5 := P2.out.cells.2.2.2.2.2.1
  have hg2 := P2.out.blk.lt
  have hne : bh ≠ g := fun e => by
    have h1 := B2.out
    have h2 := P2.out.blk
    rw [e] at h1
    exact absurd rfl (Blk.ne_ h1 h2 (by decide))
  go_upto_region 11 with ((go_at_call 64; (with_reducible refine (HKC.out _).mono ?_); rintro e3 w3 ⟨rfl, ⟨nd, rfl⟩⟩))
  have P3 : Aside0 (PSx w0 F0 ((W2.drewN nd).setCell ⟨g, 5, none⟩ (.int .i64 cl)) g { s with cls := cl } (.slice A s.block.length c) vt vg vl vo) :=
    ⟨(P2.out.below (below_drewN' (Below.refl _ _) nd)).setF 5 (.int .i64 cl) _ rfl rfl rfl rfl rfl rfl⟩
  have B3 : Aside0 (Blk ((W2.drewN nd).setCell ⟨g, 5, none⟩ (.int .i64 cl)) bh 36 #[.int .i64 form, .string name, .string link, .string pre, .string user, .string group, .int .u8 typ, .int .i64 mode, .int .i64 uid, .int .i64 gid, .int .i64 size, .int .i64 mtime]) := ⟨(B2.out.drewN nd).far (p := ⟨g, 5, none⟩) hne _⟩
  clear P2 B2 x0 x1 x2 x3 x4 x5 x6 x7 x8 x9 x10 x11 f5 k5 hg2 HKC
  generalize World.setCell _ _ _ = W3 at P3 B3 ⊢
  obtain ⟨x0, x1, x2, x3, x4, x5, x6, x7, x8, x9, x10, x11⟩ := blk12 B3.out
  have k5 : W3.cell? ⟨g, 5, none⟩ = some (.int .i64 cl) := P3.out.cells.2.2.2.2.2.1
  have hg3 := P3.out.blk.lt
  by_cases h0 : cl = 0
  case pos =>
    have e0 : (cl == 0) = true := by simpa using h0
    rw [if_pos h0] at HR
    clear h0
    go_wp2_with ((go_at_call 62; (with_reducible refine (bad_any w0 F0 _ g _ _ _ _ _ _ P3.out 80 (by decide) (by have := HOL.out; show s.out.length ≤ _; omega)).mono ?_); rintro e3 w3 ⟨rfl, hD⟩))
    go_end0
    rw [HR.out]
    exact ⟨rfl, hD⟩
  have e0 : (cl == 0) = false := by simpa using h0
  rw [if_neg h0] at HR
  clear h0
  by_cases h1 : cl = 1
  case pos =>
    have e1 : (cl == 1) = true := by simpa using h1
    rw [if_pos h1] at HR
    clear h1
    go_wp2_with ((go_at_call 65; (with_reducible refine (thing_any w0 F0 _ g _ _ _ _ _ _ P3.out (HW.out.cl cl) HE.out HF.out ⟨form, name, link, pre, user, group, typ, mode, uid, gid, size, mtime⟩ HSM.out HOL.out).mono ?_); rintro e3 w3 ⟨rfl, hD⟩))
    go_end0
    rw [HR.out]
    exact ⟨rfl, hD⟩
  have e1 : (cl == 1) = false := by simpa using h1
  rw [if_neg h1] at HR
  clear h1
  by_cases h2 : size < 0
  case pos =>
    have e2 : decide (size < 0) = true := by simpa using h2
    rw [if_pos h2] at HR
    clear h2
    go_wp2_with ((go_at_call 62; (with_reducible refine (bad_any w0 F0 _ g _ _ _ _ _ _ P3.out 90 (by decide) (by have := HOL.out; show s.out.length ≤ _; omega)).mono ?_); rintro e3 w3 ⟨rfl, hD⟩))
    go_end0
    rw [HR.out]
    exact ⟨rfl, hD⟩
  have e2 : decide (size < 0) = false := by simpa using h2
  rw [if_neg h2] at HR
  by_cases h3 : 8192 < size
  case pos =>
    have e3 : decide (8192 < size) = true := by simpa using h3
    rw [if_pos h3] at HR
    clear h3 h2
    go_wp2_with ((go_at_call 62; (with_reducible refine (bad_any w0 F0 _ g _ _ _ _ _ _ P3.out 2 (by decide) (by have := HOL.out; show s.out.length ≤ _; omega)).mono ?_); rintro e3 w3 ⟨rfl, hD⟩))
    go_end0
    rw [HR.out]
    exact ⟨rfl, hD⟩
  have e3 : decide (8192 < size) = false := by simpa using h3
  rw [if_neg h3] at HR
  have HPD : Hid (∀ W, Calls Tryz.prog 16 #[.int .i64 size] W fun e w' => e = .returned (.int .i64 (padOf size)) ∧ Drawn0 W w') := fun W => PPua.entry_Pad.calls size (padOf size) W (PPua.pad_val size (by omega))
  clear h2 h3
  go_upto_region 12 with (fail)
  have f0 := P3.out.free 0
  have f6 := P3.out.free 6
  have f11 := P3.out.free 11
  have f12 := P3.out.free 12
  obtain ⟨k0, k1, k2, k3, k4, k5, k6, k7, k8, k9, k10, k11, k12, k13, k14, k15⟩ := P3.out.cells
  clear k1 k2 k3 k4 k5 k7 k8 k9 k10 k13 k14 k15
  go_region_with ((with_reducible refine (HPD.out _).mono ?_); rintro e7 w7 ⟨rfl, ⟨nd, rfl⟩⟩)
  all_goals clear k0 k5 k6 k11 k12 f0 f6 f11 f12 x0 x1 x2 x3 x4 x5 x6 x7 x8 x9 x10 x11 HPD hg3
  all_goals
    have P7 : Aside0 (PSx w0 F0 (((((W3.drewN (1 + nd)).setCell ⟨g, 0, none⟩ (.int .i64 1)).setCell ⟨g, 11, none⟩ (.int .i64 size)).setCell ⟨g, 12, none⟩ (.int .i64 (padOf size))).setCell ⟨g, 6, none⟩ (.slice none 0 0)) g { s with cls := cl, st := 1, left := size, pad := padOf size, text := [] } (.slice A s.block.length c) (.slice none 0 0) vg vl vo) :=
      ⟨((((P3.out.below (below_drewN' (Below.refl _ _) (1 + nd))).setF 0 (.int .i64 1) { s with cls := cl, st := 1 } rfl rfl rfl rfl rfl rfl).setF 11 (.int .i64 size) { s with cls := cl, st := 1, left := size } rfl rfl rfl rfl rfl rfl).setF 12 (.int .i64 (padOf size)) { s with cls := cl, st := 1, left := size, pad := padOf size } rfl rfl rfl rfl rfl rfl).textN⟩
    have B7 : Aside0 (Blk (((((W3.drewN (1 + nd)).setCell ⟨g, 0, none⟩ (.int .i64 1)).setCell ⟨g, 11, none⟩ (.int .i64 size)).setCell ⟨g, 12, none⟩ (.int .i64 (padOf size))).setCell ⟨g, 6, none⟩ (.slice none 0 0)) bh 36 #[.int .i64 form, .string name, .string link, .string pre, .string user, .string group, .int .u8 typ, .int .i64 mode, .int .i64 uid, .int .i64 gid, .int .i64 size, .int .i64 mtime]) :=
      ⟨((((B3.out.drewN (1 + nd)).far (p := ⟨g, 0, none⟩) hne _).far (p := ⟨g, 11, none⟩) hne _).far (p := ⟨g, 12, none⟩) hne _).far (p := ⟨g, 6, none⟩) hne _⟩
    clear P3 B3
    generalize World.setCell _ _ _ = W7 at P7 B7 ⊢
    have x10 : W7.cell? ⟨bh, 10, none⟩ = some (.int .i64 size) := B7.out.cell 10
    by_cases hz : size = 0
    · rw [if_pos hz] at HR
      have e4 : (size == 0) = true := by simpa using hz
      clear hz
      go_wp2_with ((go_at_call 37; (with_reducible refine (told_any w0 F0 _ g _ _ _ _ _ _ P7.out (HW.out.cls_ cl 1 size (padOf size)) HE.out HF.out).mono ?_); rintro e3 w3 ⟨rfl, hD⟩))
      go_end0
      rw [HR.out]
      exact ⟨rfl, hD⟩
    · rw [if_neg hz] at HR
      have e4 : (size == 0) = false := by simpa using hz
      clear hz
      go_wp2
      go_end0
      rw [HR.out]
      exact ⟨rfl, _, _, _, _, _, P7.out⟩
theorem phead_any : Calls Tryz.prog 36 #[.pointer (some ⟨g, 0, none⟩)] w (Does w0 F0 g s.head) := by
  cases hb : blankV s.block with
  | true => cases hs : s.blank with
    | true => exact head_b1 w0 F0 w g s vb vt vg vl vo h hw hol hb hs
    | false => exact head_b2 w0 F0 w g s vb vt vg vl vo h hw hol hb hs
  | false => cases hs : s.blank with
    | true => exact head_b3 w0 F0 w g s vb vt vg vl vo h hw hol hb hs
    | false => exact head_long w0 F0 w g s vb vt vg vl vo h hw hol he hF hb hs
end
end Go.Proofs.YtpbpfngichfgeaaGreatDoor
