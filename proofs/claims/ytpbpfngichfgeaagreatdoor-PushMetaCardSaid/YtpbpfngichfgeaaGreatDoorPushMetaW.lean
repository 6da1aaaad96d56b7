/-
  PushMeta, walked: it answers true.
-/
import Derived.Test.YtpbpfngichfgeaaGreatDoorPushEL
import Derived.Test.YtpbpfngichfgeaaGreatDoorPushRd
namespace Go.Proofs.YtpbpfngichfgeaaGreatDoor
set_option linter.unusedVariables false
set_option linter.unusedSectionVars false
set_option linter.unusedSimpArgs false
open Go Go.RowKit Go.Proofs.YtpbpfngichfgeaaGreatDoorW.PrintWords Go.Proofs.YtpbpfngichfgeaaGreatDoorW.PrintLast Go.Proofs.YtpbpfngichfgeaaGreatDoorW.PrintMore

def Yes (w : World) (e : Ending) (w' : World) : Prop := e = .returned (.bool true) ∧ Below w.heap.size w w'
set_option maxHeartbeats 8000000 in
set_option maxRecDepth 100000 in
theorem meta_typ (size typ : Int) (w : World) (he : EnvE w) (hg : w.cell? ⟨0, 0, none⟩ = some etype) (h : ¬ (typ = 120 ∨ typ = 103 ∨ typ = 76 ∨ typ = 75)) : Calls Tryz.prog 9 #[.int .i64 size, .int .u8 typ] w (Yes w) := by
  have HR := Lib.hid (reads_any w he)
  have n1 : (typ != 120) = true := by simp; omega
  have n2 : (typ != 103) = true := by simp; omega
  have n3 : (typ != 76) = true := by simp; omega
  have n4 : (typ != 75) = true := by simp; omega
  clear he hg h
  go_enter Tryz.func9, Tryz.ntmps9
  go_wp2_with ((go_at_call 19; (with_reducible refine HR.out.mono ?_); rintro e w1 ⟨rfl, hb1⟩; have HB1 := Lib.hid hb1; clear hb1))
  go_ret
  exact ⟨rfl, HB1.out⟩
set_option maxHeartbeats 8000000 in
set_option maxRecDepth 100000 in
theorem meta_neg120 (size typ : Int) (w : World) (he : EnvE w) (hg : w.cell? ⟨0, 0, none⟩ = some etype) (h : size < 0 ∨ 8589934592 ≤ size) (ht : typ = 120) : Calls Tryz.prog 9 #[.int .i64 size, .int .u8 typ] w (Yes w) := by
  have HR := Lib.hid (reads_any w he)
  subst ht
  clear he hg
  have n1 : (decide (size < 0) || decide (8589934592 ≤ size)) = true := by simpa using h
  rcases Decidable.em (size < 0) with hn | hn
  · have n2 : decide (size < 0) = true := by simpa using hn
    clear hn n1 h
    go_enter Tryz.func9, Tryz.ntmps9
    go_wp2_with ((go_at_call 19; (with_reducible refine HR.out.mono ?_); rintro e w1 ⟨rfl, hb1⟩; have HB1 := Lib.hid hb1; clear hb1))
    go_ret
    exact ⟨rfl, HB1.out⟩
  have n2 : decide (size < 0) = false := by simpa using hn
  have n3 : decide (8589934592 ≤ size) = true := by simp; omega
  clear hn n1 h
  go_enter Tryz.func9, Tryz.ntmps9
  go_wp2_with ((go_at_call 19; (with_reducible refine HR.out.mono ?_); rintro e w1 ⟨rfl, hb1⟩; have HB1 := Lib.hid hb1; clear hb1))
  go_ret
  exact ⟨rfl, HB1.out⟩
set_option maxHeartbeats 8000000 in
set_option maxRecDepth 100000 in
theorem meta_big120 (size typ : Int) (w : World) (he : EnvE w) (hg : w.cell? ⟨0, 0, none⟩ = some etype) (h0 : 0 ≤ size) (h1 : size < 8589934592) (hb : 8192 < size) (ht : typ = 120) : Calls Tryz.prog 9 #[.int .i64 size, .int .u8 typ] w (Yes w) := by
  have HR := Lib.hid (reads_any w he)
  subst ht
  have hms := meta_feed (typ := 120) (size := size) (by decide) h0 h1
  have hbr := hdrL_range (metaFits (typ := 120) (size := size) (by decide) h0 h1)
  have hbl := hdrL_length (metaFits (typ := 120) (size := size) (by decide) h0 h1)
  have HH := Lib.hid (fun W => head_any 0 ⟨#[112]⟩ ⟨#[]⟩ ⟨#[]⟩ ⟨#[]⟩ ⟨#[]⟩ 120 0 0 0 size 0 W (metaFits (typ := 120) (size := size) (by decide) h0 h1))
  obtain ⟨xs, hxs⟩ : ∃ xs, metaB 120 size = xs := ⟨_, rfl⟩
  obtain ⟨r, hr⟩ : ∃ r, ps0.feed xs = r := ⟨_, rfl⟩
  have hx2 : hdrL ⟨#[112]⟩ ⟨#[]⟩ ⟨#[]⟩ ⟨#[]⟩ ⟨#[]⟩ 120 0 0 0 size 0 = xs := hxs
  rw [hx2] at hbr hbl
  simp only [hx2] at HH
  rw [hxs, hr] at hms
  have HBR := Lib.hid hbr
  have HBL := Lib.hid hbl
  have HFR := Lib.hid hr
  have HM := Lib.hid (hms.1 hb)
  have n2 : decide (size < 0) = false := by simp; omega
  have n3 : decide (8589934592 ≤ size) = false := by simp; omega
  have n4 : decide (8192 < size) = true := by simp; omega
  have HE := Lib.hid he
  have HG := Lib.hid hg
  clear he hg h0 h1 hb hms hbr hbl hxs hx2 hr
  go_enter Tryz.func9, Tryz.ntmps9
  go_upto_region 8 with (first | (go_at_call 19; (with_reducible refine HR.out.mono ?_); rintro e w1 ⟨rfl, hb1⟩; have HB1 := Lib.hid hb1; clear hb1) | (go_at_call 15; (with_reducible refine (HH.out _).mono ?_); rintro e w2 ⟨v2, rfl, hR2, hb2⟩; have HR2 := Lib.hid hR2; have HB2 := Lib.hid hb2; clear hR2 hb2))
  obtain ⟨A2, c2, hv2⟩ := Kd.R_slice HR2.out
  rw [hv2] at HR2 ⊢
  have HFD := Lib.hid (feed_new w2 ((HE.out.below HB1.out).below HB2.out) A2 c2 xs _ (Kd.R_lower HR2.out (Nat.zero_le _)) HBR.out (by rw [HBL.out]; decide))
  rw [HFR.out] at HFD
  have HLE : Hid (w.heap.size ≤ w2.heap.size) := Nat.le_trans HB1.out.size HB2.out.size
  rw [HBL.out] at HFD ⊢
  clear hv2 HH HR HR2
  go_upto_region 10 with (first | (go_at_call 12; (with_reducible refine (new_any w2).mono ?_); rintro e w4 ⟨rfl, rfl⟩) | (go_at_call 17; (with_reducible refine HFD.out.mono ?_); rintro e w5 ⟨vb, vt, vg, vl, vo, rfl, hP, hEv⟩))
  have HB5 : Hid (Below w.heap.size w w5) := frm_below (below_next (below_next HB1.out HB2.out) (below_alloc (Below.refl _ _) _)) hP.fr (fun k hk => by rw [hk]; exact HLE.out)
  have HG5 : Hid (w5.cell? ⟨0, 0, none⟩ = some etype) := cell_below HB5.out (Nat.lt_of_lt_of_le (by decide) (ng_of_env HE.out)) HG.out
  rw [HM.out] at hEv
  obtain ⟨G, cap, hvo, _, _, _⟩ := Kd.R_form hEv (by simp)
  have hlen : ([⟨.bad 2 0, 512⟩] : List Evt).length = 1 := rfl
  rw [hlen] at hvo
  subst hvo
  obtain ⟨vd0, q0, _⟩ := ev_at hEv 0 (by omega) _ rfl
  have y0 : w5.cell? ⟨G, 0, none⟩ = some (.int .i64 5) := q0 0 _ rfl
  have y12 : w5.cell? ⟨G, 12, none⟩ = some (.iface 105 (.agg #[.int .i64 0, .iface 27 (.int .i64 2)])) := q0 12 _ rfl
  have hgl : G < w5.heap.size := Kd.R_lt hEv G rfl
  clear hEv hlen q0 hP HFD HM
  go_wp2_with (first | (go_at_call 13; (with_reducible refine (code_any 2 [0] _ _ (.wrap 0 [] _ _ .leaf) _ HG5.out).mono ?_); rintro e w6 ⟨rfl, hb6⟩; have HB6 := Lib.hid hb6; have y12b := cell_below hb6 hgl y12; clear y0 hb6) | (go_at_call 24; (with_reducible refine (place_any 0 _ _ _ (cell_below HB6.out (Nat.lt_of_lt_of_le (by decide) (Nat.le_trans (ng_of_env HE.out) HB5.out.size)) HG5.out)).mono ?_); rintro e w7 ⟨rfl, hb7⟩; have HB7 := Lib.hid hb7; clear hb7))
  go_ret
  exact ⟨rfl, below_next (below_next HB5.out HB6.out) HB7.out⟩
set_option maxHeartbeats 8000000 in
set_option maxRecDepth 100000 in
theorem meta_small120 (size typ : Int) (w : World) (he : EnvE w) (hg : w.cell? ⟨0, 0, none⟩ = some etype) (h0 : 0 ≤ size) (h1 : size < 8589934592) (hb : size ≤ 8192) (ht : typ = 120) : Calls Tryz.prog 9 #[.int .i64 size, .int .u8 typ] w (Yes w) := by
  have HR := Lib.hid (reads_any w he)
  subst ht
  have hms := meta_feed (typ := 120) (size := size) (by decide) h0 h1
  have hbr := hdrL_range (metaFits (typ := 120) (size := size) (by decide) h0 h1)
  have hbl := hdrL_length (metaFits (typ := 120) (size := size) (by decide) h0 h1)
  have HH := Lib.hid (fun W => head_any 0 ⟨#[112]⟩ ⟨#[]⟩ ⟨#[]⟩ ⟨#[]⟩ ⟨#[]⟩ 120 0 0 0 size 0 W (metaFits (typ := 120) (size := size) (by decide) h0 h1))
  obtain ⟨xs, hxs⟩ : ∃ xs, metaB 120 size = xs := ⟨_, rfl⟩
  obtain ⟨r, hr⟩ : ∃ r, ps0.feed xs = r := ⟨_, rfl⟩
  have hx2 : hdrL ⟨#[112]⟩ ⟨#[]⟩ ⟨#[]⟩ ⟨#[]⟩ ⟨#[]⟩ 120 0 0 0 size 0 = xs := hxs
  rw [hx2] at hbr hbl
  simp only [hx2] at HH
  rw [hxs, hr] at hms
  have HBR := Lib.hid hbr
  have HBL := Lib.hid hbl
  have HFR := Lib.hid hr
  have HM := Lib.hid (hms.2 hb)
  have n2 : decide (size < 0) = false := by simp; omega
  have n3 : decide (8589934592 ≤ size) = false := by simp; omega
  have n4 : decide (8192 < size) = false := by simp; omega
  have HE := Lib.hid he
  have HG := Lib.hid hg
  clear he hg h0 h1 hb hms hbr hbl hxs hx2 hr
  go_enter Tryz.func9, Tryz.ntmps9
  go_upto_region 8 with (first | (go_at_call 19; (with_reducible refine HR.out.mono ?_); rintro e w1 ⟨rfl, hb1⟩; have HB1 := Lib.hid hb1; clear hb1) | (go_at_call 15; (with_reducible refine (HH.out _).mono ?_); rintro e w2 ⟨v2, rfl, hR2, hb2⟩; have HR2 := Lib.hid hR2; have HB2 := Lib.hid hb2; clear hR2 hb2))
  obtain ⟨A2, c2, hv2⟩ := Kd.R_slice HR2.out
  rw [hv2] at HR2 ⊢
  have HFD := Lib.hid (feed_new w2 ((HE.out.below HB1.out).below HB2.out) A2 c2 xs _ (Kd.R_lower HR2.out (Nat.zero_le _)) HBR.out (by rw [HBL.out]; decide))
  rw [HFR.out] at HFD
  have HLE : Hid (w.heap.size ≤ w2.heap.size) := Nat.le_trans HB1.out.size HB2.out.size
  rw [HBL.out] at HFD ⊢
  clear hv2 HH HR HR2
  go_upto_region 10 with (first | (go_at_call 12; (with_reducible refine (new_any w2).mono ?_); rintro e w4 ⟨rfl, rfl⟩) | (go_at_call 17; (with_reducible refine HFD.out.mono ?_); rintro e w5 ⟨vb, vt, vg, vl, vo, rfl, hP, hEv⟩))
  have HB5 : Hid (Below w.heap.size w w5) := frm_below (below_next (below_next HB1.out HB2.out) (below_alloc (Below.refl _ _) _)) hP.fr (fun k hk => by rw [hk]; exact HLE.out)
  have HG5 : Hid (w5.cell? ⟨0, 0, none⟩ = some etype) := cell_below HB5.out (Nat.lt_of_lt_of_le (by decide) (ng_of_env HE.out)) HG.out
  obtain ⟨m1, m2, m3, m4⟩ := HM.out
  rw [m1] at hEv
  obtain ⟨Ao, co, hvo⟩ := Kd.R_slice hEv
  have hlen : ([] : List Evt).length = 0 := rfl
  rw [hlen] at hvo
  subst hvo
  have HEND : Hid (errV ({ r with out := [] } : PSt).endE = .iface 105 (.agg #[.int .i64 512, .iface 27 (.int .i64 5)])) := by
    show _ = _
    unfold PSt.endE
    simp [m2, m3, m4]
  have HAT : Hid (({ r with out := [] } : PSt).at_ = 512) := m4
  have HEN := Lib.hid (end_any _ _ w5 _ _ _ _ _ _ _ hP)
  rw [HEND.out] at HEN
  have HPP := Aside0.mk hP
  clear hEv hlen hP HFD HM m1 m2 m3 m4 HEND
  go_wp2_with (first | (go_at_call 14; (with_reducible refine HEN.out.mono ?_); rintro e w6 ⟨rfl, rfl⟩) | (go_at_call 13; (with_reducible refine (code_any 5 [512] _ _ (.wrap 512 [] _ _ .leaf) _ HG5.out).mono ?_); rintro e w6 ⟨rfl, hb6⟩; have HB6 := Lib.hid hb6; have HA6 := Lib.hid (at_any _ _ _ _ _ _ _ _ _ _ (HPP.out.below hb6)); rw [HAT.out] at HA6; clear hb6) | (go_at_call 18; (with_reducible refine HA6.out.mono ?_); rintro e w7 ⟨rfl, rfl⟩))
  go_ret
  exact ⟨rfl, below_next HB5.out HB6.out⟩
set_option maxHeartbeats 8000000 in
set_option maxRecDepth 100000 in
theorem meta_neg103 (size typ : Int) (w : World) (he : EnvE w) (hg : w.cell? ⟨0, 0, none⟩ = some etype) (h : size < 0 ∨ 8589934592 ≤ size) (ht : typ = 103) : Calls Tryz.prog 9 #[.int .i64 size, .int .u8 typ] w (Yes w) := by
  have HR := Lib.hid (reads_any w he)
  subst ht
  clear he hg
  have n1 : (decide (size < 0) || decide (8589934592 ≤ size)) = true := by simpa using h
  rcases Decidable.em (size < 0) with hn | hn
  · have n2 : decide (size < 0) = true := by simpa using hn
    clear hn n1 h
    go_enter Tryz.func9, Tryz.ntmps9
    go_wp2_with ((go_at_call 19; (with_reducible refine HR.out.mono ?_); rintro e w1 ⟨rfl, hb1⟩; have HB1 := Lib.hid hb1; clear hb1))
    go_ret
    exact ⟨rfl, HB1.out⟩
  have n2 : decide (size < 0) = false := by simpa using hn
  have n3 : decide (8589934592 ≤ size) = true := by simp; omega
  clear hn n1 h
  go_enter Tryz.func9, Tryz.ntmps9
  go_wp2_with ((go_at_call 19; (with_reducible refine HR.out.mono ?_); rintro e w1 ⟨rfl, hb1⟩; have HB1 := Lib.hid hb1; clear hb1))
  go_ret
  exact ⟨rfl, HB1.out⟩
set_option maxHeartbeats 8000000 in
set_option maxRecDepth 100000 in
theorem meta_big103 (size typ : Int) (w : World) (he : EnvE w) (hg : w.cell? ⟨0, 0, none⟩ = some etype) (h0 : 0 ≤ size) (h1 : size < 8589934592) (hb : 8192 < size) (ht : typ = 103) : Calls Tryz.prog 9 #[.int .i64 size, .int .u8 typ] w (Yes w) := by
  have HR := Lib.hid (reads_any w he)
  subst ht
  have hms := meta_feed (typ := 103) (size := size) (by decide) h0 h1
  have hbr := hdrL_range (metaFits (typ := 103) (size := size) (by decide) h0 h1)
  have hbl := hdrL_length (metaFits (typ := 103) (size := size) (by decide) h0 h1)
  have HH := Lib.hid (fun W => head_any 0 ⟨#[112]⟩ ⟨#[]⟩ ⟨#[]⟩ ⟨#[]⟩ ⟨#[]⟩ 103 0 0 0 size 0 W (metaFits (typ := 103) (size := size) (by decide) h0 h1))
  obtain ⟨xs, hxs⟩ : ∃ xs, metaB 103 size = xs := ⟨_, rfl⟩
  obtain ⟨r, hr⟩ : ∃ r, ps0.feed xs = r := ⟨_, rfl⟩
  have hx2 : hdrL ⟨#[112]⟩ ⟨#[]⟩ ⟨#[]⟩ ⟨#[]⟩ ⟨#[]⟩ 103 0 0 0 size 0 = xs := hxs
  rw [hx2] at hbr hbl
  simp only [hx2] at HH
  rw [hxs, hr] at hms
  have HBR := Lib.hid hbr
  have HBL := Lib.hid hbl
  have HFR := Lib.hid hr
  have HM := Lib.hid (hms.1 hb)
  have n2 : decide (size < 0) = false := by simp; omega
  have n3 : decide (8589934592 ≤ size) = false := by simp; omega
  have n4 : decide (8192 < size) = true := by simp; omega
  have HE := Lib.hid he
  have HG := Lib.hid hg
  clear he hg h0 h1 hb hms hbr hbl hxs hx2 hr
  go_enter Tryz.func9, Tryz.ntmps9
  go_upto_region 8 with (first | (go_at_call 19; (with_reducible refine HR.out.mono ?_); rintro e w1 ⟨rfl, hb1⟩; have HB1 := Lib.hid hb1; clear hb1) | (go_at_call 15; (with_reducible refine (HH.out _).mono ?_); rintro e w2 ⟨v2, rfl, hR2, hb2⟩; have HR2 := Lib.hid hR2; have HB2 := Lib.hid hb2; clear hR2 hb2))
  obtain ⟨A2, c2, hv2⟩ := Kd.R_slice HR2.out
  rw [hv2] at HR2 ⊢
  have HFD := Lib.hid (feed_new w2 ((HE.out.below HB1.out).below HB2.out) A2 c2 xs _ (Kd.R_lower HR2.out (Nat.zero_le _)) HBR.out (by rw [HBL.out]; decide))
  rw [HFR.out] at HFD
  have HLE : Hid (w.heap.size ≤ w2.heap.size) := Nat.le_trans HB1.out.size HB2.out.size
  rw [HBL.out] at HFD ⊢
  clear hv2 HH HR HR2
  go_upto_region 10 with (first | (go_at_call 12; (with_reducible refine (new_any w2).mono ?_); rintro e w4 ⟨rfl, rfl⟩) | (go_at_call 17; (with_reducible refine HFD.out.mono ?_); rintro e w5 ⟨vb, vt, vg, vl, vo, rfl, hP, hEv⟩))
  have HB5 : Hid (Below w.heap.size w w5) := frm_below (below_next (below_next HB1.out HB2.out) (below_alloc (Below.refl _ _) _)) hP.fr (fun k hk => by rw [hk]; exact HLE.out)
  have HG5 : Hid (w5.cell? ⟨0, 0, none⟩ = some etype) := cell_below HB5.out (Nat.lt_of_lt_of_le (by decide) (ng_of_env HE.out)) HG.out
  rw [HM.out] at hEv
  obtain ⟨G, cap, hvo, _, _, _⟩ := Kd.R_form hEv (by simp)
  have hlen : ([⟨.bad 2 0, 512⟩] : List Evt).length = 1 := rfl
  rw [hlen] at hvo
  subst hvo
  obtain ⟨vd0, q0, _⟩ := ev_at hEv 0 (by omega) _ rfl
  have y0 : w5.cell? ⟨G, 0, none⟩ = some (.int .i64 5) := q0 0 _ rfl
  have y12 : w5.cell? ⟨G, 12, none⟩ = some (.iface 105 (.agg #[.int .i64 0, .iface 27 (.int .i64 2)])) := q0 12 _ rfl
  have hgl : G < w5.heap.size := Kd.R_lt hEv G rfl
  clear hEv hlen q0 hP HFD HM
  go_wp2_with (first | (go_at_call 13; (with_reducible refine (code_any 2 [0] _ _ (.wrap 0 [] _ _ .leaf) _ HG5.out).mono ?_); rintro e w6 ⟨rfl, hb6⟩; have HB6 := Lib.hid hb6; have y12b := cell_below hb6 hgl y12; clear y0 hb6) | (go_at_call 24; (with_reducible refine (place_any 0 _ _ _ (cell_below HB6.out (Nat.lt_of_lt_of_le (by decide) (Nat.le_trans (ng_of_env HE.out) HB5.out.size)) HG5.out)).mono ?_); rintro e w7 ⟨rfl, hb7⟩; have HB7 := Lib.hid hb7; clear hb7))
  go_ret
  exact ⟨rfl, below_next (below_next HB5.out HB6.out) HB7.out⟩
set_option maxHeartbeats 8000000 in
set_option maxRecDepth 100000 in
theorem meta_small103 (size typ : Int) (w : World) (he : EnvE w) (hg : w.cell? ⟨0, 0, none⟩ = some etype) (h0 : 0 ≤ size) (h1 : size < 8589934592) (hb : size ≤ 8192) (ht : typ = 103) : Calls Tryz.prog 9 #[.int .i64 size, .int .u8 typ] w (Yes w) := by
  have HR := Lib.hid (reads_any w he)
  subst ht
  have hms := meta_feed (typ := 103) (size := size) (by decide) h0 h1
  have hbr := hdrL_range (metaFits (typ := 103) (size := size) (by decide) h0 h1)
  have hbl := hdrL_length (metaFits (typ := 103) (size := size) (by decide) h0 h1)
  have HH := Lib.hid (fun W => head_any 0 ⟨#[112]⟩ ⟨#[]⟩ ⟨#[]⟩ ⟨#[]⟩ ⟨#[]⟩ 103 0 0 0 size 0 W (metaFits (typ := 103) (size := size) (by decide) h0 h1))
  obtain ⟨xs, hxs⟩ : ∃ xs, metaB 103 size = xs := ⟨_, rfl⟩
  obtain ⟨r, hr⟩ : ∃ r, ps0.feed xs = r := ⟨_, rfl⟩
  have hx2 : hdrL ⟨#[112]⟩ ⟨#[]⟩ ⟨#[]⟩ ⟨#[]⟩ ⟨#[]⟩ 103 0 0 0 size 0 = xs := hxs
  rw [hx2] at hbr hbl
  simp only [hx2] at HH
  rw [hxs, hr] at hms
  have HBR := Lib.hid hbr
  have HBL := Lib.hid hbl
  have HFR := Lib.hid hr
  have HM := Lib.hid (hms.2 hb)
  have n2 : decide (size < 0) = false := by simp; omega
  have n3 : decide (8589934592 ≤ size) = false := by simp; omega
  have n4 : decide (8192 < size) = false := by simp; omega
  have HE := Lib.hid he
  have HG := Lib.hid hg
  clear he hg h0 h1 hb hms hbr hbl hxs hx2 hr
  go_enter Tryz.func9, Tryz.ntmps9
  go_upto_region 8 with (first | (go_at_call 19; (with_reducible refine HR.out.mono ?_); rintro e w1 ⟨rfl, hb1⟩; have HB1 := Lib.hid hb1; clear hb1) | (go_at_call 15; (with_reducible refine (HH.out _).mono ?_); rintro e w2 ⟨v2, rfl, hR2, hb2⟩; have HR2 := Lib.hid hR2; have HB2 := Lib.hid hb2; clear hR2 hb2))
  obtain ⟨A2, c2, hv2⟩ := Kd.R_slice HR2.out
  rw [hv2] at HR2 ⊢
  have HFD := Lib.hid (feed_new w2 ((HE.out.below HB1.out).below HB2.out) A2 c2 xs _ (Kd.R_lower HR2.out (Nat.zero_le _)) HBR.out (by rw [HBL.out]; decide))
  rw [HFR.out] at HFD
  have HLE : Hid (w.heap.size ≤ w2.heap.size) := Nat.le_trans HB1.out.size HB2.out.size
  rw [HBL.out] at HFD ⊢
  clear hv2 HH HR HR2
  go_upto_region 10 with (first | (go_at_call 12; (with_reducible refine (new_any w2).mono ?_); rintro e w4 ⟨rfl, rfl⟩) | (go_at_call 17; (with_reducible refine HFD.out.mono ?_); rintro e w5 ⟨vb, vt, vg, vl, vo, rfl, hP, hEv⟩))
  have HB5 : Hid (Below w.heap.size w w5) := frm_below (below_next (below_next HB1.out HB2.out) (below_alloc (Below.refl _ _) _)) hP.fr (fun k hk => by rw [hk]; exact HLE.out)
  have HG5 : Hid (w5.cell? ⟨0, 0, none⟩ = some etype) := cell_below HB5.out (Nat.lt_of_lt_of_le (by decide) (ng_of_env HE.out)) HG.out
  obtain ⟨m1, m2, m3, m4⟩ := HM.out
  rw [m1] at hEv
  obtain ⟨Ao, co, hvo⟩ := Kd.R_slice hEv
  have hlen : ([] : List Evt).length = 0 := rfl
  rw [hlen] at hvo
  subst hvo
  have HEND : Hid (errV ({ r with out := [] } : PSt).endE = .iface 105 (.agg #[.int .i64 512, .iface 27 (.int .i64 5)])) := by
    show _ = _
    unfold PSt.endE
    simp [m2, m3, m4]
  have HAT : Hid (({ r with out := [] } : PSt).at_ = 512) := m4
  have HEN := Lib.hid (end_any _ _ w5 _ _ _ _ _ _ _ hP)
  rw [HEND.out] at HEN
  have HPP := Aside0.mk hP
  clear hEv hlen hP HFD HM m1 m2 m3 m4 HEND
  go_wp2_with (first | (go_at_call 14; (with_reducible refine HEN.out.mono ?_); rintro e w6 ⟨rfl, rfl⟩) | (go_at_call 13; (with_reducible refine (code_any 5 [512] _ _ (.wrap 512 [] _ _ .leaf) _ HG5.out).mono ?_); rintro e w6 ⟨rfl, hb6⟩; have HB6 := Lib.hid hb6; have HA6 := Lib.hid (at_any _ _ _ _ _ _ _ _ _ _ (HPP.out.below hb6)); rw [HAT.out] at HA6; clear hb6) | (go_at_call 18; (with_reducible refine HA6.out.mono ?_); rintro e w7 ⟨rfl, rfl⟩))
  go_ret
  exact ⟨rfl, below_next HB5.out HB6.out⟩
set_option maxHeartbeats 8000000 in
set_option maxRecDepth 100000 in
theorem meta_neg76 (size typ : Int) (w : World) (he : EnvE w) (hg : w.cell? ⟨0, 0, none⟩ = some etype) (h : size < 0 ∨ 8589934592 ≤ size) (ht : typ = 76) : Calls Tryz.prog 9 #[.int .i64 size, .int .u8 typ] w (Yes w) := by
  have HR := Lib.hid (reads_any w he)
  subst ht
  clear he hg
  have n1 : (decide (size < 0) || decide (8589934592 ≤ size)) = true := by simpa using h
  rcases Decidable.em (size < 0) with hn | hn
  · have n2 : decide (size < 0) = true := by simpa using hn
    clear hn n1 h
    go_enter Tryz.func9, Tryz.ntmps9
    go_wp2_with ((go_at_call 19; (with_reducible refine HR.out.mono ?_); rintro e w1 ⟨rfl, hb1⟩; have HB1 := Lib.hid hb1; clear hb1))
    go_ret
    exact ⟨rfl, HB1.out⟩
  have n2 : decide (size < 0) = false := by simpa using hn
  have n3 : decide (8589934592 ≤ size) = true := by simp; omega
  clear hn n1 h
  go_enter Tryz.func9, Tryz.ntmps9
  go_wp2_with ((go_at_call 19; (with_reducible refine HR.out.mono ?_); rintro e w1 ⟨rfl, hb1⟩; have HB1 := Lib.hid hb1; clear hb1))
  go_ret
  exact ⟨rfl, HB1.out⟩
set_option maxHeartbeats 8000000 in
set_option maxRecDepth 100000 in
theorem meta_big76 (size typ : Int) (w : World) (he : EnvE w) (hg : w.cell? ⟨0, 0, none⟩ = some etype) (h0 : 0 ≤ size) (h1 : size < 8589934592) (hb : 8192 < size) (ht : typ = 76) : Calls Tryz.prog 9 #[.int .i64 size, .int .u8 typ] w (Yes w) := by
  have HR := Lib.hid (reads_any w he)
  subst ht
  have hms := meta_feed (typ := 76) (size := size) (by decide) h0 h1
  have hbr := hdrL_range (metaFits (typ := 76) (size := size) (by decide) h0 h1)
  have hbl := hdrL_length (metaFits (typ := 76) (size := size) (by decide) h0 h1)
  have HH := Lib.hid (fun W => head_any 0 ⟨#[112]⟩ ⟨#[]⟩ ⟨#[]⟩ ⟨#[]⟩ ⟨#[]⟩ 76 0 0 0 size 0 W (metaFits (typ := 76) (size := size) (by decide) h0 h1))
  obtain ⟨xs, hxs⟩ : ∃ xs, metaB 76 size = xs := ⟨_, rfl⟩
  obtain ⟨r, hr⟩ : ∃ r, ps0.feed xs = r := ⟨_, rfl⟩
  have hx2 : hdrL ⟨#[112]⟩ ⟨#[]⟩ ⟨#[]⟩ ⟨#[]⟩ ⟨#[]⟩ 76 0 0 0 size 0 = xs := hxs
  rw [hx2] at hbr hbl
  simp only [hx2] at HH
  rw [hxs, hr] at hms
  have HBR := Lib.hid hbr
  have HBL := Lib.hid hbl
  have HFR := Lib.hid hr
  have HM := Lib.hid (hms.1 hb)
  have n2 : decide (size < 0) = false := by simp; omega
  have n3 : decide (8589934592 ≤ size) = false := by simp; omega
  have n4 : decide (8192 < size) = true := by simp; omega
  have HE := Lib.hid he
  have HG := Lib.hid hg
  clear he hg h0 h1 hb hms hbr hbl hxs hx2 hr
  go_enter Tryz.func9, Tryz.ntmps9
  go_upto_region 8 with (first | (go_at_call 19; (with_reducible refine HR.out.mono ?_); rintro e w1 ⟨rfl, hb1⟩; have HB1 := Lib.hid hb1; clear hb1) | (go_at_call 15; (with_reducible refine (HH.out _).mono ?_); rintro e w2 ⟨v2, rfl, hR2, hb2⟩; have HR2 := Lib.hid hR2; have HB2 := Lib.hid hb2; clear hR2 hb2))
  obtain ⟨A2, c2, hv2⟩ := Kd.R_slice HR2.out
  rw [hv2] at HR2 ⊢
  have HFD := Lib.hid (feed_new w2 ((HE.out.below HB1.out).below HB2.out) A2 c2 xs _ (Kd.R_lower HR2.out (Nat.zero_le _)) HBR.out (by rw [HBL.out]; decide))
  rw [HFR.out] at HFD
  have HLE : Hid (w.heap.size ≤ w2.heap.size) := Nat.le_trans HB1.out.size HB2.out.size
  rw [HBL.out] at HFD ⊢
  clear hv2 HH HR HR2
  go_upto_region 10 with (first | (go_at_call 12; (with_reducible refine (new_any w2).mono ?_); rintro e w4 ⟨rfl, rfl⟩) | (go_at_call 17; (with_reducible refine HFD.out.mono ?_); rintro e w5 ⟨vb, vt, vg, vl, vo, rfl, hP, hEv⟩))
  have HB5 : Hid (Below w.heap.size w w5) := frm_below (below_next (below_next HB1.out HB2.out) (below_alloc (Below.refl _ _) _)) hP.fr (fun k hk => by rw [hk]; exact HLE.out)
  have HG5 : Hid (w5.cell? ⟨0, 0, none⟩ = some etype) := cell_below HB5.out (Nat.lt_of_lt_of_le (by decide) (ng_of_env HE.out)) HG.out
  rw [HM.out] at hEv
  obtain ⟨G, cap, hvo, _, _, _⟩ := Kd.R_form hEv (by simp)
  have hlen : ([⟨.bad 2 0, 512⟩] : List Evt).length = 1 := rfl
  rw [hlen] at hvo
  subst hvo
  obtain ⟨vd0, q0, _⟩ := ev_at hEv 0 (by omega) _ rfl
  have y0 : w5.cell? ⟨G, 0, none⟩ = some (.int .i64 5) := q0 0 _ rfl
  have y12 : w5.cell? ⟨G, 12, none⟩ = some (.iface 105 (.agg #[.int .i64 0, .iface 27 (.int .i64 2)])) := q0 12 _ rfl
  have hgl : G < w5.heap.size := Kd.R_lt hEv G rfl
  clear hEv hlen q0 hP HFD HM
  go_wp2_with (first | (go_at_call 13; (with_reducible refine (code_any 2 [0] _ _ (.wrap 0 [] _ _ .leaf) _ HG5.out).mono ?_); rintro e w6 ⟨rfl, hb6⟩; have HB6 := Lib.hid hb6; have y12b := cell_below hb6 hgl y12; clear y0 hb6) | (go_at_call 24; (with_reducible refine (place_any 0 _ _ _ (cell_below HB6.out (Nat.lt_of_lt_of_le (by decide) (Nat.le_trans (ng_of_env HE.out) HB5.out.size)) HG5.out)).mono ?_); rintro e w7 ⟨rfl, hb7⟩; have HB7 := Lib.hid hb7; clear hb7))
  go_ret
  exact ⟨rfl, below_next (below_next HB5.out HB6.out) HB7.out⟩
set_option maxHeartbeats 8000000 in
set_option maxRecDepth 100000 in
theorem meta_small76 (size typ : Int) (w : World) (he : EnvE w) (hg : w.cell? ⟨0, 0, none⟩ = some etype) (h0 : 0 ≤ size) (h1 : size < 8589934592) (hb : size ≤ 8192) (ht : typ = 76) : Calls Tryz.prog 9 #[.int .i64 size, .int .u8 typ] w (Yes w) := by
  have HR := Lib.hid (reads_any w he)
  subst ht
  have hms := meta_feed (typ := 76) (size := size) (by decide) h0 h1
  have hbr := hdrL_range (metaFits (typ := 76) (size := size) (by decide) h0 h1)
  have hbl := hdrL_length (metaFits (typ := 76) (size := size) (by decide) h0 h1)
  have HH := Lib.hid (fun W => head_any 0 ⟨#[112]⟩ ⟨#[]⟩ ⟨#[]⟩ ⟨#[]⟩ ⟨#[]⟩ 76 0 0 0 size 0 W (metaFits (typ := 76) (size := size) (by decide) h0 h1))
  obtain ⟨xs, hxs⟩ : ∃ xs, metaB 76 size = xs := ⟨_, rfl⟩
  obtain ⟨r, hr⟩ : ∃ r, ps0.feed xs = r := ⟨_, rfl⟩
  have hx2 : hdrL ⟨#[112]⟩ ⟨#[]⟩ ⟨#[]⟩ ⟨#[]⟩ ⟨#[]⟩ 76 0 0 0 size 0 = xs := hxs
  rw [hx2] at hbr hbl
  simp only [hx2] at HH
  rw [hxs, hr] at hms
  have HBR := Lib.hid hbr
  have HBL := Lib.hid hbl
  have HFR := Lib.hid hr
  have HM := Lib.hid (hms.2 hb)
  have n2 : decide (size < 0) = false := by simp; omega
  have n3 : decide (8589934592 ≤ size) = false := by simp; omega
  have n4 : decide (8192 < size) = false := by simp; omega
  have HE := Lib.hid he
  have HG := Lib.hid hg
  clear he hg h0 h1 hb hms hbr hbl hxs hx2 hr
  go_enter Tryz.func9, Tryz.ntmps9
  go_upto_region 8 with (first | (go_at_call 19; (with_reducible refine HR.out.mono ?_); rintro e w1 ⟨rfl, hb1⟩; have HB1 := Lib.hid hb1; clear hb1) | (go_at_call 15; (with_reducible refine (HH.out _).mono ?_); rintro e w2 ⟨v2, rfl, hR2, hb2⟩; have HR2 := Lib.hid hR2; have HB2 := Lib.hid hb2; clear hR2 hb2))
  obtain ⟨A2, c2, hv2⟩ := Kd.R_slice HR2.out
  rw [hv2] at HR2 ⊢
  have HFD := Lib.hid (feed_new w2 ((HE.out.below HB1.out).below HB2.out) A2 c2 xs _ (Kd.R_lower HR2.out (Nat.zero_le _)) HBR.out (by rw [HBL.out]; decide))
  rw [HFR.out] at HFD
  have HLE : Hid (w.heap.size ≤ w2.heap.size) := Nat.le_trans HB1.out.size HB2.out.size
  rw [HBL.out] at HFD ⊢
  clear hv2 HH HR HR2
  go_upto_region 10 with (first | (go_at_call 12; (with_reducible refine (new_any w2).mono ?_); rintro e w4 ⟨rfl, rfl⟩) | (go_at_call 17; (with_reducible refine HFD.out.mono ?_); rintro e w5 ⟨vb, vt, vg, vl, vo, rfl, hP, hEv⟩))
  have HB5 : Hid (Below w.heap.size w w5) := frm_below (below_next (below_next HB1.out HB2.out) (below_alloc (Below.refl _ _) _)) hP.fr (fun k hk => by rw [hk]; exact HLE.out)
  have HG5 : Hid (w5.cell? ⟨0, 0, none⟩ = some etype) := cell_below HB5.out (Nat.lt_of_lt_of_le (by decide) (ng_of_env HE.out)) HG.out
  obtain ⟨m1, m2, m3, m4⟩ := HM.out
  rw [m1] at hEv
  obtain ⟨Ao, co, hvo⟩ := Kd.R_slice hEv
  have hlen : ([] : List Evt).length = 0 := rfl
  rw [hlen] at hvo
  subst hvo
  have HEND : Hid (errV ({ r with out := [] } : PSt).endE = .iface 105 (.agg #[.int .i64 512, .iface 27 (.int .i64 5)])) := by
    show _ = _
    unfold PSt.endE
    simp [m2, m3, m4]
  have HAT : Hid (({ r with out := [] } : PSt).at_ = 512) := m4
  have HEN := Lib.hid (end_any _ _ w5 _ _ _ _ _ _ _ hP)
  rw [HEND.out] at HEN
  have HPP := Aside0.mk hP
  clear hEv hlen hP HFD HM m1 m2 m3 m4 HEND
  go_wp2_with (first | (go_at_call 14; (with_reducible refine HEN.out.mono ?_); rintro e w6 ⟨rfl, rfl⟩) | (go_at_call 13; (with_reducible refine (code_any 5 [512] _ _ (.wrap 512 [] _ _ .leaf) _ HG5.out).mono ?_); rintro e w6 ⟨rfl, hb6⟩; have HB6 := Lib.hid hb6; have HA6 := Lib.hid (at_any _ _ _ _ _ _ _ _ _ _ (HPP.out.below hb6)); rw [HAT.out] at HA6; clear hb6) | (go_at_call 18; (with_reducible refine HA6.out.mono ?_); rintro e w7 ⟨rfl, rfl⟩))
  go_ret
  exact ⟨rfl, below_next HB5.out HB6.out⟩
set_option maxHeartbeats 8000000 in
set_option maxRecDepth 100000 in
theorem meta_neg75 (size typ : Int) (w : World) (he : EnvE w) (hg : w.cell? ⟨0, 0, none⟩ = some etype) (h : size < 0 ∨ 8589934592 ≤ size) (ht : typ = 75) : Calls Tryz.prog 9 #[.int .i64 size, .int .u8 typ] w (Yes w) := by
  have HR := Lib.hid (reads_any w he)
  subst ht
  clear he hg
  have n1 : (decide (size < 0) || decide (8589934592 ≤ size)) = true := by simpa using h
  rcases Decidable.em (size < 0) with hn | hn
  · have n2 : decide (size < 0) = true := by simpa using hn
    clear hn n1 h
    go_enter Tryz.func9, Tryz.ntmps9
    go_wp2_with ((go_at_call 19; (with_reducible refine HR.out.mono ?_); rintro e w1 ⟨rfl, hb1⟩; have HB1 := Lib.hid hb1; clear hb1))
    go_ret
    exact ⟨rfl, HB1.out⟩
  have n2 : decide (size < 0) = false := by simpa using hn
  have n3 : decide (8589934592 ≤ size) = true := by simp; omega
  clear hn n1 h
  go_enter Tryz.func9, Tryz.ntmps9
  go_wp2_with ((go_at_call 19; (with_reducible refine HR.out.mono ?_); rintro e w1 ⟨rfl, hb1⟩; have HB1 := Lib.hid hb1; clear hb1))
  go_ret
  exact ⟨rfl, HB1.out⟩
set_option maxHeartbeats 8000000 in
set_option maxRecDepth 100000 in
theorem meta_big75 (size typ : Int) (w : World) (he : EnvE w) (hg : w.cell? ⟨0, 0, none⟩ = some etype) (h0 : 0 ≤ size) (h1 : size < 8589934592) (hb : 8192 < size) (ht : typ = 75) : Calls Tryz.prog 9 #[.int .i64 size, .int .u8 typ] w (Yes w) := by
  have HR := Lib.hid (reads_any w he)
  subst ht
  have hms := meta_feed (typ := 75) (size := size) (by decide) h0 h1
  have hbr := hdrL_range (metaFits (typ := 75) (size := size) (by decide) h0 h1)
  have hbl := hdrL_length (metaFits (typ := 75) (size := size) (by decide) h0 h1)
  have HH := Lib.hid (fun W => head_any 0 ⟨#[112]⟩ ⟨#[]⟩ ⟨#[]⟩ ⟨#[]⟩ ⟨#[]⟩ 75 0 0 0 size 0 W (metaFits (typ := 75) (size := size) (by decide) h0 h1))
  obtain ⟨xs, hxs⟩ : ∃ xs, metaB 75 size = xs := ⟨_, rfl⟩
  obtain ⟨r, hr⟩ : ∃ r, ps0.feed xs = r := ⟨_, rfl⟩
  have hx2 : hdrL ⟨#[112]⟩ ⟨#[]⟩ ⟨#[]⟩ ⟨#[]⟩ ⟨#[]⟩ 75 0 0 0 size 0 = xs := hxs
  rw [hx2] at hbr hbl
  simp only [hx2] at HH
  rw [hxs, hr] at hms
  have HBR := Lib.hid hbr
  have HBL := Lib.hid hbl
  have HFR := Lib.hid hr
  have HM := Lib.hid (hms.1 hb)
  have n2 : decide (size < 0) = false := by simp; omega
  have n3 : decide (8589934592 ≤ size) = false := by simp; omega
  have n4 : decide (8192 < size) = true := by simp; omega
  have HE := Lib.hid he
  have HG := Lib.hid hg
  clear he hg h0 h1 hb hms hbr hbl hxs hx2 hr
  go_enter Tryz.func9, Tryz.ntmps9
  go_upto_region 8 with (first | (go_at_call 19; (with_reducible refine HR.out.mono ?_); rintro e w1 ⟨rfl, hb1⟩; have HB1 := Lib.hid hb1; clear hb1) | (go_at_call 15; (with_reducible refine (HH.out _).mono ?_); rintro e w2 ⟨v2, rfl, hR2, hb2⟩; have HR2 := Lib.hid hR2; have HB2 := Lib.hid hb2; clear hR2 hb2))
  obtain ⟨A2, c2, hv2⟩ := Kd.R_slice HR2.out
  rw [hv2] at HR2 ⊢
  have HFD := Lib.hid (feed_new w2 ((HE.out.below HB1.out).below HB2.out) A2 c2 xs _ (Kd.R_lower HR2.out (Nat.zero_le _)) HBR.out (by rw [HBL.out]; decide))
  rw [HFR.out] at HFD
  have HLE : Hid (w.heap.size ≤ w2.heap.size) := Nat.le_trans HB1.out.size HB2.out.size
  rw [HBL.out] at HFD ⊢
  clear hv2 HH HR HR2
  go_upto_region 10 with (first | (go_at_call 12; (with_reducible refine (new_any w2).mono ?_); rintro e w4 ⟨rfl, rfl⟩) | (go_at_call 17; (with_reducible refine HFD.out.mono ?_); rintro e w5 ⟨vb, vt, vg, vl, vo, rfl, hP, hEv⟩))
  have HB5 : Hid (Below w.heap.size w w5) := frm_below (below_next (below_next HB1.out HB2.out) (below_alloc (Below.refl _ _) _)) hP.fr (fun k hk => by rw [hk]; exact HLE.out)
  have HG5 : Hid (w5.cell? ⟨0, 0, none⟩ = some etype) := cell_below HB5.out (Nat.lt_of_lt_of_le (by decide) (ng_of_env HE.out)) HG.out
  rw [HM.out] at hEv
  obtain ⟨G, cap, hvo, _, _, _⟩ := Kd.R_form hEv (by simp)
  have hlen : ([⟨.bad 2 0, 512⟩] : List Evt).length = 1 := rfl
  rw [hlen] at hvo
  subst hvo
  obtain ⟨vd0, q0, _⟩ := ev_at hEv 0 (by omega) _ rfl
  have y0 : w5.cell? ⟨G, 0, none⟩ = some (.int .i64 5) := q0 0 _ rfl
  have y12 : w5.cell? ⟨G, 12, none⟩ = some (.iface 105 (.agg #[.int .i64 0, .iface 27 (.int .i64 2)])) := q0 12 _ rfl
  have hgl : G < w5.heap.size := Kd.R_lt hEv G rfl
  clear hEv hlen q0 hP HFD HM
  go_wp2_with (first | (go_at_call 13; (with_reducible refine (code_any 2 [0] _ _ (.wrap 0 [] _ _ .leaf) _ HG5.out).mono ?_); rintro e w6 ⟨rfl, hb6⟩; have HB6 := Lib.hid hb6; have y12b := cell_below hb6 hgl y12; clear y0 hb6) | (go_at_call 24; (with_reducible refine (place_any 0 _ _ _ (cell_below HB6.out (Nat.lt_of_lt_of_le (by decide) (Nat.le_trans (ng_of_env HE.out) HB5.out.size)) HG5.out)).mono ?_); rintro e w7 ⟨rfl, hb7⟩; have HB7 := Lib.hid hb7; clear hb7))
  go_ret
  exact ⟨rfl, below_next (below_next HB5.out HB6.out) HB7.out⟩
set_option maxHeartbeats 8000000 in
set_option maxRecDepth 100000 in
theorem meta_small75 (size typ : Int) (w : World) (he : EnvE w) (hg : w.cell? ⟨0, 0, none⟩ = some etype) (h0 : 0 ≤ size) (h1 : size < 8589934592) (hb : size ≤ 8192) (ht : typ = 75) : Calls Tryz.prog 9 #[.int .i64 size, .int .u8 typ] w (Yes w) := by
  have HR := Lib.hid (reads_any w he)
  subst ht
  have hms := meta_feed (typ := 75) (size := size) (by decide) h0 h1
  have hbr := hdrL_range (metaFits (typ := 75) (size := size) (by decide) h0 h1)
  have hbl := hdrL_length (metaFits (typ := 75) (size := size) (by decide) h0 h1)
  have HH := Lib.hid (fun W => head_any 0 ⟨#[112]⟩ ⟨#[]⟩ ⟨#[]⟩ ⟨#[]⟩ ⟨#[]⟩ 75 0 0 0 size 0 W (metaFits (typ := 75) (size := size) (by decide) h0 h1))
  obtain ⟨xs, hxs⟩ : ∃ xs, metaB 75 size = xs := ⟨_, rfl⟩
  obtain ⟨r, hr⟩ : ∃ r, ps0.feed xs = r := ⟨_, rfl⟩
  have hx2 : hdrL ⟨#[112]⟩ ⟨#[]⟩ ⟨#[]⟩ ⟨#[]⟩ ⟨#[]⟩ 75 0 0 0 size 0 = xs := hxs
  rw [hx2] at hbr hbl
  simp only [hx2] at HH
  rw [hxs, hr] at hms
  have HBR := Lib.hid hbr
  have HBL := Lib.hid hbl
  have HFR := Lib.hid hr
  have HM := Lib.hid (hms.2 hb)
  have n2 : decide (size < 0) = false := by simp; omega
  have n3 : decide (8589934592 ≤ size) = false := by simp; omega
  have n4 : decide (8192 < size) = false := by simp; omega
  have HE := Lib.hid he
  have HG := Lib.hid hg
  clear he hg h0 h1 hb hms hbr hbl hxs hx2 hr
  go_enter Tryz.func9, Tryz.ntmps9
  go_upto_region 8 with (first | (go_at_call 19; (with_reducible refine HR.out.mono ?_); rintro e w1 ⟨rfl, hb1⟩; have HB1 := Lib.hid hb1; clear hb1) | (go_at_call 15; (with_reducible refine (HH.out _).mono ?_); rintro e w2 ⟨v2, rfl, hR2, hb2⟩; have HR2 := Lib.hid hR2; have HB2 := Lib.hid hb2; clear hR2 hb2))
  obtain ⟨A2, c2, hv2⟩ := Kd.R_slice HR2.out
  rw [hv2] at HR2 ⊢
  have HFD := Lib.hid (feed_new w2 ((HE.out.below HB1.out).below HB2.out) A2 c2 xs _ (Kd.R_lower HR2.out (Nat.zero_le _)) HBR.out (by rw [HBL.out]; decide))
  rw [HFR.out] at HFD
  have HLE : Hid (w.heap.size ≤ w2.heap.size) := Nat.le_trans HB1.out.size HB2.out.size
  rw [HBL.out] at HFD ⊢
  clear hv2 HH HR HR2
  go_upto_region 10 with (first | (go_at_call 12; (with_reducible refine (new_any w2).mono ?_); rintro e w4 ⟨rfl, rfl⟩) | (go_at_call 17; (with_reducible refine HFD.out.mono ?_); rintro e w5 ⟨vb, vt, vg, vl, vo, rfl, hP, hEv⟩))
  have HB5 : Hid (Below w.heap.size w w5) := frm_below (below_next (below_next HB1.out HB2.out) (below_alloc (Below.refl _ _) _)) hP.fr (fun k hk => by rw [hk]; exact HLE.out)
  have HG5 : Hid (w5.cell? ⟨0, 0, none⟩ = some etype) := cell_below HB5.out (Nat.lt_of_lt_of_le (by decide) (ng_of_env HE.out)) HG.out
  obtain ⟨m1, m2, m3, m4⟩ := HM.out
  rw [m1] at hEv
  obtain ⟨Ao, co, hvo⟩ := Kd.R_slice hEv
  have hlen : ([] : List Evt).length = 0 := rfl
  rw [hlen] at hvo
  subst hvo
  have HEND : Hid (errV ({ r with out := [] } : PSt).endE = .iface 105 (.agg #[.int .i64 512, .iface 27 (.int .i64 5)])) := by
    show _ = _
    unfold PSt.endE
    simp [m2, m3, m4]
  have HAT : Hid (({ r with out := [] } : PSt).at_ = 512) := m4
  have HEN := Lib.hid (end_any _ _ w5 _ _ _ _ _ _ _ hP)
  rw [HEND.out] at HEN
  have HPP := Aside0.mk hP
  clear hEv hlen hP HFD HM m1 m2 m3 m4 HEND
  go_wp2_with (first | (go_at_call 14; (with_reducible refine HEN.out.mono ?_); rintro e w6 ⟨rfl, rfl⟩) | (go_at_call 13; (with_reducible refine (code_any 5 [512] _ _ (.wrap 512 [] _ _ .leaf) _ HG5.out).mono ?_); rintro e w6 ⟨rfl, hb6⟩; have HB6 := Lib.hid hb6; have HA6 := Lib.hid (at_any _ _ _ _ _ _ _ _ _ _ (HPP.out.below hb6)); rw [HAT.out] at HA6; clear hb6) | (go_at_call 18; (with_reducible refine HA6.out.mono ?_); rintro e w7 ⟨rfl, rfl⟩))
  go_ret
  exact ⟨rfl, below_next HB5.out HB6.out⟩
theorem meta_any (size typ : Int) (w : World) (he : EnvE w) (hg : w.cell? ⟨0, 0, none⟩ = some etype) : Calls Tryz.prog 9 #[.int .i64 size, .int .u8 typ] w (Yes w) := by
  by_cases h : typ = 120 ∨ typ = 103 ∨ typ = 76 ∨ typ = 75
  · by_cases hn : size < 0 ∨ 8589934592 ≤ size
    · rcases h with h | h | h | h
      · exact meta_neg120 size typ w he hg hn h
      · exact meta_neg103 size typ w he hg hn h
      · exact meta_neg76 size typ w he hg hn h
      · exact meta_neg75 size typ w he hg hn h
    · by_cases hb : 8192 < size
      · rcases h with h | h | h | h
        · exact meta_big120 size typ w he hg (by omega) (by omega) hb h
        · exact meta_big103 size typ w he hg (by omega) (by omega) hb h
        · exact meta_big76 size typ w he hg (by omega) (by omega) hb h
        · exact meta_big75 size typ w he hg (by omega) (by omega) hb h
      · rcases h with h | h | h | h
        · exact meta_small120 size typ w he hg (by omega) (by omega) (by omega) h
        · exact meta_small103 size typ w he hg (by omega) (by omega) (by omega) h
        · exact meta_small76 size typ w he hg (by omega) (by omega) (by omega) h
        · exact meta_small75 size typ w he hg (by omega) (by omega) (by omega) h
  · exact meta_typ size typ w he hg h
end Go.Proofs.YtpbpfngichfgeaaGreatDoor
