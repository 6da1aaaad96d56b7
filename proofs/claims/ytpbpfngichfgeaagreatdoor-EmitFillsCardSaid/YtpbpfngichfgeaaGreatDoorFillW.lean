/-
  EmitFills, walked: an entry, its bytes, what fills up, the end: a whole archive.
-/
import Derived.Test.YtpbpfngichfgeaaGreatDoorFillR
import Derived.Test.YtpbpfngichfgeaaGreatDoorRegG
import Derived.Test.YtpbpfngichfgeaaGreatDoorWrtH
import Derived.Test.YtpbpfngichfgeaaGreatDoorWords
import Derived.Test.YtpbpfngichfgeaaGreatDoorFaults
namespace Go.Proofs.YtpbpfngichfgeaaGreatDoor
set_option linter.unusedVariables false
set_option linter.unusedSectionVars false
set_option linter.unusedSimpArgs false
set_option linter.unnecessarySimpa false
open Go Go.RowKit Go.Proofs.YtpbpfngichfgeaaGreatDoorW.PrintWords Go.Proofs.YtpbpfngichfgeaaGreatDoorW.PrintLast Go.Proofs.YtpbpfngichfgeaaGreatDoorW.PrintMore
theorem eqEnt (d : Nat) (w : World) (x0 y0 : ByteArray) (x1 y1 : ByteArray) (x2 y2 : Int) (x3 y3 : Int) (x4 y4 : Int) (x5 y5 : Int) (x6 y6 : Int) (x7 y7 : Int) (x8 y8 : ByteArray) (x9 y9 : ByteArray) :
    (Op.equalIn (d + 2) 41 (.agg #[.string x0, .string x1, .int .i64 x2, .int .i64 x3, .int .i64 x4, .int .i64 x5, .int .i64 x6, .int .i64 x7, .string x8, .string x9]) (.agg #[.string y0, .string y1, .int .i64 y2, .int .i64 y3, .int .i64 y4, .int .i64 y5, .int .i64 y6, .int .i64 y7, .string y8, .string y9])).run Tryz.prog w = .ok (x0.toList == y0.toList && (x1.toList == y1.toList && (x2 == y2 && (x3 == y3 && (x4 == y4 && (x5 == y5 && (x6 == y6 && (x7 == y7 && (x8.toList == y8.toList && (x9.toList == y9.toList)))))))))) w := by
  refine eqA_of Tryz.underlying41 (by kernel_rfl) ?_
  refine eqf_cons (by rfl) (by go_simp; rfl) (by go_simp; rfl) (by go_simp) ?_
  refine eqf_cons (by rfl) (by go_simp; rfl) (by go_simp; rfl) (by go_simp) ?_
  refine eqf_cons (by rfl) (by go_simp; rfl) (by go_simp; rfl) (by go_simp) ?_
  refine eqf_cons (by rfl) (by go_simp; rfl) (by go_simp; rfl) (by go_simp) ?_
  refine eqf_cons (by rfl) (by go_simp; rfl) (by go_simp; rfl) (by go_simp) ?_
  refine eqf_cons (by rfl) (by go_simp; rfl) (by go_simp; rfl) (by go_simp) ?_
  refine eqf_cons (by rfl) (by go_simp; rfl) (by go_simp; rfl) (by go_simp) ?_
  refine eqf_cons (by rfl) (by go_simp; rfl) (by go_simp; rfl) (by go_simp) ?_
  refine eqf_cons (by rfl) (by go_simp; rfl) (by go_simp; rfl) (by go_simp) ?_
  exact eqf_last (by rfl) (by go_simp; rfl) (by go_simp; rfl) (by go_simp)
attribute [local go_sem high] Go.Proofs.YtpbpfngichfgeaaGreatDoor.eqEnt

def YesF (w : World) (e : Ending) (w' : World) : Prop := e = .returned (.bool true) ∧ Below w.heap.size w w'
theorem ev_all {a b : Arc} {x : Evt} (ho : Opn a) (h : a.ev x = some b) : allD b.things = allD a.things ++ x.k.data := by
  obtain ⟨k, p⟩ := x
  cases k with
  | beg e =>
    obtain ⟨_, _, hb⟩ := ev_beg h
    rw [hb]
    show allD (a.things ++ [_]) = allD a.things ++ []
    rw [allD_append, allD_one]
  | dat d =>
    obtain ⟨_, _, _, l, t, hl, hb⟩ := ev_dat ho h
    rw [hb]
    show allD (l ++ [_]) = allD a.things ++ d
    rw [hl, allD_append, allD_append, allD_one, allD_one, List.append_assoc]
  | fin =>
    obtain ⟨_, _, l, t, hl, hb⟩ := ev_fin ho h
    rw [hb]
    show allD (l ++ [_]) = allD a.things ++ []
    rw [hl, allD_append, allD_append, allD_one, allD_one, List.append_nil]
  | don =>
    obtain ⟨_, hb⟩ := ev_don h
    rw [hb]
    show allD a.things = allD a.things ++ []
    rw [List.append_nil]
  | bad c q =>
    obtain ⟨_, hb⟩ := ev_bad h
    rw [hb]
    show allD a.things = allD a.things ++ []
    rw [List.append_nil]
/-- The first thing of an archive of one. -/
theorem one_beg {b2 b3 F : Arc} {en : En} {ax : Int} {T : Thg} (he : Ext b3 F) (hF : F.things = [T]) (hb : b3.things = b2.things ++ [⟨en, [], false, ax⟩]) : en = T.en := by
  have h1 := he.len
  rw [hF, hb, List.length_append] at h1
  have h2 : b2.things = [] := List.length_eq_zero_iff.1 (by simp at h1; simpa using h1)
  rw [h2] at hb
  exact (he.at_ 0 ⟨en, [], false, ax⟩ T (by rw [hb]; rfl) (by rw [hF]; rfl)).1
/-- All bytes so far are a beginning of those of the one thing. -/
theorem one_all {b3 F : Arc} {T : Thg} (he : Ext b3 F) (hF : F.things = [T]) : (allD b3.things).length ≤ T.data.length := by
  have h1 := he.len
  rw [hF] at h1
  cases hb : b3.things with
  | nil => exact Nat.zero_le _
  | cons t l =>
    rw [hb] at h1
    have hl : l = [] := List.length_eq_zero_iff.1 (by simp at h1; simpa using h1)
    subst hl
    rw [allD_one]
    exact (he.at_ 0 t T (by rw [hb]; rfl) (by rw [hF]; rfl)).2.1.length_le
theorem kd_beg (k : EvK) : (∃ en, k = .beg en) ∨ (∃ c p, k = .bad c p) ∨ ((k.num == 1) = false ∧ (k.num == 5) = false ∧ k.err = none) := by
  cases k with
  | beg e => exact .inl ⟨e, rfl⟩
  | bad c p => exact .inr (.inl ⟨c, p, rfl⟩)
  | dat d => exact .inr (.inr ⟨rfl, rfl, rfl⟩)
  | fin => exact .inr (.inr ⟨rfl, rfl, rfl⟩)
  | don => exact .inr (.inr ⟨rfl, rfl, rfl⟩)
theorem RG.end_ {wB W w : World} {v : Value} {xs : List Int} {fs : List (Value × List Int)} (h : RG wB W v xs fs) (hb : Below w.heap.size w wB) : ∃ (A : Option Addr) (N c : Nat), v = .slice A N c ∧ Aside0 (Kd.C (Kd.int .u8) W A N xs ∧ N ≤ c ∧ xs.length = N ∧ Below wB.heap.size wB W) := by
  obtain ⟨A, c, hv, hl, hc⟩ := Kd.R_reads h.r
  exact ⟨A, _, c, hv, ⟨hc, hl, rfl, h.b⟩⟩
/-- A whole archive is fed to a new parser. -/
theorem feed_ws {wc : World} (he : EnvE wc) (A : Option Addr) (c n : Nat) (xs : List Int) (hx : Kd.C (Kd.int .u8) wc A n xs) (hn : xs.length = n) (hc : n ≤ c) (hb : ∀ x ∈ xs, 0 ≤ x ∧ x < 256) (hl : n ≤ 100000) :
    ∃ b', Calls Tryz.prog 17 #[.pointer (some ⟨wc.heap.size, 0, none⟩), .slice A n c] (wc.alloc (.cells newCells 77)) (Fed (wc.alloc (.cells newCells 77)) (Own wc.heap.size (.slice none 0 0) (.slice none 0 0) (.slice none 0 0) (.slice none 0 0)) wc.heap.size (ps0.feed xs)) ∧
      foldB j0 xs = ({ ps0.feed xs with out := [] }, some b') ∧ Arc.evs (some arc0) (ps0.feed xs).out = some b' := by
  subst hn
  have H0 := wi0 wc
  obtain ⟨s1, b1, f1, f2, f3, f4, f5, f6⟩ := fold0 xs hb (by omega)
  have hj : foldB j0 xs = ({ ps0.feed xs with out := [] }, Arc.evs (some arc0) (ps0.feed xs).out) := (feed_fold ps0 xs (some arc0) oks0 hb (by show (0 : Int) + _ ≤ _; omega)).symm
  have he2 : Arc.evs (some arc0) (ps0.feed xs).out = some b1 := by
    rw [hj] at f1
    exact congrArg Prod.snd f1
  refine ⟨b1, ?_, by rw [hj, he2], he2⟩
  have hI : In (wc.alloc (.cells newCells 77)) (Own wc.heap.size (.slice none 0 0) (.slice none 0 0) (.slice none 0 0) (.slice none 0 0)) A xs := fun W hW => Kd.C_below hx (frm_below H0.bl hW H0.ow)
  exact feed_next (wc.alloc (.cells newCells 77)) (he.below H0.bl) wc.heap.size ps0 (.slice none 0 0) (.slice none 0 0) (.slice none 0 0) (.slice none 0 0) H0.ps (fun k hk => Nat.le_trans (ng_of_env he) (H0.ow k hk)) wfs0 wfm0 A c xs hI hc hb (by omega) (by show (0 : Int) + _ ≤ _; omega)
/-- Before a round of the loop over the events. -/
def F2 (w5 : World) (out : List Evt) (gk : Nat) (v9 v10 v48 : Value) (wq : World) : Prop :=
  ∃ (k : Nat) (b' : Arc), k + gk = out.length ∧ v48 = .int .i64 k ∧ v10 = .int .i64 k ∧ v9 = .string (strOfNums (allD b'.things)) ∧ Aside0 (Arc.evs (some arc0) (out.take k) = some b' ∧ Below w5.heap.size w5 wq)
set_option maxHeartbeats 16000000 in
set_option maxRecDepth 100000 in
theorem fills_main (p : ByteArray) (A : Option Addr) (n c : Nat) (xs : List Int) (w : World) (he : EnvE w) (hg : w.cell? ⟨0, 0, none⟩ = some etype) (hx : Kd.C (Kd.int .u8) w A n xs) (hc : n ≤ c) (hxb : ∀ x ∈ xs, 0 ≤ x ∧ x < 256) (hp : p.size ≤ 2000) (hn : n ≤ 2000) :
    Calls Tryz.prog 11 #[.string p, .slice A n c] w (YesF w) := by
  have HWR := Lib.hid (PEmit.writes_any w he)
  have HE := Lib.hid he
  have HG := Lib.hid hg
  have HX := Lib.hid hx
  have HXC := Lib.hid hc
  have HXB := Lib.hid hxb
  have HXL : Hid (xs.length = n) := hx.1
  have HENT : Hid (∀ W, EnvE W → Calls Tryz.prog 28 #[.agg #[.string p, .string ⟨#[]⟩, .int .i64 1, .int .i64 420, .int .i64 0, .int .i64 0, .int .i64 0, .int .i64 (n : Int), .string ⟨#[]⟩, .string ⟨#[]⟩]] W (PEmit.EntEnd p ⟨#[]⟩ ⟨#[]⟩ ⟨#[]⟩ 1 420 0 0 0 (n : Int) W)) := fun W hW => PEmit.entry_any p ⟨#[]⟩ ⟨#[]⟩ ⟨#[]⟩ 1 420 0 0 0 (n : Int) (by omega) (by decide) (by decide) (by decide) (by decide) (by decide) (by constructor <;> omega) (by decide) W hW
  have e1 : decide ((2000 : Int) < (p.size : Int)) = false := by simp; omega
  have e2 : decide ((2000 : Int) < (n : Int)) = false := by simp; omega
  have HN := Lib.hid hn
  have hn2 : (n : Int) ≤ 2000 := by omega
  clear he hg hx hc hxb hp hn
  go_enter Tryz.func11, Tryz.ntmps11
  go_upto_region 6 with (go_at_call 27; (with_reducible refine HWR.out.mono ?_); rintro e w1 ⟨rfl, hb1⟩; have HB1 := Lib.hid hb1; clear hb1)
  clear e1 e2 HWR
  have B5 := Blk.new w1 41 #[.string p, .string ⟨#[]⟩, .int .i64 1, .int .i64 420, .int .i64 0, .int .i64 0, .int .i64 0, .int .i64 (n : Int), .string ⟨#[]⟩, .string ⟨#[]⟩]
  have HB2 : Hid (Below w.heap.size w (w1.alloc (.cells #[.string p, .string ⟨#[]⟩, .int .i64 1, .int .i64 420, .int .i64 0, .int .i64 0, .int .i64 0, .int .i64 (n : Int), .string ⟨#[]⟩, .string ⟨#[]⟩] 41))) := below_next HB1.out (below_alloc (Below.refl _ _) _)
  have B5 := Aside0.mk B5
  obtain ⟨g5, hg5⟩ : ∃ g, w1.heap.size = g := ⟨_, rfl⟩
  rw [hg5] at B5 ⊢
  clear hg5 HB1
  generalize w1.alloc _ = W1 at B5 HB2 ⊢
  have x0 := B5.out.cell 0
  have x1 := B5.out.cell 1
  have x2 := B5.out.cell 2
  have x3 := B5.out.cell 3
  have x4 := B5.out.cell 4
  have x5 := B5.out.cell 5
  have x6 := B5.out.cell 6
  have x7 := B5.out.cell 7
  have x8 := B5.out.cell 8
  have x9 := B5.out.cell 9
  simp only [List.getElem?_toArray, List.getElem?_cons_zero, List.getElem?_cons_succ] at x0 x1 x2 x3 x4 x5 x6 x7 x8 x9
  go_upto_region 7 with (go_at_call 28; (with_reducible refine (HENT.out _ (HE.out.below HB2.out)).mono ?_); rintro e w2 ⟨v2, bs, cd, rfl, hR2, hb2, hok2, hef⟩; have HR2 := Lib.hid hR2; have HB3 := Lib.hid hb2; have HOK := Lib.hid hok2; clear hR2 hb2 hok2 hef)
  clear x0 x1 x2 x3 x4 x5 x6 x7 x8 x9
  by_cases hcd : cd = 0
  rotate_left
  · have f1 : (cd != 0) = true := by simpa using hcd
    clear hcd
    go_wp2_with fail
    go_ret
    exact ⟨rfl, below_next HB2.out HB3.out⟩
  subst hcd
  obtain ⟨PD, hPD⟩ : ∃ PD, (512 - n % 512) % 512 = PD := ⟨_, rfl⟩
  have HPD := Lib.hid hPD
  have HPB : Hid (PD ≤ 511) := by show _ ≤ _; omega
  have hok := HOK.out rfl
  rw [← HXL.out] at hok
  obtain ⟨hbl, hbr, sF, F, at_, hF, hFd, hFo, hFt, hFe⟩ := emit_arc p xs (List.replicate PD 0) bs hok HXB.out (fun x hx => by rw [List.eq_of_mem_replicate hx]; omega) (by rw [HXL.out]; omega) (by rw [List.length_replicate, HXL.out]; unfold padOf; omega)
  rw [HXL.out] at hFt
  have HBL := Lib.hid hbl
  have HBR := Lib.hid hbr
  have HF := Lib.hid hF
  have HFD := Lib.hid hFd
  have HFT := Lib.hid hFt
  have HFE := Lib.hid hFe
  have FILL : Hid (∀ W, Calls Tryz.prog 29 #[.int .i64 (n : Int)] W (fun e w' => ∃ v0, e = .returned v0 ∧ RU w' W.heap.size v0 (List.replicate PD 0) ∧ Below W.heap.size W w')) := fun W => PEmit.emit_Fill.calls (n : Int) _ W (by rw [fill_some n (by have := HN.out; omega), hPD])
  have FEND : Hid (∀ W, Calls Tryz.prog 30 #[] W (fun e w' => ∃ v0, e = .returned v0 ∧ RU w' W.heap.size v0 (List.replicate 1024 0) ∧ Below W.heap.size W w')) := fun W => PEmit.emit_End.calls _ W (by unfold PEmit.emit_End.f; rw [if_pos (by decide)])
  clear hPD hok hbl hbr hF hFd hFo hFt hFe HENT HOK
  go_upto_region 9 with (fail)
  go_cut [6] (fun v6 wz => ∃ (A6 : Option Addr) (N c6 : Nat), v6 = .slice A6 N c6 ∧ Aside0 (Kd.C (Kd.int .u8) wz A6 N (bs ++ xs ++ List.replicate PD 0 ++ List.replicate 1024 0) ∧ N ≤ c6 ∧ (bs ++ xs ++ List.replicate PD 0 ++ List.replicate 1024 0).length = N ∧ Below W1.heap.size W1 wz))
  case first =>
    have G : Aside0 (RG W1 w2.drew v2 bs []) := ⟨⟨below_drew HB3.out, Kd.R_below HR2.out (below_drew (Below.refl _ _)), fun p hp => by cases hp⟩⟩
    have HXK : Hid (∀ W', Below W1.heap.size W1 W' → Kd.C (Kd.int .u8) W' A n xs) := fun W' hb => Kd.C_below HX.out (below_next HB2.out hb)
    have HKP : Hid (∀ W', Below W1.heap.size W1 W' → W'.cell? ⟨g5, 7, none⟩ = some (.int .i64 (n : Int))) := fun W' hb => (B5.out.below hb B5.out.lt).cell 7
    have HLE1 : Hid ((bs.length + n) * 1 ≤ 140737488355328) := by have := HBL.out; have := HN.out; show _ ≤ _; omega
    have HLE2 : Hid (((bs ++ xs).length + (List.replicate PD (0 : Int)).length) * 1 ≤ 140737488355328) := by have := HBL.out; have := HN.out; have := HPB.out; show _ ≤ _; rw [List.length_append, List.length_replicate, HXL.out]; omega
    have HLE3 : Hid (((bs ++ xs ++ List.replicate PD 0).length + (List.replicate 1024 (0 : Int)).length) * 1 ≤ 140737488355328) := by have := HBL.out; have := HN.out; have := HPB.out; show _ ≤ _; rw [List.length_append, List.length_append, List.length_replicate, List.length_replicate, HXL.out]; omega
    clear HR2
    go_region_held3 (fun w' => w'.cell? ⟨g5, 7, none⟩ = some (.int .i64 (n : Int))) (exact HKP.out _ G.out.b) (first | (go_at_call 29; (with_reducible refine (FILL.out _).mono ?_); rintro e wF ⟨vF, rfl, hRF, hbF⟩; replace G := Aside0.mk (G.out.made hbF hRF); clear hRF hbF) | (go_at_call 30; (with_reducible refine (FEND.out _).mono ?_); rintro e wE ⟨vE, rfl, hRE, hbE⟩; replace G := Aside0.mk (G.out.made hbE hRE); clear hRE hbE) | ((with_reducible refine RG.app G.out ?_ (.tmp 34) (.tmp 35) ?_ A n c ?_ ?_ (HXK.out _ G.out.b) HLE1.out ?_); rfl; rfl; rfl; rfl; intro v3 w3 hG; replace G := Aside0.mk hG; clear hG) | ((with_reducible refine RG.appF G.out ?_ (.tmp 36) (.tmp 39) ?_ vF (by first | exact List.mem_cons_self | exact List.mem_cons_of_mem _ List.mem_cons_self) ?_ ?_ HLE2.out ?_); rfl; rfl; rfl; rfl; intro v4 w4 hG; replace G := Aside0.mk hG; clear hG) | ((with_reducible refine RG.appF G.out ?_ (.tmp 40) (.tmp 41) ?_ vE (by first | exact List.mem_cons_self | exact List.mem_cons_of_mem _ List.mem_cons_self) ?_ ?_ HLE3.out ?_); rfl; rfl; rfl; rfl; intro v5 w5 hG; replace G := Aside0.mk hG; clear hG))
    all_goals
      go_wp2_with fail
      go_meet
      case rel => exact RG.end_ G.out HB2.out
  case rest =>
    obtain ⟨A6, N, c6, rfl, HZ⟩ := hcut
    clear HR2 FILL FEND
    go_step
    obtain ⟨L, hL⟩ : ∃ L, bs ++ xs ++ List.replicate PD 0 ++ List.replicate 1024 0 = L := ⟨_, rfl⟩
    have hLe : bs ++ (xs ++ List.replicate PD 0) ++ List.replicate 1024 0 = L := by rw [← hL]; simp only [List.append_assoc]
    rw [hL] at HZ
    rw [hLe] at HF
    have HLN : Hid (N ≤ 20000) := by
      have h1 := HZ.out.2.2.1
      rw [← hL, List.length_append, List.length_append, List.length_append, List.length_replicate, List.length_replicate, HXL.out] at h1
      have h2 := HBL.out
      have h3 := HN.out
      have h4 := HPB.out
      show _ ≤ _
      omega
    have HLB : Hid (∀ x ∈ L, 0 ≤ x ∧ x < 256) := by
      intro x hx
      rw [← hL] at hx
      rcases List.mem_append.1 hx with h | h
      · rcases List.mem_append.1 h with h | h
        · rcases List.mem_append.1 h with h | h
          · exact HBR.out x h
          · exact HXB.out x h
        · rw [List.eq_of_mem_replicate h]; omega
      · rw [List.eq_of_mem_replicate h]; omega
    have HEE : Hid (EnvE wc) := HE.out.below (below_next HB2.out HZ.out.2.2.2)
    obtain ⟨b', q1, q2, q3⟩ := feed_ws HEE.out A6 c6 N L HZ.out.1 HZ.out.2.2.1 HZ.out.2.1 HLB.out (by have := HLN.out; omega)
    have HFD2 := Lib.hid q1
    rw [HF.out] at q2
    obtain ⟨r, hr⟩ : ∃ r, ps0.feed L = r := ⟨_, rfl⟩
    rw [hr] at HFD2 q2 q3
    have hFb : F = b' := Option.some.inj (congrArg Prod.snd q2)
    have hsr : ({ r with out := [] } : PSt) = sF := (congrArg Prod.fst q2).symm
    rw [← hFb] at q3
    have P4 := Lib.hid q3
    have HSR := Lib.hid hsr
    have H0 := Aside0.mk (wi0 wc)
    have HWW : Hid (Below w.heap.size w wc) := below_next HB2.out HZ.out.2.2.2
    have B5c := Aside0.mk (B5.out.below HZ.out.2.2.2 B5.out.lt)
    clear hL hLe q1 q2 q3 hr hFb hsr B5
    go_upto_region 13 with (go_at_call 12; (with_reducible refine (new_any _).mono ?_); rintro e w3 ⟨rfl, rfl⟩)
    go_wp2_with ((go_at_call 17; (with_reducible refine HFD2.out.mono ?_); rintro e w5 ⟨vb5, vt5, vg5, vl5, vo5, rfl, hP5, hEv5⟩; obtain ⟨Ao, co, hvo5⟩ := Kd.R_slice hEv5; subst hvo5; have HP5 := Aside0.mk hP5; have HEV5 := Lib.hid hEv5; clear hP5 hEv5))
    have F5 := Aside0.mk (WI.fed H0.out HP5.out)
    have E5 := Aside0.mk (Kd.R_mono (ok' := fun _ => True) HEV5.out (fun _ _ => trivial))
    obtain ⟨nl, hnl⟩ : ∃ nl, r.out.length = nl := ⟨_, rfl⟩
    have HNLE := Lib.hid hnl
    rw [hnl] at E5 ⊢
    have hnb : nl ≤ 9223372036854775807 := by rw [← HNLE.out]; exact R_max HEV5.out
    have HBW : Hid (Below w.heap.size w w5) := below_next HWW.out F5.out.bl
    have B55 := Aside0.mk (B5c.out.below F5.out.bl B5c.out.lt)
    have HNB := Lib.hid hnb
    clear HFD2 HP5 HEV5 hnl H0 B5c
    go_loopg [9, 10, 48] nl (F2 w5 r.out)
    case atStart => exact ⟨0, arc0, by rw [HNLE.out]; omega, rfl, rfl, rfl, ⟨rfl, Below.refl _ _⟩⟩
    case round =>
      obtain ⟨k2, b2, hk2, rfl, rfl, rfl, H2⟩ := hrel
      rw [HNLE.out] at hk2
      by_cases hlt2 : k2 < nl
      · obtain ⟨b3, HS1, HS2⟩ := evs_step H2.out.1 P4.out (by rw [HNLE.out]; exact hlt2)
        have RE := Aside0.mk (Kd.R_below E5.out H2.out.2)
        obtain ⟨Ge, cape, hve, _, hge5, _⟩ := Kd.R_form RE.out (by rw [HNLE.out]; omega)
        rw [HNLE.out] at hve
        injection hve with hA _ hcap
        subst hA
        have HOP : Hid (Opn b2) := (evs_ext _ arc0 b2 opn0 H2.out.1).2
        have HXT : Hid (Ext b3 F ∧ (b3.over = true → F = b3)) := by
          have e1 : Arc.evs (some b3) (r.out.drop (k2 + 1)) = some F := by
            rw [← HS2, ← evs_append, List.take_append_drop]
            exact P4.out
          exact ⟨(evs_ext _ b3 F (evs_ext _ arc0 b3 opn0 HS2).2 e1).1, fun hv => evs_over e1 hv⟩
        have HBR : Hid (Below w.heap.size w wr) := below_next HBW.out H2.out.2
        have B5r := Aside0.mk (B55.out.below H2.out.2 B55.out.lt)
        clear hcap
        obtain ⟨⟨kd, ax⟩, hx⟩ : ∃ x, r.out.getD k2 default = x := ⟨_, rfl⟩
        rw [hx] at HS1
        obtain ⟨kn, hkn⟩ : ∃ kn, kd.num = kn := ⟨_, rfl⟩
        obtain ⟨dd, hdd⟩ : ∃ dd, kd.data = dd := ⟨_, rfl⟩
        have S1 := Lib.hid HS1
        have S2 := Lib.hid HS2
        have hal : allD b3.things = allD b2.things ++ dd := by rw [← hdd]; exact ev_all HOP.out S1.out
        obtain ⟨S0, hS0⟩ : ∃ S0, strOfNums (allD b2.things) = S0 := ⟨_, rfl⟩
        obtain ⟨S1', hS1⟩ : ∃ S1, strOfNums dd = S1 := ⟨_, rfl⟩
        have HS3 : Hid (S0 ++ S1' = strOfNums (allD b3.things)) := by show _ = _; rw [hal, strOfNums_add, hS0, hS1]
        have hlen3 : (allD b3.things).length ≤ n := by
          have := one_all HXT.out.1 HFT.out
          have h2 : (allD b3.things).length ≤ xs.length := this
          rw [HXL.out] at h2
          exact h2
        have hn2k := HN.out
        rw [hal, List.length_append] at hlen3
        have hz0 : S0.size ≤ 2000 := by rw [← hS0, strOfNums_size]; omega
        have hz1 : S1'.size ≤ 2000 := by rw [← hS1, strOfNums_size]; omega
        have hsum : S0.size + S1'.size ≤ 9223372036854775807 := by omega
        rw [hS0]
        have HKN := Lib.hid hkn
        have HS1E := Lib.hid hS1
        have HK2 := Lib.hid hk2
        have HDD := Lib.hid hdd
        have HX2 := Lib.hid hx
        clear hx HS1 HS2 hal hS0 hS1 hlen3 hn2k hdd hk2
        rcases kd_beg kd with ⟨en, rfl⟩ | ⟨bc, bp, rfl⟩ | ⟨f1, f2, f3⟩
        · obtain rfl : kn = 1 := hkn.symm
          clear hkn
          obtain ⟨hov, hop, hb3⟩ := ev_beg S1.out
          have hen : en = filEn p n := one_beg HXT.out.1 HFT.out (show b3.things = b2.things ++ [⟨en, [], false, ax⟩] by rw [hb3])
          subst hen
          obtain ⟨Ad, cd, y0, y1, y2, y3, y4, y5, y6, y7, y8, y9, y10, y11, y12, y13, hRd⟩ := ev_facts RE.out k2 hlt2 _ ax HX2.out 1 (filEn p n) .nilIface dd rfl rfl rfl HDD.out
          have HRD := Aside0.mk hRd
          clear hov hop hb3 hRd
          go_upto_region 16 with (fail)
          have BE := Blk.new wr 43 (evArr 1 (filEn p n) (.slice Ad dd.length cd) .nilIface ax)
          have BW : Below wr.heap.size wr (wr.alloc (.cells (evArr 1 (filEn p n) (.slice Ad dd.length cd) .nilIface ax) 43)) := below_alloc (Below.refl _ _) _
          generalize wr.alloc _ = W2 at BE BW ⊢
          obtain ⟨ge, hge⟩ : ∃ ge, wr.heap.size = ge := ⟨_, rfl⟩
          have HBW2 := Aside0.mk BW
          have HC7 : Kd.C (Kd.int .u8) W2 Ad dd.length dd := by
            obtain ⟨A', c', hv, _, hc⟩ := Kd.R_reads (Kd.R_below HRD.out BW)
            injection hv with ha
            rw [ha]
            exact hc
          have hcv : (convert 32 9 (.slice Ad dd.length cd)).run Tryz.prog W2 = .ok (.string S1') W2 := by
            rw [← HS1E.out]
            exact Kd.C_string Tryz.underlying32 Tryz.underlying5 Tryz.underlying9 HC7
          have X := (B5r.out.below BW B5r.out.lt)
          have x0 : W2.cell? ⟨g5, 0, none⟩ = some (.string p) := X.cell 0
          have x1 : W2.cell? ⟨g5, 1, none⟩ = some (.string ⟨#[]⟩) := X.cell 1
          have x2 : W2.cell? ⟨g5, 2, none⟩ = some (.int .i64 1) := X.cell 2
          have x3 : W2.cell? ⟨g5, 3, none⟩ = some (.int .i64 420) := X.cell 3
          have x4 : W2.cell? ⟨g5, 4, none⟩ = some (.int .i64 0) := X.cell 4
          have x5 : W2.cell? ⟨g5, 5, none⟩ = some (.int .i64 0) := X.cell 5
          have x6 : W2.cell? ⟨g5, 6, none⟩ = some (.int .i64 0) := X.cell 6
          have x7 : W2.cell? ⟨g5, 7, none⟩ = some (.int .i64 (n : Int)) := X.cell 7
          have x8 : W2.cell? ⟨g5, 8, none⟩ = some (.string ⟨#[]⟩) := X.cell 8
          have x9 : W2.cell? ⟨g5, 9, none⟩ = some (.string ⟨#[]⟩) := X.cell 9
          rw [hge] at BE ⊢
          have z0 : W2.cell? ⟨ge, 0, none⟩ = some (.int .i64 1) := BE.cell 0
          have z1 : W2.cell? ⟨ge, 1, none⟩ = some (.string p) := BE.cell 1
          have z2 : W2.cell? ⟨ge, 2, none⟩ = some (.string ⟨#[]⟩) := BE.cell 2
          have z3 : W2.cell? ⟨ge, 3, none⟩ = some (.int .i64 1) := BE.cell 3
          have z4 : W2.cell? ⟨ge, 4, none⟩ = some (.int .i64 420) := BE.cell 4
          have z5 : W2.cell? ⟨ge, 5, none⟩ = some (.int .i64 0) := BE.cell 5
          have z6 : W2.cell? ⟨ge, 6, none⟩ = some (.int .i64 0) := BE.cell 6
          have z7 : W2.cell? ⟨ge, 7, none⟩ = some (.int .i64 0) := BE.cell 7
          have z8 : W2.cell? ⟨ge, 8, none⟩ = some (.int .i64 (n : Int)) := BE.cell 8
          have z9 : W2.cell? ⟨ge, 9, none⟩ = some (.string ⟨#[]⟩) := BE.cell 9
          have z10 : W2.cell? ⟨ge, 10, none⟩ = some (.string ⟨#[]⟩) := BE.cell 10
          have z11 : W2.cell? ⟨ge, 11, none⟩ = some (.slice Ad dd.length cd) := BE.cell 11
          clear y0 y1 y2 y3 y4 y5 y6 y7 y8 y9 y10 y11 y12 y13 hge BE BW HC7 X
          go_wp2_with fail
          go_roundg (gk - 1)
          case measure => have := HK2.out; omega
          case rel => exact ⟨k2 + 1, b3, by have := HK2.out; rw [HNLE.out]; omega, by rw [Int.natCast_add]; rfl, by rw [Int.natCast_add]; rfl, by rw [← HS3.out], ⟨S2.out, below_next H2.out.2 HBW2.out⟩⟩
        · exfalso
          obtain ⟨hov, hb3⟩ := ev_bad S1.out
          have h1 := HXT.out.2 (by rw [hb3])
          have h2 := HFD.out
          rw [h1, hb3] at h2
          have h3 := HOP.out.ovr h2
          rw [hov] at h3
          cases h3
        · rw [hkn] at f1 f2
          obtain ⟨Ad, cd, y0, y1, y2, y3, y4, y5, y6, y7, y8, y9, y10, y11, y12, y13, hRd⟩ := ev_facts RE.out k2 hlt2 _ ax HX2.out kn kd.en .nilIface dd hkn rfl (by rw [f3]) HDD.out
          have HRD := Aside0.mk hRd
          clear hkn hRd f3
          go_upto_region 16 with (fail)
          have BE := Blk.new wr 43 (evArr kn kd.en (.slice Ad dd.length cd) .nilIface ax)
          have BW : Below wr.heap.size wr (wr.alloc (.cells (evArr kn kd.en (.slice Ad dd.length cd) .nilIface ax) 43)) := below_alloc (Below.refl _ _) _
          generalize wr.alloc _ = W2 at BE BW ⊢
          obtain ⟨ge, hge⟩ : ∃ ge, wr.heap.size = ge := ⟨_, rfl⟩
          have HBW2 := Aside0.mk BW
          have HC7 : Kd.C (Kd.int .u8) W2 Ad dd.length dd := by
            obtain ⟨A', c', hv, _, hc⟩ := Kd.R_reads (Kd.R_below HRD.out BW)
            injection hv with ha
            rw [ha]
            exact hc
          have hcv : (convert 32 9 (.slice Ad dd.length cd)).run Tryz.prog W2 = .ok (.string S1') W2 := by
            rw [← HS1E.out]
            exact Kd.C_string Tryz.underlying32 Tryz.underlying5 Tryz.underlying9 HC7
          rw [hge] at BE ⊢
          have z0 : W2.cell? ⟨ge, 0, none⟩ = some (.int .i64 kn) := BE.cell 0
          have z11 : W2.cell? ⟨ge, 11, none⟩ = some (.slice Ad dd.length cd) := BE.cell 11
          clear y0 y1 y2 y3 y4 y5 y6 y7 y8 y9 y10 y11 y12 y13 hge BE BW HC7
          go_wp2_with fail
          go_roundg (gk - 1)
          case measure => have := HK2.out; omega
          case rel => exact ⟨k2 + 1, b3, by have := HK2.out; rw [HNLE.out]; omega, by rw [Int.natCast_add]; rfl, by rw [Int.natCast_add]; rfl, by rw [← HS3.out], ⟨S2.out, below_next H2.out.2 HBW2.out⟩⟩
      · have hk2n : k2 = nl := by omega
        have hbb : b2 = F := by
          have h := H2.out.1
          rw [hk2n, ← HNLE.out, List.take_length, P4.out] at h
          exact (Option.some.inj h).symm
        have hph : 3 ≤ k2 := by
          have h := evs_phi r.out arc0 F P4.out
          rw [HNLE.out] at h
          have h2 : phiA F = 3 := by
            unfold phiA
            rw [HFT.out, HFD.out]
            rfl
          have h3 : phiA arc0 = 0 := rfl
          omega
        have hst : strOfNums (allD b2.things) = strOfNums xs := by rw [hbb, HFT.out, allD_one]
        rw [hst]
        obtain ⟨S0, hS0⟩ : ∃ S0, strOfNums xs = S0 := ⟨_, rfl⟩
        rw [hS0]
        have f3 : decide ((3 : Int) ≤ (k2 : Int)) = true := by simp; omega
        have f4 : decide (3 ≤ k2) = true := by simpa using hph
        have HEN := Lib.hid (end_any _ _ wr _ _ _ _ _ _ _ (F5.out.below H2.out.2).ps)
        have hee : ({ r with out := [] } : PSt).endE = none := by rw [HSR.out]; exact HFE.out
        rw [hee] at HEN
        have HBO : Hid (Below w.heap.size w wr) := below_next HBW.out H2.out.2
        have HS0 := Lib.hid hS0
        have HCV : Hid (∀ W', Below wr.heap.size wr W' → (convert 32 9 (.slice A n c)).run Tryz.prog W' = .ok (.string S0) W') := fun W' hb => by
          rw [← HS0.out]
          have h := Kd.C_below HX.out (below_next HBO.out hb)
          rw [← HXL.out] at h ⊢
          exact Kd.C_string Tryz.underlying32 Tryz.underlying5 Tryz.underlying9 h
        clear hk2n hbb hph hst hee hk2 hS0
        go_wp2_with (first | (go_at_call 14; (with_reducible refine HEN.out.mono ?_); rintro e w6 ⟨rfl, rfl⟩) | (go_at_call 13; (with_reducible refine (code_nil _).mono ?_); rintro e w7 ⟨rfl, hb7⟩; have hcv := HCV.out _ hb7; have HB7 := Lib.hid hb7; clear hb7))
        go_ret
        exact ⟨rfl, below_next HBO.out HB7.out⟩
set_option maxHeartbeats 8000000 in
set_option maxRecDepth 100000 in
theorem fills_early (p : ByteArray) (A : Option Addr) (n c : Nat) (w : World) (he : EnvE w) (h : 2000 < p.size ∨ 2000 < n) : Calls Tryz.prog 11 #[.string p, .slice A n c] w (YesF w) := by
  have HWR := Lib.hid (PEmit.writes_any w he)
  clear he
  by_cases h1 : 2000 < p.size
  · have e1 : decide ((2000 : Int) < (p.size : Int)) = true := by simp; omega
    clear h
    go_enter Tryz.func11, Tryz.ntmps11
    go_wp2_with (go_at_call 27; (with_reducible refine HWR.out.mono ?_); rintro e w1 ⟨rfl, hb1⟩; have HB1 := Lib.hid hb1; clear hb1)
    go_ret
    exact ⟨rfl, HB1.out⟩
  · have e1 : decide ((2000 : Int) < (p.size : Int)) = false := by simp; omega
    have e2 : decide ((2000 : Int) < (n : Int)) = true := by simp; omega
    clear h
    go_enter Tryz.func11, Tryz.ntmps11
    go_wp2_with (go_at_call 27; (with_reducible refine HWR.out.mono ?_); rintro e w1 ⟨rfl, hb1⟩; have HB1 := Lib.hid hb1; clear hb1)
    go_ret
    exact ⟨rfl, HB1.out⟩
theorem fills_any (p : ByteArray) (A : Option Addr) (n c : Nat) (xs : List Int) (w : World) (he : EnvE w) (hg : w.cell? ⟨0, 0, none⟩ = some etype) (hx : Kd.C (Kd.int .u8) w A n xs) (hc : n ≤ c) (hxb : ∀ x ∈ xs, 0 ≤ x ∧ x < 256) :
    Calls Tryz.prog 11 #[.string p, .slice A n c] w (YesF w) := by
  by_cases h : 2000 < p.size ∨ 2000 < n
  · exact fills_early p A n c w he h
  · exact fills_main p A n c xs w he hg hx hc hxb (by omega) (by omega)
end Go.Proofs.YtpbpfngichfgeaaGreatDoor
