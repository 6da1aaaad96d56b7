/-
  The parser's method Feed, walked.
-/
import Derived.Test.YtpbpfngichfgeaaGreatDoorPushRR
namespace Go.Proofs.YtpbpfngichfgeaaGreatDoor
set_option linter.unusedVariables false
set_option linter.unusedSimpArgs false
open Go Go.RowKit Go.Proofs.YtpbpfngichfgeaaGreatDoorW.PrintWords Go.Proofs.YtpbpfngichfgeaaGreatDoorW.PrintLast Go.Proofs.YtpbpfngichfgeaaGreatDoorW.PrintMore
attribute [local go_sem] max2_int min2_int max_two min_two

/-- What holds at the head of Feed's loop. -/
structure FR (w0 : World) (F0 : Nat → Prop) (g : Nat) (r : PSt) (gk : Nat) (A : Option Addr) (c : Nat) (xs : List Int) (w : World) (s : PSt) : Prop where
  ps : PS w0 F0 w g s
  wf : WFs s
  wm : WFm s
  xi : In w0 F0 A xs
  xb : ∀ x ∈ xs, 0 ≤ x ∧ x < 256
  xc : xs.length ≤ c
  xk : xs.length ≤ gk
  xa : s.at_ + xs.length ≤ 1099511627776
  xo : s.out.length + 2 * xs.length ≤ 99999980
  fin : PSt.feedL (gk + 1) s xs = r
theorem WFs.blk0 {s : PSt} (h : WFs s) {z : List Int} {a p : Int} (hb : ∀ x ∈ z, 0 ≤ x ∧ x < 256) (hl : z.length ≤ 512) (h0 : 0 ≤ a) (h1 : a ≤ 1099511627776) : WFs { s with block := z, at_ := a, place := p } :=
  ⟨hb, h.tb, hl, h.tl, h.gl, h.ll, h.gs, h.ls, h.nm, h.lk, h0, h1, h.ol⟩
theorem WFs.txt {s : PSt} (h : WFs s) {z : List Int} {a : Int} (l : Int) (hb : ∀ x ∈ z, 0 ≤ x ∧ x < 256) (hl : z.length ≤ 8192) (h0 : 0 ≤ a) (h1 : a ≤ 1099511627776) : WFs { s with text := z, at_ := a, left := l } :=
  ⟨h.bb, hb, h.bl, hl, h.gl, h.ll, h.gs, h.ls, h.nm, h.lk, h0, h1, h.ol⟩
theorem R_lit0 (W : World) (ok : Nat → Prop) (h : ok W.heap.size) : Kd.R (Kd.int .u8) 5 (W.alloc (.cells #[] 5)) W.heap.size ok (.slice (some ⟨W.heap.size, 0, none⟩) 0 0) [] :=
  ⟨fun k hk => by have e : k = W.heap.size := (Option.some.inj hk).symm; rw [e]; exact h, OwnRow.lit (ps := []) W W.heap.size (Reps.none _ _) (Nat.le_refl _) (by simp)⟩
theorem FR.next {w0 : World} {F0 : Nat → Prop} {g : Nat} {r : PSt} {gk : Nat} {A : Option Addr} {c : Nat} {xs : List Int} {w w' : World} {s s' : PSt} {n : Nat} {A' : Option Addr} (h : FR w0 F0 g r gk A c xs w s) (hp : 0 < xs.length) (h4 : s.st ≠ 4) (hr : s.round xs = (s', n)) (hP : PS w0 F0 w' g s') (hI : In w0 F0 A' (xs.drop n)) (hc : (xs.drop n).length ≤ c - n) :
    FR w0 F0 g r (gk - 1) A' (c - n) (xs.drop n) w' s' := by
  have ho := h.xo
  have hk := h.xk
  have r := round_ok h.wf h.wm hp h4 h.xb h.xa (by omega) hr
  have hpos := r.pos
  have hle := r.le
  have hat := r.at_
  have hout := r.out
  have hxa := h.xa
  have hl : (xs.drop n).length = xs.length - n := List.length_drop
  obtain ⟨k, rfl⟩ : ∃ k, gk = k + 1 := ⟨gk - 1, by omega⟩
  refine ⟨hP, r.wf, r.wm, hI, fun x hx => h.xb x (List.mem_of_mem_drop hx), hc, by omega, by omega, by omega, ?_⟩
  have hf := h.fin
  rw [Nat.add_sub_cancel]
  rw [← hf]
  show PSt.feedL (k + 1) s' (xs.drop n) = (if xs = [] ∨ s.st = 4 then s else PSt.feedL (k + 1) (s.round xs).1 (xs.drop (s.round xs).2))
  have hne : ¬ (xs = [] ∨ s.st = 4) := by
    intro e
    rcases e with e | e
    · rw [e] at hp
      exact absurd hp (by simp)
    · exact h4 e
  rw [if_neg hne, hr]
theorem min_w (a : Int) (m n : Nat) (h0 : 0 ≤ a) (h1 : a ≤ 9223372036854775807) (hn : n = min m a.toNat) : (if wrap64 a < (m : Int) then wrap64 a else (m : Int)) = (n : Int) := by
  rw [PPua.wrapI _ (by omega)]
  split <;> omega
theorem min_r (a : Int) (m n : Nat) (h0 : 0 ≤ a) (hn : n = min m a.toNat) : (if a < (m : Int) then a else (m : Int)) = (n : Int) := by
  split <;> omega
/-- What Feed leaves. -/
def Fed (w0 : World) (F0 : Nat → Prop) (g : Nat) (r : PSt) (e : Ending) (w' : World) : Prop :=
  ∃ vb vt vg vl vo, e = .returned vo ∧ PSx w0 F0 w' g { r with out := [] } vb vt vg vl (.slice none 0 0) ∧ Kd.R kEv 43 w' w0.heap.size (fun k => some k ≠ vt.ownBlock ∧ some k ≠ vb.ownBlock) vo r.out
theorem fed_end {w0 : World} {F0 : Nat → Prop} {w : World} {g : Nat} {s r : PSt} {vb vt vg vl vo : Value} (h : PSx w0 F0 w g s vb vt vg vl vo) (hr : s = r) : Fed w0 F0 g r (.returned vo) (w.setCell ⟨g, 15, none⟩ (.slice none 0 0)) := by
  subst hr
  have q := h.rw_.set h.blk 15 (.slice none 0 0)
  exact ⟨vb, vt, vg, vl, vo, rfl, ⟨h.fr.set (p := ⟨g, 15, none⟩) (fun _ => h.fg) _, h.lt, h.fg, h.blk.set_ 15 _, ⟨q.b, q.t, q.g, q.l, Kd.R_nil _ _ _ _ _⟩⟩, q.o⟩
theorem feedL_nil (k : Nat) (s : PSt) (xs : List Int) (h : xs = [] ∨ s.st = 4) : PSt.feedL (k + 1) s xs = s := by
  show (if xs = [] ∨ s.st = 4 then s else _) = s
  rw [if_pos h]
section
variable (w0 : World) (F0 : Nat → Prop) (w : World) (g : Nat) (s : PSt) (A : Option Addr) (c : Nat) (xs : List Int) (he : EnvE w0) (hF : ∀ k, F0 k → 7 ≤ k)
include he hF
set_option maxHeartbeats 8000000 in
set_option maxRecDepth 100000 in
theorem feed_any (r : PSt) (h : FR w0 F0 g r xs.length A c xs w s) (ho : s.out = []) : Calls Tryz.prog 17 #[.pointer (some ⟨g, 0, none⟩), .slice A xs.length c] w (Fed w0 F0 g r) := by
  have H := Lib.hid h
  have HE := Lib.hid he
  have HF := Lib.hid hF
  have HO := Lib.hid ho
  obtain ⟨vb, vt, vg, vl, vo, hp⟩ := h.ps
  have f15 := hp.free 15
  have k15 : w.cell? ⟨g, 15, none⟩ = some vo := hp.blk.cell 15
  have hgl := hp.blk.lt
  have HP := Lib.hid hp
  clear h he hF ho hp
  go_enter Tryz.func17, Tryz.ntmps17
  go_wp2_with fail
  have P1 : Aside0 (PSx w0 F0 (w.setCell ⟨g, 15, none⟩ (.slice none 0 0)) g s vb vt vg vl (.slice none 0 0)) :=
    ⟨HP.out.fr.set (p := ⟨g, 15, none⟩) (fun _ => HP.out.fg) _, HP.out.lt, HP.out.fg, HP.out.blk.set_ 15 _, (by
      have q := HP.out.rw_.set HP.out.blk 15 (.slice none 0 0)
      exact ⟨q.b, q.t, q.g, q.l, by rw [HO.out]; exact Kd.R_nil _ _ _ _ _⟩)⟩
  have I1 : Aside0 (FR w0 F0 g r xs.length A c xs (w.setCell ⟨g, 15, none⟩ (.slice none 0 0)) s) :=
    ⟨⟨_, _, _, _, _, P1.out⟩, H.out.wf, H.out.wm, H.out.xi, H.out.xb, H.out.xc, H.out.xk, H.out.xa, H.out.xo, H.out.fin⟩
  clear f15 k15 HP P1 H HO
  generalize World.setCell _ _ _ = W1 at I1 ⊢
  go_loopg [1, 5] xs.length (fun gk v1 _ wr => ∃ (A' : Option Addr) (c' : Nat) (xs' : List Int) (s' : PSt), v1 = .slice A' xs'.length c' ∧ Aside0 (FR w0 F0 g r gk A' c' xs' wr s'))
  case atStart => exact ⟨A, c, xs, s, rfl, I1⟩
  case round =>
    clear I1
    obtain ⟨A1, c1, xs1, s1, rfl, I⟩ := hrel
    obtain ⟨vb1, vt1, vg1, vl1, vo1, hp⟩ := I.out.ps
    have P := Aside0.mk hp
    clear hp
    obtain ⟨k0, k1, k2, k3, k4, k5, k6, k7, k8, k9, k10, k11, k12, k13, k14, k15⟩ := P.out.cells
    have hgw := P.out.blk.lt
    clear k3 k4 k5 k7 k8 k9 k10 k13 k14
    by_cases hn : xs1.length = 0
    case pos =>
      obtain rfl := List.length_eq_zero_iff.1 hn
      have f15 := P.out.free 15
      clear hn
      go_wp2
      go_ret
      exact fed_end P.out ((feedL_nil _ _ _ (.inl rfl)).symm.trans I.out.fin)
    case neg =>
      have e0 : 0 < xs1.length := Nat.pos_of_ne_zero hn
      clear hn
      obtain ⟨st, hst⟩ : ∃ st, s1.st = st := ⟨_, rfl⟩
      have HST := Lib.hid hst
      rw [hst] at k0
      rcases (show st = 0 ∨ st = 1 ∨ st = 2 ∨ st = 3 ∨ st = 4 from by have := I.out.wm.s0; have := I.out.wm.s4; omega) with rfl | rfl | rfl | rfl | rfl
      · clear hst
        obtain ⟨Ab, cb, rfl⟩ := Kd.R_slice P.out.rw_.b
        have f1 := P.out.free 1
        go_upto_region 7 with (fail)
        obtain ⟨n, hn⟩ : ∃ n, min xs1.length (512 - s1.block.length) = n := ⟨_, rfl⟩
        have HR0 : s1.round xs1 = (if (s1.block ++ xs1.take n).length = 512 then { ({ s1 with block := s1.block ++ xs1.take n, at_ := s1.at_ + n, place := s1.at_ + n - 512 } : PSt).head with block := [] } else { s1 with block := s1.block ++ xs1.take n, at_ := s1.at_ + n }, n) := by
          subst hn
          unfold PSt.round
          exact if_pos HST.out
        have hbl := I.out.wm.bl
        have hn0 : 0 < n := by omega
        have hn1 : n ≤ xs1.length := by omega
        have hn2 : s1.block.length + n ≤ 512 := by omega
        rw [min_w (512 - (s1.block.length : Int)) xs1.length n (by omega) (by omega) (by omega)]
        have cut7 := cut_to A1 c1 xs1 n hn1 I.out.xc
        obtain ⟨A4, cut4, HI4, hc4⟩ := cut_from c1 I.out.xi n hn1 I.out.xc
        obtain ⟨y, hy⟩ : ∃ y, xs1.take n = y := ⟨_, rfl⟩
        have hyl : y.length = n := by rw [← hy, List.length_take]; omega
        have HYB : Hid (∀ x ∈ y, 0 ≤ x ∧ x < 256) := by intro x hx; rw [← hy] at hx; exact I.out.xb x (List.mem_of_mem_take hx)
        obtain ⟨x4, hx4⟩ : ∃ x4, xs1.drop n = x4 := ⟨_, rfl⟩
        have HX4 := Lib.hid hx4
        have HC : Hid (Kd.C (Kd.int .u8) wr A1 n y) := by
          have q := in_take I.out.xi n hn1 wr P.out.fr
          rw [hy, hyl] at q
          exact q
        rw [hy] at HR0
        rw [hx4] at cut4 HI4 hc4
        obtain ⟨z, hz⟩ : ∃ z, s1.block ++ y = z := ⟨_, rfl⟩
        have hzl : z.length = s1.block.length + n := by rw [← hz, List.length_append, hyl]
        have HZB : Hid (∀ x ∈ z, 0 ≤ x ∧ x < 256) := by
          intro x hx
          rw [← hz] at hx
          rcases List.mem_append.1 hx with hx | hx
          · exact I.out.wf.bb x hx
          · exact HYB.out x hx
        have HZ := Lib.hid hz
        rw [hz] at HR0
        obtain ⟨at1, hat1⟩ : ∃ at1, s1.at_ + (n : Int) = at1 := ⟨_, rfl⟩
        have hwa : wrap64 (s1.at_ + (n : Int)) = at1 := by rw [PPua.wrapI _ (by have := I.out.xa; have := I.out.wf.a0; omega)]; exact hat1
        have HAT : Hid (0 ≤ at1 ∧ at1 ≤ 1099511627776) := by have := I.out.xa; have := I.out.wf.a0; exact ⟨by omega, by omega⟩
        rw [hat1] at HR0
        have HR := Lib.hid HR0
        have HI := Aside0.mk HI4
        have HC4 := Lib.hid hc4
        have HFR : Hid (∀ k, wr.heap.size ≤ k → k < w0.heap.size → F0 k) := fun k hk hlt => absurd hlt (by have := P.out.fr.size; omega)
        have HLE : Hid ((s1.block.length + n) * 1 ≤ 140737488355328) := by show _ ≤ _; omega
        have HNG : Hid (some g ≠ (Value.slice Ab s1.block.length cb).ownBlock) := Kd.R_ne P.out.rw_.b P.out.blk (by decide)
        have HZL := Lib.hid hzl
        have HN0 := Lib.hid hn0
        have HN2 := Lib.hid hn2
        clear hn hn0 hn1 hn2 hbl k0 k2 k6 k11 k12 k15 hy hyl hz hzl hat1 HR0 HI4 hc4 hx4
        go_region_law (refine R_rows_stepD (W := wr) (by rfl) (.tmp 39) (.tmp 42) 32 5 _ 1 (by rfl) Tryz.underlying32 infoU8 (by rfl) (by decide) (.slice Ab s1.block.length cb) s1.block y A1 n c1 _ (by rfl) (by rfl) P.out.rw_.b HC.out HFR.out HLE.out ?_; intro v2 w2 ho2 hg2 hat2; rw [HZ.out] at ho2; obtain ⟨A2, c2, hv2⟩ := Kd.R_slice ho2; subst hv2; have k1' := (cell_blk (hg2.block g hgw HNG.out) 1).trans k1; have f1' := (frozen_blk (hg2.block g hgw HNG.out) 1).trans f1)
        have P7 : Aside0 (PSx w0 F0 (w2.setCell ⟨g, 1, none⟩ (.slice A2 z.length c2)) g { s1 with block := z } (.slice A2 z.length c2) vt1 vg1 vl1 vo1) := ⟨P.out.blockd ho2 hg2 hat2⟩
        clear ho2 hg2 hat2 k1 k1' f1 f1' cut7 P HC HFR HLE HNG
        generalize World.setCell _ _ _ = W7 at P7 ⊢
        have k1 : W7.cell? ⟨g, 1, none⟩ = some (.slice A2 z.length c2) := P7.out.blk.cell 1
        have k2 : W7.cell? ⟨g, 2, none⟩ = some (.int .i64 s1.at_) := P7.out.blk.cell 2
        have k3 : W7.cell? ⟨g, 3, none⟩ = some (.int .i64 s1.place) := P7.out.blk.cell 3
        have f2 := P7.out.free 2
        have f3 := P7.out.free 3
        have hg7 := P7.out.blk.lt
        by_cases hq : z.length = 512
        · have e1 : ((z.length : Int) == 512) = true := by simp; omega
          have HQ := Lib.hid hq
          rw [if_pos hq] at HR
          clear hq
          obtain ⟨pl, hpl⟩ : ∃ pl, at1 - 512 = pl := ⟨_, rfl⟩
          have hwp : wrap64 (at1 - 512) = pl := by rw [PPua.wrapI _ (by have := HAT.out; omega)]; exact hpl
          rw [hpl] at HR
          obtain ⟨s3, hs3⟩ : ∃ s3, ({ s1 with block := z, at_ := at1, place := pl } : PSt).head = s3 := ⟨_, rfl⟩
          rw [hs3] at HR
          have HH : Hid (Calls Tryz.prog 36 #[.pointer (some ⟨g, 0, none⟩)] ((W7.setCell ⟨g, 2, none⟩ (.int .i64 at1)).setCell ⟨g, 3, none⟩ (.int .i64 pl)) (Does w0 F0 g s3)) := by
            rw [← hs3]
            exact phead_any w0 F0 _ g _ _ _ _ _ _ ((P7.out.setF 2 (.int .i64 at1) { s1 with block := z, at_ := at1 } rfl rfl rfl rfl rfl rfl).setF 3 (.int .i64 pl) { s1 with block := z, at_ := at1, place := pl } rfl rfl rfl rfl rfl rfl) (I.out.wf.blk0 HZB.out (by rw [HQ.out]; exact Nat.le_refl _) HAT.out.1 HAT.out.2) (by have := I.out.xo; show s1.out.length ≤ _; omega) HE.out HF.out
          clear hs3 hpl P7
          go_wp2_with ((go_at_call 36; (with_reducible refine HH.out.mono ?_); rintro e w3 ⟨rfl, hD⟩; obtain ⟨vb3, vt3, vg3, vl3, vo3, hP3⟩ := hD; obtain ⟨A3, c3, hv3, hc3, hC3⟩ := Kd.R_reads hP3.rw_.b; subst hv3; have cut3 := cut_to A3 c3 s3.block 0 (Nat.zero_le _) hc3; have k13 : w3.cell? ⟨g, 1, none⟩ = some (.slice A3 s3.block.length c3) := hP3.blk.cell 1; have f13 := hP3.free 1; have hg3 := hP3.blk.lt; have P8 := Aside0.mk hP3.block0; clear hP3 hc3 hC3 k1 k2 k3 f2 f3 hg7))
          go_roundg (gk - 1)
          case measure => have := I.out.xk; omega
          case rel => exact ⟨A4, c1 - n, x4, _, rfl, ⟨by have hx4 := HX4.out; subst hx4; exact I.out.next e0 (by rw [HST.out]; decide) HR.out ⟨_, _, _, _, _, P8.out⟩ HI.out HC4.out⟩⟩
        · have e1 : ((z.length : Int) == 512) = false := by simp; omega
          rw [if_neg hq] at HR
          clear hq
          go_wp2
          go_roundg (gk - 1)
          case measure => have := I.out.xk; omega
          case rel => exact ⟨A4, c1 - n, x4, _, rfl, ⟨by have hx4 := HX4.out; subst hx4; exact I.out.next e0 (by rw [HST.out]; decide) HR.out ⟨_, _, _, _, _, P7.out.setF 2 (.int .i64 at1) _ rfl rfl rfl rfl rfl rfl⟩ HI.out HC4.out⟩⟩
      · clear hst
        go_upto_region 15 with (fail)
        obtain ⟨n, hn⟩ : ∃ n, min xs1.length s1.left.toNat = n := ⟨_, rfl⟩
        have HR0 : s1.round xs1 = (if s1.left - n = 0 then ({ s1 with text := s1.text ++ xs1.take n, at_ := s1.at_ + n, left := s1.left - n } : PSt).told else { s1 with text := s1.text ++ xs1.take n, at_ := s1.at_ + n, left := s1.left - n }, n) := by
          subst hn
          unfold PSt.round
          have hs := HST.out
          exact (if_neg (by rw [hs]; decide)).trans (if_pos hs)
        have hle : 1 ≤ s1.left ∧ s1.left ≤ 9223372036854775807 := by have q := I.out.wm.l1 HST.out; omega
        have hn0 : 0 < n := by omega
        have hn1 : n ≤ xs1.length := by omega
        have hn2 : (n : Int) ≤ s1.left := by omega
        rw [min_r s1.left xs1.length n (by omega) (by omega)]
        obtain ⟨A4, cut4, HI4, hc4⟩ := cut_from c1 I.out.xi n hn1 I.out.xc
        obtain ⟨x4, hx4⟩ : ∃ x4, xs1.drop n = x4 := ⟨_, rfl⟩
        have HX4 := Lib.hid hx4
        obtain ⟨at1, hat1⟩ : ∃ at1, s1.at_ + (n : Int) = at1 := ⟨_, rfl⟩
        have hwa : wrap64 (s1.at_ + (n : Int)) = at1 := by rw [PPua.wrapI _ (by have := I.out.xa; have := I.out.wf.a0; omega)]; exact hat1
        have HAT : Hid (0 ≤ at1 ∧ at1 ≤ 1099511627776) := by have := I.out.xa; have := I.out.wf.a0; exact ⟨by omega, by omega⟩
        obtain ⟨lf, hlf⟩ : ∃ lf, s1.left - (n : Int) = lf := ⟨_, rfl⟩
        have hwl : wrap64 (s1.left - (n : Int)) = lf := by rw [PPua.wrapI _ (by omega)]; exact hlf
        rw [hx4] at cut4 HI4 hc4
        rw [hat1, hlf] at HR0
        have cut7 := cut_to A1 c1 xs1 n hn1 I.out.xc
        obtain ⟨y, hy⟩ : ∃ y, xs1.take n = y := ⟨_, rfl⟩
        have hyl : y.length = n := by rw [← hy, List.length_take]; omega
        have HYB : Hid (∀ x ∈ y, 0 ≤ x ∧ x < 256) := by intro x hx; rw [← hy] at hx; exact I.out.xb x (List.mem_of_mem_take hx)
        have HC : Hid (Kd.C (Kd.int .u8) wr A1 n y) := by
          have q := in_take I.out.xi n hn1 wr P.out.fr
          rw [hy, hyl] at q
          exact q
        rw [hy] at HR0
        have HYL := Lib.hid hyl
        obtain ⟨Ab, cb, rfl⟩ := Kd.R_slice P.out.rw_.t
        obtain ⟨z, hz⟩ : ∃ z, s1.text ++ y = z := ⟨_, rfl⟩
        have hzl : z.length = s1.text.length + n := by rw [← hz, List.length_append, hyl]
        have HZB : Hid (∀ x ∈ z, 0 ≤ x ∧ x < 256) := by
          intro x hx
          rw [← hz] at hx
          rcases List.mem_append.1 hx with hx | hx
          · exact I.out.wf.tb x hx
          · exact HYB.out x hx
        have HZ := Lib.hid hz
        rw [hz] at HR0
        have HR := Lib.hid HR0
        have HI := Aside0.mk HI4
        have HC4 := Lib.hid hc4
        have f6 := P.out.free 6
        have HFR : Hid (∀ k, wr.heap.size ≤ k → (k < w0.heap.size → F0 k) ∧ some k ≠ vb1.ownBlock) := fun k hk => ⟨fun hlt => absurd hlt (by have := P.out.fr.size; omega), fun e => by have := Kd.R_lt P.out.rw_.b k e.symm; omega⟩
        have HTL : Hid (z.length ≤ 8192) := by have q := I.out.wm.l1 HST.out; show _ ≤ _; omega
        have HLE : Hid ((s1.text.length + n) * 1 ≤ 140737488355328) := by have := HTL.out; show _ ≤ _; omega
        have HNG : Hid (some g ≠ (Value.slice Ab s1.text.length cb).ownBlock) := Kd.R_ne P.out.rw_.t P.out.blk (by decide)
        clear hn hn0 hn1 hn2 hle k0 k1 k2 k11 k12 k15 hy hyl hz hzl hat1 hlf HR0 HI4 hc4 hx4
        go_region_law (refine R_rows_stepD (W := wr) (by rfl) (.tmp 91) (.tmp 94) 32 5 _ 1 (by rfl) Tryz.underlying32 infoU8 (by rfl) (by decide) (.slice Ab s1.text.length cb) s1.text y A1 n c1 _ (by rfl) (by rfl) P.out.rw_.t HC.out HFR.out HLE.out ?_; intro v2 w2 ho2 hg2 hat2; rw [HZ.out] at ho2; obtain ⟨A2, c2, hv2⟩ := Kd.R_slice ho2; subst hv2; have k6' := (cell_blk (hg2.block g hgw HNG.out) 6).trans k6; have f6' := (frozen_blk (hg2.block g hgw HNG.out) 6).trans f6)
        have P7 : Aside0 (PSx w0 F0 (w2.setCell ⟨g, 6, none⟩ (.slice A2 z.length c2)) g { s1 with text := z } vb1 (.slice A2 z.length c2) vg1 vl1 vo1) := ⟨P.out.textd ho2 hg2 hat2⟩
        clear ho2 hg2 hat2 k6 k6' f6 f6' cut7 P HC HFR HLE HNG
        generalize World.setCell _ _ _ = W7 at P7 ⊢
        have k2 : W7.cell? ⟨g, 2, none⟩ = some (.int .i64 s1.at_) := P7.out.blk.cell 2
        have k11 : W7.cell? ⟨g, 11, none⟩ = some (.int .i64 s1.left) := P7.out.blk.cell 11
        have f2 := P7.out.free 2
        have f11 := P7.out.free 11
        have hg7 := P7.out.blk.lt
        have P9 := Aside0.mk ((P7.out.setF 2 (.int .i64 at1) { s1 with text := z, at_ := at1 } rfl rfl rfl rfl rfl rfl).setF 11 (.int .i64 lf) { s1 with text := z, at_ := at1, left := lf } rfl rfl rfl rfl rfl rfl)
        clear P7
        by_cases hq : lf = 0
        · have e1 : (lf == 0) = true := by simpa using hq
          rw [if_pos hq] at HR
          clear hq
          have HH : Hid (Calls Tryz.prog 37 #[.pointer (some ⟨g, 0, none⟩)] ((W7.setCell ⟨g, 2, none⟩ (.int .i64 at1)).setCell ⟨g, 11, none⟩ (.int .i64 lf)) (Does w0 F0 g ({ s1 with text := z, at_ := at1, left := lf } : PSt).told)) :=
            told_any w0 F0 _ g _ _ _ _ _ _ P9.out (I.out.wf.txt lf HZB.out HTL.out HAT.out.1 HAT.out.2) HE.out HF.out
          go_wp2_with ((go_at_call 37; (with_reducible refine HH.out.mono ?_); rintro e w3 ⟨rfl, hD⟩))
          go_roundg (gk - 1)
          case measure => have := I.out.xk; omega
          case rel => exact ⟨A4, c1 - n, x4, _, rfl, ⟨by have hx4 := HX4.out; subst hx4; exact I.out.next e0 (by rw [HST.out]; decide) HR.out hD HI.out HC4.out⟩⟩
        · have e1 : (lf == 0) = false := by simpa using hq
          rw [if_neg hq] at HR
          clear hq
          go_wp2
          go_roundg (gk - 1)
          case measure => have := I.out.xk; omega
          case rel => exact ⟨A4, c1 - n, x4, _, rfl, ⟨by have hx4 := HX4.out; subst hx4; exact I.out.next e0 (by rw [HST.out]; decide) HR.out ⟨_, _, _, _, _, P9.out⟩ HI.out HC4.out⟩⟩
      · clear hst
        go_upto_region 22 with (fail)
        obtain ⟨n, hn⟩ : ∃ n, min xs1.length s1.left.toNat = n := ⟨_, rfl⟩
        have HR0 : s1.round xs1 = (if s1.left - n = 0 then ({ ({ s1 with at_ := s1.at_ + n } : PSt).say (.dat (xs1.take n)) with left := s1.left - n } : PSt).finish else { ({ s1 with at_ := s1.at_ + n } : PSt).say (.dat (xs1.take n)) with left := s1.left - n }, n) := by
          subst hn
          unfold PSt.round
          have hs := HST.out
          exact (if_neg (by rw [hs]; decide)).trans ((if_neg (by rw [hs]; decide)).trans (if_pos hs))
        have hle : 1 ≤ s1.left ∧ s1.left ≤ 9223372036854775807 := I.out.wm.l2 HST.out
        have hn0 : 0 < n := by omega
        have hn1 : n ≤ xs1.length := by omega
        have hn2 : (n : Int) ≤ s1.left := by omega
        rw [min_r s1.left xs1.length n (by omega) (by omega)]
        obtain ⟨A4, cut4, HI4, hc4⟩ := cut_from c1 I.out.xi n hn1 I.out.xc
        obtain ⟨x4, hx4⟩ : ∃ x4, xs1.drop n = x4 := ⟨_, rfl⟩
        have HX4 := Lib.hid hx4
        obtain ⟨at1, hat1⟩ : ∃ at1, s1.at_ + (n : Int) = at1 := ⟨_, rfl⟩
        have hwa : wrap64 (s1.at_ + (n : Int)) = at1 := by rw [PPua.wrapI _ (by have := I.out.xa; have := I.out.wf.a0; omega)]; exact hat1
        have HAT : Hid (0 ≤ at1 ∧ at1 ≤ 1099511627776) := by have := I.out.xa; have := I.out.wf.a0; exact ⟨by omega, by omega⟩
        obtain ⟨lf, hlf⟩ : ∃ lf, s1.left - (n : Int) = lf := ⟨_, rfl⟩
        have hwl : wrap64 (s1.left - (n : Int)) = lf := by rw [PPua.wrapI _ (by omega)]; exact hlf
        rw [hx4] at cut4 HI4 hc4
        rw [hat1, hlf] at HR0
        have cut7 := cut_to A1 c1 xs1 n hn1 I.out.xc
        obtain ⟨y, hy⟩ : ∃ y, xs1.take n = y := ⟨_, rfl⟩
        have hyl : y.length = n := by rw [← hy, List.length_take]; omega
        have HYB : Hid (∀ x ∈ y, 0 ≤ x ∧ x < 256) := by intro x hx; rw [← hy] at hx; exact I.out.xb x (List.mem_of_mem_take hx)
        have HC : Hid (Kd.C (Kd.int .u8) wr A1 n y) := by
          have q := in_take I.out.xi n hn1 wr P.out.fr
          rw [hy, hyl] at q
          exact q
        rw [hy] at HR0
        have HYL := Lib.hid hyl
        have HR := Lib.hid HR0
        have HI := Aside0.mk HI4
        have HC4 := Lib.hid hc4
        have f2 := P.out.free 2
        have P7 := Aside0.mk (P.out.setF 2 (.int .i64 at1) { s1 with at_ := at1 } rfl rfl rfl rfl rfl rfl)
        have HIN := Aside0.mk (in_take I.out.xi n hn1)
        have HN1 := Lib.hid hn1
        clear hn hn0 hn1 hn2 hle k0 k1 k6 k11 k12 k15 hat1 hlf HR0 HI4 hc4 hx4 HC hyl
        go_upto_region 23 with (fail)
        clear k2 f2
        have HC7 : Hid (Kd.C (Kd.int .u8) ((wr.setCell ⟨g, 2, none⟩ (.int .i64 at1)).alloc (.cells #[] 5)) A1 n y) := by
          have q := HIN.out _ P7.out.fr
          rw [hy, HYL.out] at q
          exact Kd.C_below q (below_alloc (Below.refl _ _) _)
        clear P HIN hy HYB
        generalize World.setCell _ _ _ = W7 at P7 HC7 ⊢
        have hg7 := P7.out.blk.lt
        have HO7 : Hid (Kd.R (Kd.int .u8) 5 (W7.alloc (.cells #[] 5)) W7.heap.size (fun k => some k ≠ vt1.ownBlock ∧ some k ≠ vb1.ownBlock) (.slice (some ⟨W7.heap.size, 0, none⟩) 0 0) []) :=
          R_lit0 W7 _ ⟨fun e => by have := Kd.R_lt P7.out.rw_.t _ e.symm; omega, fun e => by have := Kd.R_lt P7.out.rw_.b _ e.symm; omega⟩
        have HFR : Hid (∀ k, (W7.alloc (.cells #[] 5)).heap.size ≤ k → some k ≠ vt1.ownBlock ∧ some k ≠ vb1.ownBlock) := by
          intro k hk
          have hb := (below_alloc (Below.refl W7.heap.size W7) (.cells #[] 5)).size
          exact ⟨fun e => by have := Kd.R_lt P7.out.rw_.t _ e.symm; omega, fun e => by have := Kd.R_lt P7.out.rw_.b _ e.symm; omega⟩
        have HB7 : Hid (Below W7.heap.size W7 (W7.alloc (.cells #[] 5))) := below_alloc (Below.refl _ _) _
        have HLE : Hid ((([] : List Int).length + n) * 1 ≤ 140737488355328) := by have := HYL.out; have := HN1.out; have := I.out.xo; show _ ≤ _; simp only [List.length_nil]; omega
        have HS7 : Hid (W7.heap.size ≤ (W7.alloc (.cells #[] 5)).heap.size) := HB7.out.size
        go_upto_region 24 with (first | (at_builtin; refine Kd.R_append_rows (Kd.int .u8) (Rr := (Kd.int .u8).K (W7.alloc (.cells #[] 5))) (w0 := W7) (W := W7.alloc (.cells #[] 5)) W7.heap.size rfl (.tmp 139) (.tmp 142) 32 5 _ 1 rfl Tryz.underlying32 infoU8 rfl (by decide) (by decide) (.slice (some ⟨W7.heap.size, 0, none⟩) 0 0) [] y A1 n c1 _ (fun _ => False) rfl rfl HO7.out HC7.out (fun _ _ h => h) (fun _ hk => hk.elim) HFR.out HB7.out HS7.out HLE.out ?_; intro v2 w2 ho2 hb2 hg2 hat2; rw [List.nil_append] at ho2; obtain ⟨A2, c2, hv2⟩ := Kd.R_slice ho2; subst hv2; have P8 := Aside0.mk (P7.out.below hb2); have HR2 := Lib.hid (Kd.R_lower ho2 P7.out.fr.size); rw [HYL.out]; clear ho2 hb2 hg2 hat2) | (go_at_call 38; (refine (say_any w0 F0 _ g _ _ _ _ _ _ P8.out (.dat y) (.slice A2 n c2) (by rw [← HYL.out]; exact HR2.out) (by have := I.out.xo; show s1.out.length ≤ _; omega) 2 rfl en0 rfl .nilIface rfl (.inl rfl)).mono ?_); rintro e w3 ⟨rfl, vo3, hP3, hf3⟩))
        have P9 := Aside0.mk hP3
        clear hP3 hf3 P8 P7 HC7 HO7 HFR HB7 HLE HS7 HR2
        have k11 : w3.cell? ⟨g, 11, none⟩ = some (.int .i64 s1.left) := P9.out.blk.cell 11
        have f11 := P9.out.free 11
        have hg9 := P9.out.blk.lt
        have P10 := Aside0.mk (P9.out.setF 11 (.int .i64 lf) { ({ s1 with at_ := at1 } : PSt).say (.dat y) with left := lf } rfl rfl rfl rfl rfl rfl)
        clear P9
        by_cases hq : lf = 0
        · have e1 : (lf == 0) = true := by simpa using hq
          rw [if_pos hq] at HR
          clear hq
          go_wp2_with ((go_at_call 39; (with_reducible refine (finish_any w0 F0 _ g _ _ _ _ _ _ P10.out (by have := I.out.xo; simp only [PSt.say, List.length_append, List.length_singleton]; omega)).mono ?_); rintro e w4 ⟨rfl, hD⟩))
          go_roundg (gk - 1)
          case measure => have := I.out.xk; omega
          case rel => exact ⟨A4, c1 - n, x4, _, rfl, ⟨by have hx4 := HX4.out; subst hx4; exact I.out.next e0 (by rw [HST.out]; decide) HR.out hD HI.out HC4.out⟩⟩
        · have e1 : (lf == 0) = false := by simpa using hq
          rw [if_neg hq] at HR
          clear hq
          go_wp2
          go_roundg (gk - 1)
          case measure => have := I.out.xk; omega
          case rel => exact ⟨A4, c1 - n, x4, _, rfl, ⟨by have hx4 := HX4.out; subst hx4; exact I.out.next e0 (by rw [HST.out]; decide) HR.out ⟨_, _, _, _, _, P10.out⟩ HI.out HC4.out⟩⟩

      · clear hst
        go_upto_region 29 with (fail)
        obtain ⟨n, hn⟩ : ∃ n, min xs1.length s1.pad.toNat = n := ⟨_, rfl⟩
        have HR0 : s1.round xs1 = (if s1.pad - n = 0 then { s1 with at_ := s1.at_ + n, pad := s1.pad - n, st := 0 } else { s1 with at_ := s1.at_ + n, pad := s1.pad - n }, n) := by
          subst hn
          unfold PSt.round
          have hs := HST.out
          exact (if_neg (by rw [hs]; decide)).trans ((if_neg (by rw [hs]; decide)).trans (if_neg (by rw [hs]; decide)))
        have hle : 1 ≤ s1.pad ∧ s1.pad ≤ 9223372036854775807 := by have q := I.out.wm.p3 HST.out; have q2 := I.out.wm.p1; omega
        have hn0 : 0 < n := by omega
        have hn1 : n ≤ xs1.length := by omega
        have hn2 : (n : Int) ≤ s1.pad := by omega
        rw [min_r s1.pad xs1.length n (by omega) (by omega)]
        obtain ⟨A4, cut4, HI4, hc4⟩ := cut_from c1 I.out.xi n hn1 I.out.xc
        obtain ⟨x4, hx4⟩ : ∃ x4, xs1.drop n = x4 := ⟨_, rfl⟩
        have HX4 := Lib.hid hx4
        obtain ⟨at1, hat1⟩ : ∃ at1, s1.at_ + (n : Int) = at1 := ⟨_, rfl⟩
        have hwa : wrap64 (s1.at_ + (n : Int)) = at1 := by rw [PPua.wrapI _ (by have := I.out.xa; have := I.out.wf.a0; omega)]; exact hat1
        have HAT : Hid (0 ≤ at1 ∧ at1 ≤ 1099511627776) := by have := I.out.xa; have := I.out.wf.a0; exact ⟨by omega, by omega⟩
        obtain ⟨lf, hlf⟩ : ∃ lf, s1.pad - (n : Int) = lf := ⟨_, rfl⟩
        have hwl : wrap64 (s1.pad - (n : Int)) = lf := by rw [PPua.wrapI _ (by omega)]; exact hlf
        rw [hx4] at cut4 HI4 hc4
        rw [hat1, hlf] at HR0
        have HR := Lib.hid HR0
        have HI := Aside0.mk HI4
        have HC4 := Lib.hid hc4
        have f2 := P.out.free 2
        have f12 := P.out.free 12
        have f0 := P.out.free 0
        have P9 := Aside0.mk ((P.out.setF 2 (.int .i64 at1) { s1 with at_ := at1 } rfl rfl rfl rfl rfl rfl).setF 12 (.int .i64 lf) { s1 with at_ := at1, pad := lf } rfl rfl rfl rfl rfl rfl)
        clear hn hn0 hn1 hn2 hle k1 k6 k11 k15 hat1 hlf HR0 HI4 hc4 hx4 P
        by_cases hq : lf = 0
        · have e1 : (lf == 0) = true := by simpa using hq
          rw [if_pos hq] at HR
          clear hq
          go_wp2
          go_roundg (gk - 1)
          case measure => have := I.out.xk; omega
          case rel => exact ⟨A4, c1 - n, x4, _, rfl, ⟨by have hx4 := HX4.out; subst hx4; exact I.out.next e0 (by rw [HST.out]; decide) HR.out ⟨_, _, _, _, _, P9.out.setF 0 (.int .i64 0) _ rfl rfl rfl rfl rfl rfl⟩ HI.out HC4.out⟩⟩
        · have e1 : (lf == 0) = false := by simpa using hq
          rw [if_neg hq] at HR
          clear hq
          go_wp2
          go_roundg (gk - 1)
          case measure => have := I.out.xk; omega
          case rel => exact ⟨A4, c1 - n, x4, _, rfl, ⟨by have hx4 := HX4.out; subst hx4; exact I.out.next e0 (by rw [HST.out]; decide) HR.out ⟨_, _, _, _, _, P9.out⟩ HI.out HC4.out⟩⟩
      · clear hst
        have f15 := P.out.free 15
        go_wp2
        go_ret
        exact fed_end P.out ((feedL_nil _ _ _ (.inr HST.out)).symm.trans I.out.fin)
end
end Go.Proofs.YtpbpfngichfgeaaGreatDoor
