/-
  PushStays, walked: true at every two rows of bytes.
-/
import Derived.Test.YtpbpfngichfgeaaGreatDoorStayS
import Derived.Test.YtpbpfngichfgeaaGreatDoorStayN
import Derived.Test.YtpbpfngichfgeaaGreatDoorFedR
namespace Go.Proofs.YtpbpfngichfgeaaGreatDoor
set_option linter.unusedVariables false
set_option linter.unusedSectionVars false
set_option linter.unusedSimpArgs false
open Go Go.RowKit Go.Proofs.YtpbpfngichfgeaaGreatDoorW.PrintWords Go.Proofs.YtpbpfngichfgeaaGreatDoorW.PrintLast Go.Proofs.YtpbpfngichfgeaaGreatDoorW.PrintMore

theorem last_split {α : Type} (d : α) (l : List α) (p : Nat) (h : l.length = p + 1) : ∃ a, l = a ++ [l.getD p d] := by
  rcases List.eq_nil_or_concat l with rfl | ⟨a, x, rfl⟩
  · simp at h
  · have hp : a.length = p := by simpa using h
    exact ⟨a, by rw [← hp]; simp⟩
def YesS (w : World) (e : Ending) (w' : World) : Prop := e = .returned (.bool true) ∧ Below w.heap.size w w'
set_option maxHeartbeats 8000000 in
set_option maxRecDepth 100000 in
theorem stays_long (A B : Option Addr) (n c m d : Nat) (w : World) (he : EnvE w) (h : 20000 < n ∨ 2000 < m) : Calls Tryz.prog 8 #[.slice A n c, .slice B m d] w (YesS w) := by
  have HR := Lib.hid (reads_any w he)
  clear he
  by_cases hn : 20000 < n
  · have e1 : decide ((20000 : Int) < (n : Int)) = true := by simp; omega
    clear h
    go_enter Tryz.func8, Tryz.ntmps8
    go_wp2_with (go_at_call 19; (with_reducible refine HR.out.mono ?_); rintro e w1 ⟨rfl, hb1⟩; have HB1 := Lib.hid hb1; clear hb1)
    go_ret
    exact ⟨rfl, HB1.out⟩
  · have hm : 2000 < m := by omega
    have e1 : decide ((20000 : Int) < (n : Int)) = false := by simp; omega
    have e2 : decide ((2000 : Int) < (m : Int)) = true := by simp; omega
    clear h
    go_enter Tryz.func8, Tryz.ntmps8
    go_wp2_with (go_at_call 19; (with_reducible refine HR.out.mono ?_); rintro e w1 ⟨rfl, hb1⟩; have HB1 := Lib.hid hb1; clear hb1)
    go_ret
    exact ⟨rfl, HB1.out⟩
set_option maxHeartbeats 8000000 in
set_option maxRecDepth 100000 in
theorem stays_main (A B : Option Addr) (c d : Nat) (xs ys : List Int) (w : World) (he : EnvE w) (hg : w.cell? ⟨0, 0, none⟩ = some etype)
    (hx : Kd.C (Kd.int .u8) w A xs.length xs) (hy : Kd.C (Kd.int .u8) w B ys.length ys) (hxc : xs.length ≤ c) (hyc : ys.length ≤ d) (hxb : ∀ x ∈ xs, 0 ≤ x ∧ x < 256) (hyb : ∀ x ∈ ys, 0 ≤ x ∧ x < 256) (hxl : xs.length ≤ 20000) (hyl : ys.length ≤ 2000) :
    Calls Tryz.prog 8 #[.slice A xs.length c, .slice B ys.length d] w (YesS w) := by
  have HR := Lib.hid (reads_any w he)
  have HE := Lib.hid he
  have HG := Lib.hid hg
  have HX := Lib.hid hx
  have HY := Lib.hid hy
  have HXC := Lib.hid hxc
  have HYC := Lib.hid hyc
  have HXB := Lib.hid hxb
  have HYB := Lib.hid hyb
  obtain ⟨n, hn⟩ : ∃ n, xs.length = n := ⟨_, rfl⟩
  obtain ⟨m, hm⟩ : ∃ m, ys.length = m := ⟨_, rfl⟩
  rw [hn] at hxl HX HXC ⊢
  rw [hm] at hyl HY HYC ⊢
  have HN := Lib.hid hn
  have HM := Lib.hid hm
  have e1 : decide ((20000 : Int) < (n : Int)) = false := by simp; omega
  have e2 : decide ((2000 : Int) < (m : Int)) = false := by simp; omega
  have HNL := Lib.hid hxl
  have HML := Lib.hid hyl
  clear he hg hx hy hxc hyc hxb hyb hn hm hxl hyl
  go_enter Tryz.func8, Tryz.ntmps8
  go_upto_region 6 with (first | (go_at_call 19; (with_reducible refine HR.out.mono ?_); rintro e w1 ⟨rfl, hb1⟩; have HB1 := Lib.hid hb1; clear hb1) | (go_at_call 12; (with_reducible refine (new_any w1).mono ?_); rintro e w4 ⟨rfl, rfl⟩))
  clear HR
  have P2 := Aside0.mk (PSx.new w1)
  obtain ⟨g, hgd⟩ : ∃ g, w1.heap.size = g := ⟨_, rfl⟩
  have HGD := Lib.hid hgd
  rw [hgd] at P2 ⊢
  have HB2 : Hid (Below w.heap.size w (w1.alloc (.cells newCells 77))) := below_next HB1.out (below_alloc (Below.refl _ _) _)
  clear hgd
  generalize w1.alloc _ = W2 at P2 HB2 ⊢
  have HO7 : Hid (Kd.R (Kd.int .u8) 5 (W2.alloc (.cells #[] 5)) W2.heap.size (fun _ => True) (.slice (some ⟨W2.heap.size, 0, none⟩) 0 0) []) := R_lit0 W2 _ trivial
  have HC7 : Hid (Kd.C (Kd.int .u8) (W2.alloc (.cells #[] 5)) A n xs) := Kd.C_below (Kd.C_below HX.out (HB2.out)) (below_alloc (Below.refl _ _) _)
  have HB7 : Hid (Below W2.heap.size W2 (W2.alloc (.cells #[] 5))) := below_alloc (Below.refl _ _) _
  have HS7 : Hid (W2.heap.size ≤ (W2.alloc (.cells #[] 5)).heap.size) := HB7.out.size
  have HLE : Hid ((([] : List Int).length + n) * 1 ≤ 140737488355328) := by have := HNL.out; show _ ≤ _; simp only [List.length_nil]; omega
  go_upto_region 7 with ((at_builtin; refine Kd.R_append_rows (Kd.int .u8) (Rr := (Kd.int .u8).K (W2.alloc (.cells #[] 5))) (w0 := W2) (W := W2.alloc (.cells #[] 5)) W2.heap.size rfl (.tmp 27) (.tmp 28) 32 5 _ 1 rfl Tryz.underlying32 infoU8 rfl (by decide) (by decide) (.slice (some ⟨W2.heap.size, 0, none⟩) 0 0) [] xs A n c _ (fun _ => False) rfl rfl HO7.out HC7.out (fun _ _ h => h) (fun _ hk => hk.elim) (fun _ _ => trivial) HB7.out HS7.out HLE.out ?_; intro v3 w3 ho3 hb3 hg3 hat3; rw [List.nil_append] at ho3; have HO3 := Lib.hid ho3; have HB3 := Lib.hid hb3; clear ho3 hb3 hg3 hat3))
  clear HO7 HC7 HB7 HS7 HLE
  obtain ⟨A2, c2, hv3⟩ := Kd.R_slice HO3.out
  rw [HN.out] at hv3
  subst hv3
  have hgl := P2.out.blk.lt
  have HOwn : Hid (∀ k, Own g (.slice none 0 0) (.slice none 0 0) (.slice none 0 0) (.slice none 0 0) k → k = g) := by
    intro k hk
    rcases hk with h | h | h | h | h
    · exact h
    all_goals simp [Value.ownBlock] at h
  have P3 := Aside0.mk (PSx.move (w' := w3) (s := ps0) P2.out (fun k hk => by rw [HOwn.out k hk]; exact HB3.out.block g hgl))
  have HFD := Lib.hid (feed_next w3 ((HE.out.below HB2.out).below HB3.out) g ps0 _ _ _ _ P3.out (fun k hk => by rw [HOwn.out k hk, ← HGD.out]; exact ng_of_env (HE.out.below HB1.out)) wfs0 wfm0 A2 c2 xs (in_of_R HO3.out (fun k hk hown => by have h1 := HOwn.out k hown; have h2 := Kd.R_base HO3.out k hk; omega)) (by have := (Kd.R_reads' HO3.out); rw [HN.out]; exact this.2.1) HXB.out (by have := HNL.out; have := HN.out; omega) (by have := HNL.out; have := HN.out; show (0 : Int) + xs.length ≤ _; omega))
  rw [HN.out] at HFD
  have HST := Lib.hid (feed_stays xs HXB.out (by have := HNL.out; have := HN.out; omega))
  obtain ⟨r, hr⟩ : ∃ r, ps0.feed xs = r := ⟨_, rfl⟩
  have hr2 : ({ ps0 with out := [] } : PSt).feed xs = r := hr
  rw [hr2] at HFD
  rw [hr] at HST
  have HGL := Lib.hid hgl
  clear P2 hr hr2 hgl
  go_upto_region 8 with (go_at_call 17; (with_reducible refine HFD.out.mono ?_); rintro e w5 ⟨vb, vt, vg, vl, vo, rfl, hP, hEv⟩)
  obtain ⟨Ao, co, hvo⟩ := Kd.R_slice hEv
  subst hvo
  have P5 := Aside0.mk hP
  have HEV := Lib.hid hEv
  clear HFD hP hEv P3
  have hb3 : ∀ k, (Value.slice A2 n c2).ownBlock = some k → W2.heap.size ≤ k := Kd.R_base HO3.out
  have HM5 : Aside0 (Kd.R (Kd.int .u8) 5 w5 W2.heap.size (fun _ => True) (.slice A2 n c2) (flipTo xs 0)) := by
    have q := Kd.R_mono (ok' := fun _ => True) (Kd.R_step (Kd.R_tight rfl HO3.out) (w1 := w5) (fun k hk hlt => P5.out.fr.block k hlt (fun hown => by have h1 := HOwn.out k hown; have h2 := hb3 k hk.symm; have h3 := HGL.out; omega))) (fun _ _ => trivial)
    exact ⟨by simpa [flipTo] using q⟩
  have HBM : Hid (∀ k, (Value.slice A2 n c2).ownBlock = some k → W2.heap.size ≤ k ∧ k < w3.heap.size) := fun k hk => ⟨hb3 k hk, Kd.R_lt HO3.out k hk⟩
  clear hb3
  go_wp2_with fail
  go_loopg [8, 35] n (fun gk _ i wr => ∃ k : Nat, k + gk = n ∧ i = .int .i64 k ∧ Aside0 (Kd.R (Kd.int .u8) 5 wr W2.heap.size (fun _ => True) (.slice A2 n c2) (flipTo xs k) ∧ Frm (fun k => some k = (Value.slice A2 n c2).ownBlock) w5 wr))
  case atStart => exact ⟨0, by omega, rfl, ⟨HM5.out, Frm.refl _ _⟩⟩
  case round =>
    clear HM5
    obtain ⟨k, hk, rfl, HL⟩ := hrel
    by_cases hlt : k < n
    · obtain ⟨G, cap, hv2, hg1, hg2, _⟩ := Kd.R_form HL.out.1 (by rw [flipTo_len, HN.out]; omega)
      rw [flipTo_len, HN.out] at hv2
      injection hv2 with hA _ hcap
      subst hA
      obtain ⟨y0, f0⟩ := Kd.R_celln (0 : Int) HL.out.1 (k : Int) (by omega) (by omega)
      have ex : rdOf (0 : Int) (flipTo xs k) (k : Int) = xs.getD k 0 := by
        show (flipTo xs k).getD (k : Int).toNat 0 = _
        rw [Int.toNat_natCast]
        exact flipTo_get xs k (by rw [HN.out]; exact hlt)
      rw [ex] at y0
      simp only [Int.toNat_natCast] at y0 f0
      obtain ⟨x, hx⟩ : ∃ x, xs.getD k 0 = x := ⟨_, rfl⟩
      rw [hx] at y0
      have HXX := Lib.hid hx
      have hbn : k + 1 ≤ 1000000 := by have := HNL.out; omega
      clear ex hx hcap hg1
      go_wp2
      go_roundg (gk - 1)
      case measure => omega
      case rel =>
        refine ⟨k + 1, by omega, by rw [Int.natCast_add]; rfl, ⟨?_, HL.out.2.set (p := ⟨G, k, none⟩) (fun _ => rfl) _⟩⟩
        have q := (Kd.R_putg HL.out.1 (k : Int) (flipI x)).1
        simp only [Int.toNat_natCast] at q
        rw [← HXX.out, flipTo_set xs k (by rw [HN.out]; exact hlt), HXX.out] at q
        exact q
    · obtain rfl : n = k := by omega
      obtain ⟨nl, hnl⟩ : ∃ nl, r.out.length = nl := ⟨_, rfl⟩
      rw [hnl] at HEV ⊢
      have HNLL := Lib.hid hnl
      have hnlb : nl ≤ 9223372036854775807 := by rw [← hnl]; exact R_max HEV.out
      obtain ⟨Ge, hGe⟩ : ∃ Ge, (0 < nl → Ao = some ⟨Ge, 0, none⟩ ∧ w3.heap.size ≤ Ge ∧ ∃ cs, w5.heap[Ge]? = some (.cells cs 43 (0, 0))) ∧ SI w5 wr w3.heap.size (Own g vb vt vg vl) (.slice A2 n c2) (flipTo xs n) Ge nl := by
        have hm0 : Kd.R (Kd.int .u8) 5 wr 0 (fun k => k < w3.heap.size) (.slice A2 n c2) (flipTo xs n) := by
          exact Kd.R_mono (Kd.R_tight rfl (Kd.R_lower HL.out.1 (Nat.zero_le _))) (fun k hk => (HBM.out k hk.symm).2)
        by_cases h0 : 0 < nl
        · obtain ⟨Ge, cap, he, hb, hlt, cs, hcs⟩ := Kd.R_form HEV.out (by rw [hnl]; exact h0)
          rw [hnl] at he
          injection he with hA _ hc
          subst hA
          exact ⟨Ge, fun _ => ⟨rfl, hb, cs, hcs⟩, SI.start P5.out HEV.out HL.out.2 hm0⟩
        · exact ⟨0, fun h => absurd h h0, ⟨⟨HL.out.2.os, HL.out.2.tape, HL.out.2.output, HL.out.2.size, fun k hk hn => HL.out.2.block k hk (fun e => hn (.inl e))⟩, hm0, fun i hi => absurd hi (by omega)⟩⟩
      have HGE := Lib.hid hGe.1
      have HSI := Aside0.mk hGe.2
      clear hGe hnl hlt
      go_wp2_with fail
      go_loopg [9, 10, 47] nl (fun gk _ _ v47 wq => ∃ k : Nat, k + gk = nl ∧ v47 = .int .i64 k ∧ Aside0 (SI w5 wq w3.heap.size (Own g vb vt vg vl) (.slice A2 n c2) (flipTo xs n) Ge nl))
      case atStart => exact ⟨0, by omega, rfl, HSI⟩
      case round =>
        clear HSI
        obtain ⟨k, hk, rfl, HS⟩ := hrel
        obtain ⟨gko, rfl⟩ : ∃ gko, gko = gk := ⟨_, rfl⟩
        obtain ⟨wo, rfl⟩ : ∃ wo : World, wo = wr := ⟨_, rfl⟩
        by_cases hlt : k < nl
        · obtain ⟨hA, hgb, cse, hce⟩ := HGE.out (by omega)
          subst hA
          obtain ⟨Ad, dl, cd, d11, hdl, _⟩ := HS.out.dat k hlt
          have y11 : wo.cell? ⟨Ge, k * 14 + 11, none⟩ = some (.slice Ad dl cd) := (HS.out.ev hce hgb _).trans d11
          have HCE := Lib.hid hce
          have HD11 := Lib.hid d11
          have HK := Lib.hid hk
          have HLT := Lib.hid hlt
          clear d11 hce hk
          go_wp2_with fail
          go_loopg [10, 56] dl (fun gk _ v56 wz => ∃ q : Nat, q + gk = dl ∧ v56 = .int .i64 q ∧ Aside0 (SI w5 wz w3.heap.size (Own g vb vt vg vl) (.slice A2 n c2) (flipTo xs n) Ge nl))
          case atStart => exact ⟨0, by omega, rfl, HS⟩
          case round =>
            clear HS y11
            obtain ⟨q, hq, rfl, HZ⟩ := hrel
            by_cases hqd : q < dl
            · obtain ⟨Gd, cs, hAd, hBd, hD, hbd, hys⟩ := HZ.out.row k HLT.out HD11.out (by omega)
              subst hAd
              obtain ⟨y, hy⟩ := hys q hqd
              have z0 : wr.cell? ⟨Gd, q, none⟩ = some (.int .u8 y) := (hbd.cell q).trans hy
              have z1 := hbd.frozen q
              have z2 := hbd.lt
              have y11 : wr.cell? ⟨Ge, k * 14 + 11, none⟩ = some (.slice (some ⟨Gd, 0, none⟩) dl cd) := (HZ.out.ev HCE.out hgb _).trans HD11.out
              have HQ := Lib.hid hq
              have HQD := Lib.hid hqd
              have HDD := Lib.hid hD
              have HBD := Lib.hid hbd
              clear hys hy hq hD hbd
              go_wp2_with fail
              go_roundg (gk - 1)
              case measure => have := HQ.out; have := HQD.out; omega
              case rel => exact ⟨q + 1, by have := HQ.out; have := HQD.out; omega, by rw [Int.natCast_add]; rfl, ⟨HZ.out.put HDD.out hBd HBD.out q _⟩⟩
            · go_wp2_with fail
              go_roundg (gko - 1)
              case measure => have := HK.out; have := HLT.out; omega
              case rel => exact ⟨k + 1, by have := HK.out; have := HLT.out; omega, by rw [Int.natCast_add]; rfl, HZ⟩
        · have hown : ∀ k, Own g vb vt vg vl k → g ≤ k ∧ (k = g ∨ w3.heap.size ≤ k) := by
            intro k hk
            have q : ∀ k, (k < w3.heap.size → Own g (.slice none 0 0) (.slice none 0 0) (.slice none 0 0) (.slice none 0 0) k) → g ≤ k ∧ (k = g ∨ w3.heap.size ≤ k) := fun k hk => by
              by_cases hlt : k < w3.heap.size
              · have := HOwn.out k (hk hlt)
                omega
              · have := HGL.out
                have := P5.out.lt
                omega
            have h := P5.out
            rcases hk with hk | hk | hk | hk | hk
            · omega
            · exact q k (h.rw_.b.1 k hk.symm)
            · exact q k (h.rw_.t.1 k hk.symm).1
            · exact q k (h.rw_.g.1 k hk.symm)
            · exact q k (h.rw_.l.1 k hk.symm).1
          have hgw : w.heap.size ≤ g := by rw [← HGD.out]; exact HB1.out.size
          have hw2w : w.heap.size ≤ W2.heap.size := HB2.out.size
          have hw3 : W2.heap.size ≤ w3.heap.size := HB3.out.size
          have HB5 : Hid (Below w.heap.size w w5) := frm_below (below_next HB2.out HB3.out) P5.out.fr (fun k hk => by have := HOwn.out k hk; omega)
          have HBW : Hid (Below w.heap.size w wo) := frm_below HB5.out HS.out.fr (fun k hk => by
            rcases hk with e | ⟨e, _, _⟩
            · have := (HBM.out k e.symm).1; omega
            · omega)
          have P9 := Aside0.mk (PSx.move (w' := wo) (s := r) P5.out (fun k hk => by
            obtain ⟨c, t, hc, _⟩ := own_ty P5.out k hk
            refine HS.out.fr.block k (blk_lt hc) ?_
            rintro (e | ⟨_, e, _⟩)
            · have h1 := HBM.out k e.symm
              have h2 := (hown k hk).2
              have h3 := HGL.out
              omega
            · exact e hk))
          have HNG : Hid (∀ k, Own g vb vt vg vl k → 7 ≤ k) := fun k hk => Nat.le_trans (Nat.le_trans (ng_of_env HE.out) hgw) (hown k hk).1
          have HOW : Hid (∀ k, Own g vb vt vg vl k → w.heap.size ≤ k) := fun k hk => Nat.le_trans hgw (hown k hk).1
          have HLK : Hid (∀ p, nl = p + 1 → ∃ l x, r.out = l ++ [x] ∧ Ao = some ⟨Ge, 0, none⟩ ∧ Ge < wo.heap.size ∧ wo.cell? ⟨Ge, p * 14, none⟩ = some (.int .i64 x.k.num)) := by
            intro p hp
            obtain ⟨hA, hgb, cse, hce⟩ := HGE.out (by omega)
            have hE := HEV.out
            rw [hA] at hE
            obtain ⟨vd, hc, _⟩ := ev_at hE p (by omega) _ rfl
            obtain ⟨l, hl⟩ := last_split (default : Evt) r.out p (by rw [HNLL.out, hp])
            exact ⟨l, _, hl, hA, Nat.lt_of_lt_of_le (blk_lt hce) HS.out.fr.size, (HS.out.ev hce hgb _).trans (hc 0 _ rfl)⟩
          have HGW : Hid (∀ W', Below w.heap.size w W' → W'.cell? ⟨0, 0, none⟩ = some etype) := fun W' hb => cell_below hb (Nat.lt_of_lt_of_le (by decide) (ng_of_env HE.out)) HG.out
          have HBO : Hid (∀ W', Below wo.heap.size wo W' → Below w.heap.size w W') := fun W' hb => below_next HBW.out hb
          have HEN : Hid (∀ W', Below wo.heap.size wo W' → Calls Tryz.prog 14 #[.pointer (some ⟨g, 0, none⟩)] W' (fun e w' => e = .returned (errV r.endE) ∧ w' = W')) := fun W' hb => end_any _ _ W' _ { r with out := [] } _ _ _ _ _ (P9.out.below hb)
          have HFM : Hid (∀ W', Below wo.heap.size wo W' → Calls Tryz.prog 17 #[.pointer (some ⟨g, 0, none⟩), .slice B m d] W' (Fed W' (Own g vb vt vg vl) g (({ r with out := [] } : PSt).feed ys))) := by
            intro W' hb
            have h := feed_next W' (HE.out.below (HBO.out W' hb)) g r vb vt vg vl (PSx.move (s := r) (P9.out.below hb) (fun _ _ => rfl)) HNG.out HST.out.ok.wf HST.out.ok.wm B d ys (fun W hW => by rw [HM.out]; exact Kd.C_below HY.out (frm_below (HBO.out W' hb) hW HOW.out (Nat.le_refl _))) (by rw [HM.out]; exact HYC.out) HYB.out (by rw [HM.out]; have := HML.out; omega) (by have := HST.out.at_; rw [HM.out]; rw [HN.out] at this; have := HML.out; have := HNL.out; omega)
            rw [HM.out] at h
            exact h
          clear hown hgw hw2w hw3
          have hfull : flipTo xs n = xs.map flipI := by
            unfold flipTo
            rw [List.take_of_length_le (by rw [HN.out]; exact Nat.le_refl _), List.drop_eq_nil_of_le (by rw [HN.out]; exact Nat.le_refl _), List.append_nil]
          obtain ⟨MS, hMS⟩ : ∃ MS, strOfNums (xs.map flipI) = MS := ⟨_, rfl⟩
          have hml : (xs.map flipI).length = n := by rw [List.length_map, HN.out]
          have HCS : Hid (∀ (W' : World) (base : Nat) (ok : Nat → Prop) (A7 : Option Addr) (c7 : Nat), Kd.R (Kd.int .u8) 5 W' base ok (.slice A7 n c7) (xs.map flipI) → (convert 32 9 (.slice A7 n c7)).run Tryz.prog W' = .ok (.string MS) W') := by
            intro W' base ok A7 c7 h
            have := (Kd.R_reads' h).2.2
            rw [← hMS, ← hml]
            exact Kd.C_string Tryz.underlying32 Tryz.underlying5 Tryz.underlying9 this
          have hmine := HS.out.mine
          rw [hfull] at hmine
          have HMI := Lib.hid hmine
          have HFL : Hid (∀ W', Below wo.heap.size wo W' → Calls Tryz.prog 23 #[.slice A n c] W' (fun e w' => ∃ A7 c7, e = .returned (.slice A7 n c7) ∧ ((convert 32 9 (.slice A2 n c2)).run Tryz.prog w' = .ok (.string MS) w' ∧ (convert 32 9 (.slice A7 n c7)).run Tryz.prog w' = .ok (.string MS) w') ∧ Hid (Below wo.heap.size wo w'))) := by
            intro W' hb
            have h := flip_any A c xs W' (by rw [HN.out]; exact Kd.C_below HX.out (below_next HBW.out hb)) (by rw [HN.out]; exact HXC.out) (by rw [HN.out]; have := HNL.out; omega)
            rw [HN.out] at h
            refine h.mono fun e w' ⟨v, a, r, b⟩ => ?_
            obtain ⟨A7, c7, hv⟩ := Kd.R_slice r
            rw [hml] at hv
            subst hv
            exact ⟨A7, c7, a, ⟨HCS.out w' _ _ _ _ (Kd.R_below HMI.out (below_next hb b)), HCS.out w' _ _ _ _ r⟩, below_next hb b⟩
          have HAT : Hid (∀ W', Below wo.heap.size wo W' → Calls Tryz.prog 18 #[.pointer (some ⟨g, 0, none⟩)] W' (fun e w' => e = .returned (.int .i64 r.at_) ∧ w' = W')) := fun W' hb => sat_any _ _ W' _ { r with out := [] } _ _ _ _ _ (P9.out.below hb)
          have e6 : decide ((n : Int) < r.at_) = false := by
            have := HST.out.at_
            rw [HN.out] at this
            simp
            omega
          have k1 : ∀ j, (convert 32 9 (.slice A2 n c2)).run Tryz.prog (wo.drewN j) = .ok (.string MS) (wo.drewN j) := fun j => HCS.out (wo.drewN j) _ _ _ _ (Kd.R_below HMI.out (below_drewN (Below.refl _ _) j))
          clear hfull hMS hml hmine HS
          have k1d : (convert 32 9 (.slice A2 n c2)).run Tryz.prog wo.drew = .ok (.string MS) wo.drew := HCS.out wo.drew _ _ _ _ (Kd.R_drew HMI.out)
          go_wp2_with fail
          go_region_with (first | (go_at_call 23; (with_reducible refine (HFL.out _ (by first | exact below_drew (Below.refl _ _) | exact below_drewN (Below.refl _ _) _ | exact Below.refl _ _)).mono ?_); rintro e w7 ⟨A7, c7, rfl, ⟨k2, k3⟩, HS7⟩) | (go_at_call 18; (with_reducible refine (HAT.out _ (by first | exact HS7.out | exact below_drewN HS7.out _ | exact below_drew HS7.out)).mono ?_); rintro e w8 ⟨rfl, rfl⟩))
          all_goals clear k2 k3
          all_goals have HB8 := HBO.out _ HS7.out
          all_goals clear e6
          all_goals
            rcases Nat.eq_zero_or_pos nl with h0 | h0
            · subst h0
              go_wp2_with (first | (go_at_call 14; (with_reducible refine (HEN.out _ HS7.out).mono ?_); rintro e w6 ⟨rfl, rfl⟩) | (go_at_call 18; (with_reducible refine (HAT.out _ HS7.out).mono ?_); rintro e w6 ⟨rfl, rfl⟩) | (go_at_call 17; (with_reducible refine (HFM.out _ HS7.out).mono ?_); rintro e w6 ⟨vb6, vt6, vg6, vl6, vo6, rfl, hP6, hEv6⟩; have HB6 := Lib.hid (frm_below HB8 hP6.fr HOW.out (Nat.le_refl _)); clear hP6 hEv6))
              go_ret
              exact ⟨rfl, HB6.out⟩
            · obtain ⟨p, hp⟩ : ∃ p, nl = p + 1 := ⟨nl - 1, by omega⟩
              obtain ⟨l, x, hx, hA, hgl, hcx⟩ := HLK.out p hp
              subst hA
              have z1 := cell_below HS7.out hgl hcx
              have q0 : decide ((0 : Int) < (nl : Int)) = true := by simp; omega
              have q1 : IntKind.i64.wrap ((nl : Int) - 1) = (p : Int) := by
                rw [show (nl : Int) - 1 = (p : Int) from by omega]
                exact Go.IntWalk.i64_in _ ⟨by omega, by omega⟩
              have q2 : (0 : Int) ≤ (p : Int) := by omega
              have q3 : (p : Int) < (nl : Int) := by omega
              have HOV := Lib.hid (HST.out.over l x hx)
              obtain ⟨num, hnum⟩ : ∃ num, x.k.num = num := ⟨_, rfl⟩
              rw [hnum] at z1 HOV
              clear hcx hx hgl hnum HLK
              by_cases h4 : 4 ≤ num
              · have q4 : decide (4 ≤ num) = true := decide_eq_true h4
                rw [feed_over { r with out := [] } ys (HOV.out h4)] at HFM
                have HC6 : Hid (∀ w6, Below w.heap.size w w6 → ∀ W', Below w6.heap.size w6 W' → Calls Tryz.prog 13 #[errV r.endE] W' (fun e w' => e = .returned (.int .i64 (cdOf r.endE)) ∧ Hid (Below w6.heap.size w6 w'))) := fun w6 h6 W' hb => (code_end r.endE W' (HGW.out W' (below_next h6 hb))).mono (fun e w' ⟨a, b⟩ => ⟨a, below_next hb b⟩)
                have HL6 : Hid (∀ w6, Below w.heap.size w w6 → ∀ W', Below w6.heap.size w6 W' → Calls Tryz.prog 24 #[errV r.endE] W' (fun e w' => e = .returned (.int .i64 (plOf r.endE)) ∧ Hid (Below w6.heap.size w6 w'))) := fun w6 h6 W' hb => (place_end r.endE W' (HGW.out W' (below_next h6 hb))).mono (fun e w' ⟨a, b⟩ => ⟨a, below_next hb b⟩)
                have HEP : Hid (∀ W' w6 vb6 vt6 vg6 vl6, PSx W' (Own g vb vt vg vl) w6 g { r with out := [] } vb6 vt6 vg6 vl6 (.slice none 0 0) → Calls Tryz.prog 14 #[.pointer (some ⟨g, 0, none⟩)] w6 (fun e w' => e = .returned (errV r.endE) ∧ w' = w6)) := fun W' w6 _ _ _ _ h => end_any _ _ w6 _ { r with out := [] } _ _ _ _ _ h
                have HAP : Hid (∀ W' w6 vb6 vt6 vg6 vl6, PSx W' (Own g vb vt vg vl) w6 g { r with out := [] } vb6 vt6 vg6 vl6 (.slice none 0 0) → ∀ W'', Below w6.heap.size w6 W'' → Calls Tryz.prog 18 #[.pointer (some ⟨g, 0, none⟩)] W'' (fun e w' => e = .returned (.int .i64 r.at_) ∧ w' = W'')) := fun W' w6 _ _ _ _ h W'' hb => sat_any _ _ W'' _ { r with out := [] } _ _ _ _ _ (h.below hb)
                clear h4 HOV
                generalize errV r.endE = EV at HC6 HL6 HEP HEN
                generalize cdOf r.endE = CC at HC6
                generalize plOf r.endE = PP at HL6
                go_wp2_with (first | (go_at_call 14; (with_reducible refine (HEN.out _ HS7.out).mono ?_); rintro e w6 ⟨rfl, rfl⟩) | (go_at_call 18; (with_reducible refine (HAT.out _ HS7.out).mono ?_); rintro e w6 ⟨rfl, rfl⟩) | (go_at_call 17; (with_reducible refine (HFM.out _ HS7.out).mono ?_); rintro e w6 ⟨vb6, vt6, vg6, vl6, vo6, rfl, hP6, hEv6⟩; have HB6 := Lib.hid (frm_below HB8 hP6.fr HOW.out (Nat.le_refl _)); obtain ⟨A6, c6, hv6⟩ := Kd.R_slice hEv6; have hv7 : vo6 = .slice A6 0 c6 := hv6; subst hv7; have HEN6 := Lib.hid (HEP.out _ _ _ _ _ _ hP6); have HAT6 := Lib.hid (HAP.out _ _ _ _ _ _ hP6); have HC := Lib.hid (HC6.out w6 HB6.out); have HL := Lib.hid (HL6.out w6 HB6.out); have HBn := Lib.hid (Below.refl w6.heap.size w6); clear hP6 hEv6 hv6 HEN HAT) | (go_at_call 14; (with_reducible refine HEN6.out.mono ?_); rintro e w9 ⟨rfl, rfl⟩) | (go_at_call 13; (with_reducible refine (HC.out _ (by first | exact HBn.out | exact below_drew HBn.out | exact below_drewN HBn.out _)).mono ?_); rintro e w9 ⟨rfl, HBn⟩) | (go_at_call 24; (with_reducible refine (HL.out _ (by first | exact HBn.out | exact below_drew HBn.out | exact below_drewN HBn.out _)).mono ?_); rintro e w9 ⟨rfl, HBn⟩) | (go_at_call 18; (with_reducible refine (HAT6.out _ (by first | exact HBn.out | exact below_drew HBn.out | exact below_drewN HBn.out _)).mono ?_); rintro e w9 ⟨rfl, rfl⟩))
                go_ret
                exact ⟨rfl, by first | exact below_next HB6.out HBn.out | exact below_next HB6.out (below_drew HBn.out)⟩
              · have q4 : decide (4 ≤ num) = false := decide_eq_false h4
                clear h4 HOV
                go_wp2_with (first | (go_at_call 14; (with_reducible refine (HEN.out _ HS7.out).mono ?_); rintro e w6 ⟨rfl, rfl⟩) | (go_at_call 18; (with_reducible refine (HAT.out _ HS7.out).mono ?_); rintro e w6 ⟨rfl, rfl⟩) | (go_at_call 17; (with_reducible refine (HFM.out _ HS7.out).mono ?_); rintro e w6 ⟨vb6, vt6, vg6, vl6, vo6, rfl, hP6, hEv6⟩; have HB6 := Lib.hid (frm_below HB8 hP6.fr HOW.out (Nat.le_refl _)); clear hP6 hEv6))
                go_ret
                exact ⟨rfl, HB6.out⟩
theorem stays_any (A B : Option Addr) (c d : Nat) (xs ys : List Int) (w : World) (he : EnvE w) (hg : w.cell? ⟨0, 0, none⟩ = some etype) (hx : Kd.C (Kd.int .u8) w A xs.length xs) (hy : Kd.C (Kd.int .u8) w B ys.length ys) (hxc : xs.length ≤ c) (hyc : ys.length ≤ d) (hxb : ∀ x ∈ xs, 0 ≤ x ∧ x < 256) (hyb : ∀ x ∈ ys, 0 ≤ x ∧ x < 256) :
    Calls Tryz.prog 8 #[.slice A xs.length c, .slice B ys.length d] w (YesS w) := by
  by_cases h : 20000 < xs.length ∨ 2000 < ys.length
  · exact stays_long A B _ c _ d w he h
  · exact stays_main A B c d xs ys w he hg hx hy hxc hyc hxb hyb (by omega) (by omega)
end Go.Proofs.YtpbpfngichfgeaaGreatDoor
