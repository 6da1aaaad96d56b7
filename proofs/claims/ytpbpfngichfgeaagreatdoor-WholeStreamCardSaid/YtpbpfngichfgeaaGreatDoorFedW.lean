/-
  The law's fed, walked: whatever the cuts, what it answers is the archive of the bytes.
-/
import Derived.Test.YtpbpfngichfgeaaGreatDoorFedR
import Derived.Test.YtpbpfngichfgeaaGreatDoorFaults
namespace Go.Proofs.YtpbpfngichfgeaaGreatDoor
set_option linter.unusedVariables false
set_option linter.unusedSectionVars false
set_option linter.unusedSimpArgs false
set_option linter.unnecessarySimpa false
open Go Go.RowKit Go.Proofs.YtpbpfngichfgeaaGreatDoorW.PrintWords Go.Proofs.YtpbpfngichfgeaaGreatDoorW.PrintLast Go.Proofs.YtpbpfngichfgeaaGreatDoorW.PrintMore
attribute [local go_sem] min2_int min_two max2_int max_two

/-- Before a round of the loop over the cuts. -/
def L1 (w0 : World) (xs : List Int) (g4 g7 gp : Nat) (v25 : Value) (row : List Int) (gk : Nat) (v8 v9 v10 v27 : Value) (wr : World) : Prop :=
  ∃ (k p : Nat) (s : PSt) (b : Arc) (vb vt vg vl vth : Value), k + gk = row.length ∧ v27 = .int .i64 k ∧ v10 = .int .i64 p ∧ p ≤ xs.length ∧ (k = row.length → p = xs.length) ∧ v8 = .bool b.opn ∧ v9 = .bool b.over ∧
    Aside0 (foldB j0 (xs.take p) = (s, some b) ∧ FI w0 wr g4 g7 gp s vb vt vg vl b vth ∧ Kd.R (Kd.int .i64) 3 wr w0.heap.size (fun _ => True) v25 row)
/-- Before a round of the loop over the events. -/
def L2 (w0 : World) (g4 g7 gp : Nat) (v25 : Value) (row : List Int) (r : PSt) (out : List Evt) (vb vt vg vl vo : Value) (b : Arc) (base : Nat) (gk : Nat) (v8 v9 v47 : Value) (wq : World) : Prop :=
  ∃ (k : Nat) (b' : Arc) (vth : Value), k + gk = out.length ∧ v47 = .int .i64 k ∧ v8 = .bool b'.opn ∧ v9 = .bool b'.over ∧
    Aside0 (Arc.evs (some b) (out.take k) = some b' ∧ FI w0 wq g4 g7 gp r vb vt vg vl b' vth ∧ Kd.R (Kd.int .i64) 3 wq w0.heap.size (fun _ => True) v25 row ∧ Kd.R kEv 43 wq base (fun _ => True) vo out)
set_option maxHeartbeats 8000000 in
set_option maxRecDepth 100000 in
theorem fed_any (A B : Option Addr) (c d : Nat) (xs cuts : List Int) (w : World) (he : EnvE w) (hg : w.cell? ⟨0, 0, none⟩ = some etype)
    (hx : Kd.C (Kd.int .u8) w A xs.length xs) (hy : Kd.C (Kd.int .i64) w B cuts.length cuts) (hxc : xs.length ≤ c) (hyc : cuts.length ≤ d) (hxb : ∀ x ∈ xs, 0 ≤ x ∧ x < 256) (hxl : xs.length ≤ 100000) (hyl : cuts.length ≤ 1000) :
    Calls Tryz.prog 20 #[.slice A xs.length c, .slice B cuts.length d] w (FedEnd w xs) := by
  have HE := Lib.hid he
  have HG := Lib.hid hg
  have HX := Lib.hid hx
  have HY := Lib.hid hy
  have HXC := Lib.hid hxc
  have HYC := Lib.hid hyc
  have HXB := Lib.hid hxb
  obtain ⟨n, hn⟩ : ∃ n, xs.length = n := ⟨_, rfl⟩
  obtain ⟨m, hm⟩ : ∃ m, cuts.length = m := ⟨_, rfl⟩
  rw [hn] at hxl HX HXC ⊢
  rw [hm] at hyl HY HYC ⊢
  have HN := Lib.hid hn
  have HM := Lib.hid hm
  have HNL := Lib.hid hxl
  have HML := Lib.hid hyl
  have H0 := Aside0.mk (fi0 w)
  clear he hg hx hy hxc hyc hxb hn hm hxl hyl
  go_enter Tryz.func20, Tryz.ntmps20
  go_upto_region 5 with (go_at_call 12; (with_reducible refine (new_any _).mono ?_); rintro e w1 ⟨rfl, rfl⟩)
  generalize ((w.alloc _).alloc _).alloc _ = W at H0 ⊢
  have HO7 : Hid (Kd.R (Kd.int .i64) 3 (W.alloc (.cells #[] 3)) W.heap.size (fun _ => True) (.slice (some ⟨W.heap.size, 0, none⟩) 0 0) []) := R_lit0i W _ trivial
  have HC7 : Hid (Kd.C (Kd.int .i64) (W.alloc (.cells #[] 3)) B m cuts) := Kd.C_below (Kd.C_below HY.out H0.out.bl) (below_alloc (Below.refl _ _) _)
  have HB7 : Hid (Below W.heap.size W (W.alloc (.cells #[] 3))) := below_alloc (Below.refl _ _) _
  have HS7 : Hid (W.heap.size ≤ (W.alloc (.cells #[] 3)).heap.size) := HB7.out.size
  have HLE : Hid ((([] : List Int).length + m) * 8 ≤ 140737488355328) := by have := HML.out; show _ ≤ _; simp only [List.length_nil]; omega
  have HLE2 : Hid ((cuts.length + 1) * 8 ≤ 140737488355328) := by have := HML.out; have := HM.out; show _ ≤ _; omega
  go_wp2_with (first | (at_builtin; refine Kd.R_append_rows (Kd.int .i64) (Rr := (Kd.int .i64).K (W.alloc (.cells #[] 3))) (w0 := W) (W := W.alloc (.cells #[] 3)) W.heap.size rfl (.tmp 19) (.tmp 20) 24 3 _ 8 rfl Tryz.underlying24 infoI64 rfl (by decide) (by decide) (.slice (some ⟨W.heap.size, 0, none⟩) 0 0) [] cuts B m d _ (fun _ => False) rfl rfl HO7.out HC7.out (fun _ _ h => h) (fun _ hk => hk.elim) (fun _ _ => trivial) HB7.out HS7.out HLE.out ?_; intro v2 w2 ho2 hb2 hg2 hat2; rw [List.nil_append] at ho2; have HO2 := Lib.hid ho2; have HB2 := Lib.hid hb2; have HS2 : Hid (W.heap.size ≤ w2.heap.size) := hb2.size; clear ho2 hb2 hg2 hat2) | (at_builtin; refine Kd.R_append_rows (Kd.int .i64) (Rr := (Kd.int .i64).K (w2.alloc (.cells #[.int .i64 n] 3))) (w0 := W) (W := w2.alloc (.cells #[.int .i64 n] 3)) W.heap.size rfl (.tmp 21) (.tmp 24) 24 3 _ 8 rfl Tryz.underlying24 infoI64 rfl (by decide) (by decide) v2 cuts [(n : Int)] (some ⟨w2.heap.size, 0, none⟩) 1 1 _ (fun _ => False) rfl rfl (Kd.R_alloc HO2.out _) (C_lit1 w2 n) (fun _ _ h => h) (fun _ hk => hk.elim) (fun _ _ => trivial) (below_then HB2.out HS2.out (below_alloc (Below.refl _ _) _)) (Nat.le_trans HS2.out (below_alloc (Below.refl _ _) _).size) HLE2.out ?_; intro v3 w3 ho3 hb3 hg3 hat3; obtain ⟨A3, c3, hv3⟩ := Kd.R_slice ho3; have hv3e : v3 = .slice A3 (m + 1) c3 := hv3.trans (congrArg (fun z => Value.slice A3 z c3) (by simp [HM.out])); clear hv3; subst hv3e; have HO3 := Lib.hid ho3; have HB3 := Lib.hid hb3; clear ho3 hb3 hg3 hat3))
  have HF3 := Aside0.mk (H0.out.below HB3.out)
  have HR3 := Aside0.mk (Kd.R_lower HO3.out H0.out.bl.size)
  clear HO7 HC7 HB7 HS7 HLE HLE2 HO2 HB2 HS2 HO3 HB3 H0
  go_loopg [8, 9, 10, 27] (m + 1) (L1 w xs w.heap.size (w.heap.size + 1 + 1) (w.heap.size + 1) (.slice A3 (m + 1) c3) (cuts ++ [(n : Int)]))
  case atStart => exact ⟨0, 0, ps0, arc0, _, _, _, _, _, by simp [HM.out], rfl, rfl, Nat.zero_le _, by simp, rfl, rfl, ⟨rfl, HF3.out, HR3.out⟩⟩
  case round =>
    clear HF3 HR3
    obtain ⟨k, p, s, b, vb, vt, vg, vl, vth, hk, rfl, rfl, hp, hpe, rfl, rfl, HL⟩ := hrel
    obtain ⟨gko, rfl⟩ : ∃ gko, gko = gk := ⟨_, rfl⟩
    obtain ⟨wo, rfl⟩ : ∃ wo : World, wo = wr := ⟨_, rfl⟩
    rw [HN.out] at hp hpe
    have hrl : (cuts ++ [(n : Int)]).length = m + 1 := by simp [HM.out]
    rw [hrl] at hk hpe
    have hpn := HNL.out
    have hmn := HML.out
    by_cases hlt : k < m + 1
    · obtain ⟨G, cap, hv, _, _, _⟩ := Kd.R_form HL.out.2.2 (by rw [hrl]; omega)
      rw [hrl] at hv
      injection hv with hA _ hcap
      subst hA
      obtain ⟨y0, f0⟩ := Kd.R_celln (0 : Int) HL.out.2.2 (k : Int) (by omega) (by omega)
      obtain ⟨y, hy⟩ : ∃ y, rdOf (0 : Int) (cuts ++ [(n : Int)]) (k : Int) = y := ⟨_, rfl⟩
      rw [hy] at y0
      simp only [Int.toNat_natCast] at y0 f0
      have HY3 := Lib.hid hy
      have HPE := Lib.hid hpe
      clear hcap hrl
      obtain ⟨q, mv, hq1, hq2, hq5, hq3⟩ := clamp_w y n p hp
      have hq4 : k + 1 = m + 1 → p + q = n := fun e => hq2 (by rw [← hy, rd_last cuts n k (by rw [HM.out]; omega)]; exact Int.le_refl _)
      have HQ4 := Lib.hid hq4
      clear hy hpe hq2 hq4
      go_upto_region 9 with (fail)
      clear hq3 hq5
      obtain ⟨A', c', r, b', p1, p2, p3, p4⟩ := piece_any HE.out HL.out.2.1 A c n xs HX.out HN.out HXC.out HXB.out HNL.out p q hq1 HL.out.1
      have OPB : Hid (Opn b) := by
        obtain ⟨_, _, f1, _, _, _, _, f6⟩ := fold0 (xs.take p) (fun x hx => HXB.out x (List.mem_of_mem_take hx)) (by rw [List.length_take, HN.out]; omega)
        rw [HL.out.1] at f1
        have h2 := Option.some.inj (congrArg Prod.snd f1)
        rw [h2]
        exact f6
      have BB : Hid (b'.things.length ≤ 400000) := by
        have h := foldB_len (xs.take (p + q)) ps0 _ arc0 b' oks0 (fun x hx => HXB.out x (List.mem_of_mem_take hx)) (by show (0 : Int) + _ ≤ _; rw [List.length_take, HN.out]; omega) p3
        rw [List.length_take, HN.out] at h
        have hz : arc0.things.length = 0 := rfl
        show _ ≤ _
        omega
      have DD : Hid (dsum b'.things ≤ 100000) := by
        have h := foldB_dsum (xs.take (p + q)) ps0 _ arc0 b' opn0 rfl p3
        rw [List.length_take, HN.out] at h
        have hz : dsum arc0.things = 0 := rfl
        show _ ≤ _
        omega
      have P2 := Lib.hid p2
      have P3 := Lib.hid p3
      have P4 := Lib.hid p4
      clear p2 p3 p4
      go_wp2_with ((go_at_call 17; (with_reducible refine P2.out.mono ?_); rintro e w5 ⟨vb5, vt5, vg5, vl5, vo5, rfl, hP5, hEv5⟩; obtain ⟨Ao, co, hvo5⟩ := Kd.R_slice hEv5; subst hvo5; have HP5 := Aside0.mk hP5; have HEV5 := Lib.hid hEv5; clear hP5 hEv5))
      have F5 := Aside0.mk (FI.fed HL.out.2.1 HP5.out)
      have R5 := Aside0.mk (R_fed HL.out.2.2 HL.out.2.1 HP5.out.fr int_ne)
      have E5 := Aside0.mk (Kd.R_mono (ok' := fun _ => True) HEV5.out (fun _ _ => trivial))
      obtain ⟨nl, hnl⟩ : ∃ nl, r.out.length = nl := ⟨_, rfl⟩
      have HNLE := Lib.hid hnl
      rw [hnl] at E5 ⊢
      have hnb : nl ≤ 9223372036854775807 := by rw [← HNLE.out]; exact R_max HEV5.out
      have HKO := Lib.hid hk
      clear P2 HP5 HEV5 hnl HL p1 y0 f0 hk
      obtain ⟨EB, heb⟩ : ∃ EB, wo.heap.size = EB := ⟨_, rfl⟩
      rw [heb] at E5
      clear heb
      go_loopg [8, 9, 47] nl (L2 w w.heap.size (w.heap.size + 1 + 1) (w.heap.size + 1) (.slice (some ⟨G, 0, none⟩) (m + 1) c3) (cuts ++ [(n : Int)]) r r.out vb5 vt5 vg5 vl5 (.slice Ao nl co) b EB)
      case atStart => exact ⟨0, b, vth, by rw [HNLE.out]; omega, rfl, rfl, rfl, ⟨rfl, F5.out, R5.out, E5.out⟩⟩
      case round =>
        clear F5 R5 E5
        obtain ⟨k2, b2, vth2, hk2, rfl, rfl, rfl, H2⟩ := hrel
        rw [HNLE.out] at hk2
        by_cases hlt2 : k2 < nl
        · obtain ⟨b3, HS1, HS2⟩ := evs_step H2.out.1 P4.out (by rw [HNLE.out]; exact hlt2)
          obtain ⟨Ge, cape, hve, _, _, _⟩ := Kd.R_form H2.out.2.2.2 (by rw [HNLE.out]; omega)
          rw [HNLE.out] at hve
          injection hve with hA _ hcap
          subst hA
          have OB := mid_ext OPB.out H2.out.1 P4.out
          have BND : Hid ((b2.things.length + 1) * 144 ≤ 140737488355328) := by
            have k1 := OB.2
            have k2 := BB.out
            show _ ≤ _
            omega
          have HOP := Lib.hid OB.1
          have walk : ∀ cs : Array Value, Aside0 (FI w (wr.alloc (.cells cs 43)) w.heap.size (w.heap.size + 1 + 1) (w.heap.size + 1) r vb5 vt5 vg5 vl5 b2 vth2 ∧
              Kd.R (Kd.int .i64) 3 (wr.alloc (.cells cs 43)) w.heap.size (fun _ => True) (.slice (some ⟨G, 0, none⟩) (m + 1) c3) (cuts ++ [(n : Int)]) ∧ Kd.R kEv 43 (wr.alloc (.cells cs 43)) EB (fun _ => True) (.slice (some ⟨Ge, 0, none⟩) nl co) r.out ∧
              Blk (wr.alloc (.cells cs 43)) wr.heap.size 43 cs ∧ Below wr.heap.size wr (wr.alloc (.cells cs 43))) := fun cs =>
            ⟨H2.out.2.1.below (below_alloc (Below.refl _ _) _), Kd.R_alloc H2.out.2.2.1 _, Kd.R_alloc H2.out.2.2.2 _, Blk.new wr _ _, below_alloc (Below.refl _ _) _⟩
          clear OB
          obtain ⟨⟨kd, ax⟩, hx⟩ : ∃ x, r.out.getD k2 default = x := ⟨_, rfl⟩
          rw [hx] at HS1
          cases kd with
          | beg en =>
            obtain ⟨Ad, cd, y0, y1, y2, y3, y4, y5, y6, y7, y8, y9, y10, y11, y12, y13, hRd⟩ := ev_facts H2.out.2.2.2 k2 hlt2 _ ax hx 1 en .nilIface ([] : List Int) rfl rfl rfl rfl
            have HX1 := Lib.hid hx
            have S1 := Lib.hid HS1
            have S2 := Lib.hid HS2
            have HRD := Aside0.mk hRd
            have WK := walk (evArr 1 en (.slice Ad ([] : List Int).length cd) .nilIface ax)
            clear hx HS1 HS2 hRd hcap walk
            obtain ⟨hov, hop, hb3⟩ := ev_beg S1.out
            rw [hov, hop]
            clear hov hop
            go_upto_region 12 with (fail)
            generalize wr.alloc _ = W2 at WK ⊢
            have BE := WK.out.2.2.2.1
            have hlt3 := BE.lt
            obtain ⟨ge, hge⟩ : ∃ ge, wr.heap.size = ge := ⟨_, rfl⟩
            have BEL := WK.out.2.2.2.2
            rw [hge] at BE hlt3 ⊢
            have e0 := BE.cell 0
            have e1 := BE.cell 1
            have e2 := BE.cell 2
            have e3 := BE.cell 3
            have e4 := BE.cell 4
            have e5 := BE.cell 5
            have e6 := BE.cell 6
            have e7 := BE.cell 7
            have e8 := BE.cell 8
            have e9 := BE.cell 9
            have e10 := BE.cell 10
            have e13 := BE.cell 13
            simp only [List.getElem?_toArray, List.getElem?_cons_zero, List.getElem?_cons_succ] at e0 e1 e2 e3 e4 e5 e6 e7 e8 e9 e10 e13
            have B7 := WK.out.1.b7
            have c0 := B7.cell 0
            have g0 := B7.frozen 0
            simp only [List.getElem?_toArray, List.getElem?_cons_zero] at c0
            have hg7 := B7.lt
            obtain ⟨Ah, ch, hvh⟩ := Kd.R_slice WK.out.1.th
            subst hvh
            have HB3 := Lib.hid hb3
            clear y0 y1 y2 y3 y4 y5 y6 y7 y8 y9 y10 y11 y12 y13 hge BE B7 hb3 BEL
            go_wp2_with (at_builtin; refine Kd.R_append kThg (w0 := w) (W := W2) w.heap.size rfl (.tmp 61) (.tmp 67) 47 57 _ 144 rfl Tryz.underlying47 infoThg rfl (by decide) (by decide) (.slice Ah b2.things.length ch) b2.things ⟨en, [], false, ax⟩ _ (fun _ => True) (fun _ => False) rfl rfl (kThg_M ⟨#[]⟩ rfl) (fun _ h => h.elim) (fun _ _ => trivial) WK.out.1.th WK.out.1.bl WK.out.1.bl.size BND.out ?_; intro v6 w6 ho6 hb6 hg6 hat6; obtain ⟨A6, c6, hv6⟩ := Kd.R_slice ho6; have B76 := Blk.grown WK.out.1.b7 hg6 (Kd.R_ne WK.out.1.th WK.out.1.b7 (by decide)); have q6 := B76.cell 0; have g6 := B76.frozen 0; have hl6 := B76.lt; subst hv6; have HO6 := Lib.hid ho6; have HG6 := Lib.hid hg6; clear ho6 hb6 hg6 hat6 B76)
            go_roundg (gk - 1)
            case measure => omega
            case rel =>
              obtain ⟨fi, fr⟩ := FI.add WK.out.1 HO6.out HG6.out true
              rw [← HB3.out] at fi
              have hl6 : (b2.things ++ [(⟨en, [], false, ax⟩ : Thg)]).length = b2.things.length + 1 := by simp
              rw [hl6] at fi fr
              exact ⟨k2 + 1, b3, _, by rw [HNLE.out]; omega, by rw [Int.natCast_add]; rfl, by rw [HB3.out], by rw [HB3.out]; exact congrArg Value.bool (ev_beg S1.out).1.symm, ⟨S2.out, fi, R_fi WK.out.2.1 fr WK.out.1.b7 WK.out.1.th int_ne2, R_fi WK.out.2.2.1 fr WK.out.1.b7 WK.out.1.th ev_ne2⟩⟩
          | dat dd =>
            obtain ⟨Ad, cd, y0, y1, y2, y3, y4, y5, y6, y7, y8, y9, y10, y11, y12, y13, hRd⟩ := ev_facts H2.out.2.2.2 k2 hlt2 _ ax hx 2 en0 .nilIface dd rfl rfl rfl rfl
            have HX1 := Lib.hid hx
            have S1 := Lib.hid HS1
            have S2 := Lib.hid HS2
            have HRD := Aside0.mk hRd
            have WK := walk (evArr 2 en0 (.slice Ad dd.length cd) .nilIface ax)
            clear hx HS1 HS2 hRd hcap walk
            obtain ⟨hov, hop, hdn, l, t, hl, hb3⟩ := ev_dat HOP.out S1.out
            rw [hov, hop]
            clear hov hop
            go_upto_region 12 with (fail)
            generalize wr.alloc _ = W2 at WK ⊢
            have BE := WK.out.2.2.2.1
            have hlt3 := BE.lt
            obtain ⟨ge, hge⟩ : ∃ ge, wr.heap.size = ge := ⟨_, rfl⟩
            have BEL := WK.out.2.2.2.2
            rw [hge] at BE hlt3 ⊢
            have e0 := BE.cell 0
            have e11 := BE.cell 11
            have e13 := BE.cell 13
            simp only [List.getElem?_toArray, List.getElem?_cons_zero, List.getElem?_cons_succ] at e0 e11 e13
            have B7 := WK.out.1.b7
            have c0 := B7.cell 0
            have c1 := B7.cell 1
            have c2 := B7.cell 2
            have c3 := B7.cell 3
            have g0 := B7.frozen 0
            have g1 := B7.frozen 1
            have g2 := B7.frozen 2
            have g3 := B7.frozen 3
            simp only [List.getElem?_toArray, List.getElem?_cons_zero, List.getElem?_cons_succ] at c0 c1 c2 c3
            have hg7 := B7.lt
            obtain ⟨Gt, capt, hvt, _, _, _⟩ := Kd.R_form WK.out.1.th (by rw [hl]; simp)
            obtain ⟨lt, hlt9⟩ : ∃ lt, l.length = lt := ⟨_, rfl⟩
            have hlen9 : b2.things.length = lt + 1 := by rw [hl, List.length_append, hlt9]; rfl
            rw [hlen9] at hvt
            subst hvt
            have hth := WK.out.1.th
            rw [hl] at hth
            obtain ⟨ct, _, hMt, hct, hft⟩ := Kd.R_elem hth t (lt : Int) (by omega) (by omega)
            have egt : (l ++ [t]).getD (lt : Int).toNat t = t := by
              rw [Int.toNat_natCast, ← hlt9, List.getD_eq_getElem?_getD, List.getElem?_append_right (Nat.le_refl _)]
              simp
            rw [egt] at hMt
            obtain rfl := kThg_of_M hMt
            simp only [Int.toNat_natCast] at hct hft
            have t10 : W2.cell? ⟨Gt, lt * 13 + 10, none⟩ = some (.string (strOfNums t.data)) := hct 10 _ rfl
            have t11 : W2.cell? ⟨Gt, lt * 13 + 11, none⟩ = some (.bool t.whole) := hct 11 _ rfl
            have t12 : W2.cell? ⟨Gt, lt * 13 + 12, none⟩ = some (.int .i64 t.at_) := hct 12 _ rfl
            have f10 : W2.frozen? ⟨Gt, lt * 13 + 10, none⟩ = false := hft 10
            have f11 : W2.frozen? ⟨Gt, lt * 13 + 11, none⟩ = false := hft 11
            have f12 : W2.frozen? ⟨Gt, lt * 13 + 12, none⟩ = false := hft 12
            have hltb : lt ≤ 1000000000000 := by have := BND.out; omega
            have HL9 := Lib.hid hlt9
            have HLT := Lib.hid hl
            have HCD : Hid (Kd.C (Kd.int .u8) W2 Ad dd.length dd) := Kd.C_below (Kd.R_reads' HRD.out).2.2 BEL
            clear hct hft hMt egt hth hlen9 hlt9 hl
            have HB3 := Lib.hid hb3
            clear y0 y1 y2 y3 y4 y5 y6 y7 y8 y9 y10 y11 y12 y13 hge BE B7 hb3 BEL
            obtain ⟨ld, hld⟩ : ∃ ld, dd.length = ld := ⟨_, rfl⟩
            have hd0 : ((ld : Int) == 0) = false := by
              have : ld ≠ 0 := fun e => hdn (List.length_eq_zero_iff.1 (hld.trans e))
              simpa using this
            rw [hld] at e11 HCD
            have hcv : (convert 32 9 (.slice Ad ld cd)).run Tryz.prog W2 = .ok (.string (strOfNums dd)) W2 := by
              have := HCD.out
              rw [← hld] at this ⊢
              exact Kd.C_string Tryz.underlying32 Tryz.underlying5 Tryz.underlying9 this
            have hcv2 : (convert 32 9 (.slice Ad ld cd)).run Tryz.prog W2.drew = .ok (.string (strOfNums dd)) W2.drew := by
              have := Kd.C_drew HCD.out
              rw [← hld] at this ⊢
              exact Kd.C_string Tryz.underlying32 Tryz.underlying5 Tryz.underlying9 this
            have hss : (strOfNums t.data).size + (strOfNums dd).size ≤ 9223372036854775807 := by
              have h9 : b3.things = l ++ [{ t with data := t.data ++ dd, at_ := ax }] := by rw [HB3.out]
              have := mid_dsum (d := dd) OPB.out H2.out.1 S2.out P4.out DD.out h9
              rw [show ({ t with data := t.data ++ dd, at_ := ax } : Thg).data = t.data ++ dd from rfl, List.length_append] at this
              rw [strOfNums_size, strOfNums_size]
              omega
            have HLD := Lib.hid hld
            clear hld hdn
            go_wp2_with fail
            go_region
            go_wp2_with fail
            go_roundg (gk - 1)
            case measure => omega
            case rel =>
              obtain ⟨fi, fr⟩ := FI.put2 WK.out.1 rfl HLT.out 10 12 (.string (strOfNums t.data ++ strOfNums dd)) (.int .i64 ax) (by omega) (by omega) (t1 := { t with data := t.data ++ dd }) (t2 := { t with data := t.data ++ dd, at_ := ax }) (by rw [show strOfNums ({ t with data := t.data ++ dd } : Thg).data = strOfNums t.data ++ strOfNums dd from strOfNums_add _ _]; rfl) rfl true
              rw [HL9.out] at fi fr
              have hbd := Below.refl ((W2.setCell ⟨Gt, lt * 13 + 10, none⟩ (.string (strOfNums t.data ++ strOfNums dd))).setCell ⟨Gt, lt * 13 + 12, none⟩ (.int .i64 ax)).heap.size ((W2.setCell ⟨Gt, lt * 13 + 10, none⟩ (.string (strOfNums t.data ++ strOfNums dd))).setCell ⟨Gt, lt * 13 + 12, none⟩ (.int .i64 ax))
              have fi := fi.below (below_drew hbd)
              have fr := fr.below (below_drew hbd)
              have hov := (ev_dat HOP.out S1.out).1
              have hop := (ev_dat HOP.out S1.out).2.1
              have hbe : b3 = { b2 with things := l ++ [{ t with data := t.data ++ dd, at_ := ax }], opn := true } := by rw [HB3.out, ← hop]
              rw [← hbe] at fi
              exact ⟨k2 + 1, b3, _, by rw [HNLE.out]; omega, by rw [Int.natCast_add]; rfl, by rw [HB3.out]; exact congrArg Value.bool hop.symm, by rw [HB3.out]; exact congrArg Value.bool hov.symm, ⟨S2.out, fi, R_fi WK.out.2.1 fr WK.out.1.b7 WK.out.1.th int_ne2, R_fi WK.out.2.2.1 fr WK.out.1.b7 WK.out.1.th ev_ne2⟩⟩
          | fin =>
            obtain ⟨Ad, cd, y0, y1, y2, y3, y4, y5, y6, y7, y8, y9, y10, y11, y12, y13, hRd⟩ := ev_facts H2.out.2.2.2 k2 hlt2 _ ax hx 3 en0 .nilIface ([] : List Int) rfl rfl rfl rfl
            have HX1 := Lib.hid hx
            have S1 := Lib.hid HS1
            have S2 := Lib.hid HS2
            have HRD := Aside0.mk hRd
            have WK := walk (evArr 3 en0 (.slice Ad ([] : List Int).length cd) .nilIface ax)
            clear hx HS1 HS2 hRd hcap walk
            obtain ⟨hov, hop, l, t, hl, hb3⟩ := ev_fin HOP.out S1.out
            rw [hov, hop]
            clear hov hop
            go_upto_region 12 with (fail)
            generalize wr.alloc _ = W2 at WK ⊢
            have BE := WK.out.2.2.2.1
            have hlt3 := BE.lt
            obtain ⟨ge, hge⟩ : ∃ ge, wr.heap.size = ge := ⟨_, rfl⟩
            have BEL := WK.out.2.2.2.2
            rw [hge] at BE hlt3 ⊢
            have e0 := BE.cell 0
            have e13 := BE.cell 13
            simp only [List.getElem?_toArray, List.getElem?_cons_zero, List.getElem?_cons_succ] at e0 e13
            have B7 := WK.out.1.b7
            have c0 := B7.cell 0
            have c1 := B7.cell 1
            have c2 := B7.cell 2
            have c3 := B7.cell 3
            have g0 := B7.frozen 0
            have g1 := B7.frozen 1
            have g2 := B7.frozen 2
            have g3 := B7.frozen 3
            simp only [List.getElem?_toArray, List.getElem?_cons_zero, List.getElem?_cons_succ] at c0 c1 c2 c3
            have hg7 := B7.lt
            obtain ⟨Gt, capt, hvt, _, _, _⟩ := Kd.R_form WK.out.1.th (by rw [hl]; simp)
            obtain ⟨lt, hlt9⟩ : ∃ lt, l.length = lt := ⟨_, rfl⟩
            have hlen9 : b2.things.length = lt + 1 := by rw [hl, List.length_append, hlt9]; rfl
            rw [hlen9] at hvt
            subst hvt
            have hth := WK.out.1.th
            rw [hl] at hth
            obtain ⟨ct, _, hMt, hct, hft⟩ := Kd.R_elem hth t (lt : Int) (by omega) (by omega)
            have egt : (l ++ [t]).getD (lt : Int).toNat t = t := by
              rw [Int.toNat_natCast, ← hlt9, List.getD_eq_getElem?_getD, List.getElem?_append_right (Nat.le_refl _)]
              simp
            rw [egt] at hMt
            obtain rfl := kThg_of_M hMt
            simp only [Int.toNat_natCast] at hct hft
            have t10 : W2.cell? ⟨Gt, lt * 13 + 10, none⟩ = some (.string (strOfNums t.data)) := hct 10 _ rfl
            have t11 : W2.cell? ⟨Gt, lt * 13 + 11, none⟩ = some (.bool t.whole) := hct 11 _ rfl
            have t12 : W2.cell? ⟨Gt, lt * 13 + 12, none⟩ = some (.int .i64 t.at_) := hct 12 _ rfl
            have f10 : W2.frozen? ⟨Gt, lt * 13 + 10, none⟩ = false := hft 10
            have f11 : W2.frozen? ⟨Gt, lt * 13 + 11, none⟩ = false := hft 11
            have f12 : W2.frozen? ⟨Gt, lt * 13 + 12, none⟩ = false := hft 12
            have hltb : lt ≤ 1000000000000 := by have := BND.out; omega
            have HL9 := Lib.hid hlt9
            have HLT := Lib.hid hl
            clear hct hft hMt egt hth hlen9 hlt9 hl
            have HB3 := Lib.hid hb3
            clear y0 y1 y2 y3 y4 y5 y6 y7 y8 y9 y10 y11 y12 y13 hge BE B7 hb3 BEL
            go_wp2_with fail
            go_region
            go_wp2_with fail
            go_roundg (gk - 1)
            case measure => omega
            case rel =>
              obtain ⟨fi, fr⟩ := FI.put2 WK.out.1 rfl HLT.out 11 12 (.bool true) (.int .i64 ax) (by omega) (by omega) (t1 := { t with whole := true }) (t2 := { t with whole := true, at_ := ax }) rfl rfl false
              rw [HL9.out] at fi fr
              have hbd := Below.refl ((W2.setCell ⟨Gt, lt * 13 + 11, none⟩ (.bool true)).setCell ⟨Gt, lt * 13 + 12, none⟩ (.int .i64 ax)).heap.size ((W2.setCell ⟨Gt, lt * 13 + 11, none⟩ (.bool true)).setCell ⟨Gt, lt * 13 + 12, none⟩ (.int .i64 ax))
              have fi := fi.below (below_drew hbd)
              have fr := fr.below (below_drew hbd)
              have hov := (ev_fin HOP.out S1.out).1
              have hbe : b3 = { b2 with things := l ++ [{ t with whole := true, at_ := ax }], opn := false } := by rw [HB3.out]
              rw [← hbe] at fi
              exact ⟨k2 + 1, b3, _, by rw [HNLE.out]; omega, by rw [Int.natCast_add]; rfl, by rw [HB3.out], by rw [HB3.out]; exact congrArg Value.bool hov.symm, ⟨S2.out, fi, R_fi WK.out.2.1 fr WK.out.1.b7 WK.out.1.th int_ne2, R_fi WK.out.2.2.1 fr WK.out.1.b7 WK.out.1.th ev_ne2⟩⟩
          | don =>
            obtain ⟨Ad, cd, y0, y1, y2, y3, y4, y5, y6, y7, y8, y9, y10, y11, y12, y13, hRd⟩ := ev_facts H2.out.2.2.2 k2 hlt2 _ ax hx 4 en0 .nilIface ([] : List Int) rfl rfl rfl rfl
            have HX1 := Lib.hid hx
            have S1 := Lib.hid HS1
            have S2 := Lib.hid HS2
            have HRD := Aside0.mk hRd
            have WK := walk (evArr 4 en0 (.slice Ad ([] : List Int).length cd) .nilIface ax)
            clear hx HS1 HS2 hRd hcap walk
            obtain ⟨hov, hb3⟩ := ev_don S1.out
            rw [hov]
            clear hov
            go_upto_region 12 with (fail)
            generalize wr.alloc _ = W2 at WK ⊢
            have BE := WK.out.2.2.2.1
            have hlt3 := BE.lt
            obtain ⟨ge, hge⟩ : ∃ ge, wr.heap.size = ge := ⟨_, rfl⟩
            have BEL := WK.out.2.2.2.2
            rw [hge] at BE hlt3 ⊢
            have e0 := BE.cell 0
            simp only [List.getElem?_toArray, List.getElem?_cons_zero, List.getElem?_cons_succ] at e0
            have B7 := WK.out.1.b7
            have c0 := B7.cell 0
            have c1 := B7.cell 1
            have c2 := B7.cell 2
            have c3 := B7.cell 3
            have g0 := B7.frozen 0
            have g1 := B7.frozen 1
            have g2 := B7.frozen 2
            have g3 := B7.frozen 3
            simp only [List.getElem?_toArray, List.getElem?_cons_zero, List.getElem?_cons_succ] at c0 c1 c2 c3
            have hg7 := B7.lt
            have HB3 := Lib.hid hb3
            clear y0 y1 y2 y3 y4 y5 y6 y7 y8 y9 y10 y11 y12 y13 hge BE B7 hb3 BEL
            go_wp2_with fail
            go_roundg (gk - 1)
            case measure => omega
            case rel =>
              obtain ⟨fi, fr⟩ := FI.set WK.out.1 1 (.bool true) b3 (by rw [HB3.out]; rfl) (by rw [HB3.out])
              exact ⟨k2 + 1, b3, _, by rw [HNLE.out]; omega, by rw [Int.natCast_add]; rfl, by rw [HB3.out], by rw [HB3.out], ⟨S2.out, fi, R_fi WK.out.2.1 fr WK.out.1.b7 WK.out.1.th int_ne2, R_fi WK.out.2.2.1 fr WK.out.1.b7 WK.out.1.th ev_ne2⟩⟩
          | bad bc bp =>
            obtain ⟨Ad, cd, y0, y1, y2, y3, y4, y5, y6, y7, y8, y9, y10, y11, y12, y13, hRd⟩ := ev_facts H2.out.2.2.2 k2 hlt2 _ ax hx 5 en0 (errV (some (bc, bp))) ([] : List Int) rfl rfl rfl rfl
            have HX1 := Lib.hid hx
            have S1 := Lib.hid HS1
            have S2 := Lib.hid HS2
            have HRD := Aside0.mk hRd
            have WK := walk (evArr 5 en0 (.slice Ad ([] : List Int).length cd) (errV (some (bc, bp))) ax)
            clear hx HS1 HS2 hRd hcap walk
            obtain ⟨hov, hb3⟩ := ev_bad S1.out
            rw [hov]
            clear hov
            go_upto_region 12 with (fail)
            generalize wr.alloc _ = W2 at WK ⊢
            have BE := WK.out.2.2.2.1
            have hlt3 := BE.lt
            obtain ⟨ge, hge⟩ : ∃ ge, wr.heap.size = ge := ⟨_, rfl⟩
            have BEL := WK.out.2.2.2.2
            rw [hge] at BE hlt3 ⊢
            have e0 := BE.cell 0
            have e12 := BE.cell 12
            simp only [List.getElem?_toArray, List.getElem?_cons_zero, List.getElem?_cons_succ] at e0 e12
            have B7 := WK.out.1.b7
            have c0 := B7.cell 0
            have c1 := B7.cell 1
            have c2 := B7.cell 2
            have c3 := B7.cell 3
            have g0 := B7.frozen 0
            have g1 := B7.frozen 1
            have g2 := B7.frozen 2
            have g3 := B7.frozen 3
            simp only [List.getElem?_toArray, List.getElem?_cons_zero, List.getElem?_cons_succ] at c0 c1 c2 c3
            have hg7 := B7.lt
            have HB3 := Lib.hid hb3
            have hge0 := Lib.hid hge
            clear y0 y1 y2 y3 y4 y5 y6 y7 y8 y9 y10 y11 y12 y13 hge BE B7 hb3 BEL
            have HGW : Hid (∀ W', Below W2.heap.size W2 W' → W'.cell? ⟨0, 0, none⟩ = some etype) := fun W' hb => by
              have h1 := HG.out
              have h2 : w.cell? ⟨0, 0, none⟩ = some etype := h1
              exact cell_below hb (by show 0 < _; exact Nat.lt_of_lt_of_le (by decide) (Nat.le_trans (ng_of_env HE.out) WK.out.1.bl.size)) (cell_below WK.out.1.bl (by show 0 < _; exact Nat.lt_of_lt_of_le (by decide) (ng_of_env HE.out)) h2)
            have hge7 : ge ≠ w.heap.size + 1 + 1 := fun e => Blk.ne_ (w := W2) (g := ge) (t := 43) (by have := WK.out.2.2.2.1; rw [hge0.out] at this; exact this) (by rw [e]; exact WK.out.1.b7) (by decide) rfl
            have HK : Hid (∀ W', Frm (fun k => k = w.heap.size + 1 + 1) W2 W' → Aside0 (Frm (fun k => k = w.heap.size + 1 + 1) W2 W') ∧ W'.cell? ⟨ge, 12, none⟩ = some (errV (some (bc, bp)))) := fun W' hf => ⟨⟨hf⟩, by
              rw [← e12]
              exact cell_blk (hf.block ge hlt3 hge7) 12⟩
            have HF1 : Hid (∀ W', Below W2.heap.size W2 W' → Frm (fun k => k = w.heap.size + 1 + 1) W2 W') := fun W' hb => (Frm.refl _ _).below hb
            have HF2 : Hid (∀ W' u, Frm (fun k => k = w.heap.size + 1 + 1) W2 W' → Frm (fun k => k = w.heap.size + 1 + 1) W2 (W'.setCell ⟨w.heap.size + 1 + 1, 2, none⟩ u)) := fun W' u h => h.set (p := ⟨w.heap.size + 1 + 1, 2, none⟩) (fun _ => rfl) u
            have HF3 : Hid (∀ W' u, Frm (fun k => k = w.heap.size + 1 + 1) W2 W' → Frm (fun k => k = w.heap.size + 1 + 1) W2 (W'.setCell ⟨w.heap.size + 1 + 1, 3, none⟩ u)) := fun W' u h => h.set (p := ⟨w.heap.size + 1 + 1, 3, none⟩) (fun _ => rfl) u
            have HCO : Hid (∀ W', Below W2.heap.size W2 W' → Calls Tryz.prog 13 #[errV (some (bc, bp))] W' (CodeEnd W' bc)) := fun W' hb => code_any bc [bp] _ _ (.wrap bp [] _ _ .leaf) W' (HGW.out W' hb)
            have HPL : Hid (∀ W', Below W2.heap.size W2 W' → Calls Tryz.prog 24 #[errV (some (bc, bp))] W' (CodeEnd W' bp)) := fun W' hb => place_any bp _ _ W' (HGW.out W' hb)
            clear e12
            go_wp2_with fail
            go_region_held3 (fun w' => Aside0 (Frm (fun k => k = w.heap.size + 1 + 1) W2 w') ∧ w'.cell? ⟨ge, 12, none⟩ = some (errV (some (bc, bp)))) (with_reducible first | exact HK.out _ (HF1.out _ (below_drew (Below.refl _ _))) | exact HK.out _ (HF1.out _ (by assumption)) | exact HK.out _ (HF2.out _ _ (HF1.out _ (by assumption))) | exact HK.out _ (HF3.out _ _ (HF1.out _ (by assumption))) | exact HK.out _ (HF3.out _ _ (HF2.out _ _ (HF1.out _ (by assumption)))) | exact HK.out _ (HF2.out _ _ (HF3.out _ _ (HF1.out _ (by assumption))))) (first | (go_at_call 13; (with_reducible refine (HCO.out _ (by first | assumption | exact below_drew (Below.refl _ _))).mono ?_); rintro e w7 ⟨rfl, hb7⟩; have hs7 := below_step (by first | assumption | exact below_drew (Below.refl _ _)) hb7; have q2_7 := cell_below hs7 hg7 c2; have q3_7 := cell_below hs7 hg7 c3; have z2_7 := (hs7.frozen (p := ⟨w.heap.size + 1 + 1, 2, none⟩) hg7).trans g2; have z3_7 := (hs7.frozen (p := ⟨w.heap.size + 1 + 1, 3, none⟩) hg7).trans g3; have zl_7 := Nat.lt_of_lt_of_le hg7 hs7.size; clear hb7) | (go_at_call 24; (with_reducible refine (HPL.out _ (by first | assumption | exact below_drew (Below.refl _ _))).mono ?_); rintro e w8 ⟨rfl, hb8⟩; have hs8 := below_step (by first | assumption | exact below_drew (Below.refl _ _)) hb8; have q2_8 := cell_below hs8 hg7 c2; have q3_8 := cell_below hs8 hg7 c3; have z2_8 := (hs8.frozen (p := ⟨w.heap.size + 1 + 1, 2, none⟩) hg7).trans g2; have z3_8 := (hs8.frozen (p := ⟨w.heap.size + 1 + 1, 3, none⟩) hg7).trans g3; have zl_8 := Nat.lt_of_lt_of_le hg7 hs8.size; clear hb8))
            go_wp2_with fail
            go_roundg (gk - 1)
            case measure => omega
            case rel =>
              have hb9 : Below W2.heap.size W2 w8 := by assumption
              have h2 := (FI.set (FI.set (WK.out.1.below hb9) 2 (.int .i64 bc) { b2 with code := bc } rfl rfl).1 3 (.int .i64 bp) { b2 with code := bc, place := bp } rfl rfl).1
              have hov := (ev_bad S1.out).1
              have fi : FI w ((w8.setCell ⟨w.heap.size + 1 + 1, 2, none⟩ (.int .i64 bc)).setCell ⟨w.heap.size + 1 + 1, 3, none⟩ (.int .i64 bp)) (w.heap.size) (w.heap.size + 1 + 1) (w.heap.size + 1) r vb5 vt5 vg5 vl5 b3 vth2 := by
                rw [HB3.out]
                exact ⟨h2.bl, h2.n4, h2.n7, h2.ne, h2.b4, h2.b7, h2.th, h2.ps, h2.ow⟩
              have fr : Frm (FW (w.heap.size + 1 + 1) vth2) W2 ((w8.setCell ⟨w.heap.size + 1 + 1, 2, none⟩ (.int .i64 bc)).setCell ⟨w.heap.size + 1 + 1, 3, none⟩ (.int .i64 bp)) := Frm.set (p := ⟨w.heap.size + 1 + 1, 3, none⟩) (Frm.set (p := ⟨w.heap.size + 1 + 1, 2, none⟩) ((Frm.refl _ _).below hb9) (fun _ => .inl rfl) (.int .i64 bc)) (fun _ => .inl rfl) (.int .i64 bp)
              exact ⟨k2 + 1, b3, _, by rw [HNLE.out]; omega, by rw [Int.natCast_add]; rfl, by rw [HB3.out], by rw [HB3.out], ⟨S2.out, fi, R_fi WK.out.2.1 fr WK.out.1.b7 WK.out.1.th int_ne2, R_fi WK.out.2.2.1 fr WK.out.1.b7 WK.out.1.th ev_ne2⟩⟩
        · have hk2n : k2 = nl := by omega
          have hbb : b2 = b' := by
            have h := H2.out.1
            rw [hk2n, ← HNLE.out, List.take_length, P4.out] at h
            exact (Option.some.inj h).symm
          have HBB := Lib.hid hbb
          clear hbb
          go_wp2_with fail
          go_roundg (gko - 1)
          case measure => have := HKO.out; omega
          case rel =>
            have hf := H2.out.2.1
            have hrl : (cuts ++ [(n : Int)]).length = m + 1 := by simp [HM.out]
            have hko := HKO.out
            refine ⟨k + 1, p + q, { r with out := [] }, b2, vb5, vt5, vg5, vl5, vth2, by rw [hrl]; omega, by rw [Int.natCast_add]; rfl, by rw [Int.natCast_add], by rw [HN.out]; exact hq1, fun e => by rw [HN.out]; exact HQ4.out (by rw [hrl] at e; exact e), rfl, rfl, ⟨by rw [P3.out, HBB.out], hf.clean, H2.out.2.2.1⟩⟩
    · have hkm : k = m + 1 := by omega
      have hpn2 := hpe hkm
      have hall : xs.take p = xs := List.take_of_length_le (by rw [HN.out]; omega)
      have hfj := HL.out.1
      rw [hall] at hfj
      have harc : arcOf xs = b.close s := by unfold arcOf; rw [hfj]; rfl
      have HARC := Lib.hid harc
      have HF := Aside0.mk HL.out.2.1
      have B7 := HF.out.b7
      have B4 := HF.out.b4
      have c0 := B7.cell 0
      have c1 := B7.cell 1
      have c2 := B7.cell 2
      have c3 := B7.cell 3
      have d0 := B4.cell 0
      have d1 := B4.cell 1
      have d2 := B4.cell 2
      have d3 := B4.cell 3
      have g2 := B7.frozen 2
      have g3 := B7.frozen 3
      have h0 := B4.frozen 0
      have h1 := B4.frozen 1
      have h2 := B4.frozen 2
      have h3 := B4.frozen 3
      have hg7 := B7.lt
      have hg4 := B4.lt
      simp only [List.getElem?_toArray, List.getElem?_cons_zero, List.getElem?_cons_succ] at c0 c1 c2 c3 d0 d1 d2 d3
      obtain ⟨Ah, ch, hvh⟩ := Kd.R_slice HF.out.th
      subst hvh
      have HFJ := Lib.hid hfj
      clear hkm hpn2 hall hfj harc B7 B4 hpe HL
      cases hov : b.over with
      | true =>
        have hbe : arcOf xs = b := by rw [HARC.out]; unfold Arc.close; rw [if_pos hov]
        have HBE := Lib.hid hbe
        clear hov hbe
        go_wp2_with fail
        exact fed_rets2 b.done b.code b.place HF.out rfl rfl HBE.out rfl rfl rfl
      | false =>
        have hee : ({ s with out := [] } : PSt).endE = some (5, s.at_) := by
          obtain ⟨s1, b1, f1, f2, f3, f4, f5, f6⟩ := fold0 xs (fun x hx => HXB.out x hx) (by rw [HN.out]; have := HNL.out; omega)
          rw [HFJ.out] at f1
          obtain ⟨rfl, rfl⟩ : s = s1 ∧ b = b1 := ⟨congrArg Prod.fst f1, Option.some.inj (congrArg Prod.snd f1)⟩
          have n4 : s.st ≠ 4 := fun q => by rw [f4.2 q] at hov; cases hov
          have hn : NoE s := by
            have q := noE_fold xs j0 (fun _ => ⟨rfl, rfl⟩)
            rw [HFJ.out] at q
            exact q
          unfold PSt.endE
          show (if s.err.isSome then s.err else if s.done = true then none else some (5, s.at_)) = _
          rw [(hn n4).1, (hn n4).2]
          simp
        have hbe : arcOf xs = { b with code := 5, place := s.at_ } := by
          rw [HARC.out]
          unfold Arc.close
          have e2 : s.endE = some (5, s.at_) := hee
          rw [hov, if_neg (by decide), e2]
          rfl
        have HBE := Lib.hid hbe
        have HEN := Lib.hid (end_any _ _ wo _ _ _ _ _ _ _ HF.out.ps)
        rw [hee] at HEN
        have HGW : Hid (wo.cell? ⟨0, 0, none⟩ = some etype) := by
          have h2 : w.cell? ⟨0, 0, none⟩ = some etype := HG.out
          exact cell_below HF.out.bl (by show 0 < _; exact Nat.lt_of_lt_of_le (by decide) (ng_of_env HE.out)) h2
        obtain ⟨at9, ha9⟩ : ∃ at9, s.at_ = at9 := ⟨_, rfl⟩
        rw [ha9] at HEN HBE
        clear hov hbe hee ha9 c0 c1 c2 c3 d0 d1 d2 d3 g2 g3 h0 h1 h2 h3
        go_wp2_with (first | (go_at_call 14; (with_reducible refine HEN.out.mono ?_); rintro e w6 ⟨rfl, rfl⟩) | (go_at_call 13; (with_reducible refine (code_any 5 [at9] _ _ (.wrap at9 [] _ _ .leaf) _ HGW.out).mono ?_); rintro e w6 ⟨rfl, hb6⟩; have HB6 := Lib.hid hb6; clear hb6) | (go_at_call 24; (with_reducible refine (place_any at9 _ _ _ (cell_below HB6.out (Nat.lt_of_lt_of_le (by decide) (Nat.le_trans (ng_of_env HE.out) HF.out.bl.size)) HGW.out)).mono ?_); rintro e w7 ⟨rfl, hb7⟩; have H7 := Aside0.mk (HF.out.below (below_step HB6.out hb7)); have p0 := H7.out.b7.cell 0; have p1 := H7.out.b7.cell 1; have p2 := H7.out.b7.cell 2; have p3 := H7.out.b7.cell 3; have r0 := H7.out.b4.cell 0; have r1 := H7.out.b4.cell 1; have r2 := H7.out.b4.cell 2; have r3 := H7.out.b4.cell 3; have x2 := H7.out.b7.frozen 2; have x3 := H7.out.b7.frozen 3; have z0 := H7.out.b4.frozen 0; have z1 := H7.out.b4.frozen 1; have z2 := H7.out.b4.frozen 2; have z3 := H7.out.b4.frozen 3; have hl7 := H7.out.b7.lt; have hl4 := H7.out.b4.lt; simp only [List.getElem?_toArray, List.getElem?_cons_zero, List.getElem?_cons_succ] at p0 p1 p2 p3 r0 r1 r2 r3; clear hb7))
        have hf7 : FI w ((w7.setCell ⟨w.heap.size + 1 + 1, 2, none⟩ (.int .i64 5)).setCell ⟨w.heap.size + 1 + 1, 3, none⟩ (.int .i64 at9)) w.heap.size (w.heap.size + 1 + 1) (w.heap.size + 1) s vb vt vg vl { b with code := 5, place := at9 } (.slice Ah b.things.length ch) :=
          (FI.set (FI.set H7.out 2 (.int .i64 5) { b with code := 5 } rfl rfl).1 3 (.int .i64 at9) { b with code := 5, place := at9 } rfl rfl).1
        exact fed_rets2 b.done 5 at9 hf7 rfl rfl HBE.out rfl rfl rfl
end Go.Proofs.YtpbpfngichfgeaaGreatDoor
