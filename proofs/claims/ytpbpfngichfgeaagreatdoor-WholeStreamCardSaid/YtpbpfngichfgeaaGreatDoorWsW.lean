/-
  WholeStream, walked: the archive comes in pieces, and each event is what was written.
-/
import Derived.Test.YtpbpfngichfgeaaGreatDoorWsR
import Derived.Test.YtpbpfngichfgeaaGreatDoorEndsW
import Derived.Test.YtpbpfngichfgeaaGreatDoorEncR
namespace Go.Proofs.YtpbpfngichfgeaaGreatDoor
set_option linter.unusedVariables false
set_option linter.unusedSectionVars false
set_option linter.unusedSimpArgs false
set_option linter.unnecessarySimpa false
open Go Go.RowKit Go.Proofs.YtpbpfngichfgeaaGreatDoorW.PrintWords Go.Proofs.YtpbpfngichfgeaaGreatDoorW.PrintLast Go.Proofs.YtpbpfngichfgeaaGreatDoorW.PrintMore
attribute [local go_sem] min2_int min_two max2_int max_two

noncomputable def wsRest (n : Nat) : Code := dropC n (Tryz.f3.body.getD .skip)
/-- What the walk needs to know of what came in. -/
structure WsIn (w : World) (NA DA CA : Option Addr) (nc dc cc nn m : Nat) (names : List ByteArray) (datas : List (List Int)) (cuts : List Int) : Prop where
  he : EnvE w
  hg : w.cell? ⟨0, 0, none⟩ = some etype
  hn : Kd.C Kd.string w NA nn names
  hd : Kd.C (Kd.slice 5 (Kd.int .u8)) w DA nn datas
  hc : Kd.C (Kd.int .i64) w CA m cuts
  lc : m ≤ cc
  nl : names.length = nn
  dl : datas.length = nn
  cl : cuts.length = m
  n10 : nn ≤ 10
  c50 : m ≤ 50
  ok : ∀ f ∈ names.zip datas, WsOk f
/-- Before a round of the loop over the cuts. -/
def W1 (w0 : World) (xs : List Int) (gp : Nat) (v105 : Value) (row : List Int) (gk : Nat) (v14 v15 v16 v107 : Value) (wr : World) : Prop :=
  ∃ (k p : Nat) (s : PSt) (b : Arc) (vb vt vg vl : Value), k + gk = row.length ∧ v107 = .int .i64 k ∧ v14 = .int .i64 p ∧ p ≤ xs.length ∧ (k = row.length → p = xs.length) ∧ v15 = .int .i64 ((b.things.length : Int) - 1) ∧ v16 = .string (gotOf b.things) ∧
    Aside0 (foldB j0 (xs.take p) = (s, some b) ∧ WI w0 wr gp s vb vt vg vl ∧ Kd.R (Kd.int .i64) 3 wr w0.heap.size (fun _ => True) v105 row)
/-- Before a round of the loop over the events. -/
def W2 (w5 : World) (out : List Evt) (b : Arc) (gk : Nat) (v15 v16 v127 : Value) (wq : World) : Prop :=
  ∃ (k : Nat) (b' : Arc), k + gk = out.length ∧ v127 = .int .i64 k ∧ v15 = .int .i64 ((b'.things.length : Int) - 1) ∧ v16 = .string (gotOf b'.things) ∧
    Aside0 (Arc.evs (some b) (out.take k) = some b' ∧ Below w5.heap.size w5 wq)
set_option maxHeartbeats 16000000 in
set_option maxRecDepth 100000 in
theorem ws_rest (w wc : World) (NA DA CA A8 : Option Addr) (nc dc cc c8 nn m N : Nat) (names : List ByteArray) (datas : List (List Int)) (cuts xs : List Int) (u3 u4 u5 u6 u7 u9 u10 u11 u12 u13 u14 u15 u16 u17 u18 u19 u20 u21 u22 u23 u24 u25 u26 u27 u28 u29 u30 u31 u32 u33 u34 u35 u36 u37 u38 u39 u40 u41 u42 u43 u44 u45 u46 u47 u48 u49 u50 u51 u52 u53 u54 u55 u56 u57 u58 u59 u60 u61 u62 u63 u64 u65 u66 u67 u68 u69 u70 u71 u72 u73 u74 u75 u76 u77 u78 u79 u80 u81 u82 u83 u84 u85 u86 u87 u88 u89 u90 u91 u92 u93 u94 u95 u96 u97 u98 u99 u100 u101 u102 u103 u104 u105 u106 u107 u108 u109 u110 u111 u112 u113 u114 u115 u116 u117 u118 u119 u120 u121 u122 u123 u124 u125 u126 u127 u128 u129 u130 u131 u132 u133 u134 u135 u136 u137 u138 u139 u140 u141 u142 u143 u144 u145 u146 u147 u148 u149 u150 u151 u152 u153 u154 u155 u156 u157 u158 u159 u160 u161 u162 u163 u164 u165 u166 u167 u168 u169 u170 u171 u172 u173 u174 u175 u176 u177 u178 u179 u180 u181 u182 u183 u184 u185 u186 u187 u188 u189 u190 u191 u192 u193 u194 u195 u196 u197 u198 u199 u200 u201 u202 u203 u204 u205 u206 u207 u208 u209 u210 u211 : Value)
    (hin : WsIn w NA DA CA nc dc cc nn m names datas cuts) (hb : Below w.heap.size w wc) (hx : Kd.C (Kd.int .u8) wc A8 N xs) (hxl : xs.length = N) (hxc : N ≤ c8) (hxe : xs = wsL (names.zip datas) ++ List.replicate 1024 0) :
    Code.wp Tryz.prog (wsRest 6) (bodyPost Tryz.prog Tryz.f3 (Yes w)) ⟨((.slice NA nn nc) :: (.slice DA nn dc) :: (.slice CA m cc) :: u3 :: u4 :: u5 :: u6 :: u7 :: (.slice A8 N c8) :: u9 :: u10 :: u11 :: u12 :: u13 :: u14 :: u15 :: u16 :: u17 :: u18 :: u19 :: u20 :: u21 :: u22 :: u23 :: u24 :: u25 :: u26 :: u27 :: u28 :: u29 :: u30 :: u31 :: u32 :: u33 :: u34 :: u35 :: u36 :: u37 :: u38 :: u39 :: u40 :: u41 :: u42 :: u43 :: u44 :: u45 :: u46 :: u47 :: u48 :: u49 :: u50 :: u51 :: u52 :: u53 :: u54 :: u55 :: u56 :: u57 :: u58 :: u59 :: u60 :: u61 :: u62 :: u63 :: u64 :: u65 :: u66 :: u67 :: u68 :: u69 :: u70 :: u71 :: u72 :: u73 :: u74 :: u75 :: u76 :: u77 :: u78 :: u79 :: u80 :: u81 :: u82 :: u83 :: u84 :: u85 :: u86 :: u87 :: u88 :: u89 :: u90 :: u91 :: u92 :: u93 :: u94 :: u95 :: u96 :: u97 :: u98 :: u99 :: u100 :: u101 :: u102 :: u103 :: u104 :: u105 :: u106 :: u107 :: u108 :: u109 :: u110 :: u111 :: u112 :: u113 :: u114 :: u115 :: u116 :: u117 :: u118 :: u119 :: u120 :: u121 :: u122 :: u123 :: u124 :: u125 :: u126 :: u127 :: u128 :: u129 :: u130 :: u131 :: u132 :: u133 :: u134 :: u135 :: u136 :: u137 :: u138 :: u139 :: u140 :: u141 :: u142 :: u143 :: u144 :: u145 :: u146 :: u147 :: u148 :: u149 :: u150 :: u151 :: u152 :: u153 :: u154 :: u155 :: u156 :: u157 :: u158 :: u159 :: u160 :: u161 :: u162 :: u163 :: u164 :: u165 :: u166 :: u167 :: u168 :: u169 :: u170 :: u171 :: u172 :: u173 :: u174 :: u175 :: u176 :: u177 :: u178 :: u179 :: u180 :: u181 :: u182 :: u183 :: u184 :: u185 :: u186 :: u187 :: u188 :: u189 :: u190 :: u191 :: u192 :: u193 :: u194 :: u195 :: u196 :: u197 :: u198 :: u199 :: u200 :: u201 :: u202 :: u203 :: u204 :: u205 :: u206 :: u207 :: u208 :: u209 :: u210 :: u211 :: []).toArray, []⟩ wc := by
  conv => arg 2; whnf
  have HIN := Aside0.mk hin
  have HB := Lib.hid hb
  have HX := Lib.hid hx
  have HXL := Lib.hid hxl
  have HXC := Lib.hid hxc
  have hzl : (names.zip datas).length = nn := by rw [List.length_zip, hin.nl, hin.dl, Nat.min_self]
  have HXB : Hid (∀ x ∈ xs, 0 ≤ x ∧ x < 256) := by
    intro x hx
    rw [hxe] at hx
    rcases List.mem_append.1 hx with h | h
    · exact wsL_rng _ hin.ok x h
    · rw [List.eq_of_mem_replicate h]; omega
  have HNL : Hid (N ≤ 30000) := by
    have h1 := wsL_len _ hin.ok
    have h2 := hin.n10
    show _ ≤ _
    rw [← hxl, hxe, List.length_append, List.length_replicate]
    omega
  obtain ⟨sF, F, hF, hFd, hFo, hFt, hFe, hFa⟩ := ws_all (names.zip datas) hin.ok (by rw [hzl]; exact hin.n10)
  rw [← hxe] at hF hFa
  rw [hxl] at hFa
  have HF : Hid (foldB j0 xs = (sF, some F)) := hF
  have HFT : Hid (WsTs F.things (names.zip datas)) := hFt
  have HFD := Lib.hid hFd
  have HFE := Lib.hid hFe
  have HFA := Lib.hid hFa
  have HEE : Hid (EnvE wc) := hin.he.below hb
  have HM50 := Lib.hid hin.c50
  have HCL := Lib.hid hin.cl
  have HLC := Lib.hid hin.lc
  have HZL := Lib.hid hzl
  have HN10 := Lib.hid hin.n10
  have H0 := Aside0.mk (wi0 wc)
  clear hin hb hx hxl hxc hxe hF hFd hFo hFt hFe hFa hzl
  go_upto_region 20 with (go_at_call 12; (with_reducible refine (new_any _).mono ?_); rintro e w1 ⟨rfl, rfl⟩)
  generalize wc.alloc _ = W at H0 ⊢
  have HO7 : Hid (Kd.R (Kd.int .i64) 3 (W.alloc (.cells #[] 3)) W.heap.size (fun _ => True) (.slice (some ⟨W.heap.size, 0, none⟩) 0 0) []) := R_lit0i W _ trivial
  have HC7 : Hid (Kd.C (Kd.int .i64) (W.alloc (.cells #[] 3)) CA m cuts) := Kd.C_below (Kd.C_below HIN.out.hc (below_next HB.out H0.out.bl)) (below_alloc (Below.refl _ _) _)
  have HB7 : Hid (Below W.heap.size W (W.alloc (.cells #[] 3))) := below_alloc (Below.refl _ _) _
  have HS7 : Hid (W.heap.size ≤ (W.alloc (.cells #[] 3)).heap.size) := HB7.out.size
  have HLE : Hid ((([] : List Int).length + m) * 8 ≤ 140737488355328) := by have := HM50.out; show _ ≤ _; simp only [List.length_nil]; omega
  have HLE2 : Hid ((cuts.length + 1) * 8 ≤ 140737488355328) := by have := HM50.out; have := HCL.out; show _ ≤ _; omega
  go_wp2_with (first | (at_builtin; refine Kd.R_append_rows (Kd.int .i64) (Rr := (Kd.int .i64).K (W.alloc (.cells #[] 3))) (w0 := W) (W := W.alloc (.cells #[] 3)) W.heap.size rfl (.tmp 99) (.tmp 100) 24 3 _ 8 rfl Tryz.underlying24 infoI64 rfl (by decide) (by decide) (.slice (some ⟨W.heap.size, 0, none⟩) 0 0) [] cuts CA m cc _ (fun _ => False) rfl rfl HO7.out HC7.out (fun _ _ h => h) (fun _ hk => hk.elim) (fun _ _ => trivial) HB7.out HS7.out HLE.out ?_; intro v2 w2 ho2 hb2 hg2 hat2; rw [List.nil_append] at ho2; have HO2 := Lib.hid ho2; have HB2 := Lib.hid hb2; have HS2 : Hid (W.heap.size ≤ w2.heap.size) := hb2.size; clear ho2 hb2 hg2 hat2) | (at_builtin; refine Kd.R_append_rows (Kd.int .i64) (Rr := (Kd.int .i64).K (w2.alloc (.cells #[.int .i64 N] 3))) (w0 := W) (W := w2.alloc (.cells #[.int .i64 N] 3)) W.heap.size rfl (.tmp 101) (.tmp 104) 24 3 _ 8 rfl Tryz.underlying24 infoI64 rfl (by decide) (by decide) v2 cuts [(N : Int)] (some ⟨w2.heap.size, 0, none⟩) 1 1 _ (fun _ => False) rfl rfl (Kd.R_alloc HO2.out _) (C_lit1 w2 N) (fun _ _ h => h) (fun _ hk => hk.elim) (fun _ _ => trivial) (below_then HB2.out HB2.out.size (below_alloc (Below.refl _ _) _)) (Nat.le_trans HS2.out (below_alloc (Below.refl _ _) _).size) HLE2.out ?_; intro v3 w3 ho3 hb3 hg3 hat3; obtain ⟨A3, c3, hv3⟩ := Kd.R_slice ho3; have hv3e : v3 = .slice A3 (m + 1) c3 := hv3.trans (congrArg (fun z => Value.slice A3 z c3) (by simp [HCL.out])); clear hv3; subst hv3e; have HO3 := Lib.hid ho3; have HB3 := Lib.hid hb3; clear ho3 hb3 hg3 hat3))
  have HF3 := Aside0.mk (H0.out.below HB3.out)
  have HR3 := Aside0.mk (Kd.R_lower HO3.out H0.out.bl.size)
  clear HO7 HC7 HB7 HS7 HLE HLE2 HO2 HB2 HS2 HO3 HB3 H0
  go_loopg [14, 15, 16, 107] (m + 1) (W1 wc xs wc.heap.size (.slice A3 (m + 1) c3) (cuts ++ [(N : Int)]))
  case atStart => exact ⟨0, 0, ps0, arc0, _, _, _, _, by simp [HCL.out], rfl, rfl, Nat.zero_le _, by simp, rfl, rfl, ⟨rfl, HF3.out, HR3.out⟩⟩
  case round =>
    clear HF3 HR3
    obtain ⟨k, p, s, b, vb, vt, vg, vl, hk, rfl, rfl, hp, hpe, rfl, rfl, HL⟩ := hrel
    obtain ⟨gko, rfl⟩ : ∃ gko, gko = gk := ⟨_, rfl⟩
    obtain ⟨wo, rfl⟩ : ∃ wo : World, wo = wr := ⟨_, rfl⟩
    rw [HXL.out] at hp hpe
    have hrl : (cuts ++ [(N : Int)]).length = m + 1 := by simp [HCL.out]
    rw [hrl] at hk hpe
    have hpn := HNL.out
    have hmn := HM50.out
    by_cases hlt : k < m + 1
    · obtain ⟨G, cap, hv, _, _, _⟩ := Kd.R_form HL.out.2.2 (by rw [hrl]; omega)
      rw [hrl] at hv
      injection hv with hA _ hcap
      subst hA
      obtain ⟨y0, f0⟩ := Kd.R_celln (0 : Int) HL.out.2.2 (k : Int) (by omega) (by omega)
      obtain ⟨y, hy⟩ : ∃ y, rdOf (0 : Int) (cuts ++ [(N : Int)]) (k : Int) = y := ⟨_, rfl⟩
      rw [hy] at y0
      simp only [Int.toNat_natCast] at y0 f0
      have HY3 := Lib.hid hy
      have HPE := Lib.hid hpe
      clear hcap hrl
      obtain ⟨q, mv, hq1, hq2, hq5, hq3⟩ := clamp_w y N p hp
      have hq4 : k + 1 = m + 1 → p + q = N := fun e => hq2 (by rw [← hy, rd_last cuts N k (by rw [HCL.out]; omega)]; exact Int.le_refl _)
      have HQ4 := Lib.hid hq4
      clear hy hpe hq2 hq4
      go_upto_region 24 with (fail)
      clear hq3 hq5
      obtain ⟨A', c', r, b', p1, p2, p3, p4⟩ := piece_ws HEE.out HL.out.2.1 A8 c8 N xs HX.out HXL.out HXC.out HXB.out (by have := HNL.out; omega) p q hq1 HL.out.1
      have OPB : Hid (Opn b) := by
        obtain ⟨_, _, f1, _, _, _, _, f6⟩ := fold0 (xs.take p) (fun x hx => HXB.out x (List.mem_of_mem_take hx)) (by rw [List.length_take, HXL.out]; omega)
        rw [HL.out.1] at f1
        have h2 := Option.some.inj (congrArg Prod.snd f1)
        rw [h2]
        exact f6
      have P2 := Lib.hid p2
      have P3 := Lib.hid p3
      have P4 := Lib.hid p4
      clear p2 p3 p4
      go_wp2_with ((go_at_call 17; (with_reducible refine P2.out.mono ?_); rintro e w5 ⟨vb5, vt5, vg5, vl5, vo5, rfl, hP5, hEv5⟩; obtain ⟨Ao, co, hvo5⟩ := Kd.R_slice hEv5; subst hvo5; have HP5 := Aside0.mk hP5; have HEV5 := Lib.hid hEv5; clear hP5 hEv5))
      have F5 := Aside0.mk (WI.fed HL.out.2.1 HP5.out)
      have R5 := Aside0.mk (WI.row HL.out.2.2 HL.out.2.1 HP5.out.fr int_ne)
      have E5 := Aside0.mk (Kd.R_mono (ok' := fun _ => True) HEV5.out (fun _ _ => trivial))
      obtain ⟨nl, hnl⟩ : ∃ nl, r.out.length = nl := ⟨_, rfl⟩
      have HNLE := Lib.hid hnl
      rw [hnl] at E5 ⊢
      have hnb : nl ≤ 9223372036854775807 := by rw [← HNLE.out]; exact R_max HEV5.out
      have HKO := Lib.hid hk
      have HQ1 := Lib.hid hq1
      clear P2 HP5 HEV5 hnl HL p1 y0 f0 hk
      have HBW : Hid (Below w.heap.size w w5) := below_next HB.out F5.out.bl
      go_loopg [15, 16, 127] nl (W2 w5 r.out b)
      case atStart => exact ⟨0, b, by rw [HNLE.out]; omega, rfl, rfl, rfl, ⟨rfl, Below.refl _ _⟩⟩
      case round =>
        obtain ⟨k2, b2, hk2, rfl, rfl, rfl, H2⟩ := hrel
        rw [HNLE.out] at hk2
        by_cases hlt2 : k2 < nl
        · obtain ⟨b3, HS1, HS2⟩ := evs_step H2.out.1 P4.out (by rw [HNLE.out]; exact hlt2)
          have RE := Aside0.mk (Kd.R_below E5.out H2.out.2)
          obtain ⟨Ge, cape, hve, _, hge5, _⟩ := Kd.R_form RE.out (by rw [HNLE.out]; omega)
          rw [HNLE.out] at hve
          injection hve with hA _ hcap
          subst hA
          have OB := mid_ext OPB.out H2.out.1 P4.out
          have HOP := Lib.hid OB.1
          have HMID := Lib.hid (ws_mid OPB.out HF.out P3.out P4.out HS2)
          have HBR : Hid (Below w.heap.size w wr) := below_next HBW.out H2.out.2
          clear OB hcap
          obtain ⟨⟨kd, ax⟩, hx⟩ : ∃ x, r.out.getD k2 default = x := ⟨_, rfl⟩
          rw [hx] at HS1
          cases kd with
          | beg en =>
            obtain ⟨Ad, cd, y0, y1, y2, y3, y4, y5, y6, y7, y8, y9, y10, y11, y12, y13, hRd⟩ := ev_facts RE.out k2 hlt2 _ ax hx 1 en .nilIface ([] : List Int) rfl rfl rfl rfl
            have S1 := Lib.hid HS1
            have S2 := Lib.hid HS2
            clear hx HS1 HS2 hRd
            obtain ⟨hov, hop, hb3⟩ := ev_beg S1.out
            obtain ⟨nm, d, z1, z2, z3, z4, z5, z6⟩ := ws_thing HMID.out.1 HFT.out (show b3.things = b2.things ++ [⟨en, [], false, ax⟩] by rw [hb3])
            have z3 : en = wsEn (nm, d) := z3
            subst z3
            obtain ⟨adn, hNA, cn⟩ := C_at1 HIN.out.hn b2.things.length nm z1
            obtain ⟨add, Ai, ci, hDA, cdd, hle, hCd⟩ := C_atS HIN.out.hd b2.things.length d z2
            subst hNA hDA
            have cn := pw_cell_below HBR.out cn
            have cdd := pw_cell_below HBR.out cdd
            have HB3 := Lib.hid hb3
            have hl10 : b2.things.length + 1 ≤ nn := by rw [← HZL.out]; exact z6
            have hn10 := HN10.out
            clear hov hop hb3 z1 z2 z4 z5 z6 hle hCd
            obtain ⟨l, hl⟩ : ∃ l, b2.things.length = l := ⟨_, rfl⟩
            have HLL := Lib.hid hl
            rw [hl] at cn cdd hl10 ⊢
            clear hl
            go_upto_region 30 with (fail)
            have BE := Blk.new wr 43 (evArr 1 (wsEn (nm, d)) (.slice Ad ([] : List Int).length cd) .nilIface ax)
            have BW : Below wr.heap.size wr (wr.alloc (.cells (evArr 1 (wsEn (nm, d)) (.slice Ad ([] : List Int).length cd) .nilIface ax) 43)) := below_alloc (Below.refl _ _) _
            generalize wr.alloc _ = W2 at BE BW ⊢
            obtain ⟨ge, hge⟩ : ∃ ge, wr.heap.size = ge := ⟨_, rfl⟩
            have HBW2 := Aside0.mk BW
            have cn := pw_cell_below BW cn
            have cdd := pw_cell_below BW cdd
            rw [hge] at BE ⊢
            have e1 : W2.cell? ⟨ge, 1, none⟩ = some (.string nm) := BE.cell 1
            have e3 : W2.cell? ⟨ge, 3, none⟩ = some (.int .i64 1) := BE.cell 3
            have e8 : W2.cell? ⟨ge, 8, none⟩ = some (.int .i64 (d.length : Int)) := BE.cell 8
            clear y0 y1 y2 y3 y4 y5 y6 y7 y8 y9 y10 y11 y12 y13 hge BE BW
            have g1 : decide ((nn : Int) ≤ (l : Int)) = false := by simp; omega
            have g2 : decide (nn ≤ l) = false := by simp; omega
            go_quiet (fail)
            go_wp2_with fail
            go_roundg (gk - 1)
            case measure => omega
            case rel =>
              have hb3l : b3.things = b2.things ++ [⟨wsEn (nm, d), [], false, ax⟩] := by rw [HB3.out]
              exact ⟨k2 + 1, b3, by rw [HNLE.out]; omega, by rw [Int.natCast_add]; rfl, by rw [hb3l, List.length_append, HLL.out]; simp, by rw [hb3l, gotOf_add]; rfl, ⟨S2.out, pw_below_drewN (below_next H2.out.2 HBW2.out) _⟩⟩
          | dat dd =>
            obtain ⟨Ad, cd, y0, y1, y2, y3, y4, y5, y6, y7, y8, y9, y10, y11, y12, y13, hRd⟩ := ev_facts RE.out k2 hlt2 _ ax hx 2 en0 .nilIface dd rfl rfl rfl rfl
            have S1 := Lib.hid HS1
            have S2 := Lib.hid HS2
            have HRD := Aside0.mk hRd
            clear hx HS1 HS2 hRd
            obtain ⟨hov, hop, hdn, l, t, hl, hb3⟩ := ev_dat HOP.out S1.out
            have hb3l : b3.things = l ++ [{ t with data := t.data ++ dd, at_ := ax }] := by rw [hb3]
            obtain ⟨nm, d, z1, z2, z3, z4, z5, z6⟩ := ws_thing HMID.out.1 HFT.out hb3l
            have HB3 := Lib.hid hb3l
            have hdl : t.data.length + dd.length ≤ 1500 := by
              have hz : (nm, d) ∈ names.zip datas := List.mem_of_getElem? (List.getElem?_zip_eq_some.2 ⟨z1, z2⟩)
              have h1 := (HIN.out.ok _ hz).len
              have h2 := z4.length_le
              have h3 : (t.data ++ dd).length ≤ d.length := h2
              rw [List.length_append] at h3
              have h4 : d.length ≤ 1500 := h1
              omega
            have HG : Hid (gotOf b2.things = strOfNums t.data) := by show _ = _; rw [hl, gotOf_add]
            have HL2 : Hid (((b2.things.length : Int) - 1) = (l.length : Int)) := by show _ = _; rw [hl, List.length_append]; simp
            have HL3 : Hid (b3.things.length = l.length + 1) := by show _ = _; rw [hb3l]; simp
            have HLT : Hid (l.length ≤ 10) := by
              have h1 := HZL.out
              have h2 := HN10.out
              show _ ≤ _
              omega
            rw [HG.out, HL2.out]
            obtain ⟨S0, hS0⟩ : ∃ S0, strOfNums t.data = S0 := ⟨_, rfl⟩
            obtain ⟨S1', hS1⟩ : ∃ S1, strOfNums dd = S1 := ⟨_, rfl⟩
            have HS3 : Hid (S0 ++ S1' = strOfNums (t.data ++ dd)) := by show _ = _; rw [strOfNums_add, hS0, hS1]
            have hz0 : S0.size ≤ 1500 := by rw [← hS0, strOfNums_size]; omega
            have hz1 : S1'.size ≤ 1500 := by rw [← hS1, strOfNums_size]; omega
            have hsum : S0.size + S1'.size ≤ 9223372036854775807 := by omega
            rw [hS0]
            obtain ⟨ll, hll⟩ : ∃ ll, l.length = ll := ⟨_, rfl⟩
            have HLL := Lib.hid hll
            rw [hll]
            clear hov hop hdn hl hb3 hb3l z1 z2 z3 z4 z5 z6 hdl hS0 hll HG HL2
            go_upto_region 34 with (fail)
            have BE := Blk.new wr 43 (evArr 2 en0 (.slice Ad dd.length cd) .nilIface ax)
            have BW : Below wr.heap.size wr (wr.alloc (.cells (evArr 2 en0 (.slice Ad dd.length cd) .nilIface ax) 43)) := below_alloc (Below.refl _ _) _
            generalize wr.alloc _ = W2 at BE BW ⊢
            obtain ⟨ge, hge⟩ : ∃ ge, wr.heap.size = ge := ⟨_, rfl⟩
            have HBW2 := Aside0.mk BW
            have HC7 : Kd.C (Kd.int .u8) W2 Ad dd.length dd := by
              obtain ⟨A', c', hv, _, hc⟩ := Kd.R_reads (Kd.R_below HRD.out BW)
              injection hv with ha
              rw [ha]
              exact hc
            have hcv : (convert 32 9 (.slice Ad dd.length cd)).run Tryz.prog W2 = .ok (.string S1') W2 := by
              rw [← hS1]
              exact Kd.C_string Tryz.underlying32 Tryz.underlying5 Tryz.underlying9 HC7
            rw [hge] at BE ⊢
            have e11 : W2.cell? ⟨ge, 11, none⟩ = some (.slice Ad dd.length cd) := BE.cell 11
            clear y0 y1 y2 y3 y4 y5 y6 y7 y8 y9 y10 y11 y12 y13 hge BE BW hS1 HC7
            go_wp2_with fail
            go_roundg (gk - 1)
            case measure => omega
            case rel =>
              exact ⟨k2 + 1, b3, by rw [HNLE.out]; omega, by rw [Int.natCast_add]; rfl, by rw [HL3.out, HLL.out]; simp, by rw [HB3.out, gotOf_add, ← HS3.out], ⟨S2.out, below_next H2.out.2 HBW2.out⟩⟩
          | fin =>
            obtain ⟨Ad, cd, y0, y1, y2, y3, y4, y5, y6, y7, y8, y9, y10, y11, y12, y13, hRd⟩ := ev_facts RE.out k2 hlt2 _ ax hx 3 en0 .nilIface ([] : List Int) rfl rfl rfl rfl
            have S1 := Lib.hid HS1
            have S2 := Lib.hid HS2
            clear hx HS1 HS2 hRd
            obtain ⟨hov, hop, l, t, hl, hb3⟩ := ev_fin HOP.out S1.out
            have hb3l : b3.things = l ++ [{ t with whole := true, at_ := ax }] := by rw [hb3]
            obtain ⟨nm, d, z1, z2, z3, z4, z5, z6⟩ := ws_thing HMID.out.1 HFT.out hb3l
            have hdd : t.data = d := z5 rfl
            obtain ⟨add, Ai, ci, hDA, cdd, hle, hCd⟩ := C_atS HIN.out.hd l.length d z2
            subst hDA
            have HB3 := Lib.hid hb3l
            have HG : Hid (gotOf b2.things = strOfNums d) := by show _ = _; rw [hl, gotOf_add, hdd]
            have HL2 : Hid (((b2.things.length : Int) - 1) = (l.length : Int)) := by show _ = _; rw [hl, List.length_append]; simp
            have HL3 : Hid (b3.things.length = l.length + 1) := by show _ = _; rw [hb3l]; simp
            have HG3 : Hid (gotOf b3.things = strOfNums d) := by show _ = _; rw [hb3l, gotOf_add, ← hdd]
            have hl10 : l.length + 1 ≤ nn := by rw [← HZL.out]; exact z6
            have hn10 := HN10.out
            rw [HG.out, HL2.out]
            obtain ⟨S0, hS0⟩ : ∃ S0, strOfNums d = S0 := ⟨_, rfl⟩
            have HS0 := Lib.hid hS0
            rw [hS0]
            have HCD := Lib.hid hCd
            have cdd := pw_cell_below HBR.out cdd
            obtain ⟨ll, hll⟩ : ∃ ll, l.length = ll := ⟨_, rfl⟩
            have HLL := Lib.hid hll
            rw [hll] at cdd hl10 ⊢
            have hlt0 : decide ((ll : Int) < 0) = false := by simp
            clear hov hop hl hb3 hb3l z1 z2 z3 z4 z5 z6 hdd hS0 hll HG HL2 hle hCd
            go_upto_region 36 with (fail)
            have BE := Blk.new wr 43 (evArr 3 en0 (.slice Ad ([] : List Int).length cd) .nilIface ax)
            have BW : Below wr.heap.size wr (wr.alloc (.cells (evArr 3 en0 (.slice Ad ([] : List Int).length cd) .nilIface ax) 43)) := below_alloc (Below.refl _ _) _
            generalize wr.alloc _ = W2 at BE BW ⊢
            have HBW2 := Aside0.mk BW
            have cdd := pw_cell_below BW cdd
            have hcv : (convert 32 9 (.slice Ai d.length ci)).run Tryz.prog W2 = .ok (.string S0) W2 := by
              rw [← HS0.out]
              exact Kd.C_string Tryz.underlying32 Tryz.underlying5 Tryz.underlying9 (Kd.C_below (Kd.C_below HCD.out HBR.out) BW)
            clear y0 y1 y2 y3 y4 y5 y6 y7 y8 y9 y10 y11 y12 y13 BE BW
            go_wp2_with fail
            go_roundg (gk - 1)
            case measure => omega
            case rel =>
              exact ⟨k2 + 1, b3, by rw [HNLE.out]; omega, by rw [Int.natCast_add]; rfl, by rw [HL3.out, HLL.out]; simp, by rw [HG3.out, HS0.out], ⟨S2.out, below_next H2.out.2 HBW2.out⟩⟩
          | don =>
            obtain ⟨Ad, cd, y0, y1, y2, y3, y4, y5, y6, y7, y8, y9, y10, y11, y12, y13, hRd⟩ := ev_facts RE.out k2 hlt2 _ ax hx 4 en0 .nilIface ([] : List Int) rfl rfl rfl rfl
            have S1 := Lib.hid HS1
            have S2 := Lib.hid HS2
            clear hx HS1 HS2 hRd
            obtain ⟨hov, hb3⟩ := ev_don S1.out
            have HB3 : Hid (b3.things = b2.things) := by show _ = _; rw [hb3]
            have HBA : Hid (∀ cs, Below wr.heap.size wr (wr.alloc (.cells cs 43))) := fun cs => below_alloc (Below.refl _ _) _
            clear hov hb3
            obtain ⟨bl, hbl⟩ : ∃ bl, ((b2.things.length : Int) - 1) = bl := ⟨_, rfl⟩
            have HBL := Lib.hid hbl
            rw [hbl]
            clear hbl
            go_wp2_with fail
            go_roundg (gk - 1)
            case measure => omega
            case rel =>
              exact ⟨k2 + 1, b3, by rw [HNLE.out]; omega, by rw [Int.natCast_add]; rfl, by rw [HB3.out, HBL.out], by rw [HB3.out], ⟨S2.out, below_next H2.out.2 (HBA.out _)⟩⟩
          | bad bc bp =>
            exfalso
            obtain ⟨hov, hb3⟩ := ev_bad HS1
            have h1 := HMID.out.2.2 (by rw [hb3])
            have h2 := HFD.out
            rw [h1, hb3] at h2
            have h3 := HOP.out.ovr h2
            rw [hov] at h3
            cases h3
        · have hk2n : k2 = nl := by omega
          have hbb : b2 = b' := by
            have h := H2.out.1
            rw [hk2n, ← HNLE.out, List.take_length, P4.out] at h
            exact (Option.some.inj h).symm
          have HBB := Lib.hid hbb
          obtain ⟨bl, hbl⟩ : ∃ bl, ((b2.things.length : Int) - 1) = bl := ⟨_, rfl⟩
          have HBL := Lib.hid hbl
          rw [hbl]
          clear hbb hbl
          go_wp2_with fail
          go_roundg (gko - 1)
          case measure => have := HKO.out; omega
          case rel =>
            have hrl : (cuts ++ [(N : Int)]).length = m + 1 := by simp [HCL.out]
            have hko := HKO.out
            exact ⟨k + 1, p + q, { r with out := [] }, b2, vb5, vt5, vg5, vl5, by rw [hrl]; omega, by rw [Int.natCast_add]; rfl, by rw [Int.natCast_add], by rw [HXL.out]; exact HQ1.out, fun e => by rw [HXL.out]; exact HQ4.out (by rw [hrl] at e; exact e), by rw [HBL.out], rfl, ⟨by rw [P3.out, HBB.out], (F5.out.below H2.out.2).clean, Kd.R_below R5.out H2.out.2⟩⟩
    · have hkm : k = m + 1 := by omega
      have hpn2 := hpe hkm
      have hall : xs.take p = xs := List.take_of_length_le (by rw [HXL.out]; omega)
      have hfj := HL.out.1
      rw [hall, HF.out] at hfj
      obtain ⟨rfl, rfl⟩ : sF = s ∧ F = b := ⟨congrArg Prod.fst hfj, Option.some.inj (congrArg Prod.snd hfj)⟩
      have hln : F.things.length = nn := by rw [HFT.out.1, HZL.out]
      rw [hln]
      have HEN := Lib.hid (end_any _ _ wo _ _ _ _ _ _ _ HL.out.2.1.ps)
      have hee : ({ sF with out := [] } : PSt).endE = none := HFE.out
      rw [hee] at HEN
      have HAT := Lib.hid (at_any _ _ wo _ _ _ _ _ _ _ HL.out.2.1.ps)
      have hae : ({ sF with out := [] } : PSt).at_ = (N : Int) := HFA.out
      rw [hae] at HAT
      have HBO : Hid (Below w.heap.size w wo) := below_next HB.out HL.out.2.1.bl
      have hn10 := HN10.out
      clear hkm hpn2 hall hfj hpe hln hee hae HL hp hk
      go_wp2_with (first | (go_at_call 14; (with_reducible refine HEN.out.mono ?_); rintro e w6 ⟨rfl, rfl⟩) | (go_at_call 18; (with_reducible refine HAT.out.mono ?_); rintro e w6 ⟨rfl, rfl⟩))
      go_ret
      exact ⟨rfl, HBO.out⟩
end Go.Proofs.YtpbpfngichfgeaaGreatDoor
