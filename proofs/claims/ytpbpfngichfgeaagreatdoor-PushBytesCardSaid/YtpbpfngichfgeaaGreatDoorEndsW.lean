/-
  PushEnds, walked: the archive of a beginning is a beginning of the archive.
-/
import Derived.Test.YtpbpfngichfgeaaGreatDoorPFedx1
namespace Go.Proofs.YtpbpfngichfgeaaGreatDoor
set_option linter.unusedVariables false
set_option linter.unusedSectionVars false
set_option linter.unusedSimpArgs false
set_option linter.unnecessarySimpa false
open Go Go.RowKit Go.Proofs.YtpbpfngichfgeaaGreatDoorW.PrintWords Go.Proofs.YtpbpfngichfgeaaGreatDoorW.PrintLast Go.Proofs.YtpbpfngichfgeaaGreatDoorW.PrintMore
attribute [local go_sem high] Go.Proofs.YtpbpfngichfgeaaGreatDoor.PFed.eqA41 Go.Proofs.YtpbpfngichfgeaaGreatDoor.PFed.eqA57

def Yes (w : World) (e : Ending) (w' : World) : Prop := e = .returned (.bool true) ∧ Below w.heap.size w w'
theorem et_below {w w1 : World} (he : EnvE w) (hb : Below w.heap.size w w1) (hg : w.cell? ⟨0, 0, none⟩ = some etype) : w1.cell? ⟨0, 0, none⟩ = some etype :=
  cell_below hb (by show 0 < _; exact Nat.lt_of_lt_of_le (by decide) (ng_of_env he)) hg
/-- fed without cuts, in any later world. -/
theorem fed_nil (A : Option Addr) (c n : Nat) (xs : List Int) (w w1 : World) (he : EnvE w) (hg : w.cell? ⟨0, 0, none⟩ = some etype) (hb : Below w.heap.size w w1) (hx : Kd.C (Kd.int .u8) w A xs.length xs) (hn : xs.length = n) (hc : n ≤ c) (hxb : ∀ x ∈ xs, 0 ≤ x ∧ x < 256) (hl : n ≤ 100000) :
    Calls Tryz.prog 20 #[.slice A n c, .slice none 0 0] w1 (FedEnd w1 xs) := by
  subst hn
  exact fed_any A none c 0 xs [] w1 (he.below hb) (et_below he hb hg) (Kd.C_below hx hb) (Kd.C_nil _ _) hc (Nat.le_refl _) hxb hl (by simp)
set_option maxHeartbeats 8000000 in
set_option maxRecDepth 100000 in
theorem ends_early (A : Option Addr) (n c : Nat) (q : Int) (w : World) (he : EnvE w) (h : 20000 < n ∨ q < 0 ∨ (n : Int) < q) : Calls Tryz.prog 6 #[.slice A n c, .int .i64 q] w (Yes w) := by
  have HR := Lib.hid (reads_any w he)
  clear he
  by_cases hn : 20000 < n
  · have e1 : decide ((20000 : Int) < (n : Int)) = true := by simp; omega
    clear h
    go_enter Tryz.func6, Tryz.ntmps6
    go_wp2_with (go_at_call 19; (with_reducible refine HR.out.mono ?_); rintro e w1 ⟨rfl, hb1⟩; have HB1 := Lib.hid hb1; clear hb1)
    go_ret
    exact ⟨rfl, HB1.out⟩
  · have e1 : decide ((20000 : Int) < (n : Int)) = false := by simp; omega
    by_cases hq : q < 0
    · have e2 : decide (q < 0) = true := by simpa using hq
      clear h
      go_enter Tryz.func6, Tryz.ntmps6
      go_wp2_with (go_at_call 19; (with_reducible refine HR.out.mono ?_); rintro e w1 ⟨rfl, hb1⟩; have HB1 := Lib.hid hb1; clear hb1)
      go_ret
      exact ⟨rfl, HB1.out⟩
    · have e2 : decide (q < 0) = false := by simpa using hq
      have e3 : decide ((n : Int) < q) = true := by simp; omega
      clear h
      go_enter Tryz.func6, Tryz.ntmps6
      go_wp2_with (go_at_call 19; (with_reducible refine HR.out.mono ?_); rintro e w1 ⟨rfl, hb1⟩; have HB1 := Lib.hid hb1; clear hb1)
      go_ret
      exact ⟨rfl, HB1.out⟩
/-- Thing number i of a row: its cells. -/
theorem th_facts {w : World} {base : Nat} {ok : Nat → Prop} {g n cap : Nat} {ts : List Thg} (h : Kd.R kThg 57 w base ok (.slice (some ⟨g, 0, none⟩) n cap) ts) (i : Nat) (t : Thg) (ht : ts[i]? = some t) (e : En) (d : ByteArray) (he : t.en = e) (hd : strOfNums t.data = d) :
    w.cell? ⟨g, i * 13, none⟩ = some (.string e.path) ∧ w.cell? ⟨g, i * 13 + 1, none⟩ = some (.string e.link) ∧ w.cell? ⟨g, i * 13 + 2, none⟩ = some (.int .i64 e.kd) ∧ w.cell? ⟨g, i * 13 + 3, none⟩ = some (.int .i64 e.md) ∧ w.cell? ⟨g, i * 13 + 4, none⟩ = some (.int .i64 e.uid) ∧
      w.cell? ⟨g, i * 13 + 5, none⟩ = some (.int .i64 e.gid) ∧ w.cell? ⟨g, i * 13 + 6, none⟩ = some (.int .i64 e.mt) ∧ w.cell? ⟨g, i * 13 + 7, none⟩ = some (.int .i64 e.sz) ∧ w.cell? ⟨g, i * 13 + 8, none⟩ = some (.string e.user) ∧ w.cell? ⟨g, i * 13 + 9, none⟩ = some (.string e.group) ∧
      w.cell? ⟨g, i * 13 + 10, none⟩ = some (.string d) ∧ w.cell? ⟨g, i * 13 + 11, none⟩ = some (.bool t.whole) ∧ w.cell? ⟨g, i * 13 + 12, none⟩ = some (.int .i64 t.at_) := by
  subst he hd
  have hi : i < ts.length := (List.getElem?_eq_some_iff.1 ht).1
  have hn := (Kd.R_reads' h).1
  obtain ⟨c, hcl, hM, hcc, _⟩ := Kd.R_elem h t (i : Int) (by omega) (by omega)
  have e1 : ts.getD (i : Int).toNat t = t := by rw [Int.toNat_natCast, List.getD_eq_getElem?_getD, ht]; rfl
  rw [e1] at hM
  obtain rfl := kThg_of_M hM
  simp only [Int.toNat_natCast] at hcc
  exact ⟨hcc 0 _ rfl, hcc 1 _ rfl, hcc 2 _ rfl, hcc 3 _ rfl, hcc 4 _ rfl, hcc 5 _ rfl, hcc 6 _ rfl, hcc 7 _ rfl, hcc 8 _ rfl, hcc 9 _ rfl, hcc 10 _ rfl, hcc 11 _ rfl, hcc 12 _ rfl⟩
theorem pre_bytes {a b : List Int} (h : a <+: b) : (strOfNums a).size ≤ (strOfNums b).size ∧ (strOfNums b).extract 0 (strOfNums a).size = strOfNums a := by
  obtain ⟨r, rfl⟩ := h
  rw [strOfNums_add]
  refine ⟨by rw [ByteArray.size_append]; omega, ?_⟩
  apply ByteArray.ext
  rw [ByteArray.data_extract, ByteArray.data_append]
  show ((strOfNums a).data ++ (strOfNums r).data).extract 0 (strOfNums a).data.size = (strOfNums a).data
  generalize (strOfNums a).data = x
  generalize (strOfNums r).data = y
  simp
set_option maxHeartbeats 8000000 in
set_option maxRecDepth 100000 in
theorem ends_main (A : Option Addr) (c q : Nat) (xs : List Int) (w : World) (he : EnvE w) (hg : w.cell? ⟨0, 0, none⟩ = some etype) (hx : Kd.C (Kd.int .u8) w A xs.length xs) (hxc : xs.length ≤ c) (hxb : ∀ x ∈ xs, 0 ≤ x ∧ x < 256) (hxl : xs.length ≤ 20000) (hq : q ≤ xs.length) :
    Calls Tryz.prog 6 #[.slice A xs.length c, .int .i64 (q : Int)] w (Yes w) := by
  have HR := Lib.hid (reads_any w he)
  have HE := Lib.hid he
  have HG := Lib.hid hg
  have HX := Lib.hid hx
  have HXC := Lib.hid hxc
  have HXB := Lib.hid hxb
  have cut := cut_to A c xs q hq hxc
  have HEX := Lib.hid (arcOf_take xs q hxb (by omega))
  obtain ⟨n, hn⟩ : ∃ n, xs.length = n := ⟨_, rfl⟩
  rw [hn] at hxl hq HXC cut ⊢
  have HN := Lib.hid hn
  have HNL := Lib.hid hxl
  have HQ := Lib.hid hq
  have e1 : decide ((20000 : Int) < (n : Int)) = false := by simp; omega
  have e2 : decide ((q : Int) < 0) = false := by simp
  have e3 : decide ((n : Int) < (q : Int)) = false := by simp; omega
  have e4 : decide (n < q) = false := by simp; omega
  clear he hg hx hxc hxb hn
  go_enter Tryz.func6, Tryz.ntmps6
  go_upto_region 5 with (go_at_call 19; (with_reducible refine HR.out.mono ?_); rintro e w1 ⟨rfl, hb1⟩; have HB1 := Lib.hid hb1; clear hb1)
  have HF1 := Lib.hid (fed_nil A c n xs w w1 HE.out HG.out HB1.out HX.out HN.out HXC.out HXB.out (by have := HNL.out; omega))
  clear HR e1 e2 e3 e4
  go_upto_region 6 with (go_at_call 20; (with_reducible refine HF1.out.mono ?_); rintro e w2 ⟨v1, rfl, hR1, hb2⟩; obtain ⟨A1, c1, hv1⟩ := Kd.R_slice hR1; subst hv1; have HR1 := Lib.hid hR1; have HB2 := Lib.hid hb2; clear hR1 hb2)
  obtain ⟨T1, hT1⟩ : ∃ T, arcOf xs = T := ⟨_, rfl⟩
  rw [hT1] at HR1 HEX ⊢
  obtain ⟨l1, hl1⟩ : ∃ l, T1.things.length = l := ⟨_, rfl⟩
  rw [hl1] at HR1 ⊢
  have B5 := Aside0.mk (Blk.new w2 49 #[.slice A1 l1 c1, .bool T1.done, .int .i64 T1.code, .int .i64 T1.place])
  have HB3 : Hid (Below w.heap.size w (w2.alloc (.cells #[.slice A1 l1 c1, .bool T1.done, .int .i64 T1.code, .int .i64 T1.place] 49))) := below_next (below_next HB1.out HB2.out) (below_alloc (Below.refl _ _) _)
  have R1 := Aside0.mk (Kd.R_alloc HR1.out (.cells #[.slice A1 l1 c1, .bool T1.done, .int .i64 T1.code, .int .i64 T1.place] 49))
  obtain ⟨g5, hg5⟩ : ∃ g, w2.heap.size = g := ⟨_, rfl⟩
  rw [hg5] at B5 ⊢
  have HL1 := Lib.hid hl1
  clear HF1 hT1 hl1 hg5 HR1
  generalize w2.alloc _ = W3 at B5 HB3 R1 ⊢
  have HXB2 : Hid (∀ x ∈ xs.take q, 0 ≤ x ∧ x < 256) := fun x hx => HXB.out x (List.mem_of_mem_take hx)
  have HC2 : Hid (Kd.C (Kd.int .u8) w A (xs.take q).length (xs.take q)) := Kd.C_take HX.out (by rw [HN.out]; exact HQ.out)
  have HF2 := Lib.hid (fed_nil A c q (xs.take q) w W3 HE.out HG.out HB3.out HC2.out (by rw [List.length_take, HN.out]; have := HQ.out; omega) (by have := HQ.out; have := HXC.out; omega) HXB2.out (by have := HQ.out; have := HNL.out; omega))
  go_upto_region 7 with (go_at_call 20; (with_reducible refine HF2.out.mono ?_); rintro e w4 ⟨v2, rfl, hR2, hb4⟩; obtain ⟨A2, c2, hv2⟩ := Kd.R_slice hR2; subst hv2; have HR2 := Lib.hid hR2; have HB4 := Lib.hid hb4; clear hR2 hb4)
  obtain ⟨T2, hT2⟩ : ∃ T, arcOf (xs.take q) = T := ⟨_, rfl⟩
  rw [hT2] at HR2 HEX ⊢
  obtain ⟨l2, hl2⟩ : ∃ l, T2.things.length = l := ⟨_, rfl⟩
  rw [hl2] at HR2 ⊢
  have HL2 := Lib.hid hl2
  have B7 := Blk.new w4 49 #[.slice A2 l2 c2, .bool T2.done, .int .i64 T2.code, .int .i64 T2.place]
  have hb45 : Below W3.heap.size W3 (w4.alloc (.cells #[.slice A2 l2 c2, .bool T2.done, .int .i64 T2.code, .int .i64 T2.place] 49)) := below_alloc HB4.out _
  have S5 : Aside0 (Blk (w4.alloc (.cells #[.slice A2 l2 c2, .bool T2.done, .int .i64 T2.code, .int .i64 T2.place] 49)) g5 49 #[.slice A1 l1 c1, .bool T1.done, .int .i64 T1.code, .int .i64 T1.place] ∧
      Kd.R kThg 57 (w4.alloc (.cells #[.slice A2 l2 c2, .bool T2.done, .int .i64 T2.code, .int .i64 T2.place] 49)) w1.heap.size (fun _ => True) (.slice A1 l1 c1) T1.things ∧
      Kd.R kThg 57 (w4.alloc (.cells #[.slice A2 l2 c2, .bool T2.done, .int .i64 T2.code, .int .i64 T2.place] 49)) W3.heap.size (fun _ => True) (.slice A2 l2 c2) T2.things ∧
      Below w.heap.size w (w4.alloc (.cells #[.slice A2 l2 c2, .bool T2.done, .int .i64 T2.code, .int .i64 T2.place] 49))) :=
    ⟨B5.out.below hb45 B5.out.lt, Kd.R_below R1.out hb45, Kd.R_alloc HR2.out _, below_next HB3.out hb45⟩
  have B7 := Aside0.mk B7
  obtain ⟨g7, hg7⟩ : ∃ g, w4.heap.size = g := ⟨_, rfl⟩
  rw [hg7] at B7 ⊢
  clear HF2 hT2 hl2 hg7 HR2 hb45 B5 R1 HB4 cut
  generalize w4.alloc _ = W5 at B7 S5 ⊢
  have x0 := B7.out.cell 0
  have x1 := B7.out.cell 1
  have z0 := S5.out.1.cell 0
  have z1 := S5.out.1.cell 1
  have hl7 := B7.out.lt
  have hl5 := S5.out.1.lt
  simp only [List.getElem?_toArray, List.getElem?_cons_zero, List.getElem?_cons_succ] at x0 x1 z0 z1
  have hle : l2 ≤ l1 := by rw [← HL1.out, ← HL2.out]; exact HEX.out.len
  have d1 : decide (l1 < l2) = false := by simp; omega
  have d2 : decide ((l1 : Int) < (l2 : Int)) = false := by simp; omega
  have hlb : l1 ≤ 9223372036854775807 := by rw [← HL1.out]; exact R_max S5.out.2.1
  go_wp2_with fail
  go_loopg [57] l2 (fun gk v57 wr => ∃ k : Nat, k + gk = l2 ∧ v57 = .int .i64 k ∧ Aside0 (Below W5.heap.size W5 wr))
  case atStart => exact ⟨0, by omega, rfl, ⟨Below.refl _ _⟩⟩
  case round =>
    obtain ⟨k, hk, rfl, HB⟩ := hrel
    have x0 := cell_below HB.out hl7 x0
    have x1 := cell_below HB.out hl7 x1
    have z0 := cell_below HB.out hl5 z0
    have z1 := cell_below HB.out hl5 z1
    have hl7 := Nat.lt_of_lt_of_le hl7 HB.out.size
    have hl5 := Nat.lt_of_lt_of_le hl5 HB.out.size
    by_cases hlt : k < l2
    · have R1 := Kd.R_below S5.out.2.1 HB.out
      have R2 := Kd.R_below S5.out.2.2.1 HB.out
      obtain ⟨G1, cap1, hv1, _, hgl1, _⟩ := Kd.R_form R1 (by rw [HL1.out]; omega)
      obtain ⟨G2, cap2, hv2, _, hgl2, _⟩ := Kd.R_form R2 (by rw [HL2.out]; omega)
      rw [HL1.out] at hv1
      rw [HL2.out] at hv2
      injection hv1 with hA1 _ hcap1
      injection hv2 with hA2 _ hcap2
      subst hA1 hA2
      have ht2 : T2.things[k]? = some (T2.things[k]'(by rw [HL2.out]; exact hlt)) := List.getElem?_eq_getElem _
      have ht1 : T1.things[k]? = some (T1.things[k]'(by rw [HL1.out]; omega)) := List.getElem?_eq_getElem _
      obtain ⟨t, htt⟩ : ∃ t, (T2.things[k]'(by rw [HL2.out]; exact hlt)) = t := ⟨_, rfl⟩
      obtain ⟨x, hxx⟩ : ∃ x, (T1.things[k]'(by rw [HL1.out]; omega)) = x := ⟨_, rfl⟩
      rw [htt] at ht2
      rw [hxx] at ht1
      obtain ⟨q1, q2, q3⟩ := HEX.out.at_ k t x ht2 ht1
      obtain ⟨p1, p2⟩ := pre_bytes q2
      obtain ⟨y0, y1, y2, y3, y4, y5, y6, y7, y8, y9, y10, y11, y12⟩ := th_facts R2 k t ht2 t.en (strOfNums t.data) rfl rfl
      obtain ⟨u0, u1, u2, u3, u4, u5, u6, u7, u8, u9, u10, u11, u12⟩ := th_facts R1 k x ht1 t.en (strOfNums x.data) q1.symm rfl
      have hkb : k ≤ 9223372036854775806 := by omega
      have d3 : decide ((strOfNums x.data).size < (strOfNums t.data).size) = false := by simp; omega
      have d4 : decide (((strOfNums x.data).size : Int) < ((strOfNums t.data).size : Int)) = false := by simp; omega
      have Q3 := Lib.hid q3
      have HLT := Lib.hid hlt
      have HK := Lib.hid hk
      clear hcap1 hcap2 htt hxx R1 R2 q1 q2 q3 ht1 ht2 hk
      cases hw : t.whole with
      | false =>
        rw [hw] at y11
        clear hw
        go_upto_region 13 with (fail)
        go_quiet (fail)
        go_wp2_with fail
        go_roundg (gk - 1)
        case measure => have := HK.out; have := HLT.out; omega
        case rel => exact ⟨k + 1, by have := HK.out; have := HLT.out; omega, by rw [Int.natCast_add]; rfl, ⟨pw_below_drewN (below_alloc (below_alloc HB.out _) _) _⟩⟩
      | true =>
        obtain rfl := Q3.out hw
        rw [hw] at y11 u11
        clear hw
        go_upto_region 13 with (fail)
        go_quiet (fail)
        go_wp2_with fail
        go_roundg (gk - 1)
        case measure => have := HK.out; have := HLT.out; omega
        case rel => exact ⟨k + 1, by have := HK.out; have := HLT.out; omega, by rw [Int.natCast_add]; rfl, ⟨pw_below_drewN (below_alloc (below_alloc HB.out _) _) _⟩⟩
    · clear hk
      cases hd2 : T2.done with
      | true =>
        have hd1 := HEX.out.done hd2
        rw [hd2] at x1
        rw [hd1] at z1
        clear hd1 hd2
        go_wp2_with fail
        go_ret
        exact ⟨rfl, below_next S5.out.2.2.2 HB.out⟩
      | false =>
        rw [hd2] at x1
        clear hd2
        go_wp2_with fail
        go_ret
        exact ⟨rfl, below_next S5.out.2.2.2 HB.out⟩
theorem ends_any (A : Option Addr) (c : Nat) (xs : List Int) (q : Int) (w : World) (he : EnvE w) (hg : w.cell? ⟨0, 0, none⟩ = some etype) (hx : Kd.C (Kd.int .u8) w A xs.length xs) (hxc : xs.length ≤ c) (hxb : ∀ x ∈ xs, 0 ≤ x ∧ x < 256) :
    Calls Tryz.prog 6 #[.slice A xs.length c, .int .i64 q] w (Yes w) := by
  by_cases h : 20000 < xs.length ∨ q < 0 ∨ (xs.length : Int) < q
  · exact ends_early A xs.length c q w he h
  · obtain ⟨m, rfl⟩ : ∃ m : Nat, q = (m : Int) := ⟨q.toNat, by omega⟩
    exact ends_main A c m xs w he hg hx hxc hxb (by omega) (by omega)
end Go.Proofs.YtpbpfngichfgeaaGreatDoor
