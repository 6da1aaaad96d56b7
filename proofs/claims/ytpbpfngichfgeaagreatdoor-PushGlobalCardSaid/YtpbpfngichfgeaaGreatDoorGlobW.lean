/-
  PushGlobal, walked: records for all, records for the next one alone.
-/
import Derived.Test.YtpbpfngichfgeaaGreatDoorGlobR
import Derived.Test.YtpbpfngichfgeaaGreatDoorEndsW
namespace Go.Proofs.YtpbpfngichfgeaaGreatDoor
set_option linter.unusedVariables false
set_option linter.unusedSectionVars false
set_option linter.unusedSimpArgs false
set_option linter.unnecessarySimpa false
open Go Go.RowKit Go.Proofs.YtpbpfngichfgeaaGreatDoorW.PrintWords Go.Proofs.YtpbpfngichfgeaaGreatDoorW.PrintLast Go.Proofs.YtpbpfngichfgeaaGreatDoorW.PrintMore

theorem gBody_enc (v : ByteArray) (h : v.size ≤ 100) : encOf [(uname, v)] = ((recT uname v).data.toList, 0) := by
  unfold encOf
  rw [if_neg (by simp), if_pos (by simp [chkL, uname_chk v h])]
  simp [encL]
theorem C_of_bytesAt {w w' : World} {v : Value} {l : List UInt8} (h : BytesAt w w' v l) (hl : l.length ≤ 9223372036854775807) : ∃ A c, v = .slice A l.length c ∧ l.length ≤ c ∧ Kd.C (Kd.int .u8) w' A l.length (l.map fun b => (b.toNat : Int)) := by
  obtain ⟨A, c, rfl, hc, h⟩ := h
  refine ⟨A, c, rfl, hc, by simp, hl, fun h0 => ?_⟩
  rcases h with rfl | ⟨g, cs, t, fr, rfl, hg, hh, hcs⟩
  · simp at h0
  · refine ⟨_, rfl, fun j p hp => ⟨[.int .u8 p], rfl, rfl, fun i u hu => ?_⟩⟩
    obtain rfl : i = 0 := by rcases i with _ | i; rfl; simp at hu
    have hj : j < l.length := by
      have := (List.getElem?_eq_some_iff.1 hp).1
      simpa using this
    have h3 := hcs j hj
    have hpv : p = ((l.getD j 0).toNat : Int) := by
      have h4 : (l.map fun b => (b.toNat : Int))[j]? = some ((l.getD j 0).toNat : Int) := by simp [hj]
      rw [h4] at hp
      exact (Option.some.inj hp).symm
    obtain rfl : u = .int .u8 p := by simpa using hu.symm
    have ea : (Addr.add ⟨g, 0, none⟩ (j * 1 + 0)) = ⟨g, j, none⟩ := by
      unfold Addr.add
      split
      · rename_i h; simp at h; rw [h]
      · simp
    show w'.cell? (Addr.add ⟨g, 0, none⟩ (j * 1 + 0)) = _
    rw [ea]
    unfold World.cell?
    rw [hh]
    simp only
    rw [hpv]
    simpa using h3
theorem recC_one (w : World) (k v : ByteArray) : RecC (w.alloc (.cells #[.string k, .string v] 66)) (some ⟨w.heap.size, 0, none⟩) [(k, v)] := by
  intro i hi
  have h0 : i = 0 := by simp at hi; omega
  subst h0
  have B := Blk.new w 66 #[.string k, .string v]
  exact ⟨w.heap.size, 0, rfl, B.lt, by simpa using B.cell 0, by simpa using B.cell 1⟩
theorem tl_nil {s : ByteArray} (h : s.toList = []) : s = ⟨#[]⟩ := str_of (by rw [h]; simp)
theorem enc_one (v : ByteArray) (hv : v.size ≤ 100) (n : Nat) (hn : (gBody v).length = n) (w : World) (he : EnvE w) :
    Calls Tryz.prog 26 #[.slice (some ⟨w.heap.size, 0, none⟩) 1 1] (w.alloc (.cells #[.string uname, .string v] 66)) (fun e w1 => ∃ A c, e = .returned (.tuple #[.slice A n c, .int .i64 0]) ∧ n ≤ c ∧ Kd.C (Kd.int .u8) w1 A n (gBody v) ∧ Below w.heap.size w w1) := by
  subst hn
  have hb0 : Below w.heap.size w (w.alloc (.cells #[.string uname, .string v] 66)) := below_alloc (Below.refl _ _) _
  have h := encode_any cany_any [(uname, v)] (some ⟨w.heap.size, 0, none⟩) 1 (w.alloc (.cells #[.string uname, .string v] 66)) (recC_one w uname v) (fun r hr => by rw [List.mem_singleton.1 hr]; exact ⟨by show 5 ≤ _; omega, by show v.size ≤ _; omega⟩) (he.below hb0)
  have hb := gBody_len v hv
  refine h.mono fun e w1 ⟨u, h1, h2, h3⟩ => ?_
  rw [gBody_enc v hv] at h1 h2
  have hl : (recT uname v).data.toList.length = (gBody v).length := by unfold gBody; rw [List.length_map]
  obtain ⟨A, c, hu, hc, hC⟩ := C_of_bytesAt h2 (by rw [hl]; omega)
  subst hu
  rw [hl] at h1 hc hC
  exact ⟨A, c, h1, hc, hC, below_next hb0 h3⟩
set_option maxHeartbeats 8000000 in
set_option maxRecDepth 100000 in
theorem rec_any (typ : Int) (v : ByteArray) (w : World) (he : EnvE w) (ht : typ = 120 ∨ typ = 103) (hv : v.size ≤ 100) :
    Calls Tryz.prog 25 #[.int .u8 typ, .string v] w (fun e w' => ∃ A c, e = .returned (.slice A (gRec typ v).length c) ∧ Kd.R (Kd.int .u8) 5 w' w.heap.size (fun _ => True) (.slice A (gRec typ v).length c) (gRec typ v) ∧ Below w.heap.size w w') := by
  have HE := Lib.hid he
  have hbl := gBody_len v hv
  obtain ⟨n, hn⟩ : ∃ n, (gBody v).length = n := ⟨_, rfl⟩
  have HEN := Lib.hid (enc_one v hv n hn w he)
  rw [hn] at hbl
  have HFIT : Hid (HdrFits ⟨#[112]⟩ ⟨#[]⟩ ⟨#[]⟩ ⟨#[]⟩ ⟨#[]⟩ typ 0 0 0 (n : Int) 0) := metaFits (by omega) (by omega) (by omega)
  have HG : Hid (gRec typ v = hdrL ⟨#[112]⟩ ⟨#[]⟩ ⟨#[]⟩ ⟨#[]⟩ ⟨#[]⟩ typ 0 0 0 (n : Int) 0 ++ gBody v ++ List.replicate ((512 - n % 512) % 512) 0) := by
    show gRec typ v = _
    unfold gRec
    rw [hn, List.append_assoc]
  have HN := Lib.hid hn
  have HBL := Lib.hid hbl
  have hn1 : (n : Int) ≤ 200 := by omega
  have hn0 : 0 < n := hbl.1
  clear he ht hv hn hbl
  go_enter Tryz.func25, Tryz.ntmps25
  go_upto_region 2 with (go_at_call 26; (with_reducible refine HEN.out.mono ?_); rintro e w1 ⟨A1, c1, rfl, hc1, hC1, hb1⟩; have HC1 := Lib.hid hC1; have HB1 := Lib.hid hb1; have HCC := Lib.hid hc1; clear hc1 hC1 hb1)
  go_upto_region 3 with (go_at_call 15; (with_reducible refine (head_any 0 ⟨#[112]⟩ ⟨#[]⟩ ⟨#[]⟩ ⟨#[]⟩ ⟨#[]⟩ typ 0 0 0 n 0 w1 HFIT.out).mono ?_); rintro e w2 ⟨v2, rfl, hR2, hb2⟩; have HR2 : Hid (Kd.R (Kd.int .u8) 5 w2 w1.heap.size (fun _ => True) v2 (hdrL ⟨#[112]⟩ ⟨#[]⟩ ⟨#[]⟩ ⟨#[]⟩ ⟨#[]⟩ typ 0 0 0 n 0)) := hR2; have HB2 := Lib.hid hb2; clear hR2 hb2)
  have HLN : Hid ((hdrL ⟨#[112]⟩ ⟨#[]⟩ ⟨#[]⟩ ⟨#[]⟩ ⟨#[]⟩ typ 0 0 0 (n : Int) 0).length = 512) := hdrL_length HFIT.out
  obtain ⟨H, hH⟩ : ∃ H, hdrL ⟨#[112]⟩ ⟨#[]⟩ ⟨#[]⟩ ⟨#[]⟩ ⟨#[]⟩ typ 0 0 0 (n : Int) 0 = H := ⟨_, rfl⟩
  rw [hH] at HR2 HG HLN
  have HC2 : Hid (Kd.C (Kd.int .u8) w2 A1 n (gBody v)) := Kd.C_below HC1.out HB2.out
  have HW2 : Hid (Below w1.heap.size w1 w2) := HB2.out
  have HS2 : Hid (w1.heap.size ≤ w2.heap.size) := HB2.out.size
  have HLE : Hid ((H.length + n) * 1 ≤ 140737488355328) := by have := HBL.out; show _ ≤ _; rw [HLN.out]; omega
  obtain ⟨P, hP⟩ : ∃ P, (512 - n % 512) % 512 = P := ⟨_, rfl⟩
  have HPE : Hid (((512 - (n : Int) % 512) % 512).toNat = P) := by show _ = _; omega
  have HPP : Hid (0 ≤ ((512 - (n : Int) % 512) % 512)) := by show 0 ≤ _; omega
  have HP := Lib.hid hP
  have HLE2 : Hid (((H ++ gBody v).length + P) * 1 ≤ 140737488355328) := by
    have := HBL.out
    have h2 := HP.out
    show _ ≤ _
    rw [List.length_append, HLN.out, HN.out]
    omega
  rw [hP] at HG
  clear hP hH HFIT HEN HB2
  go_wp2_with (first | (at_builtin; refine Kd.R_append_rows (Kd.int .u8) (Rr := (Kd.int .u8).K w2) (w0 := w1) (W := w2) w1.heap.size rfl (.tmp 24) (.tmp 25) 32 5 _ 1 rfl Tryz.underlying32 infoU8 rfl (by decide) (by decide) v2 H (gBody v) A1 n c1 _ (fun _ => False) rfl rfl HR2.out HC2.out (fun _ _ h => h) (fun _ hk => hk.elim) (fun _ _ => trivial) HW2.out HS2.out HLE.out ?_; intro v3 w3 ho3 hb3 hg3 hat3; have HO3 := Lib.hid ho3; have HB3 := Lib.hid hb3; clear ho3 hb3 hg3 hat3) | (at_builtin; refine Kd.R_append_zeros (Kd.int .u8) (w0 := w1) w1.heap.size rfl (.tmp 26) (.tmp 31) 32 3 5 _ 1 rfl Tryz.underlying32 Tryz.underlying3 infoU8 rfl (by decide) (by decide) v3 _ 0 ((512 - (n : Int) % 512) % 512) (fun _ => True) rfl rfl rfl (fun _ _ => trivial) HO3.out HPP.out HB3.out HB3.out.size (by rw [HPE.out]; exact HLE2.out) ?_; rw [HPE.out]; intro v5 w5 ho5 hb5 hg5 hat5; have HO5 := Lib.hid ho5; have HB5 := Lib.hid hb5; clear ho5 hb5 hg5 hat5))
  have hR5 : Kd.R (Kd.int .u8) 5 w5 w1.heap.size (fun _ => True) v5 (gRec typ v) := by
    rw [HG.out]
    exact HO5.out
  obtain ⟨A5, c5, hv5⟩ := Kd.R_slice hR5
  subst hv5
  go_ret
  exact ⟨A5, c5, rfl, Kd.R_lower hR5 HB1.out.size, below_next HB1.out HB5.out⟩
theorem gRec_n (typ : Int) (v : ByteArray) (ht : typ = 120 ∨ typ = 103) (hv : v.size ≤ 100) (w : World) (he : EnvE w) (n : Nat) (hn : (gRec typ v).length = n) :
    Calls Tryz.prog 25 #[.int .u8 typ, .string v] w (fun e w' => ∃ A c, e = .returned (.slice A n c) ∧ Kd.R (Kd.int .u8) 5 w' w.heap.size (fun _ => True) (.slice A n c) (gRec typ v) ∧ Below w.heap.size w w') := by
  subst hn
  exact rec_any typ v w he ht hv
set_option maxHeartbeats 8000000 in
set_option maxRecDepth 100000 in
theorem glob_main (n : Nat) (all own : ByteArray) (w : World) (he : EnvE w) (hg : w.cell? ⟨0, 0, none⟩ = some etype) (h1 : 1 ≤ n) (h8 : n ≤ 8) (za : all.size ≤ 100) (zo : own.size ≤ 100) (ha : all ≠ ⟨#[]⟩) (ho : own ≠ ⟨#[]⟩) :
    Calls Tryz.prog 10 #[.int .i64 (n : Int), .string all, .string own] w (Yes w) := by
  have HR := Lib.hid (reads_any w he)
  have HE := Lib.hid he
  have HG := Lib.hid hg
  have e1 : decide ((n : Int) < 1) = false := by simp; omega
  have e2 : decide ((8 : Int) < (n : Int)) = false := by simp; omega
  have e3 : decide ((100 : Int) < (all.size : Int)) = false := by simp; omega
  have e4 : decide ((100 : Int) < (own.size : Int)) = false := by simp; omega
  have ne : ∀ s : ByteArray, s ≠ ⟨#[]⟩ → s.toList.isEmpty = false := fun s hs => by
    cases h : s.toList with
    | nil => exact absurd (tl_nil h) hs
    | cons a l => rfl
  have e5 := ne all ha
  have e6 := ne own ho
  obtain ⟨n1, hn1⟩ : ∃ n1, (gRec 103 all).length = n1 := ⟨_, rfl⟩
  obtain ⟨n2, hn2⟩ : ∃ n2, (gRec 120 own).length = n2 := ⟨_, rfl⟩
  have HN1 := Lib.hid hn1
  have HN2 := Lib.hid hn2
  have HB1L : Hid (n1 ≤ 1300) := by have := (gRec_len 103 all (.inr rfl) za).1; show _ ≤ _; omega
  have HB2L : Hid (n2 ≤ 1300) := by have := (gRec_len 120 own (.inl rfl) zo).1; show _ ≤ _; omega
  have HARC := Lib.hid (glob_arc all own ha ho za zo n h1 h8)
  have HRNG : Hid (∀ x ∈ gRec 103 all ++ gRec 120 own ++ dHdrs n ++ List.replicate 1024 0, 0 ≤ x ∧ x < 256) := by
    intro x hx
    rcases List.mem_append.1 hx with h | h
    · rcases List.mem_append.1 h with h | h
      · rcases List.mem_append.1 h with h | h
        · exact gRec_range 103 all (.inr rfl) za x h
        · exact gRec_range 120 own (.inl rfl) zo x h
      · exact dHdrs_range n x h
    · rw [List.eq_of_mem_replicate h]; omega
  have C1 : Hid (∀ w1, EnvE w1 → Calls Tryz.prog 25 #[.int .u8 103, .string all] w1 (fun e w' => ∃ A c, e = .returned (.slice A n1 c) ∧ Kd.R (Kd.int .u8) 5 w' w1.heap.size (fun _ => True) (.slice A n1 c) (gRec 103 all) ∧ Below w1.heap.size w1 w')) := fun w1 he1 => gRec_n 103 all (.inr rfl) za w1 he1 n1 hn1
  have C2 : Hid (∀ w1, EnvE w1 → Calls Tryz.prog 25 #[.int .u8 120, .string own] w1 (fun e w' => ∃ A c, e = .returned (.slice A n2 c) ∧ Kd.R (Kd.int .u8) 5 w' w1.heap.size (fun _ => True) (.slice A n2 c) (gRec 120 own) ∧ Below w1.heap.size w1 w')) := fun w1 he1 => gRec_n 120 own (.inl rfl) zo w1 he1 n2 hn2
  have HN8 : Hid (1 ≤ n ∧ n ≤ 8) := ⟨h1, h8⟩
  clear he hg za zo ha ho ne hn1 hn2
  go_enter Tryz.func10, Tryz.ntmps10
  go_upto_region 6 with (first | (go_at_call 19; (with_reducible refine HR.out.mono ?_); rintro e w1 ⟨rfl, hb1⟩; have HB1 := Lib.hid hb1; clear hb1))
  clear HR e1 e2 e3 e4 e5 e6
  go_wp2_with fail
  refine (C1.out w1 (HE.out.below HB1.out)).mono ?_
  rintro e w2 ⟨A2, c2, rfl, hR2, hb2⟩
  have HR2 := Lib.hid hR2
  have HB2 := Lib.hid hb2
  clear hR2 hb2
  go_wp2_with fail
  refine (C2.out w2 (HE.out.below (below_next HB1.out HB2.out))).mono ?_
  rintro e w3 ⟨A3, c3, rfl, hR3, hb3⟩
  have HC3 : Hid (Kd.C (Kd.int .u8) w3 A3 n2 (gRec 120 own) ∧ n2 ≤ c3) := by
    obtain ⟨A', c', hv, hl, hc⟩ := Kd.R_reads hR3
    rw [HN2.out] at hv hl hc
    injection hv with ha _ hcc
    rw [ha, hcc]
    exact ⟨hc, hl⟩
  have HR2' : Hid (Kd.R (Kd.int .u8) 5 w3 w1.heap.size (fun _ => True) (.slice A2 n1 c2) (gRec 103 all)) := Kd.R_below HR2.out hb3
  have HB13 : Hid (Below w1.heap.size w1 w3) := below_next HB2.out hb3
  have HS13 : Hid (w1.heap.size ≤ w3.heap.size) := HB13.out.size
  have HLE : Hid (((gRec 103 all).length + n2) * 1 ≤ 140737488355328) := by
    have h1 := HB1L.out
    have h2 := HB2L.out
    show _ ≤ _
    rw [HN1.out]
    omega
  clear hR3 hb3 C1 C2 HR2
  go_wp2_with (at_builtin; refine Kd.R_append_rows (Kd.int .u8) (Rr := (Kd.int .u8).K w3) (w0 := w1) (W := w3) w1.heap.size rfl (.tmp 43) (.tmp 46) 32 5 _ 1 rfl Tryz.underlying32 infoU8 rfl (by decide) (by decide) (.slice A2 n1 c2) (gRec 103 all) (gRec 120 own) A3 n2 c3 _ (fun _ => False) rfl rfl HR2'.out HC3.out.1 (fun _ _ h => h) (fun _ hk => hk.elim) (fun _ _ => trivial) HB13.out HS13.out HLE.out ?_; intro v4 w4 ho4 hb4 hg4 hat4; have HO4 := Lib.hid ho4; have HB4 := Lib.hid hb4; clear ho4 hb4 hg4 hat4)
  obtain ⟨L0, hL0⟩ : ∃ L0, n1 + n2 = L0 := ⟨_, rfl⟩
  have HL0 := Lib.hid hL0
  obtain ⟨A4, c4, hv4⟩ := Kd.R_slice HO4.out
  have hv4e : v4 = .slice A4 L0 c4 := hv4.trans (congrArg (fun z => Value.slice A4 z c4) (by rw [List.length_append, HN1.out, HN2.out, hL0]))
  clear hv4 hL0
  subst hv4e
  have R0 : Aside0 (Kd.R (Kd.int .u8) 5 w4 w1.heap.size (fun _ => True) (.slice A4 L0 c4) (gRec 103 all ++ gRec 120 own ++ dHdrs 0) ∧ Below w1.heap.size w1 w4) := ⟨by simpa [dHdrs] using HO4.out, HB4.out⟩
  have HDL : Hid (dHdr.length = 512) := hdrL_length dirFits
  clear HO4 HB4 HR2' HB13 HS13 HLE HC3 HB2
  go_loopg [8, 49] n (fun gk v8 v49 wr => ∃ (k : Nat) (A' : Option Addr) (nl c' : Nat), k + gk = n ∧ nl = L0 + 512 * k ∧ v49 = .int .i64 k ∧ v8 = .slice A' nl c' ∧ Aside0 (Kd.R (Kd.int .u8) 5 wr w1.heap.size (fun _ => True) (.slice A' nl c') (gRec 103 all ++ gRec 120 own ++ dHdrs k) ∧ Below w1.heap.size w1 wr))
  case atStart => exact ⟨0, A4, L0, c4, by omega, rfl, rfl, rfl, R0⟩
  case round =>
    clear R0
    obtain ⟨k, A', nl, c', hk, hnl, rfl, rfl, HL⟩ := hrel
    have hLb : L0 ≤ 2600 := by have h0 := HL0.out; have h1 := HB1L.out; have h2 := HB2L.out; omega
    have hn8 := HN8.out
    by_cases hlt : k < n
    · have HK := Lib.hid hk
      have HNLK := Lib.hid hnl
      have HLT := Lib.hid hlt
      have hnl2 : nl ≤ 10000 := by omega
      have HNL2 := Lib.hid hnl2
      clear hk hnl hLb hn8
      go_upto_region 10 with (go_at_call 15; (with_reducible refine (head_any 0 ⟨#[97]⟩ ⟨#[]⟩ ⟨#[]⟩ ⟨#[117]⟩ ⟨#[]⟩ 53 0 0 0 0 0 wr dirFits).mono ?_); rintro e w5 ⟨v5, rfl, hR5, hb5⟩; have HR5 : Hid (Kd.R (Kd.int .u8) 5 w5 wr.heap.size (fun _ => True) v5 dHdr) := hR5; have HB5 := Lib.hid hb5; clear hR5 hb5)
      obtain ⟨A5, c5, hv5, hl5, hc5⟩ := Kd.R_reads HR5.out
      rw [HDL.out] at hv5 hl5 hc5
      subst hv5
      have HC5 := Lib.hid hc5
      have HRL : Hid (Kd.R (Kd.int .u8) 5 w5 w1.heap.size (fun _ => True) (.slice A' nl c') (gRec 103 all ++ gRec 120 own ++ dHdrs k)) := Kd.R_below HL.out.1 HB5.out
      have HB15 : Hid (Below w1.heap.size w1 w5) := below_then HL.out.2 HL.out.2.size HB5.out
      have HS15 : Hid (w1.heap.size ≤ w5.heap.size) := HB15.out.size
      have HLEN : Hid ((gRec 103 all ++ gRec 120 own ++ dHdrs k).length = nl) := by
        show _ = _
        rw [List.length_append, List.length_append, HN1.out, HN2.out, dHdrs_len, HNLK.out, ← HL0.out]
      have HLE : Hid (((gRec 103 all ++ gRec 120 own ++ dHdrs k).length + 512) * 1 ≤ 140737488355328) := by
        have := HNL2.out
        show _ ≤ _
        rw [HLEN.out]
        omega
      clear hc5 hl5 HR5
      go_wp2_with (at_builtin; refine Kd.R_append_rows (Kd.int .u8) (Rr := (Kd.int .u8).K w5) (w0 := w1) (W := w5) w1.heap.size rfl (.tmp 56) (.tmp 57) 32 5 _ 1 rfl Tryz.underlying32 infoU8 rfl (by decide) (by decide) (.slice A' nl c') (gRec 103 all ++ gRec 120 own ++ dHdrs k) dHdr A5 512 c5 _ (fun _ => False) rfl rfl HRL.out HC5.out (fun _ _ h => h) (fun _ hk => hk.elim) (fun _ _ => trivial) HB15.out HS15.out HLE.out ?_; intro v6 w6 ho6 hb6 hg6 hat6; have HO6 := Lib.hid ho6; have HB6 := Lib.hid hb6; clear ho6 hb6 hg6 hat6)
      obtain ⟨A6, c6, hv6⟩ := Kd.R_slice HO6.out
      go_roundg (gk - 1)
      case measure => have := HK.out; have := HLT.out; omega
      case rel =>
        have hr6 := HO6.out
        have e6 : gRec 103 all ++ gRec 120 own ++ dHdrs k ++ dHdr = gRec 103 all ++ gRec 120 own ++ dHdrs (k + 1) := by rw [dHdrs_snoc, List.append_assoc]
        have hl6 : (gRec 103 all ++ gRec 120 own ++ dHdrs k ++ dHdr).length = nl + 512 := by rw [List.length_append, HLEN.out, HDL.out]
        rw [hl6] at hv6
        rw [e6] at hr6
        rw [hv6] at hr6
        exact ⟨k + 1, A6, nl + 512, c6, by have := HK.out; have := HLT.out; omega, by rw [HNLK.out]; omega, by rw [Int.natCast_add]; rfl, hv6, ⟨hr6, HB6.out⟩⟩
    · obtain rfl : k = n := by omega
      have HLEN : Hid ((gRec 103 all ++ gRec 120 own ++ dHdrs k).length = nl) := by
        show _ = _
        rw [List.length_append, List.length_append, HN1.out, HN2.out, dHdrs_len, hnl, ← HL0.out]
      have hnl2 : nl ≤ 10000 := by omega
      have HNL2 := Lib.hid hnl2
      have HLE : Hid (((gRec 103 all ++ gRec 120 own ++ dHdrs k).length + 1024) * 1 ≤ 140737488355328) := by
        show _ ≤ _
        rw [HLEN.out]
        omega
      clear hk hnl hLb hlt hn8
      go_wp2_with (at_builtin; refine Kd.R_append_zeros (Kd.int .u8) (w0 := w1) w1.heap.size rfl (.tmp 61) (.const (.int .i64 1024)) 32 3 5 _ 1 rfl Tryz.underlying32 Tryz.underlying3 infoU8 rfl (by decide) (by decide) (.slice A' nl c') _ 0 1024 (fun _ => True) rfl rfl rfl (fun _ _ => trivial) HL.out.1 (by decide) HL.out.2 HL.out.2.size HLE.out ?_; intro v5 w5 ho5 hb5 hg5 hat5; have HO5 := Lib.hid ho5; have HB5 := Lib.hid hb5; clear ho5 hb5 hg5 hat5)
      have HO6 : Kd.R (Kd.int .u8) 5 w5 w1.heap.size (fun _ => True) v5 (gRec 103 all ++ gRec 120 own ++ dHdrs k ++ List.replicate 1024 0) := HO5.out
      have hb05 : Below w.heap.size w w5 := below_next HB1.out HB5.out
      have hlb : (gRec 103 all ++ gRec 120 own ++ dHdrs k ++ List.replicate 1024 0).length ≤ 100000 := by
        rw [List.length_append, HLEN.out, List.length_replicate]
        omega
      obtain ⟨ts, harc, hts, hus⟩ := HARC.out
      have hbl := HRNG.out
      have hC5 := Kd.R_reads HO6
      obtain ⟨LIST, hLIST⟩ : ∃ L, gRec 103 all ++ gRec 120 own ++ dHdrs k ++ List.replicate 1024 0 = L := ⟨_, rfl⟩
      rw [hLIST] at harc hbl hlb hC5
      have HFD : Hid (Calls Tryz.prog 20 #[v5, .slice none 0 0] w5 (fun e w' => ∃ A6 c6, e = .returned (.tuple #[.agg #[.slice A6 k c6, .bool true, .int .i64 0, .int .i64 0], .bool true]) ∧ Kd.R kThg 57 w' w5.heap.size (fun _ => True) (.slice A6 k c6) ts ∧ Below w5.heap.size w5 w')) := by
        obtain ⟨A5', c5', e5', hle5, hC⟩ := hC5
        rw [e5']
        have h := fed_nil A5' c5' LIST.length LIST w5 w5 (HE.out.below hb05) (et_below HE.out hb05 HG.out) (Below.refl _ _) hC rfl hle5 hbl hlb
        refine h.mono fun e w' ⟨v, a, r, b⟩ => ?_
        rw [harc] at a r
        obtain ⟨A6, c6, hv6⟩ := Kd.R_slice r
        rw [hts] at hv6
        subst hv6
        exact ⟨A6, c6, a, r, b⟩
      have HB05 := Lib.hid hb05
      have HTS := Lib.hid hts
      have HUS := Lib.hid hus
      clear HO5 HO6 hb05 harc hbl hlb hC5 hLIST HL HLE hts hus HARC HRNG
      go_upto_region 13 with (go_at_call 20; (with_reducible refine HFD.out.mono ?_); rintro e w6 ⟨A6, c6, rfl, hR6, hb6⟩; have HR6 := Lib.hid hR6; have HB6 := Lib.hid hb6; clear hR6 hb6)
      have B9 := Blk.new w6 49 #[.slice A6 k c6, .bool true, .int .i64 0, .int .i64 0]
      have S7 : Aside0 (Kd.R kThg 57 (w6.alloc (.cells #[.slice A6 k c6, .bool true, .int .i64 0, .int .i64 0] 49)) w5.heap.size (fun _ => True) (.slice A6 k c6) ts ∧
          Below w.heap.size w (w6.alloc (.cells #[.slice A6 k c6, .bool true, .int .i64 0, .int .i64 0] 49))) := ⟨Kd.R_alloc HR6.out _, below_next (below_next HB05.out HB6.out) (below_alloc (Below.refl _ _) _)⟩
      have B9 := Aside0.mk B9
      obtain ⟨g9, hg9⟩ : ∃ g, w6.heap.size = g := ⟨_, rfl⟩
      rw [hg9] at B9 ⊢
      clear hg9 HR6 HB6 HFD
      generalize w6.alloc _ = W7 at B9 S7 ⊢
      have q0 := B9.out.cell 0
      have q1 := B9.out.cell 1
      have hl9 := B9.out.lt
      simp only [List.getElem?_toArray, List.getElem?_cons_zero, List.getElem?_cons_succ] at q0 q1
      go_wp2_with fail
      go_loopg [83] k (fun gk v83 wr => ∃ j : Nat, j + gk = k ∧ v83 = .int .i64 j ∧ Aside0 (Below W7.heap.size W7 wr))
      case atStart => exact ⟨0, by omega, rfl, ⟨Below.refl _ _⟩⟩
      case round =>
        obtain ⟨j, hj, rfl, HB⟩ := hrel
        clear q0 q1 hl9
        by_cases hlt : j < k
        · have R1 := Kd.R_below S7.out.1 HB.out
          obtain ⟨G1, cap1, hv1, _, hgl1, _⟩ := Kd.R_form R1 (by rw [HTS.out]; omega)
          rw [HTS.out] at hv1
          injection hv1 with hA1 _ hcap1
          subst hA1
          have ht1 : ts[j]? = some (ts[j]'(by rw [HTS.out]; exact hlt)) := List.getElem?_eq_getElem _
          obtain ⟨t, htt⟩ : ∃ t, (ts[j]'(by rw [HTS.out]; exact hlt)) = t := ⟨_, rfl⟩
          rw [htt] at ht1
          have hu := HUS.out j t ht1
          obtain ⟨y0, y1, y2, y3, y4, y5, y6, y7, y8, y9, y10, y11, y12⟩ := th_facts R1 j t ht1 t.en (strOfNums t.data) rfl rfl
          rw [hu] at y8
          have hjb : j ≤ 9223372036854775806 := by have := HN8.out; omega
          have HJ := Lib.hid hj
          have HLT := Lib.hid hlt
          clear hcap1 htt R1 ht1 hu hj
          by_cases hj0 : j = 0
          · have f1 : ((j : Int) == 0) = true := by simpa using hj0
            have f2 : decide ((0 : Int) < (j : Int)) = false := by simp; omega
            have f3 : decide (0 < j) = false := by simp; omega
            rw [if_pos hj0] at y8
            have HJ0 := Lib.hid hj0
            clear hj0
            go_wp2_with fail
            go_roundg (gk - 1)
            case measure => have := HJ.out; have := HLT.out; omega
            case rel => exact ⟨j + 1, by have := HJ.out; have := HLT.out; omega, by rw [Int.natCast_add]; rfl, ⟨below_alloc HB.out _⟩⟩
          · have f1 : ((j : Int) == 0) = false := by simpa using hj0
            have f2 : decide ((0 : Int) < (j : Int)) = true := by simp; omega
            have f3 : decide (0 < j) = true := by simp; omega
            rw [if_neg hj0] at y8
            have HJ0 := Lib.hid hj0
            clear hj0
            go_wp2_with fail
            go_roundg (gk - 1)
            case measure => have := HJ.out; have := HLT.out; omega
            case rel => exact ⟨j + 1, by have := HJ.out; have := HLT.out; omega, by rw [Int.natCast_add]; rfl, ⟨below_alloc HB.out _⟩⟩
        · clear hj
          go_wp2_with fail
          go_ret
          exact ⟨rfl, below_next S7.out.2 HB.out⟩
set_option maxHeartbeats 8000000 in
set_option maxRecDepth 100000 in
theorem glob_early (n : Int) (all own : ByteArray) (w : World) (he : EnvE w) (h : n < 1 ∨ 8 < n ∨ 100 < all.size ∨ 100 < own.size ∨ all = ⟨#[]⟩ ∨ own = ⟨#[]⟩) :
    Calls Tryz.prog 10 #[.int .i64 n, .string all, .string own] w (Yes w) := by
  have HR := Lib.hid (reads_any w he)
  have ne : ∀ s : ByteArray, s ≠ ⟨#[]⟩ → s.toList.isEmpty = false := fun s hs => by
    cases h : s.toList with
    | nil => exact absurd (tl_nil h) hs
    | cons a l => rfl
  have ee : ∀ s : ByteArray, s = ⟨#[]⟩ → s.toList.isEmpty = true := fun s hs => by rw [hs]; simp
  have NE := Lib.hid ne
  have EE := Lib.hid ee
  clear he ne ee
  by_cases h1 : n < 1
  · have e1 : decide (n < 1) = true := by simpa using h1
    clear h
    go_enter Tryz.func10, Tryz.ntmps10
    go_wp2_with (go_at_call 19; (with_reducible refine HR.out.mono ?_); rintro e w1 ⟨rfl, hb1⟩; have HB1 := Lib.hid hb1; clear hb1)
    go_ret
    exact ⟨rfl, HB1.out⟩
  have e1 : decide (n < 1) = false := by simpa using h1
  by_cases h2 : 8 < n
  · have e2 : decide (8 < n) = true := by simpa using h2
    clear h
    go_enter Tryz.func10, Tryz.ntmps10
    go_wp2_with (go_at_call 19; (with_reducible refine HR.out.mono ?_); rintro e w1 ⟨rfl, hb1⟩; have HB1 := Lib.hid hb1; clear hb1)
    go_ret
    exact ⟨rfl, HB1.out⟩
  have e2 : decide (8 < n) = false := by simpa using h2
  by_cases h3 : 100 < all.size
  · have e3 : decide ((100 : Int) < (all.size : Int)) = true := by simp; omega
    clear h
    go_enter Tryz.func10, Tryz.ntmps10
    go_wp2_with (go_at_call 19; (with_reducible refine HR.out.mono ?_); rintro e w1 ⟨rfl, hb1⟩; have HB1 := Lib.hid hb1; clear hb1)
    go_ret
    exact ⟨rfl, HB1.out⟩
  have e3 : decide ((100 : Int) < (all.size : Int)) = false := by simp; omega
  by_cases h4 : 100 < own.size
  · have e4 : decide ((100 : Int) < (own.size : Int)) = true := by simp; omega
    clear h
    go_enter Tryz.func10, Tryz.ntmps10
    go_wp2_with (go_at_call 19; (with_reducible refine HR.out.mono ?_); rintro e w1 ⟨rfl, hb1⟩; have HB1 := Lib.hid hb1; clear hb1)
    go_ret
    exact ⟨rfl, HB1.out⟩
  have e4 : decide ((100 : Int) < (own.size : Int)) = false := by simp; omega
  by_cases h5 : all = ⟨#[]⟩
  · have e5 := EE.out all h5
    clear h h5
    go_enter Tryz.func10, Tryz.ntmps10
    go_wp2_with (go_at_call 19; (with_reducible refine HR.out.mono ?_); rintro e w1 ⟨rfl, hb1⟩; have HB1 := Lib.hid hb1; clear hb1)
    go_ret
    exact ⟨rfl, HB1.out⟩
  have e5 := NE.out all h5
  have h6 : own = ⟨#[]⟩ := by
    rcases h with h | h | h | h | h | h
    · exact absurd h h1
    · exact absurd h h2
    · exact absurd h h3
    · exact absurd h h4
    · exact absurd h h5
    · exact h
  have e6 := EE.out own h6
  clear h h5 h6
  go_enter Tryz.func10, Tryz.ntmps10
  go_wp2_with (go_at_call 19; (with_reducible refine HR.out.mono ?_); rintro e w1 ⟨rfl, hb1⟩; have HB1 := Lib.hid hb1; clear hb1)
  go_ret
  exact ⟨rfl, HB1.out⟩
theorem glob_any (n : Int) (all own : ByteArray) (w : World) (he : EnvE w) (hg : w.cell? ⟨0, 0, none⟩ = some etype) :
    Calls Tryz.prog 10 #[.int .i64 n, .string all, .string own] w (Yes w) := by
  by_cases h : n < 1 ∨ 8 < n ∨ 100 < all.size ∨ 100 < own.size ∨ all = ⟨#[]⟩ ∨ own = ⟨#[]⟩
  · exact glob_early n all own w he h
  · simp only [not_or] at h
    obtain ⟨h1, h2, h3, h4, h5, h6⟩ := h
    obtain ⟨m, rfl⟩ : ∃ m : Nat, n = (m : Int) := ⟨n.toNat, by omega⟩
    exact glob_main m all own w he hg (by omega) (by omega) (by omega) (by omega) h5 h6
end Go.Proofs.YtpbpfngichfgeaaGreatDoor
