/-
  PushBytes, walked.
-/
import Derived.Test.YtpbpfngichfgeaaGreatDoorFedA
import Derived.Test.YtpbpfngichfgeaaGreatDoorEndsW
namespace Go.Proofs.YtpbpfngichfgeaaGreatDoor
set_option linter.unusedVariables false
set_option linter.unusedSectionVars false
set_option linter.unusedSimpArgs false
set_option linter.unnecessarySimpa false
open Go Go.RowKit Go.Proofs.YtpbpfngichfgeaaGreatDoorW.PrintWords Go.Proofs.YtpbpfngichfgeaaGreatDoorW.PrintLast Go.Proofs.YtpbpfngichfgeaaGreatDoorW.PrintMore

theorem C_lit1u (W : World) (x : Int) : Kd.C (Kd.int .u8) (W.alloc (.cells #[.int .u8 x] 5)) (some ⟨W.heap.size, 0, none⟩) 1 [x] := by
  refine ⟨rfl, by decide, fun _ => ⟨_, rfl, fun j p hp => ?_⟩⟩
  have hj : j = 0 := by rcases j with _ | j; rfl; simp at hp
  subst hj
  obtain rfl : x = p := by simpa using hp
  refine ⟨[.int .u8 x], rfl, rfl, fun i u hu => ?_⟩
  have hi : i = 0 := by rcases i with _ | i; rfl; simp at hu
  subst hi
  obtain rfl : Value.int .u8 x = u := by simpa using hu
  show (W.alloc (.cells #[.int .u8 x] 5)).cell? (Addr.add ⟨W.heap.size, 0, none⟩ 0) = _
  have := (Blk.new W 5 #[.int .u8 x]).cell 0
  simpa [Addr.add] using this
set_option maxHeartbeats 8000000 in
set_option maxRecDepth 100000 in
theorem bytes_early (A B : Option Addr) (n c m d : Nat) (f : Int) (w : World) (he : EnvE w) (h : 5000 < n ∨ 100 < m) : Calls Tryz.prog 7 #[.slice A n c, .int .u8 f, .slice B m d] w (Yes w) := by
  have HR := Lib.hid (reads_any w he)
  clear he
  by_cases hn : 5000 < n
  · have e1 : decide ((5000 : Int) < (n : Int)) = true := by simp; omega
    clear h
    go_enter Tryz.func7, Tryz.ntmps7
    go_wp2_with (go_at_call 19; (with_reducible refine HR.out.mono ?_); rintro e w1 ⟨rfl, hb1⟩; have HB1 := Lib.hid hb1; clear hb1)
    go_ret
    exact ⟨rfl, HB1.out⟩
  · have e1 : decide ((5000 : Int) < (n : Int)) = false := by simp; omega
    have e2 : decide ((100 : Int) < (m : Int)) = true := by simp; omega
    clear h
    go_enter Tryz.func7, Tryz.ntmps7
    go_wp2_with (go_at_call 19; (with_reducible refine HR.out.mono ?_); rintro e w1 ⟨rfl, hb1⟩; have HB1 := Lib.hid hb1; clear hb1)
    go_ret
    exact ⟨rfl, HB1.out⟩
def fHdr (n : Nat) : List Int := hdrL ⟨#[97]⟩ ⟨#[]⟩ ⟨#[]⟩ ⟨#[]⟩ ⟨#[]⟩ 48 0 0 0 n 0
set_option maxHeartbeats 8000000 in
set_option maxRecDepth 100000 in
theorem bytes_main (A B : Option Addr) (c d : Nat) (xs cuts : List Int) (f : Int) (w : World) (he : EnvE w) (hg : w.cell? ⟨0, 0, none⟩ = some etype) (hx : Kd.C (Kd.int .u8) w A xs.length xs) (hy : Kd.C (Kd.int .i64) w B cuts.length cuts) (hxc : xs.length ≤ c) (hyc : cuts.length ≤ d) (hxb : ∀ x ∈ xs, 0 ≤ x ∧ x < 256) (hf : 0 ≤ f ∧ f < 256) (hxl : xs.length ≤ 5000) (hyl : cuts.length ≤ 100) :
    Calls Tryz.prog 7 #[.slice A xs.length c, .int .u8 f, .slice B cuts.length d] w (Yes w) := by
  have HR := Lib.hid (reads_any w he)
  have HE := Lib.hid he
  have HG := Lib.hid hg
  have HX := Lib.hid hx
  have HY := Lib.hid hy
  have HXC := Lib.hid hxc
  have HYC := Lib.hid hyc
  have HXB := Lib.hid hxb
  have HFB := Lib.hid hf
  have HYL := Lib.hid hyl
  obtain ⟨n, hn⟩ : ∃ n, xs.length = n := ⟨_, rfl⟩
  obtain ⟨m, hm⟩ : ∃ m, cuts.length = m := ⟨_, rfl⟩
  rw [hn] at hxl HX HXC ⊢
  rw [hm] at hyl HY HYC ⊢
  have HN := Lib.hid hn
  have HM := Lib.hid hm
  have HNL := Lib.hid hxl
  have HML := Lib.hid hyl
  have HFIT : Hid (HdrFits ⟨#[97]⟩ ⟨#[]⟩ ⟨#[]⟩ ⟨#[]⟩ ⟨#[]⟩ 48 0 0 0 (n : Int) 0) := fileFits (by decide +kernel) (by omega) (by omega) (by omega)
  have e1 : decide ((5000 : Int) < (n : Int)) = false := by simp; omega
  have e2 : decide ((100 : Int) < (m : Int)) = false := by simp; omega
  clear he hg hx hy hxc hyc hxb hf hn hm
  go_enter Tryz.func7, Tryz.ntmps7
  go_upto_region 8 with (first | (go_at_call 19; (with_reducible refine HR.out.mono ?_); rintro e w1 ⟨rfl, hb1⟩; have HB1 := Lib.hid hb1; clear hb1) | (go_at_call 15; (with_reducible refine (head_any 0 ⟨#[97]⟩ ⟨#[]⟩ ⟨#[]⟩ ⟨#[]⟩ ⟨#[]⟩ 48 0 0 0 n 0 w1 HFIT.out).mono ?_); rintro e w2 ⟨v2, rfl, hR2, hb2⟩; have HR2 : Hid (Kd.R (Kd.int .u8) 5 w2 w1.heap.size (fun _ => True) v2 (fHdr n)) := hR2; have HB2 := Lib.hid hb2; clear hR2 hb2))
  have HLN : Hid ((fHdr n).length = 512) := hdrL_length HFIT.out
  have HC2 : Hid (Kd.C (Kd.int .u8) w2 A n xs) := Kd.C_below HX.out (below_next HB1.out HB2.out)
  have HS2 : Hid (w1.heap.size ≤ w2.heap.size) := HB2.out.size
  have HLE : Hid (((fHdr n).length + n) * 1 ≤ 140737488355328) := by have := HNL.out; show _ ≤ _; rw [HLN.out]; omega
  clear HR e1 e2
  go_wp2_with (at_builtin; refine Kd.R_append_rows (Kd.int .u8) (Rr := (Kd.int .u8).K w2) (w0 := w1) (W := w2) w1.heap.size rfl (.tmp 30) (.tmp 31) 32 5 _ 1 rfl Tryz.underlying32 infoU8 rfl (by decide) (by decide) v2 (fHdr n) xs A n c _ (fun _ => False) rfl rfl HR2.out HC2.out (fun _ _ h => h) (fun _ hk => hk.elim) (fun _ _ => trivial) HB2.out HS2.out HLE.out ?_; intro v3 w3 ho3 hb3 hg3 hat3; have HO3 := Lib.hid ho3; have HB3 := Lib.hid hb3; clear ho3 hb3 hg3 hat3)
  obtain ⟨P, hP⟩ : ∃ P, (512 - n % 512) % 512 = P := ⟨_, rfl⟩
  obtain ⟨A3, c3, hv3⟩ := Kd.R_slice HO3.out
  have hv3e : v3 = .slice A3 (512 + n) c3 := hv3.trans (congrArg (fun z => Value.slice A3 z c3) (by rw [List.length_append, HLN.out, HN.out]))
  clear hv3
  subst hv3e
  have HPH := Lib.hid hP
  have R0 : Aside0 (Kd.R (Kd.int .u8) 5 w3 w1.heap.size (fun _ => True) (.slice A3 (512 + n) c3) (fHdr n ++ (xs ++ List.replicate 0 f)) ∧ Below w1.heap.size w1 w3) := ⟨by simpa using HO3.out, HB3.out⟩
  clear HR2 HB2 HC2 HS2 HLE HO3 HB3 hP
  go_loopg [7] P (fun gk v7 wr => ∃ (k : Nat) (A' : Option Addr) (nl c' : Nat), k + gk = P ∧ nl = 512 + n + k ∧ v7 = .slice A' nl c' ∧ Aside0 (Kd.R (Kd.int .u8) 5 wr w1.heap.size (fun _ => True) (.slice A' nl c') (fHdr n ++ (xs ++ List.replicate k f)) ∧ Below w1.heap.size w1 wr))
  case atStart => exact ⟨0, A3, 512 + n, c3, by omega, rfl, rfl, R0⟩
  case round =>
    clear R0
    obtain ⟨k, A', nl, c', hk, hnl, rfl, HL⟩ := hrel
    have hPb := HPH.out
    have hnb := HNL.out
    have hnl2 : nl ≤ 10000 := by omega
    by_cases hlt : k < P
    · have e5 : ((nl : Int) % 512 != 0) = true := by
        have : (nl : Int) % 512 ≠ 0 := by omega
        simpa using this
      have HK := Lib.hid hk
      have HNLK := Lib.hid hnl
      have HLT := Lib.hid hlt
      have HLE : Hid (((fHdr n ++ (xs ++ List.replicate k f)).length + 1) * 1 ≤ 140737488355328) := by
        show _ ≤ _
        rw [List.length_append, List.length_append, HLN.out, HN.out, List.length_replicate]
        omega
      have HSZ : Hid (w1.heap.size ≤ (wr.alloc (.cells #[.int .u8 f] 5)).heap.size) := Nat.le_trans HL.out.2.size (below_alloc (Below.refl _ _) _).size
      clear hk hnl hPb hlt
      go_wp2_with (at_builtin; refine Kd.R_append_rows (Kd.int .u8) (Rr := (Kd.int .u8).K (wr.alloc (.cells #[.int .u8 f] 5))) (w0 := w1) (W := wr.alloc (.cells #[.int .u8 f] 5)) w1.heap.size rfl (.tmp 37) (.tmp 39) 32 5 _ 1 rfl Tryz.underlying32 infoU8 rfl (by decide) (by decide) (.slice A' nl c') (fHdr n ++ (xs ++ List.replicate k f)) [f] (some ⟨wr.heap.size, 0, none⟩) 1 1 _ (fun _ => False) rfl rfl (Kd.R_alloc HL.out.1 _) (C_lit1u wr f) (fun _ _ h => h) (fun _ hk => hk.elim) (fun _ _ => trivial) (below_then HL.out.2 HL.out.2.size (below_alloc (Below.refl _ _) _)) HSZ.out HLE.out ?_; intro v4 w4 ho4 hb4 hg4 hat4; have HO4 := Lib.hid ho4; have HB4 := Lib.hid hb4; clear ho4 hb4 hg4 hat4)
      obtain ⟨A4, c4, hv4⟩ := Kd.R_slice HO4.out
      go_roundg (gk - 1)
      case measure => have := HK.out; have := HLT.out; omega
      case rel =>
        have hr4 := HO4.out
        have hle4 : (fHdr n ++ (xs ++ List.replicate k f) ++ [f]) = fHdr n ++ (xs ++ List.replicate (k + 1) f) := by rw [List.replicate_succ', List.append_assoc, List.append_assoc]
        rw [hle4] at hr4 hv4
        have hlen4 : (fHdr n ++ (xs ++ List.replicate (k + 1) f)).length = nl + 1 := by
          rw [List.length_append, List.length_append, HLN.out, HN.out, List.length_replicate, HNLK.out]
          omega
        rw [hlen4] at hv4
        rw [hv4] at hr4
        exact ⟨k + 1, A4, nl + 1, c4, by have := HK.out; have := HLT.out; omega, by rw [HNLK.out]; omega, hv4, ⟨hr4, HB4.out⟩⟩
    · have hkP : k = P := by omega
      have e5 : ((nl : Int) % 512 != 0) = false := by
        have : (nl : Int) % 512 = 0 := by omega
        simpa using this
      have HLE : Hid (((fHdr n ++ (xs ++ List.replicate k f)).length + 1024) * 1 ≤ 140737488355328) := by
        show _ ≤ _
        rw [List.length_append, List.length_append, HLN.out, HN.out, List.length_replicate]
        omega
      have HKP := Lib.hid hkP
      have HNLK := Lib.hid hnl
      clear hk hnl hPb hlt hkP
      go_wp2_with (at_builtin; refine Kd.R_append_zeros (Kd.int .u8) (w0 := w1) w1.heap.size rfl (.tmp 42) (.const (.int .i64 1024)) 32 3 5 _ 1 rfl Tryz.underlying32 Tryz.underlying3 infoU8 rfl (by decide) (by decide) (.slice A' nl c') _ 0 1024 (fun _ => True) rfl rfl rfl (fun _ _ => trivial) HL.out.1 (by decide) HL.out.2 HL.out.2.size HLE.out ?_; intro v5 w5 ho5 hb5 hg5 hat5; have HO5 := Lib.hid ho5; have HB5 := Lib.hid hb5; clear ho5 hb5 hg5 hat5)
      have HO6 : Kd.R (Kd.int .u8) 5 w5 w1.heap.size (fun _ => True) v5 (fHdr n ++ (xs ++ List.replicate k f) ++ List.replicate 1024 0) := HO5.out
      have hb05 : Below w.heap.size w w5 := below_next HB1.out HB5.out
      have hll : (fHdr n ++ (xs ++ List.replicate k f) ++ List.replicate 1024 0).length = nl + 1024 := by
        rw [List.length_append, List.length_append, List.length_append, HLN.out, HN.out, List.length_replicate, List.length_replicate, HNLK.out]
        omega
      have harc : arcOf (fHdr n ++ (xs ++ List.replicate k f) ++ List.replicate 1024 0) = ⟨[⟨⟨⟨#[97]⟩, ⟨#[]⟩, 1, 0, 0, 0, 0, n, ⟨#[]⟩, ⟨#[]⟩⟩, xs, true, 512 + n⟩], true, 0, 0, false, true⟩ := by
        have h := bytes_arc xs (List.replicate k f) HXB.out (fun x hx => by rw [List.eq_of_mem_replicate hx]; exact HFB.out) (by rw [HN.out]; exact HNL.out) (by rw [List.length_replicate, HN.out]; unfold padOf; have := HKP.out; have := HPH.out; omega)
        rw [HN.out] at h
        exact h
      have hbl : ∀ x ∈ fHdr n ++ (xs ++ List.replicate k f) ++ List.replicate 1024 0, 0 ≤ x ∧ x < 256 := by
        intro x hx
        rcases List.mem_append.1 hx with h | h
        · rcases List.mem_append.1 h with h | h
          · exact hdrL_range HFIT.out x h
          · rcases List.mem_append.1 h with h | h
            · exact HXB.out x h
            · rw [List.eq_of_mem_replicate h]; exact HFB.out
        · rw [List.eq_of_mem_replicate h]; omega
      have hlb : (fHdr n ++ (xs ++ List.replicate k f) ++ List.replicate 1024 0).length ≤ 100000 := by rw [hll]; omega
      have hC5 := (Kd.R_reads HO6)
      obtain ⟨LIST, hLIST⟩ : ∃ L, fHdr n ++ (xs ++ List.replicate k f) ++ List.replicate 1024 0 = L := ⟨_, rfl⟩
      rw [hLIST] at harc hbl hlb hC5
      have HFD : Hid (Calls Tryz.prog 20 #[v5, .slice B m d] w5 (fun e w' => ∃ A6 c6, e = .returned (.tuple #[.agg #[.slice A6 1 c6, .bool true, .int .i64 0, .int .i64 0], .bool true]) ∧ Kd.R kThg 57 w' w5.heap.size (fun _ => True) (.slice A6 1 c6) [⟨⟨⟨#[97]⟩, ⟨#[]⟩, 1, 0, 0, 0, 0, n, ⟨#[]⟩, ⟨#[]⟩⟩, xs, true, 512 + n⟩] ∧ Below w5.heap.size w5 w')) := by
        obtain ⟨A5', c5', e5', hle5, hC⟩ := hC5
        rw [e5']
        have h := fed_any A5' B c5' d LIST cuts w5 (HE.out.below hb05) (et_below HE.out hb05 HG.out) hC (by rw [HM.out]; exact Kd.C_below HY.out hb05) hle5 (by rw [HM.out]; exact HYC.out) hbl hlb (by rw [HM.out]; have := HML.out; omega)
        rw [HM.out] at h
        refine h.mono fun e w' ⟨v, a, r, b⟩ => ?_
        rw [harc] at a r
        obtain ⟨A6, c6, hv6⟩ := Kd.R_slice r
        subst hv6
        exact ⟨A6, c6, a, r, b⟩
      have HB05 := Lib.hid hb05
      clear HO5 HO6 hb05 hll harc hbl hlb hC5 hLIST HL HLE
      go_upto_region 12 with (go_at_call 20; (with_reducible refine HFD.out.mono ?_); rintro e w6 ⟨A6, c6, rfl, hR6, hb6⟩; have HR6 := Lib.hid hR6; have HB6 := Lib.hid hb6; clear hR6 hb6)
      have B9 := Blk.new w6 49 #[.slice A6 1 c6, .bool true, .int .i64 0, .int .i64 0]
      have S7 : Aside0 (Kd.R kThg 57 (w6.alloc (.cells #[.slice A6 1 c6, .bool true, .int .i64 0, .int .i64 0] 49)) w5.heap.size (fun _ => True) (.slice A6 1 c6) [⟨⟨⟨#[97]⟩, ⟨#[]⟩, 1, 0, 0, 0, 0, n, ⟨#[]⟩, ⟨#[]⟩⟩, xs, true, 512 + n⟩] ∧
          Below w.heap.size w (w6.alloc (.cells #[.slice A6 1 c6, .bool true, .int .i64 0, .int .i64 0] 49))) := ⟨Kd.R_alloc HR6.out _, below_next (below_next HB05.out HB6.out) (below_alloc (Below.refl _ _) _)⟩
      have B9 := Aside0.mk B9
      obtain ⟨g9, hg9⟩ : ∃ g, w6.heap.size = g := ⟨_, rfl⟩
      rw [hg9] at B9 ⊢
      clear hg9 HR6 HB6 HFD
      generalize w6.alloc _ = W7 at B9 S7 ⊢
      have q0 := B9.out.cell 0
      have q1 := B9.out.cell 1
      have hl9 := B9.out.lt
      simp only [List.getElem?_toArray, List.getElem?_cons_zero, List.getElem?_cons_succ] at q0 q1
      obtain ⟨Gt, capt, hvt, _, hgt, _⟩ := Kd.R_form S7.out.1 (by simp)
      injection hvt with hAt hl1x hct
      clear hl1x
      subst hAt
      obtain ⟨dS, hdS⟩ : ∃ s, strOfNums xs = s := ⟨_, rfl⟩
      obtain ⟨y0, y1, y2, y3, y4, y5, y6, y7, y8, y9, y10, y11, y12⟩ := th_facts S7.out.1 0 _ rfl _ dS rfl hdS
      simp only [Nat.zero_mul, Nat.zero_add] at y0 y1 y2 y3 y4 y5 y6 y7 y8 y9 y10 y11 y12
      have HC7 : Hid (Kd.C (Kd.int .u8) W7 A n xs) := Kd.C_below HX.out S7.out.2
      have hcv : ∀ j, (convert 32 9 (.slice A n c)).run Tryz.prog (W7.drewN j) = .ok (.string dS) (W7.drewN j) := by
        intro j
        rw [← hdS]
        have := Kd.C_drewN HC7.out j
        rw [← HN.out] at this ⊢
        exact Kd.C_string Tryz.underlying32 Tryz.underlying5 Tryz.underlying9 this
      have y11' : W7.cell? ⟨Gt, 11, none⟩ = some (.bool true) := y11
      have y12' : W7.cell? ⟨Gt, 12, none⟩ = some (.int .i64 (512 + (n : Int))) := y12
      clear y11 y12 hdS e5 hnl2
      clear hct y0 y1 y2 y3 y4 y5 y6 y7 y8 y9
      go_quiet (fail)
      go_wp2_with fail
      trace_state
      go_ret
      exact ⟨rfl, pw_below_drewN S7.out.2 _⟩
theorem bytes_any (A B : Option Addr) (c d : Nat) (xs cuts : List Int) (f : Int) (w : World) (he : EnvE w) (hg : w.cell? ⟨0, 0, none⟩ = some etype) (hx : Kd.C (Kd.int .u8) w A xs.length xs) (hy : Kd.C (Kd.int .i64) w B cuts.length cuts) (hxc : xs.length ≤ c) (hyc : cuts.length ≤ d) (hxb : ∀ x ∈ xs, 0 ≤ x ∧ x < 256) (hf : 0 ≤ f ∧ f < 256) :
    Calls Tryz.prog 7 #[.slice A xs.length c, .int .u8 f, .slice B cuts.length d] w (Yes w) := by
  by_cases h : 5000 < xs.length ∨ 100 < cuts.length
  · exact bytes_early A B _ c _ d f w he h
  · exact bytes_main A B c d xs cuts f w he hg hx hy hxc hyc hxb hf (by omega) (by omega)
end Go.Proofs.YtpbpfngichfgeaaGreatDoor
