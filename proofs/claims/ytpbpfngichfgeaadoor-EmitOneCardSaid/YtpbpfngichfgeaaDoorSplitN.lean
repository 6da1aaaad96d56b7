/-
 emit.split: the loop over the numbers.
-/
import Derived.Test.YtpbpfngichfgeaaDoorSplit
namespace Go.Proofs.YtpbpfngichfgeaaDoor
set_option linter.unusedVariables false
set_option linter.unusedSimpArgs false
open Go Go.RowKit Go.Proofs.YtpbpfngichfgeaaDoorW.PrintWords Go.Proofs.YtpbpfngichfgeaaDoorW.PrintLast Go.Proofs.YtpbpfngichfgeaaDoorW.PrintMore

set_option maxHeartbeats 8000000 in
set_option maxRecDepth 100000 in
theorem spl_s6 (w wc : World) (be br bh bm : Nat) (path link : ByteArray) (kd md uid gid mt sz : Int) (user group name pre : ByteArray) (typ : Int) (l0 : List KV) (u0 u3 u6 u7 u8 u9 u10 u11 u12 u13 u14 u15 u16 u17 u18 u19 u20 u21 u22 u23 u24 u25 u26 u27 u28 u29 u30 u31 u32 u33 u34 u35 u36 u37 u38 u39 u40 u41 u42 u43 u44 u45 u46 u47 u48 u49 u50 u51 u52 u53 u54 u55 u56 u57 u58 u59 u60 u61 u62 u63 u64 u65 u66 u67 u68 u69 u70 u71 u72 u73 u74 u75 u76 u77 u78 u79 u80 u81 u82 u83 u84 u85 u86 u87 u88 u89 u90 u91 u92 u93 u94 u95 u96 u97 u98 u99 u100 u101 u102 u103 u104 u105 u106 u107 u108 u109 u110 u111 u112 u113 u114 u115 u116 u117 u118 u119 u120 u121 u122 u123 u124 u125 u126 u127 u128 u129 u130 u131 u132 u133 u134 u135 u136 u137 u138 u139 u140 u141 u142 u143 u144 u145 u146 u147 : Value) (he : Env w) (hrn : ((-9223372036854775808 ≤ uid ∧ uid ≤ 9223372036854775807) ∧ (-9223372036854775808 ≤ gid ∧ gid ≤ 9223372036854775807) ∧ (-9223372036854775808 ≤ sz ∧ sz ≤ 9223372036854775807) ∧ -9223372036854775808 ≤ mt ∧ mt ≤ 9223372036854775807)) (hl0 : ∀ x ∈ l0, x.1 = ⟨#[112, 97, 116, 104]⟩)
  (S : SM w wc be br bh bm #[.string path, .string link, .int .i64 kd, .int .i64 md, .int .i64 uid, .int .i64 gid, .int .i64 mt, .int .i64 sz, .string user, .string group] (hdN (hdT name pre link user group typ md uid gid sz mt 3) uid gid sz mt 0) (lN (lT l0 link user group 3) uid gid sz mt 0)) :
  Code.wp Tryd.prog (splRest 6) (bodyPost Tryd.prog Tryd.f15 (SplitEnd (hd0 name pre (tv link 100) (tv user 31) (tv group 31) typ md (nv uid 8) (nv gid 8) (nv sz 12) (nv mt 12)) (lN (lT l0 link user group 3) uid gid sz mt 4) w)) ⟨(u0 :: (.pointer (some ⟨be, 0, none⟩)) :: (.pointer (some ⟨br, 0, none⟩)) :: u3 :: (.pointer (some ⟨bh, 0, none⟩)) :: (.map (some bm)) :: u6 :: u7 :: u8 :: u9 :: u10 :: u11 :: u12 :: u13 :: u14 :: u15 :: u16 :: u17 :: u18 :: u19 :: u20 :: u21 :: u22 :: u23 :: u24 :: u25 :: u26 :: u27 :: u28 :: u29 :: u30 :: u31 :: u32 :: u33 :: u34 :: u35 :: u36 :: u37 :: u38 :: u39 :: u40 :: u41 :: u42 :: u43 :: u44 :: u45 :: u46 :: u47 :: u48 :: u49 :: u50 :: u51 :: u52 :: u53 :: u54 :: u55 :: u56 :: u57 :: u58 :: u59 :: u60 :: u61 :: u62 :: u63 :: u64 :: u65 :: u66 :: u67 :: u68 :: u69 :: u70 :: u71 :: u72 :: u73 :: u74 :: u75 :: u76 :: u77 :: u78 :: u79 :: u80 :: u81 :: u82 :: u83 :: u84 :: u85 :: u86 :: u87 :: u88 :: u89 :: u90 :: u91 :: u92 :: u93 :: u94 :: u95 :: u96 :: u97 :: u98 :: u99 :: u100 :: u101 :: u102 :: u103 :: u104 :: u105 :: u106 :: u107 :: u108 :: u109 :: u110 :: u111 :: u112 :: u113 :: u114 :: u115 :: u116 :: u117 :: u118 :: u119 :: u120 :: u121 :: u122 :: u123 :: u124 :: u125 :: u126 :: u127 :: u128 :: u129 :: u130 :: u131 :: u132 :: u133 :: u134 :: u135 :: u136 :: u137 :: u138 :: u139 :: u140 :: u141 :: u142 :: u143 :: u144 :: u145 :: u146 :: u147 :: []).toArray, []⟩ wc := by
 conv => arg 2; whnf
 have HL0 := Lib.hid hl0
 have HRN := Lib.hid hrn
 have HE := Lib.hid he
 clear hl0 hrn he
 have HS := Aside0.mk S
 clear S
 go_upto_block 2 with (fail)
 have S1 : Aside0 (ST w (wc.alloc (.cells #[.string ⟨#[117, 105, 100]⟩, .pointer (some ⟨bh, 8, none⟩), .int .i64 8, .string ⟨#[103, 105, 100]⟩, .pointer (some ⟨bh, 9, none⟩), .int .i64 8, .string ⟨#[115, 105, 122, 101]⟩, .pointer (some ⟨bh, 10, none⟩), .int .i64 12, .string ⟨#[109, 116, 105, 109, 101]⟩, .pointer (some ⟨bh, 11, none⟩), .int .i64 12] 66)) be br bh bm #[.string path, .string link, .int .i64 kd, .int .i64 md, .int .i64 uid, .int .i64 gid, .int .i64 mt, .int .i64 sz, .string user, .string group] (hdN (hdT name pre link user group typ md uid gid sz mt 3) uid gid sz mt 0) (lN (lT l0 link user group 3) uid gid sz mt 0) wc.heap.size 66 #[.string ⟨#[117, 105, 100]⟩, .pointer (some ⟨bh, 8, none⟩), .int .i64 8, .string ⟨#[103, 105, 100]⟩, .pointer (some ⟨bh, 9, none⟩), .int .i64 8, .string ⟨#[115, 105, 122, 101]⟩, .pointer (some ⟨bh, 10, none⟩), .int .i64 12, .string ⟨#[109, 116, 105, 109, 101]⟩, .pointer (some ⟨bh, 11, none⟩), .int .i64 12]) := ⟨⟨HS.out.next (below_alloc (Below.refl _ _) _), Blk.new _ _ _, Nat.ne_of_lt HS.out.h.lt, Nat.ne_of_lt HS.out.m.lt⟩⟩
 obtain ⟨tb, htb⟩ : ∃ tb, wc.heap.size = tb := ⟨_, rfl⟩
 rw [htb] at S1 ⊢
 clear htb HS
 generalize wc.alloc _ = W1 at S1 ⊢
 go_cut [] (fun wc => Aside0 (SM w wc be br bh bm #[.string path, .string link, .int .i64 kd, .int .i64 md, .int .i64 uid, .int .i64 gid, .int .i64 mt, .int .i64 sz, .string user, .string group] (hdN (hdT name pre link user group typ md uid gid sz mt 3) uid gid sz mt 4) (lN (lT l0 link user group 3) uid gid sz mt 4)))
 case first =>
  go_wp2_with fail
  go_loopw [100] (fun i wr => ∃ k : Nat, k ≤ 4 ∧ i = .int .i64 k ∧ Aside0 (ST w wr be br bh bm #[.string path, .string link, .int .i64 kd, .int .i64 md, .int .i64 uid, .int .i64 gid, .int .i64 mt, .int .i64 sz, .string user, .string group] (hdN (hdT name pre link user group typ md uid gid sz mt 3) uid gid sz mt k) (lN (lT l0 link user group 3) uid gid sz mt k) tb 66 #[.string ⟨#[117, 105, 100]⟩, .pointer (some ⟨bh, 8, none⟩), .int .i64 8, .string ⟨#[103, 105, 100]⟩, .pointer (some ⟨bh, 9, none⟩), .int .i64 8, .string ⟨#[115, 105, 122, 101]⟩, .pointer (some ⟨bh, 10, none⟩), .int .i64 12, .string ⟨#[109, 116, 105, 109, 101]⟩, .pointer (some ⟨bh, 11, none⟩), .int .i64 12])) (fun i _ => 4 - (intOf i).toNat)
  case atStart => exact ⟨0, by omega, rfl, S1⟩
  case round =>
   clear S1
   obtain ⟨k, hk, rfl, SK⟩ := hrel
   by_cases hlt : k < 4
   ·have hc : ∃ (key : ByteArray) (s : Int) (fi most : Nat), nKey k = key ∧ nN uid gid sz mt k = s ∧ nFi k = fi ∧ nWd k = most ∧ 2 ≤ most ∧ -9223372036854775808 ≤ s ∧ s ≤ 9223372036854775807 ∧ wr.cell? ⟨tb, k * 3, none⟩ = some (.string key) ∧ wr.cell? ⟨tb, k * 3 + 1, none⟩ = some (.pointer (some ⟨bh, fi, none⟩)) ∧ wr.cell? ⟨tb, k * 3 + 2, none⟩ = some (.int .i64 most) ∧ wr.cell? ⟨bh, fi, none⟩ = some (.int .i64 s) := by
     have q := fun i => SK.out.t.cell i
     have hh := (SK.out.h.cell (nFi k)).trans (hdN_cell (fun j hj => hdT_num name pre link user group typ md uid gid sz mt 3 j hj) k k (Nat.le_refl _) hlt)
     have hr := HRN.out
     rcases (by omega : k = 0 ∨ k = 1 ∨ k = 2 ∨ k = 3) with rfl | rfl | rfl | rfl
     ·exact ⟨_, _, _, _, rfl, rfl, rfl, rfl, by decide, hr.1.1, hr.1.2, q 0, q 1, q 2, hh⟩
     ·exact ⟨_, _, _, _, rfl, rfl, rfl, rfl, by decide, hr.2.1.1, hr.2.1.2, q 3, q 4, q 5, hh⟩
     ·exact ⟨_, _, _, _, rfl, rfl, rfl, rfl, by decide, hr.2.2.1.1, hr.2.2.1.2, q 6, q 7, q 8, hh⟩
     ·exact ⟨_, _, _, _, rfl, rfl, rfl, rfl, by decide, hr.2.2.2.1, hr.2.2.2.2, q 9, q 10, q 11, hh⟩
    obtain ⟨key, s, fi, most, hke, hs, hfi, hmo, hm2, hs0, hs1, c0, c1, c2, ch⟩ := hc
    have hnew := lN_new HL0.out (link := link) (user := user) (group := group) (uid := uid) (gid := gid) (sz := sz) (mt := mt) k hlt
    rw [hke] at hnew
    have HNEW := Lib.hid hnew
    have HH : Hid ((hdN (hdT name pre link user group typ md uid gid sz mt 3) uid gid sz mt (k + 1)) = if fitsN s most = true then (hdN (hdT name pre link user group typ md uid gid sz mt 3) uid gid sz mt k) else (hdN (hdT name pre link user group typ md uid gid sz mt 3) uid gid sz mt k).setIfInBounds fi (.int .i64 0)) := by show _ = _; rw [hdN, hs, hfi, hmo]
    have HLK : Hid ((lN (lT l0 link user group 3) uid gid sz mt (k + 1)) = if fitsN s most = true then (lN (lT l0 link user group 3) uid gid sz mt k) else (lN (lT l0 link user group 3) uid gid sz mt k) ++ [(key, itoaS s)]) := by show _ = _; rw [lN, hs, hke, hmo]
    obtain ⟨kk, hft⟩ := fits_n s most hm2 hs1
    obtain ⟨b, hb⟩ : ∃ b, fitsN s most = b := ⟨_, rfl⟩
    rw [hb] at hft HH HLK
    have HFT := Lib.hid hft
    clear hke hs hfi hmo hnew hft hb
    go_upto_region 16 with (fail)
    have SB := Blk.new wr 66 #[.string key, .pointer (some ⟨bh, fi, none⟩), .int .i64 most]
    obtain ⟨d0, d1, d2⟩ := blk_cell3 SB
    have SW : Aside0 (ST w (wr.alloc (.cells #[.string key, .pointer (some ⟨bh, fi, none⟩), .int .i64 most] 66)) be br bh bm #[.string path, .string link, .int .i64 kd, .int .i64 md, .int .i64 uid, .int .i64 gid, .int .i64 mt, .int .i64 sz, .string user, .string group] (hdN (hdT name pre link user group typ md uid gid sz mt 3) uid gid sz mt k) (lN (lT l0 link user group 3) uid gid sz mt k) tb 66 #[.string ⟨#[117, 105, 100]⟩, .pointer (some ⟨bh, 8, none⟩), .int .i64 8, .string ⟨#[103, 105, 100]⟩, .pointer (some ⟨bh, 9, none⟩), .int .i64 8, .string ⟨#[115, 105, 122, 101]⟩, .pointer (some ⟨bh, 10, none⟩), .int .i64 12, .string ⟨#[109, 116, 105, 109, 101]⟩, .pointer (some ⟨bh, 11, none⟩), .int .i64 12]) := ⟨SK.out.next (below_alloc (Below.refl _ _) _)⟩
    have SBB := Aside0.mk SB
    have ch2 := cell_old (o := (.cells #[.string key, .pointer (some ⟨bh, fi, none⟩), .int .i64 most] 66)) ch
    have hbn : wr.heap.size ≠ bh := by have := SK.out.h.lt; omega
    have hbm : wr.heap.size ≠ bm := by have := SK.out.m.lt; omega
    clear c0 c1 c2 ch SK SB
    obtain ⟨bf, hbf⟩ : ∃ bf, wr.heap.size = bf := ⟨_, rfl⟩
    rw [hbf] at d0 d1 d2 hbn hbm SBB ⊢
    clear hbf
    generalize wr.alloc _ = W2 at d0 d1 d2 SW SBB ch2 ⊢
    have HS3 : Hid (∀ w3 : World, Below W2.heap.size W2 w3 → (w3.cell? ⟨bf, 0, none⟩ = some (.string key) ∧ w3.cell? ⟨bf, 1, none⟩ = some (.pointer (some ⟨bh, fi, none⟩)) ∧ w3.cell? ⟨bf, 2, none⟩ = some (.int .i64 most) ∧ w3.cell? ⟨bh, fi, none⟩ = some (.int .i64 s))) := fun w3 h3 => by
     obtain ⟨q0, q1, q2⟩ := blk_cell3 (SBB.out.below h3 SBB.out.lt)
     exact ⟨q0, q1, q2, (h3.cell (p := ⟨bh, fi, none⟩) SW.out.h.lt).trans ch2⟩
    go_region_held3 (fun w3 => w3.cell? ⟨bf, 0, none⟩ = some (.string key) ∧ w3.cell? ⟨bf, 1, none⟩ = some (.pointer (some ⟨bh, fi, none⟩)) ∧ w3.cell? ⟨bf, 2, none⟩ = some (.int .i64 most) ∧ w3.cell? ⟨bh, fi, none⟩ = some (.int .i64 s)) (first | exact HS3.out _ (Below.refl _ _).drew | exact HS3.out _ hbX) ((go_at_call 26; (with_reducible refine (POct.octal_Fits.calls kk s (most : Int) b _ HFT.out).mono ?_); rintro e w3 ⟨rfl, hdr⟩; have hbX := drawn_below hdr))
    have hb3 : Below W2.heap.size W2 w3 := hbX
    have SX : Aside0 (ST w w3 be br bh bm #[.string path, .string link, .int .i64 kd, .int .i64 md, .int .i64 uid, .int .i64 gid, .int .i64 mt, .int .i64 sz, .string user, .string group] (hdN (hdT name pre link user group typ md uid gid sz mt 3) uid gid sz mt k) (lN (lT l0 link user group 3) uid gid sz mt k) tb 66 #[.string ⟨#[117, 105, 100]⟩, .pointer (some ⟨bh, 8, none⟩), .int .i64 8, .string ⟨#[103, 105, 100]⟩, .pointer (some ⟨bh, 9, none⟩), .int .i64 8, .string ⟨#[115, 105, 122, 101]⟩, .pointer (some ⟨bh, 10, none⟩), .int .i64 12, .string ⟨#[109, 116, 105, 109, 101]⟩, .pointer (some ⟨bh, 11, none⟩), .int .i64 12]) := ⟨SW.out.next hb3⟩
    obtain ⟨q0, q1, q2, q3⟩ := HS3.out _ hb3
    have SBX := Aside0.mk (SBB.out.below hb3 SBB.out.lt)
    clear d0 d1 d2 ch2 SW SBB HS3 hbX hb3
    cases b with
    | true =>
     clear q0 q1 q2 q3 SBX HFT
     go_wp2
     go_roundw
     case rel => exact ⟨k + 1, by omega, by go_num, by rw [HH.out, HLK.out, if_pos rfl, if_pos rfl]; exact SX⟩
     case measure => simp [intOf]; omega
    | false =>
     clear HFT
     go_upto_region 17 with (fail)
     have HALL : Hid (∀ w4 : World, Below w3.drew.heap.size w3.drew w4 → ∃ WA WB : World, (Instr.mapEntry 59 (.map (some bm)) (.string key)).run Tryd.prog w4 = .ok (.tuple #[.string ⟨#[]⟩, .int .i64 (lN (lT l0 link user group 3) uid gid sz mt k).length]) WA ∧ (Instr.entryStore 59 (.map (some bm)) (.int .i64 (lN (lT l0 link user group 3) uid gid sz mt k).length) (.string (itoaS s))).run Tryd.prog WA = .ok () WB ∧ Aside0 (ST w WB be br bh bm #[.string path, .string link, .int .i64 kd, .int .i64 md, .int .i64 uid, .int .i64 gid, .int .i64 mt, .int .i64 sz, .string user, .string group] (hdN (hdT name pre link user group typ md uid gid sz mt 3) uid gid sz mt k) ((lN (lT l0 link user group 3) uid gid sz mt k) ++ [(key, itoaS s)]) tb 66 #[.string ⟨#[117, 105, 100]⟩, .pointer (some ⟨bh, 8, none⟩), .int .i64 8, .string ⟨#[103, 105, 100]⟩, .pointer (some ⟨bh, 9, none⟩), .int .i64 8, .string ⟨#[115, 105, 122, 101]⟩, .pointer (some ⟨bh, 10, none⟩), .int .i64 12, .string ⟨#[109, 116, 105, 109, 101]⟩, .pointer (some ⟨bh, 11, none⟩), .int .i64 12]) ∧ WB.cell? ⟨bh, fi, none⟩ = some (.int .i64 s) ∧ WB.frozen? ⟨bh, fi, none⟩ = false ∧ w4.cell? ⟨bf, 0, none⟩ = some (.string key) ∧ w4.cell? ⟨bf, 1, none⟩ = some (.pointer (some ⟨bh, fi, none⟩)) ∧ WA.cell? ⟨bf, 0, none⟩ = some (.string key) ∧ WA.cell? ⟨bf, 1, none⟩ = some (.pointer (some ⟨bh, fi, none⟩)) ∧ WB.cell? ⟨bf, 0, none⟩ = some (.string key) ∧ WB.cell? ⟨bf, 1, none⟩ = some (.pointer (some ⟨bh, fi, none⟩))) := by
      intro w4 h4
      have hz : ∀ W : World, (zeroValue 9).run Tryd.prog W = .ok (.string ⟨#[]⟩) W := fun W => by kernel_rfl
      have h34 : Below w3.heap.size w3 w4 := below_next ((Below.refl _ _).drew) h4
      have S4 := SX.out.next h34
      have B4 := SBX.out.below h34 SBX.out.lt
      have c4 : w4.cell? ⟨bh, fi, none⟩ = some (.int .i64 s) := (h34.cell (p := ⟨bh, fi, none⟩) SX.out.h.lt).trans q3
      obtain ⟨WA, hWA⟩ : ∃ WA, putM w4 bm ((lN (lT l0 link user group 3) uid gid sz mt k) ++ [(key, ⟨#[]⟩)]) = WA := ⟨_, rfl⟩
      obtain ⟨WB, hWB⟩ : ∃ WB, putM WA bm ((lN (lT l0 link user group 3) uid gid sz mt k) ++ [(key, itoaS s)]) = WB := ⟨_, rfl⟩
      have SA : ST w WA be br bh bm #[.string path, .string link, .int .i64 kd, .int .i64 md, .int .i64 uid, .int .i64 gid, .int .i64 mt, .int .i64 sz, .string user, .string group] (hdN (hdT name pre link user group typ md uid gid sz mt 3) uid gid sz mt k) ((lN (lT l0 link user group 3) uid gid sz mt k) ++ [(key, ⟨#[]⟩)]) tb 66 #[.string ⟨#[117, 105, 100]⟩, .pointer (some ⟨bh, 8, none⟩), .int .i64 8, .string ⟨#[103, 105, 100]⟩, .pointer (some ⟨bh, 9, none⟩), .int .i64 8, .string ⟨#[115, 105, 122, 101]⟩, .pointer (some ⟨bh, 10, none⟩), .int .i64 12, .string ⟨#[109, 116, 105, 109, 101]⟩, .pointer (some ⟨bh, 11, none⟩), .int .i64 12] := by rw [← hWA]; exact S4.putM _
      have SB : ST w WB be br bh bm #[.string path, .string link, .int .i64 kd, .int .i64 md, .int .i64 uid, .int .i64 gid, .int .i64 mt, .int .i64 sz, .string user, .string group] (hdN (hdT name pre link user group typ md uid gid sz mt 3) uid gid sz mt k) ((lN (lT l0 link user group 3) uid gid sz mt k) ++ [(key, itoaS s)]) tb 66 #[.string ⟨#[117, 105, 100]⟩, .pointer (some ⟨bh, 8, none⟩), .int .i64 8, .string ⟨#[103, 105, 100]⟩, .pointer (some ⟨bh, 9, none⟩), .int .i64 8, .string ⟨#[115, 105, 122, 101]⟩, .pointer (some ⟨bh, 10, none⟩), .int .i64 12, .string ⟨#[109, 116, 105, 109, 101]⟩, .pointer (some ⟨bh, 11, none⟩), .int .i64 12] := by rw [← hWB]; exact SA.putM _
      have hme : (Instr.mapEntry 59 (.map (some bm)) (.string key)).run Tryd.prog w4 = .ok (.tuple #[.string ⟨#[]⟩, .int .i64 (lN (lT l0 link user group 3) uid gid sz mt k).length]) WA := by rw [← hWA]; exact run_entry_new Tryd.underlying59 Tryd.underlying9 (hz _) S4.m key HNEW.out
      have hes : (Instr.entryStore 59 (.map (some bm)) (.int .i64 (lN (lT l0 link user group 3) uid gid sz mt k).length) (.string (itoaS s))).run Tryd.prog WA = .ok () WB := by rw [← hWB]; exact run_entry_store SA.m (itoaS s)
      have BA : Blk WA bf 66 #[.string key, .pointer (some ⟨bh, fi, none⟩), .int .i64 most] := by rw [← hWA]; exact blk_putM B4 hbm
      have BB : Blk WB bf 66 #[.string key, .pointer (some ⟨bh, fi, none⟩), .int .i64 most] := by rw [← hWB]; exact blk_putM BA hbm
      have cA : WA.cell? ⟨bh, fi, none⟩ = some (.int .i64 s) := by rw [← hWA]; exact (World.cell?_of_block (putM_other (blk_ne_map SX.out.h SX.out.m))).trans c4
      have cB : WB.cell? ⟨bh, fi, none⟩ = some (.int .i64 s) := by rw [← hWB]; exact (World.cell?_of_block (putM_other (blk_ne_map SX.out.h SX.out.m))).trans cA
      exact ⟨WA, WB, hme, hes, ⟨SB⟩, cB, SB.h.frozen fi, B4.cell 0, B4.cell 1, BA.cell 0, BA.cell 1, BB.cell 0, BB.cell 1⟩
     obtain ⟨NL, hNL⟩ : ∃ NL : Nat, (lN (lT l0 link user group 3) uid gid sz mt k).length = NL := ⟨_, rfl⟩
     rw [hNL] at HALL
     obtain ⟨IT, hIT⟩ : ∃ IT : ByteArray, itoaS s = IT := ⟨_, rfl⟩
     rw [hIT] at HALL HLK
     have HIT := Lib.hid hIT
     have HEX := Lib.hid (HE.out.below (SX.out.b.drew))
     clear hNL hIT SX SBX HNEW
     go_region_with ((go_at_call 27; (with_reducible refine (fmt_any s hs0 hs1 _ HEX.out).mono ?_); (rw [show (⟨(Lib.itoa s).toArray⟩ : ByteArray) = IT from HIT.out]); rintro e w4 ⟨rfl, hb4⟩; obtain ⟨WA, WB, hme, hes, SBH, cB, fB, z0, z1, a0, a1, b0, b1⟩ := HALL.out w4 hb4))
     all_goals go_wp2
     all_goals go_roundw
     all_goals first | (simp [intOf]; omega) | exact ⟨k + 1, by omega, by go_num, by rw [HH.out, HLK.out, if_neg (by decide), if_neg (by decide)]; exact ⟨(‹Aside0 (ST _ _ _ _ _ _ _ _ _ _ _ _)›).out.set fi _⟩⟩
   ·obtain rfl : k = 4 := by omega
    go_wp2
    go_meet
    case rel => exact ⟨SK.out.toSM⟩
 case rest =>
  clear S1
  have h := hcut.out
  rw [hdT_three, hdN_four] at h
  go_step
  exact spl_s7 w _ be br bh bm path link kd md uid gid mt sz user group name pre typ l0 (tv link 100) (tv user 31) (tv group 31) (nv uid 8) (nv gid 8) (nv sz 12) (nv mt 12) (lN (lT l0 link user group 3) uid gid sz mt 4) _ _ _ _ _ _ _ _ _ _ _ _ _ _ _ _ _ _ _ _ _ _ _ _ _ _ _ _ _ _ _ _ _ _ _ _ _ _ _ _ _ _ _ _ _ _ _ _ _ _ _ _ _ _ _ _ _ _ _ _ _ _ _ _ _ _ _ _ _ _ _ _ _ _ _ _ _ _ _ _ _ _ _ _ _ _ _ _ _ _ _ _ _ _ _ _ _ _ _ _ _ _ _ _ _ _ _ _ _ _ _ _ _ _ _ _ _ _ _ _ _ _ _ _ _ _ _ _ _ _ _ _ _ _ _ _ _ _ _ _ _ _ _ _ h
end Go.Proofs.YtpbpfngichfgeaaDoor
