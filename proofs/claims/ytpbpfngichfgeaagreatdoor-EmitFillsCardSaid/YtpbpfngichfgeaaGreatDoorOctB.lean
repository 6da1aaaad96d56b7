/-
 octal.binary by a contract.
-/
import Derived.Test.YtpbpfngichfgeaaGreatDoorPushV
import Derived.Test.YtpbpfngichfgeaaGreatDoorWords
import Derived.Outline
namespace Go.Proofs.YtpbpfngichfgeaaGreatDoor
set_option linter.unusedVariables false
set_option linter.unusedSimpArgs false
open Go Go.RowKit Go.Proofs.YtpbpfngichfgeaaGreatDoorW.PrintWords Go.Proofs.YtpbpfngichfgeaaGreatDoorW.PrintLast Go.Proofs.YtpbpfngichfgeaaGreatDoorW.PrintMore

def binT (f : Int) (r : List Int) : Int × Int := if f = 128 then binV 0 r else if f = 255 then binV (-1) r else (0, 20)
def BinEnd (res : Int × Int) (w : World) (e : Ending) (w' : World) : Prop := e = .returned (.tuple #[.int .i64 res.1, .int .i64 res.2]) ∧ Below w.heap.size w w'
theorem drop_rd {r : List Int} {k : Nat} (h : k < r.length) : r.drop k = rd r k :: r.drop (k + 1) := by
  rw [List.drop_eq_getElem_cons h]
  simp [rd, h]
theorem infoU8 : (Tryz.prog.info? 5).map (fun i => (i.zero, i.size, i.bytes)) = some (some (.int .u8 0), 1, 1) := by kernel_rfl
set_option maxHeartbeats 4000000 in
set_option maxRecDepth 100000 in
theorem bin_loop (A : Option Addr) (c : Nat) (f : Int) (r : List Int) (w : World) (hC : Kd.C (Kd.int .u8) w A (f :: r).length (f :: r)) (hr0 : 0 < r.length) (hl2 : r.length ≤ 1000000) (hc : (f :: r).length ≤ c) (hb : ∀ x ∈ r, 0 ≤ x ∧ x < 256) (n0 : Int) (hf : f = 128 ∧ n0 = 0 ∨ f = 255 ∧ n0 = -1) :
    Calls Tryz.prog 108 #[.slice A (f :: r).length c] w (BinEnd (binV n0 r) w) := by
  obtain ⟨ad, rfl, h0⟩ := Kd.at_int hC 0 (by omega) (by simp)
  obtain ⟨i0, hi, hz0, hz1, hz2⟩ := info_parts infoU8
  obtain ⟨A2, hcut, hrd, hle⟩ := print_cut_int (P := Tryz.prog) (k := .u8) 32 5 Tryz.underlying32 hi hz1 (some ad) c (f :: r) 1 (by omega) (by simp; omega) hc
  have hC2 : ReadsInt w .u8 A2 r.length r := hrd w (Kd.reads_of_C hC)
  obtain ⟨ad2, rfl, hx0⟩ := Kd.at_int (Kd.C_of_reads hC2) 0 (by omega) (by omega)
  have hcut2 : ∀ W, (Instr.slice 32 (.slice (some ad) (r.length + 1) c) (some (.int .i64 1)) none none).run Tryz.prog W = .ok (.slice (some ad2) r.length (c - 1)) W := hcut
  have HC2 := Lib.hid hC2
  have h0' : w.cell? (ad.add 0) = some (.int .u8 f) := h0
  have h0'' : w.cell? ad = some (.int .u8 f) := h0
  have hrl : 0 < r.length + 1 := by omega
  obtain ⟨res, hres⟩ : ∃ res, binV n0 r = res := ⟨_, rfl⟩
  have HRES := Lib.hid hres
  have HBT := Lib.hid hb
  clear hb
  rw [hres]
  clear hC hcut hrd hle hC2 hx0 h0 hres hc
  simp only [List.length_cons]
  rcases hf with ⟨rfl, rfl⟩ | ⟨rfl, rfl⟩
  all_goals
    go_enter Tryz.func108, Tryz.ntmps108
    go_wp2
    clear hcut2
    go_loop [4, 24] (fun n i => ∃ (k : Nat) (m : Int), k ≤ r.length ∧ i = .int .i64 k ∧ n = .int .i64 m ∧ Hid (binV m (r.drop k) = res)) (fun _ i => r.length - (intOf i).toNat)
    case atStart => exact ⟨0, _, Nat.zero_le _, rfl, rfl, HRES⟩
    case round =>
      obtain ⟨k, m, hk, rfl, rfl, HB⟩ := hrel
      by_cases hlt : k < r.length
      · obtain ⟨ad', e', hx⟩ := Kd.at_int (Kd.C_of_reads HC2.out) k (by omega) (by omega)
        cases e'
        simp only [Int.toNat_natCast] at hx
        obtain ⟨x, hxe⟩ : ∃ x, rd r k = x := ⟨_, rfl⟩
        have hxb : 0 ≤ x ∧ x < 256 := by rw [← hxe]; exact HBT.out _ (by simp [rd, List.getD_eq_getElem?_getD, hlt])
        obtain ⟨hxb1, hxb2⟩ := hxb
        have HB2 := Lib.hid HB.out
        have hdr := drop_rd hlt
        rw [hxe] at hx hdr
        have HD := Lib.hid hdr
        clear hxe hdr HB
        by_cases h1 : 36028797018963968 ≤ m
        · have HF : Hid (res = (0, 20)) := by show _ = _; rw [← HB2.out, HD.out, binV, if_pos (.inl h1)]
          go_wp2
          go_ret2
          exact ⟨by rw [HF.out]; rfl, Below.refl _ _⟩
        · by_cases h2 : m < -36028797018963968
          · have HF : Hid (res = (0, 20)) := by show _ = _; rw [← HB2.out, HD.out, binV, if_pos (.inr h2)]
            go_wp2
            go_ret2
            exact ⟨by rw [HF.out]; rfl, Below.refl _ _⟩
          · have HF : Hid (binV (bits .or .i64 (m * 256) x) (r.drop (k + 1)) = res) := by show _ = _; rw [← HB2.out, HD.out, binV, if_neg (by omega)]
            go_wp2
            go_round
            case rel => exact ⟨k + 1, _, by omega, by go_num, rfl, HF⟩
            case measure => simp [intOf]; omega
      · obtain rfl : k = r.length := by omega
        have HF : Hid (res = (m, 0)) := by show _ = _; rw [← HB.out, List.drop_length, binV]
        go_wp2
        go_ret2
        exact ⟨by rw [HF.out]; rfl, Below.refl _ _⟩
set_option maxHeartbeats 4000000 in
set_option maxRecDepth 100000 in
theorem bin_bad (A : Option Addr) (c : Nat) (f : Int) (r : List Int) (w : World) (hC : Kd.C (Kd.int .u8) w A (f :: r).length (f :: r)) (h1 : f ≠ 128) (h2 : f ≠ 255) :
    Calls Tryz.prog 108 #[.slice A (f :: r).length c] w (BinEnd (0, 20) w) := by
  obtain ⟨ad, rfl, h0⟩ := Kd.at_int hC 0 (by omega) (by simp)
  have h0' : w.cell? (ad.add 0) = some (.int .u8 f) := h0
  have h0'' : w.cell? ad = some (.int .u8 f) := h0
  have hrl : 0 < r.length + 1 := by omega
  have g1 : (f == 128) = false := by simpa using h1
  have g2 : (f == 255) = false := by simpa using h2
  have g3 : (f != 128) = true := by simpa using h1
  have g4 : (f != 255) = true := by simpa using h2
  clear hC h0 h1 h2
  simp only [List.length_cons]
  go_enter Tryz.func108, Tryz.ntmps108
  go_wp2
  go_ret2
  exact ⟨rfl, Below.refl _ _⟩
theorem binary_any (A : Option Addr) (c : Nat) (f : Int) (r : List Int) (w : World) (hC : Kd.C (Kd.int .u8) w A (f :: r).length (f :: r)) (hr0 : 0 < r.length) (hl2 : r.length ≤ 1000000) (hc : (f :: r).length ≤ c) (hb : ∀ x ∈ r, 0 ≤ x ∧ x < 256) :
    Calls Tryz.prog 108 #[.slice A (f :: r).length c] w (BinEnd (binT f r) w) := by
  unfold binT
  by_cases h1 : f = 128
  · rw [if_pos h1]; exact bin_loop A c f r w hC hr0 hl2 hc hb 0 (.inl ⟨h1, rfl⟩)
  · rw [if_neg h1]
    by_cases h2 : f = 255
    · rw [if_pos h2]; exact bin_loop A c f r w hC hr0 hl2 hc hb (-1) (.inr ⟨h2, rfl⟩)
    · rw [if_neg h2]; exact bin_bad A c f r w hC h1 h2
end Go.Proofs.YtpbpfngichfgeaaGreatDoor
