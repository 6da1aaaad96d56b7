/-
 sum.Signed by a contract: the sum of a header's bytes as signed ones, those of the sum itself as blanks.
-/
import Derived.Test.YtpbpfngichfgeaaGreatDoorSum
import Derived.Test.YtpbpfngichfgeaaGreatDoorPushV
import Derived.IntWalk
namespace Go.Proofs.YtpbpfngichfgeaaGreatDoor
set_option linter.unusedVariables false
set_option linter.unusedSimpArgs false
open Go.RowKit Go.Proofs.YtpbpfngichfgeaaGreatDoorW.PrintWords Go.Proofs.YtpbpfngichfgeaaGreatDoorW.PrintLast Go.Proofs.YtpbpfngichfgeaaGreatDoorW.PrintMore

def sgnV (x : Int) : Int := if x < 128 then x else x - 256
theorem ssum_succ (l : List Int) (k : Nat) : ssum l (k + 1) = ssum l k + (if 148 ≤ k ∧ k < 156 then 32 else sgnV (l.getD k 0)) := by
 rw [ssum]; rfl
theorem ssum_bound {l : List Int} (h : ∀ x ∈ l, 0 ≤ x ∧ x < 256) : ∀ k : Nat, -256 * (k : Int) ≤ ssum l k ∧ ssum l k ≤ 256 * k
 | 0 => by simp [ssum]
 | k + 1 => by
  have ih := ssum_bound h k
  have hx : 0 ≤ l.getD k 0 ∧ l.getD k 0 < 256 := by
   rw [List.getD_eq_getElem?_getD]
   cases hq : l[k]? with
   | none => simp
   | some x => simpa using h x (List.mem_of_getElem? hq)
  rw [ssum_succ]
  unfold sgnV
  split
  ·omega
  ·split <;> omega
theorem signed1_any (x : Int) (h0 : 0 ≤ x) (h1 : x < 256) (w : World) : Calls Tryz.prog 127 #[.int .u8 x] w fun e w' => e = .returned (.int .i64 (sgnV x)) ∧ w = w' := by
 have h8 : IntKind.i8.wrap x = sgnV x := by
  unfold sgnV
  show (if (true && decide (x % 256 ≥ 128)) = true then x % 256 - 256 else x % 256) = _
  have hx : x % 256 = x := Int.emod_eq_of_lt h0 h1
  rw [hx]
  by_cases h : x < 128
  ·rw [if_pos h, if_neg (by simp; omega)]
  ·rw [if_neg h, if_pos (by simp; omega)]
 have H8 := Lib.hid h8
 clear h8
 go_enter Tryz.func127, Tryz.ntmps127
 go_wp2
 go_ret
 have hs : -128 ≤ sgnV x ∧ sgnV x < 128 := by unfold sgnV; split <;> omega
 have e := IntWalk.wrap64_in (sgnV x) ⟨by omega, by omega⟩
 exact ⟨by show Ending.returned (.int .i64 (wrap64 (IntKind.i8.wrap x))) = _; rw [H8.out, e], rfl⟩
set_option maxHeartbeats 2000000 in
set_option maxRecDepth 100000 in
theorem eachs_any (A : Option Addr) (c : Nat) (l : List Int) (w : World) (hC : Kd.C (Kd.int .u8) w A l.length l) (hr : ∀ x ∈ l, 0 ≤ x ∧ x < 256) (hl : 0 < l.length) (hl2 : l.length ≤ 1000000) (F : Value) (hF : F = .func (.func 127) #[] #[]) :
  Calls Tryz.prog 89 #[.slice A l.length c, F] w fun e w' => e = .returned (.int .i64 (ssum l l.length)) ∧ w = w' := by
 subst hF
 obtain ⟨ad, rfl, _⟩ := Kd.at_int hC 0 (by omega) (by omega)
 have HC := Lib.hid hC
 have HR := Lib.hid hr
 clear hC hr
 go_enter Tryz.func89, Tryz.ntmps89
 go_wp2
 go_loop [5, 10] (fun n i => ∃ k : Nat, k ≤ l.length ∧ i = .int .i64 k ∧ n = .int .i64 (ssum l k)) (fun _ i => l.length - (intOf i).toNat)
 case atStart => exact ⟨0, Nat.zero_le _, rfl, rfl⟩
 case round =>
  obtain ⟨k, hk, rfl, rfl⟩ := hrel
  have hb := ssum_bound HR.out k
  by_cases hlt : k < l.length
  ·obtain ⟨ad', e', hc⟩ := Kd.at_int HC.out k (by omega) (by omega)
   cases e'
   obtain ⟨x, hx⟩ : ∃ x, rd l k = x := ⟨_, rfl⟩
   have hx1 : 0 ≤ x ∧ x < 256 := by
    rw [← hx]
    exact HR.out _ (by simp [rd, List.getD_eq_getElem?_getD, hlt])
   have hxd : l.getD k 0 = x := hx
   rw [hx] at hc
   simp only [Int.toNat_natCast] at hc
   have HP : Hid (ssum l (k + 1) = ssum l k + (if 148 ≤ k ∧ k < 156 then 32 else sgnV x)) := by show _ = _; rw [ssum_succ, hxd]
   clear hx hxd
   obtain ⟨hx0, hx1⟩ := hx1
   have hs1 : -128 ≤ sgnV x ∧ sgnV x < 128 := by unfold sgnV; split <;> omega
   obtain ⟨hs1, hs2⟩ := hs1
   obtain ⟨hb0, hb1⟩ := hb
   generalize ssum l k = s at *
   by_cases hin : 148 ≤ k ∧ k < 156
   ·obtain ⟨hi1, hi2⟩ := hin
    have HP2 : Hid (ssum l (k + 1) = s + sgnV 32) := by show _ = _; rw [HP.out, if_pos ⟨hi1, hi2⟩]; rfl
    have hs3 : -128 ≤ sgnV 32 := by decide
    have hs4 : sgnV 32 < 128 := by decide
    clear HP
    go_wp2_with (go_at_call 127; refine (signed1_any _ (by omega) (by omega) _).mono ?_; rintro e w' ⟨rfl, rfl⟩)
    all_goals go_round
    case rel => exact ⟨k + 1, by omega, by go_num, by rw [HP2.out]⟩
    case measure => simp [intOf]; omega
   ·have HP2 : Hid (ssum l (k + 1) = s + sgnV x) := by show _ = _; rw [HP.out, if_neg hin]
    clear HP
    by_cases hi1 : 148 ≤ k
    ·have hi2 : ¬ k < 156 := by omega
     clear hin
     go_wp2_with (go_at_call 127; refine (signed1_any _ (by omega) (by omega) _).mono ?_; rintro e w' ⟨rfl, rfl⟩)
     all_goals go_round
     case rel => exact ⟨k + 1, by omega, by go_num, by rw [HP2.out]⟩
     case measure => simp [intOf]; omega
    ·clear hin
     go_wp2_with (go_at_call 127; refine (signed1_any _ (by omega) (by omega) _).mono ?_; rintro e w' ⟨rfl, rfl⟩)
     all_goals go_round
     case rel => exact ⟨k + 1, by omega, by go_num, by rw [HP2.out]⟩
     case measure => simp [intOf]; omega
  ·obtain rfl : k = l.length := by omega
   go_wp2
   go_ret
   exact ⟨rfl, rfl⟩
theorem signed_any (A : Option Addr) (c : Nat) (l : List Int) (w : World) (hC : Kd.C (Kd.int .u8) w A l.length l) (hr : ∀ x ∈ l, 0 ≤ x ∧ x < 256) (hl : 0 < l.length) (hl2 : l.length ≤ 1000000) :
  Calls Tryz.prog 107 #[.slice A l.length c] w fun e w' => e = .returned (.int .i64 (ssum l l.length)) ∧ w = w' := by
 go_enter Tryz.func107, Tryz.ntmps107
 go_wp2_with (go_at_call 89; refine (eachs_any A c l _ hC hr hl hl2 _ rfl).mono ?_; rintro e w' ⟨rfl, rfl⟩)
 go_ret
 exact ⟨rfl, rfl⟩
end Go.Proofs.YtpbpfngichfgeaaGreatDoor
