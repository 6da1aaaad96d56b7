/-
 sum.Plain by a contract: the sum of a header's bytes, those of the sum itself as blanks.
-/
import Derived.Test.YtpbpfngichfgeaaGreatDoorWords
import Derived.Test.YtpbpfngichfgeaaGreatDoorEnv
import Derived.Outline
namespace Go.Proofs.YtpbpfngichfgeaaGreatDoor
set_option linter.unusedVariables false
set_option linter.unusedSimpArgs false
open Go.RowKit Go.Proofs.YtpbpfngichfgeaaGreatDoorW.PrintWords Go.Proofs.YtpbpfngichfgeaaGreatDoorW.PrintLast Go.Proofs.YtpbpfngichfgeaaGreatDoorW.PrintMore

def psum (l : List Int) : Nat → Int
 | 0 => 0
 | k + 1 => psum l k + (if 148 ≤ k ∧ k < 156 then 32 else l.getD k 0)
theorem psum_bound {l : List Int} (h : ∀ x ∈ l, 0 ≤ x ∧ x < 256) : ∀ k, 0 ≤ psum l k ∧ psum l k ≤ 256 * k
 | 0 => by simp [psum]
 | k + 1 => by
  have ih := psum_bound h k
  have hx : 0 ≤ l.getD k 0 ∧ l.getD k 0 < 256 := by
   rw [List.getD_eq_getElem?_getD]
   cases hq : l[k]? with
   | none => simp
   | some x => simpa using h x (List.mem_of_getElem? hq)
  simp only [psum]
  split <;> omega
theorem plain1_any (x : Int) (h0 : 0 ≤ x) (h1 : x < 256) (w : World) : Calls Tryz.prog 90 #[.int .u8 x] w fun e w' => e = .returned (.int .i64 x) ∧ w = w' := by
 go_enter Tryz.func90, Tryz.ntmps90
 go_wp2
 go_ret
 exact ⟨rfl, rfl⟩
set_option maxHeartbeats 2000000 in
set_option maxRecDepth 100000 in
theorem each_any (A : Option Addr) (c : Nat) (l : List Int) (w : World) (hC : Kd.C (Kd.int .u8) w A l.length l) (hr : ∀ x ∈ l, 0 ≤ x ∧ x < 256) (hl : 0 < l.length) (hl2 : l.length ≤ 1000000) (F : Value) (hF : F = .func (.func 90) #[] #[]) :
  Calls Tryz.prog 89 #[.slice A l.length c, F] w fun e w' => e = .returned (.int .i64 (psum l l.length)) ∧ w = w' := by
 subst hF
 obtain ⟨ad, rfl, _⟩ := Kd.at_int hC 0 (by omega) (by omega)
 have HC := Lib.hid hC
 have HR := Lib.hid hr
 clear hC hr
 go_enter Tryz.func89, Tryz.ntmps89
 go_wp2
 go_loop [5, 10] (fun n i => ∃ k : Nat, k ≤ l.length ∧ i = .int .i64 k ∧ n = .int .i64 (psum l k)) (fun _ i => l.length - (intOf i).toNat)
 case atStart => exact ⟨0, Nat.zero_le _, rfl, rfl⟩
 case round =>
  obtain ⟨k, hk, rfl, rfl⟩ := hrel
  have hb := psum_bound HR.out k
  by_cases hlt : k < l.length
  ·obtain ⟨ad', e', hc⟩ := Kd.at_int HC.out k (by omega) (by omega)
   cases e'
   obtain ⟨x, hx⟩ : ∃ x, rd l k = x := ⟨_, rfl⟩
   have hx1 : 0 ≤ x ∧ x < 256 := by
    rw [← hx]
    exact HR.out _ (by simp [rd, List.getD_eq_getElem?_getD, hlt])
   have hxd : l.getD k 0 = x := hx
   rw [hx] at hc
   simp only [Int.toNat_natCast] at hc
   have HP : Hid (psum l (k + 1) = psum l k + (if 148 ≤ k ∧ k < 156 then 32 else x)) := by show _ = _; rw [psum, hxd]
   clear hx hxd
   obtain ⟨hx0, hx1⟩ := hx1
   obtain ⟨hb0, hb1⟩ := hb
   generalize psum l k = s at *
   by_cases hin : 148 ≤ k ∧ k < 156
   ·obtain ⟨hi1, hi2⟩ := hin
    have HP2 : Hid (psum l (k + 1) = s + 32) := by show _ = _; rw [HP.out, if_pos ⟨hi1, hi2⟩]
    clear HP
    go_wp2_with (go_at_call 90; refine (plain1_any _ (by omega) (by omega) _).mono ?_; rintro e w' ⟨rfl, rfl⟩)
    all_goals go_round
    case rel => exact ⟨k + 1, by omega, by go_num, by rw [HP2.out]⟩
    case measure => simp [intOf]; omega
   ·have HP2 : Hid (psum l (k + 1) = s + x) := by show _ = _; rw [HP.out, if_neg hin]
    clear HP
    by_cases hi1 : 148 ≤ k
    ·have hi2 : ¬ k < 156 := by omega
     clear hin
     go_wp2_with (go_at_call 90; refine (plain1_any _ (by omega) (by omega) _).mono ?_; rintro e w' ⟨rfl, rfl⟩)
     all_goals go_round
     case rel => exact ⟨k + 1, by omega, by go_num, by rw [HP2.out]⟩
     case measure => simp [intOf]; omega
    ·clear hin
     go_wp2_with (go_at_call 90; refine (plain1_any _ (by omega) (by omega) _).mono ?_; rintro e w' ⟨rfl, rfl⟩)
     all_goals go_round
     case rel => exact ⟨k + 1, by omega, by go_num, by rw [HP2.out]⟩
     case measure => simp [intOf]; omega
  ·obtain rfl : k = l.length := by omega
   go_wp2
   go_ret
   exact ⟨rfl, rfl⟩
theorem plain_any (A : Option Addr) (c : Nat) (l : List Int) (w : World) (hC : Kd.C (Kd.int .u8) w A l.length l) (hr : ∀ x ∈ l, 0 ≤ x ∧ x < 256) (hl : 0 < l.length) (hl2 : l.length ≤ 1000000) :
  Calls Tryz.prog 60 #[.slice A l.length c] w fun e w' => e = .returned (.int .i64 (psum l l.length)) ∧ w = w' := by
 go_enter Tryz.func60, Tryz.ntmps60
 go_wp2_with (go_at_call 89; refine (each_any A c l _ hC hr hl hl2 _ rfl).mono ?_; rintro e w' ⟨rfl, rfl⟩)
 go_ret
 exact ⟨rfl, rfl⟩
end Go.Proofs.YtpbpfngichfgeaaGreatDoor
