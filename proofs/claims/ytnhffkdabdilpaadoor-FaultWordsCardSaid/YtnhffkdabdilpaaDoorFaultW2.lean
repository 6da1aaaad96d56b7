/-
  The walk of FaultDeep.
-/
import Derived.Test.YtnhffkdabdilpaaDoorFaultInv
import Derived.Deep.RegionWith
import Derived.Lib.Hide
namespace Go.Proofs.YtnhffkdabdilpaaDoor
open Go.RowKit Go.Extern.Stop Go.Stop Go.Extern

theorem Inv.depthN {W w : World} (h : Inv W w) {code : Int} {ps : List Int} {u : TypeId} {x : Value} (hE : Chain code ps (.iface u x)) (n : Int) (hn : (ps.length : Int) = n) (hl : n ≤ 1000000) : Calls Tryd.prog 14 #[.iface u x] w fun e w' => e = .returned (.int .i64 n) ∧ Inv W w' := by
  subst hn; exact h.depth hE (by omega)

def DeepRel (code : Int) (k : Nat) (E : Value) : Prop := ∃ ps u x, E = .iface u x ∧ Chain code ps (.iface u x) ∧ ps.length = k + 1

set_option maxHeartbeats 1000000 in
theorem deep_walk (code depth place : Int) (W w : World) (h : Inv W w) :
    Calls Tryd.prog 5 #[.int .i64 code, .int .i64 depth, .int .i64 place] w fun e w' => e = .returned (.bool true) ∧ Inv W w' := by
  by_cases hd : depth < 0 ∨ depth > 100
  · rcases hd with hd | hd
    · go_enter Tryd.func5, Tryd.ntmps5
      go_wp2_with (go_at_call 9; refine (tells_any h).mono ?_; rintro e w1 ⟨rfl, hi1⟩)
      go_ret
      exact ⟨rfl, by assumption⟩
    · have h0 : ¬ depth < 0 := by omega
      go_enter Tryd.func5, Tryd.ntmps5
      go_wp2_with (go_at_call 9; refine (tells_any h).mono ?_; rintro e w1 ⟨rfl, hi1⟩)
      go_ret
      exact ⟨rfl, by assumption⟩
  · have h0 : ¬ depth < 0 := by omega
    have h1 : ¬ depth > 100 := by omega
    obtain ⟨n, rfl⟩ := Int.eq_ofNat_of_zero_le (show 0 ≤ depth by omega)
    clear hd
    by_cases hc : code = 0
    · subst hc
      go_enter Tryd.func5, Tryd.ntmps5
      go_wp2_with (first | (go_at_call 9; refine (tells_any h).mono ?_; rintro e w1 ⟨rfl, hi1⟩) | (go_at_call 10; refine (new_ok _ _).mono ?_; rintro e w2 ⟨rfl, rfl⟩))
      go_loopw [21, 7] (fun i E wr => ∃ k : Nat, k ≤ n ∧ i = .int .i64 k ∧ E = .nilIface ∧ Inv W wr) (fun i _ _ => n - (intOf i).toNat)
      case atStart => exact ⟨0, by omega, rfl, rfl, by assumption⟩
      case round =>
        obtain ⟨k, hk, rfl, rfl, hi⟩ := hrel
        by_cases hlt : k < n
        · go_wp2_with (go_at_call 11; (with_reducible refine (wrap_nil _ _).mono ?_); rintro e w2 ⟨rfl, rfl⟩)
          go_roundw
          case rel => exact ⟨k + 1, by omega, by go_num, rfl, hi⟩
          case measure => simp [intOf]; omega
        · go_wp2_with (go_at_call 11; (with_reducible refine (wrap_nil _ _).mono ?_); rintro e w2 ⟨rfl, rfl⟩)
          go_ret
          exact ⟨rfl, hi⟩
    · have hc0 : (code == 0) = false := by simpa using hc
      clear hc
      go_enter Tryd.func5, Tryd.ntmps5
      go_wp2_with (first | (go_at_call 9; refine (tells_any h).mono ?_; rintro e w1 ⟨rfl, hi1⟩) | (go_at_call 10; refine (new_any _ _ _ hc0).mono ?_; rintro e w2 ⟨rfl, rfl⟩))
      go_loopw [21, 7] (fun i E wr => ∃ k : Nat, k ≤ n ∧ i = .int .i64 k ∧ DeepRel code k E ∧ Inv W wr) (fun i _ _ => n - (intOf i).toNat)
      case atStart => exact ⟨0, by omega, rfl, ⟨[0], _, _, rfl, one_ _ _, rfl⟩, by assumption⟩
      case round =>
        obtain ⟨k, hk, rfl, ⟨ps, u, x, rfl, hC, hL⟩, hi⟩ := hrel
        have HC := Lib.hid hC
        have HL := Lib.hid hL
        clear hC hL
        by_cases hlt : k < n
        · go_wp2_with (go_at_call 11; (with_reducible refine (wrap_any _ _ _ _).mono ?_); rintro e w2 ⟨rfl, rfl⟩)
          go_roundw
          case rel => exact ⟨k + 1, by omega, by go_num, ⟨_, _, _, rfl, .wrap _ _ _ _ HC.out, by have := HL.out; simp; omega⟩, hi⟩
          case measure => simp [intOf]; omega
        · have hkn : k = n := by omega
          subst hkn
          have l1 : (ps.length : Int) = (k : Int) + 1 := by have := HL.out; omega
          have l2 : ((place :: ps).length : Int) = (k : Int) + 1 + 1 := by have := HL.out; simp; omega
          have L1 := Lib.hid l1
          have L2 := Lib.hid l2
          clear l1 l2
          go_wp2_with (first
            | (go_at_call 11; (with_reducible refine (wrap_any _ _ _ _).mono ?_); rintro e w2 ⟨rfl, rfl⟩)
            | (go_at_call 12; (with_reducible refine (Inv.code (W := W) (by assumption) (.wrap place _ _ _ HC.out)).mono ?_); rintro e w3 ⟨rfl, hi3⟩)
            | (go_at_call 14; (with_reducible refine (Inv.depthN (W := W) (by assumption) HC.out _ L1.out (by omega)).mono ?_); rintro e w4 ⟨rfl, hi4⟩)
            | (go_at_call 14; (with_reducible refine (Inv.depthN (W := W) (by assumption) (.wrap place _ _ _ HC.out) _ L2.out (by omega)).mono ?_); rintro e w5 ⟨rfl, hi5⟩)
            | (go_at_call 13; (with_reducible refine (Inv.place (W := W) (by assumption) (.wrap place _ _ _ HC.out)).mono ?_); rintro e w6 ⟨rfl, hi6⟩))
          go_ret
          exact ⟨rfl, by assumption⟩
end Go.Proofs.YtnhffkdabdilpaaDoor
