/-
  The walk of FaultWraps.
-/
import Derived.Test.YtnhffkdabdilpaaDoorFaultW2
import Derived.Deep.RegionHeld3
import Derived.Lib.Hide
import Derived.IntWalk
import Derived.Outline
namespace Go.Proofs.YtnhffkdabdilpaaDoor
open Go.RowKit Go.Extern.Stop Go.Stop Go.Extern

def WrapRel (code : Int) (zs : List Int) (k : Nat) (E : Value) : Prop := ∃ ps u x, E = .iface u x ∧ Chain code (zs.getD k 0 :: ps) (.iface u x) ∧ ps.length = k

/-- What does not come to the loop: many places, no number, no place. -/
theorem wraps_early (code : Int) (A : Option Addr) (len cap : Nat) (hs : 50 < len ∨ code = 0 ∨ len = 0) (W w : World) (h : Inv W w) :
    Calls Tryd.prog 3 #[.int .i64 code, .slice A len cap] w fun e w' => e = .returned (.bool true) ∧ Inv W w' := by
  by_cases h5 : 50 < len
  · have h5i : (50 : Int) < (len : Int) := by omega
    go_enter Tryd.func3, Tryd.ntmps3
    go_wp2_with (first | (go_at_call 9; refine (tells_any h).mono ?_; rintro e w1 ⟨rfl, hi1⟩) | (go_at_call_of 10 (Value.int IntKind.i64 3); (with_reducible refine (new_ok _ _).mono ?_); rintro e w2 ⟨rfl, rfl⟩) | (go_at_call_of 11 (Value.nilIface); (with_reducible refine (wrap_nil _ _).mono ?_); rintro e w2 ⟨rfl, rfl⟩) | (go_at_call_of 12 (Value.nilIface); (with_reducible refine (Inv.code_nil (W := W) (by assumption)).mono ?_); rintro e w3 ⟨rfl, hi3⟩) | (go_at_call_of 13 (Value.nilIface); (with_reducible refine (Inv.place_nil (W := W) (by assumption)).mono ?_); rintro e w4 ⟨rfl, hi4⟩) | (go_at_call_of 14 (Value.nilIface); (with_reducible refine (Inv.depth_nil (W := W) (by assumption)).mono ?_); rintro e w5 ⟨rfl, hi5⟩))
    go_ret
    exact ⟨rfl, by assumption⟩
  · have h5i : ¬ (50 : Int) < (len : Int) := by omega
    by_cases hc : code = 0
    · subst hc
      go_enter Tryd.func3, Tryd.ntmps3
      go_wp2_with (first | (go_at_call 9; refine (tells_any h).mono ?_; rintro e w1 ⟨rfl, hi1⟩) | (go_at_call_of 10 (Value.int IntKind.i64 3); (with_reducible refine (new_ok _ _).mono ?_); rintro e w2 ⟨rfl, rfl⟩) | (go_at_call_of 11 (Value.nilIface); (with_reducible refine (wrap_nil _ _).mono ?_); rintro e w2 ⟨rfl, rfl⟩) | (go_at_call_of 12 (Value.nilIface); (with_reducible refine (Inv.code_nil (W := W) (by assumption)).mono ?_); rintro e w3 ⟨rfl, hi3⟩) | (go_at_call_of 13 (Value.nilIface); (with_reducible refine (Inv.place_nil (W := W) (by assumption)).mono ?_); rintro e w4 ⟨rfl, hi4⟩) | (go_at_call_of 14 (Value.nilIface); (with_reducible refine (Inv.depth_nil (W := W) (by assumption)).mono ?_); rintro e w5 ⟨rfl, hi5⟩) | (go_at_call_of 15 (Value.nilIface); (with_reducible refine (Inv.is_nil (W := W) (by assumption) _).mono ?_); rintro e w6 ⟨rfl, hi6⟩))
      go_ret
      exact ⟨rfl, by assumption⟩
    · have hc0 : (code == 0) = false := by simpa using hc
      obtain rfl : len = 0 := by omega
      clear hc hs
      go_enter Tryd.func3, Tryd.ntmps3
      go_wp2_with (first | (go_at_call 9; refine (tells_any h).mono ?_; rintro e w1 ⟨rfl, hi1⟩) | (go_at_call_of 10 (Value.int IntKind.i64 3); (with_reducible refine (new_ok _ _).mono ?_); rintro e w2 ⟨rfl, rfl⟩) | (go_at_call_of 11 (Value.nilIface); (with_reducible refine (wrap_nil _ _).mono ?_); rintro e w2 ⟨rfl, rfl⟩) | (go_at_call_of 12 (Value.nilIface); (with_reducible refine (Inv.code_nil (W := W) (by assumption)).mono ?_); rintro e w3 ⟨rfl, hi3⟩) | (go_at_call_of 13 (Value.nilIface); (with_reducible refine (Inv.place_nil (W := W) (by assumption)).mono ?_); rintro e w4 ⟨rfl, hi4⟩) | (go_at_call_of 14 (Value.nilIface); (with_reducible refine (Inv.depth_nil (W := W) (by assumption)).mono ?_); rintro e w5 ⟨rfl, hi5⟩) | (go_at_call_of 15 (Value.nilIface); (with_reducible refine (Inv.is_nil (W := W) (by assumption) _).mono ?_); rintro e w6 ⟨rfl, hi6⟩))
      go_ret
      exact ⟨rfl, by assumption⟩

set_option maxHeartbeats 2000000 in
theorem wraps_late (code : Int) (hc0 : (code == 0) = false) (b off m cap : Nat) (zs : List Int) (h5 : ¬ 50 < m + 1) (hl : m + 1 ≤ cap) (hcap : cap ≤ 9223372036854775807) (W w : World) (h : Inv W w) (hb : b < W.heap.size)
    (hcell : ∀ i, i < m + 1 → W.cell? ⟨b, off + i, none⟩ = some (.int .i64 (zs.getD i 0))) :
    Calls Tryd.prog 3 #[.int .i64 code, .slice (some ⟨b, off, none⟩) (m + 1) cap] w fun e w' => e = .returned (.bool true) ∧ Inv W w' := by
  have hcw : ∀ w' : World, Inv W w' → ∀ i, i < m + 1 → w'.cell? ⟨b, off + i, none⟩ = some (.int .i64 (zs.getD i 0)) := fun w' hi i hlt => (hi.below.cell (p := ⟨b, off + i, none⟩) hb).trans (hcell i hlt)
  have HCW := Lib.hid hcw
  clear hcw hcell
  have h5i : ¬ (50 : Int) < (m : Int) + 1 := by omega
  have hl0 : ((m : Int) + 1 == 0) = false := by simp; omega
  have h0l : (0 : Int) < (m : Int) + 1 := by omega
  by_cases hk1 : cap = 1
  · have hm0 : m ≤ 0 := by omega
    subst hk1
    go_enter Tryd.func3, Tryd.ntmps3
    go_wp2_with (first | (go_at_call 9; refine (tells_any h).mono ?_; rintro e w1 ⟨rfl, hi1⟩) | (go_at_call_of 10 (Value.int IntKind.i64 3); (with_reducible refine (new_ok _ _).mono ?_); rintro e w2 ⟨rfl, rfl⟩) | (go_at_call_of 11 (Value.nilIface); (with_reducible refine (wrap_nil _ _).mono ?_); rintro e w2 ⟨rfl, rfl⟩) | (go_at_call_of 12 (Value.nilIface); (with_reducible refine (Inv.code_nil (W := W) (by assumption)).mono ?_); rintro e w3 ⟨rfl, hi3⟩) | (go_at_call_of 13 (Value.nilIface); (with_reducible refine (Inv.place_nil (W := W) (by assumption)).mono ?_); rintro e w4 ⟨rfl, hi4⟩) | (go_at_call_of 14 (Value.nilIface); (with_reducible refine (Inv.depth_nil (W := W) (by assumption)).mono ?_); rintro e w5 ⟨rfl, hi5⟩) | (go_at_call_of 15 (Value.nilIface); (with_reducible refine (Inv.is_nil (W := W) (by assumption) _).mono ?_); rintro e w6 ⟨rfl, hi6⟩; have c0 := HCW.out _ hi6 0 (by omega); rw [Nat.add_zero] at c0) | (go_at_call 10; (with_reducible refine (new_any _ _ _ hc0).mono ?_); rintro e w7 ⟨rfl, rfl⟩))
    go_loopw [52, 6, 8] (fun i E _ wr => ∃ k : Nat, k ≤ m ∧ i = .int .i64 k ∧ WrapRel code zs k E ∧ Inv W wr) (fun i _ _ _ => m - (intOf i).toNat)
    case atStart => exact ⟨0, by omega, rfl, ⟨[], _, _, rfl, by simpa using one_ code _, rfl⟩, by assumption⟩
    case round =>
      obtain ⟨k, hk, rfl, ⟨ps, u, x, rfl, hC, hL⟩, hi⟩ := hrel
      have HC := Lib.hid hC
      have HL := Lib.hid hL
      clear hC hL
      by_cases hlt : k < m
      · omega
      · obtain rfl : k = m := by omega
        have hcn : (code != 0) = true := by simpa using hc0
        have hL2 : ((zs.getD k 0 :: ps).length : Int) = (k : Int) + 1 := by simp [HL.out]
        have LEN := Lib.hid hL2
        clear hL2
        go_wp2
        have i1 : (0 : Int) ≤ (k : Int) := by omega
        have i2 : (k : Int) < (k : Int) + 1 := by omega
        have i4 : IntKind.i64.wrap ((k : Int) + 1 - 1) = (k : Int) := by rw [show (k : Int) + 1 - 1 = (k : Int) by omega]; exact IntWalk.i64_in _ (by omega)
        have i5 : IntKind.i64.wrap (k : Int) = (k : Int) := IntWalk.i64_in _ (by omega)
        go_region_held3 (fun w' => Inv W w' ∧ w'.cell? ⟨b, off + k, none⟩ = some (.int .i64 (zs.getD k 0))) (first | exact ⟨hi.drew, HCW.out _ hi.drew _ (by omega)⟩ | exact ⟨by assumption, HCW.out _ (by assumption) _ (by omega)⟩) (first | (go_at_call 12; refine (Inv.code (‹Inv W _ ∧ _›).1 HC.out).mono ?_; rintro e w13 ⟨rfl, hi13⟩) | (go_at_call 15; refine (Inv.is (‹Inv W _ ∧ _›).1 code HC.out true (by simp [hcn])).mono ?_; rintro e w13 ⟨rfl, hi13⟩) | (go_at_call 13; refine (Inv.place (‹Inv W _ ∧ _›).1 HC.out).mono ?_; rintro e w13 ⟨rfl, hi13⟩) | (go_at_call 14; refine (Inv.depthN (‹Inv W _ ∧ _›).1 HC.out ((k : Int) + 1) LEN.out (by omega)).mono ?_; rintro e w13 ⟨rfl, hi13⟩))
        go_wp2
        go_ret
        exact ⟨rfl, (‹Inv W _ ∧ _›).1⟩
  · go_enter Tryd.func3, Tryd.ntmps3
    go_wp2_with (first | (go_at_call 9; refine (tells_any h).mono ?_; rintro e w1 ⟨rfl, hi1⟩) | (go_at_call_of 10 (Value.int IntKind.i64 3); (with_reducible refine (new_ok _ _).mono ?_); rintro e w2 ⟨rfl, rfl⟩) | (go_at_call_of 11 (Value.nilIface); (with_reducible refine (wrap_nil _ _).mono ?_); rintro e w2 ⟨rfl, rfl⟩) | (go_at_call_of 12 (Value.nilIface); (with_reducible refine (Inv.code_nil (W := W) (by assumption)).mono ?_); rintro e w3 ⟨rfl, hi3⟩) | (go_at_call_of 13 (Value.nilIface); (with_reducible refine (Inv.place_nil (W := W) (by assumption)).mono ?_); rintro e w4 ⟨rfl, hi4⟩) | (go_at_call_of 14 (Value.nilIface); (with_reducible refine (Inv.depth_nil (W := W) (by assumption)).mono ?_); rintro e w5 ⟨rfl, hi5⟩) | (go_at_call_of 15 (Value.nilIface); (with_reducible refine (Inv.is_nil (W := W) (by assumption) _).mono ?_); rintro e w6 ⟨rfl, hi6⟩; have c0 := HCW.out _ hi6 0 (by omega); rw [Nat.add_zero] at c0) | (go_at_call 10; (with_reducible refine (new_any _ _ _ hc0).mono ?_); rintro e w7 ⟨rfl, rfl⟩))
    go_loopw [52, 6, 8] (fun i E _ wr => ∃ k : Nat, k ≤ m ∧ i = .int .i64 k ∧ WrapRel code zs k E ∧ Inv W wr) (fun i _ _ _ => m - (intOf i).toNat)
    case atStart => exact ⟨0, by omega, rfl, ⟨[], _, _, rfl, by simpa using one_ code _, rfl⟩, by assumption⟩
    case round =>
      obtain ⟨k, hk, rfl, ⟨ps, u, x, rfl, hC, hL⟩, hi⟩ := hrel
      have HC := Lib.hid hC
      have HL := Lib.hid hL
      clear hC hL
      by_cases hlt : k < m
      · have c9 := HCW.out _ hi (1 + k) (by omega)
        rw [← Nat.add_assoc] at c9
        go_wp2_with (go_at_call 11; (with_reducible refine (wrap_any _ _ _ _).mono ?_); rintro e w2 ⟨rfl, rfl⟩)
        go_roundw
        case rel => exact ⟨k + 1, by omega, by go_num, ⟨_, _, _, rfl, by rw [Nat.add_comm k 1, List.getD_eq_getElem?_getD]; exact .wrap _ _ _ _ HC.out, by simp [HL.out]⟩, hi⟩
        case measure => simp [intOf]; omega
      · obtain rfl : k = m := by omega
        have hcn : (code != 0) = true := by simpa using hc0
        have hL2 : ((zs.getD k 0 :: ps).length : Int) = (k : Int) + 1 := by simp [HL.out]
        have LEN := Lib.hid hL2
        clear hL2
        go_wp2
        have i1 : (0 : Int) ≤ (k : Int) := by omega
        have i2 : (k : Int) < (k : Int) + 1 := by omega
        have i4 : IntKind.i64.wrap ((k : Int) + 1 - 1) = (k : Int) := by rw [show (k : Int) + 1 - 1 = (k : Int) by omega]; exact IntWalk.i64_in _ (by omega)
        have i5 : IntKind.i64.wrap (k : Int) = (k : Int) := IntWalk.i64_in _ (by omega)
        go_region_held3 (fun w' => Inv W w' ∧ w'.cell? ⟨b, off + k, none⟩ = some (.int .i64 (zs.getD k 0))) (first | exact ⟨hi.drew, HCW.out _ hi.drew _ (by omega)⟩ | exact ⟨by assumption, HCW.out _ (by assumption) _ (by omega)⟩) (first | (go_at_call 12; refine (Inv.code (‹Inv W _ ∧ _›).1 HC.out).mono ?_; rintro e w13 ⟨rfl, hi13⟩) | (go_at_call 15; refine (Inv.is (‹Inv W _ ∧ _›).1 code HC.out true (by simp [hcn])).mono ?_; rintro e w13 ⟨rfl, hi13⟩) | (go_at_call 13; refine (Inv.place (‹Inv W _ ∧ _›).1 HC.out).mono ?_; rintro e w13 ⟨rfl, hi13⟩) | (go_at_call 14; refine (Inv.depthN (‹Inv W _ ∧ _›).1 HC.out ((k : Int) + 1) LEN.out (by omega)).mono ?_; rintro e w13 ⟨rfl, hi13⟩))
        go_wp2
        go_ret
        exact ⟨rfl, (‹Inv W _ ∧ _›).1⟩
end Go.Proofs.YtnhffkdabdilpaaDoor
