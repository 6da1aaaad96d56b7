/-
  The walks of FaultPlain and FaultFirst.
-/
import Derived.Test.YtnhffkdabdilpaaDoorFaultInv
import Derived.Deep.RegionWith
namespace Go.Proofs.YtnhffkdabdilpaaDoor
open Go.RowKit Go.Extern.Stop Go.Stop Go.Extern

set_option maxHeartbeats 1000000 in
theorem plain_walk (code other place : Int) (W w : World) (h : Inv W w) :
    Calls Tryd.prog 4 #[.int .i64 code, .int .i64 other, .int .i64 place] w fun e w' => e = .returned (.bool true) ∧ Inv W w' := by
  by_cases hc : code = 0
  · subst hc
    go_enter Tryd.func4, Tryd.ntmps4
    go_wp2_with (first
      | (go_at_call 9; refine (tells_any h).mono ?_; rintro e w1 ⟨rfl, hi1⟩)
      | (go_at_call 11; (with_reducible refine (wrap_any _ _ _ _).mono ?_); rintro e w2 ⟨rfl, rfl⟩)
      | (go_at_call 11; (with_reducible refine (wrap_nil _ _).mono ?_); rintro e w2 ⟨rfl, rfl⟩)
      | (go_at_call 12; (with_reducible refine (Inv.code (W := W) (by assumption) (leaf_ _)).mono ?_); rintro e w3 ⟨rfl, hi3⟩)
      | (go_at_call 12; (with_reducible refine (Inv.code (W := W) (by assumption) (one_ _ _)).mono ?_); rintro e w3 ⟨rfl, hi3⟩)
      | (go_at_call 12; (with_reducible refine (Inv.code (W := W) (by assumption) (two_ _ _ _)).mono ?_); rintro e w3 ⟨rfl, hi3⟩)
      | (go_at_call 13; (with_reducible refine (Inv.place_leaf (W := W) (by assumption)).mono ?_); rintro e w5 ⟨rfl, hi5⟩)
      | (go_at_call 13; (with_reducible refine (Inv.place (W := W) (by assumption) (one_ _ _)).mono ?_); rintro e w3 ⟨rfl, hi3⟩)
      | (go_at_call 13; (with_reducible refine (Inv.place (W := W) (by assumption) (two_ _ _ _)).mono ?_); rintro e w3 ⟨rfl, hi3⟩)
      | (go_at_call 14; (with_reducible refine (Inv.depth (W := W) (by assumption) (leaf_ _) len0).mono ?_); rintro e w3 ⟨rfl, hi3⟩)
      | (go_at_call 14; (with_reducible refine (Inv.depth (W := W) (by assumption) (one_ _ _) (len1 _)).mono ?_); rintro e w3 ⟨rfl, hi3⟩)
      | (go_at_call 14; (with_reducible refine (Inv.depth (W := W) (by assumption) (two_ _ _ _) (len2 _ _)).mono ?_); rintro e w3 ⟨rfl, hi3⟩))
    go_ret
    exact ⟨rfl, by assumption⟩
  · have hc0 : (code == 0) = false := by simpa using hc
    have hcn : (code != 0) = true := by simpa using hc
    clear hc
    by_cases ho : other = code
    · subst ho
      go_enter Tryd.func4, Tryd.ntmps4
      go_wp2_with (first
      | (go_at_call 15; (with_reducible refine (Inv.is (W := W) (by assumption) (other) (leaf_ _) true (by simp [hcn])).mono ?_); rintro e w8 ⟨rfl, hi8⟩)
      | (go_at_call 15; (with_reducible refine (Inv.is (W := W) (by assumption) (other) (one_ _ _) true (by simp [hcn])).mono ?_); rintro e w8 ⟨rfl, hi8⟩)
      | (go_at_call 15; (with_reducible refine (Inv.is (W := W) (by assumption) (other) (two_ _ _ _) true (by simp [hcn])).mono ?_); rintro e w8 ⟨rfl, hi8⟩)
      | (go_at_call 9; refine (tells_any h).mono ?_; rintro e w1 ⟨rfl, hi1⟩)
      | (go_at_call 11; (with_reducible refine (wrap_any _ _ _ _).mono ?_); rintro e w2 ⟨rfl, rfl⟩)
      | (go_at_call 11; (with_reducible refine (wrap_nil _ _).mono ?_); rintro e w2 ⟨rfl, rfl⟩)
      | (go_at_call 12; (with_reducible refine (Inv.code (W := W) (by assumption) (leaf_ _)).mono ?_); rintro e w3 ⟨rfl, hi3⟩)
      | (go_at_call 12; (with_reducible refine (Inv.code (W := W) (by assumption) (one_ _ _)).mono ?_); rintro e w3 ⟨rfl, hi3⟩)
      | (go_at_call 12; (with_reducible refine (Inv.code (W := W) (by assumption) (two_ _ _ _)).mono ?_); rintro e w3 ⟨rfl, hi3⟩)
      | (go_at_call 13; (with_reducible refine (Inv.place_leaf (W := W) (by assumption)).mono ?_); rintro e w5 ⟨rfl, hi5⟩)
      | (go_at_call 13; (with_reducible refine (Inv.place (W := W) (by assumption) (one_ _ _)).mono ?_); rintro e w3 ⟨rfl, hi3⟩)
      | (go_at_call 13; (with_reducible refine (Inv.place (W := W) (by assumption) (two_ _ _ _)).mono ?_); rintro e w3 ⟨rfl, hi3⟩)
      | (go_at_call 14; (with_reducible refine (Inv.depth (W := W) (by assumption) (leaf_ _) len0).mono ?_); rintro e w3 ⟨rfl, hi3⟩)
      | (go_at_call 14; (with_reducible refine (Inv.depth (W := W) (by assumption) (one_ _ _) (len1 _)).mono ?_); rintro e w3 ⟨rfl, hi3⟩)
      | (go_at_call 14; (with_reducible refine (Inv.depth (W := W) (by assumption) (two_ _ _ _) (len2 _ _)).mono ?_); rintro e w3 ⟨rfl, hi3⟩))
      go_ret
      exact ⟨rfl, by assumption⟩
    · have ho1 : (other == code) = false := by simpa using ho
      have ho2 : (code == other) = false := by simpa using fun e => ho e.symm
      clear ho
      go_enter Tryd.func4, Tryd.ntmps4
      go_wp2_with fail
      go_wp2_with (first
      | (go_at_call_of 15 (Value.int IntKind.i64 other); (with_reducible refine (Inv.is (W := W) (by assumption) (other) (leaf_ _) false (by simp [ho2])).mono ?_); rintro e w8 ⟨rfl, hi8⟩)
      | (go_at_call_of 15 (Value.int IntKind.i64 other); (with_reducible refine (Inv.is (W := W) (by assumption) (other) (one_ _ _) false (by simp [ho2])).mono ?_); rintro e w8 ⟨rfl, hi8⟩)
      | (go_at_call_of 15 (Value.int IntKind.i64 other); (with_reducible refine (Inv.is (W := W) (by assumption) (other) (two_ _ _ _) false (by simp [ho2])).mono ?_); rintro e w8 ⟨rfl, hi8⟩)
      | (go_at_call 15; (with_reducible refine (Inv.is (W := W) (by assumption) (code) (leaf_ _) true (by simp [hcn])).mono ?_); rintro e w8 ⟨rfl, hi8⟩)
      | (go_at_call 15; (with_reducible refine (Inv.is (W := W) (by assumption) (code) (one_ _ _) true (by simp [hcn])).mono ?_); rintro e w8 ⟨rfl, hi8⟩)
      | (go_at_call 15; (with_reducible refine (Inv.is (W := W) (by assumption) (code) (two_ _ _ _) true (by simp [hcn])).mono ?_); rintro e w8 ⟨rfl, hi8⟩)
      | (go_at_call 9; refine (tells_any h).mono ?_; rintro e w1 ⟨rfl, hi1⟩)
      | (go_at_call 11; (with_reducible refine (wrap_any _ _ _ _).mono ?_); rintro e w2 ⟨rfl, rfl⟩)
      | (go_at_call 11; (with_reducible refine (wrap_nil _ _).mono ?_); rintro e w2 ⟨rfl, rfl⟩)
      | (go_at_call 12; (with_reducible refine (Inv.code (W := W) (by assumption) (leaf_ _)).mono ?_); rintro e w3 ⟨rfl, hi3⟩)
      | (go_at_call 12; (with_reducible refine (Inv.code (W := W) (by assumption) (one_ _ _)).mono ?_); rintro e w3 ⟨rfl, hi3⟩)
      | (go_at_call 12; (with_reducible refine (Inv.code (W := W) (by assumption) (two_ _ _ _)).mono ?_); rintro e w3 ⟨rfl, hi3⟩)
      | (go_at_call 13; (with_reducible refine (Inv.place_leaf (W := W) (by assumption)).mono ?_); rintro e w5 ⟨rfl, hi5⟩)
      | (go_at_call 13; (with_reducible refine (Inv.place (W := W) (by assumption) (one_ _ _)).mono ?_); rintro e w3 ⟨rfl, hi3⟩)
      | (go_at_call 13; (with_reducible refine (Inv.place (W := W) (by assumption) (two_ _ _ _)).mono ?_); rintro e w3 ⟨rfl, hi3⟩)
      | (go_at_call 14; (with_reducible refine (Inv.depth (W := W) (by assumption) (leaf_ _) len0).mono ?_); rintro e w3 ⟨rfl, hi3⟩)
      | (go_at_call 14; (with_reducible refine (Inv.depth (W := W) (by assumption) (one_ _ _) (len1 _)).mono ?_); rintro e w3 ⟨rfl, hi3⟩)
      | (go_at_call 14; (with_reducible refine (Inv.depth (W := W) (by assumption) (two_ _ _ _) (len2 _ _)).mono ?_); rintro e w3 ⟨rfl, hi3⟩))
      go_ret
      exact ⟨rfl, by assumption⟩

set_option maxHeartbeats 1000000 in
theorem first_walk (code place : Int) (W w : World) (h : Inv W w) :
    Calls Tryd.prog 7 #[.int .i64 code, .int .i64 place] w fun e w' => e = .returned (.bool true) ∧ Inv W w' := by
  by_cases hc : code = 0
  · subst hc
    go_enter Tryd.func7, Tryd.ntmps7
    go_wp2_with (first
      | (go_at_call 9; refine (tells_any h).mono ?_; rintro e w1 ⟨rfl, hi1⟩)
      | (go_at_call 11; (with_reducible refine (wrap_any _ _ _ _).mono ?_); rintro e w2 ⟨rfl, rfl⟩)
      | (go_at_call 11; (with_reducible refine (wrap_nil _ _).mono ?_); rintro e w2 ⟨rfl, rfl⟩)
      | (go_at_call 12; (with_reducible refine (Inv.code (W := W) (by assumption) (leaf_ _)).mono ?_); rintro e w3 ⟨rfl, hi3⟩)
      | (go_at_call 12; (with_reducible refine (Inv.code (W := W) (by assumption) (one_ _ _)).mono ?_); rintro e w3 ⟨rfl, hi3⟩)
      | (go_at_call 12; (with_reducible refine (Inv.code (W := W) (by assumption) (two_ _ _ _)).mono ?_); rintro e w3 ⟨rfl, hi3⟩)
      | (go_at_call 13; (with_reducible refine (Inv.place_leaf (W := W) (by assumption)).mono ?_); rintro e w5 ⟨rfl, hi5⟩)
      | (go_at_call 13; (with_reducible refine (Inv.place (W := W) (by assumption) (one_ _ _)).mono ?_); rintro e w3 ⟨rfl, hi3⟩)
      | (go_at_call 13; (with_reducible refine (Inv.place (W := W) (by assumption) (two_ _ _ _)).mono ?_); rintro e w3 ⟨rfl, hi3⟩)
      | (go_at_call 14; (with_reducible refine (Inv.depth (W := W) (by assumption) (leaf_ _) len0).mono ?_); rintro e w3 ⟨rfl, hi3⟩)
      | (go_at_call 14; (with_reducible refine (Inv.depth (W := W) (by assumption) (one_ _ _) (len1 _)).mono ?_); rintro e w3 ⟨rfl, hi3⟩)
      | (go_at_call 14; (with_reducible refine (Inv.depth (W := W) (by assumption) (two_ _ _ _) (len2 _ _)).mono ?_); rintro e w3 ⟨rfl, hi3⟩))
    go_ret
    exact ⟨rfl, by assumption⟩
  · have hc0 : (code == 0) = false := by simpa using hc
    have hcn : (code != 0) = true := by simpa using hc
    clear hc
    go_enter Tryd.func7, Tryd.ntmps7
    go_wp2_with (first
      | (go_at_call 15; (with_reducible refine (Inv.is (W := W) (by assumption) (code) (leaf_ _) true (by simp [hcn])).mono ?_); rintro e w8 ⟨rfl, hi8⟩)
      | (go_at_call 15; (with_reducible refine (Inv.is (W := W) (by assumption) (code) (one_ _ _) true (by simp [hcn])).mono ?_); rintro e w8 ⟨rfl, hi8⟩)
      | (go_at_call 15; (with_reducible refine (Inv.is (W := W) (by assumption) (code) (two_ _ _ _) true (by simp [hcn])).mono ?_); rintro e w8 ⟨rfl, hi8⟩)
      | (go_at_call 15; refine (Inv.is_zero (W := W) (by assumption) _).mono ?_; rintro e w9 ⟨rfl, hi9⟩)
      | (go_at_call 9; refine (tells_any h).mono ?_; rintro e w1 ⟨rfl, hi1⟩)
      | (go_at_call 11; (with_reducible refine (wrap_any _ _ _ _).mono ?_); rintro e w2 ⟨rfl, rfl⟩)
      | (go_at_call 11; (with_reducible refine (wrap_nil _ _).mono ?_); rintro e w2 ⟨rfl, rfl⟩)
      | (go_at_call 12; (with_reducible refine (Inv.code (W := W) (by assumption) (leaf_ _)).mono ?_); rintro e w3 ⟨rfl, hi3⟩)
      | (go_at_call 12; (with_reducible refine (Inv.code (W := W) (by assumption) (one_ _ _)).mono ?_); rintro e w3 ⟨rfl, hi3⟩)
      | (go_at_call 12; (with_reducible refine (Inv.code (W := W) (by assumption) (two_ _ _ _)).mono ?_); rintro e w3 ⟨rfl, hi3⟩)
      | (go_at_call 13; (with_reducible refine (Inv.place_leaf (W := W) (by assumption)).mono ?_); rintro e w5 ⟨rfl, hi5⟩)
      | (go_at_call 13; (with_reducible refine (Inv.place (W := W) (by assumption) (one_ _ _)).mono ?_); rintro e w3 ⟨rfl, hi3⟩)
      | (go_at_call 13; (with_reducible refine (Inv.place (W := W) (by assumption) (two_ _ _ _)).mono ?_); rintro e w3 ⟨rfl, hi3⟩)
      | (go_at_call 14; (with_reducible refine (Inv.depth (W := W) (by assumption) (leaf_ _) len0).mono ?_); rintro e w3 ⟨rfl, hi3⟩)
      | (go_at_call 14; (with_reducible refine (Inv.depth (W := W) (by assumption) (one_ _ _) (len1 _)).mono ?_); rintro e w3 ⟨rfl, hi3⟩)
      | (go_at_call 14; (with_reducible refine (Inv.depth (W := W) (by assumption) (two_ _ _ _) (len2 _ _)).mono ?_); rintro e w3 ⟨rfl, hi3⟩))
    go_ret
    exact ⟨rfl, by assumption⟩
end Go.Proofs.YtnhffkdabdilpaaDoor
