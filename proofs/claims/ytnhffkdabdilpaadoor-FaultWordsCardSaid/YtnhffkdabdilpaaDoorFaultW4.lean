/-
  The walk of FaultApart.
-/
import Derived.Test.YtnhffkdabdilpaaDoorFaultW2
import Derived.Lib.Hide
import Derived.Outline
namespace Go.Proofs.YtnhffkdabdilpaaDoor
open Go.RowKit Go.Extern.Stop Go.Stop Go.Extern

theorem arr {w w1 : World} {v0 v1 : Value} {t : TypeId} (hi : Inv (w.alloc (.cells #[v0, v1] t)) w1) : w1.cell? ⟨w.heap.size, 0, none⟩ = some v0 ∧ w1.cell? ⟨w.heap.size, 1, none⟩ = some v1 :=
  ⟨(hi.below.cell (p := ⟨w.heap.size, 0, none⟩) (by simp)).trans (by simp), (hi.below.cell (p := ⟨w.heap.size, 1, none⟩) (by simp)).trans (by simp)⟩
theorem Inv.out {w w1 : World} {o : Obj} (hi : Inv (w.alloc o) w1) : Below w.heap.size w w1 := ((Below.refl _ _).alloc (Nat.le_refl _) _).trans (hi.below.mono (by simp))
def ApartRel (code : Int) (E : Value) : Prop := ∃ ps u x, E = .iface u x ∧ Chain code ps (.iface u x)

set_option maxHeartbeats 1000000 in
theorem apart_a0 (a b d0 d1 : Int) (ha : (a == 0) = true) (w : World) (het : w.cell? ⟨0, 0, none⟩ = some etype) :
    Calls Tryd.prog 6 #[.int .i64 a, .int .i64 b, .agg #[.int .i64 d0, .int .i64 d1]] w fun e w' => e = .returned (.bool true) ∧ Below w.heap.size w w' := by
  go_enter Tryd.func6, Tryd.ntmps6
  go_wp2_with (go_at_call 9; refine (tells_any (W := w.alloc (Obj.cells #[Value.int .i64 d0, Value.int .i64 d1] 34)) ⟨Below.refl _ _, cell_old het⟩).mono ?_; rintro e w1 ⟨rfl, hi1⟩; obtain ⟨c0, c1⟩ := arr hi1)
  go_ret
  exact ⟨rfl, hi1.out⟩

set_option maxHeartbeats 1000000 in
theorem apart_b0 (a b d0 d1 : Int) (ha : (a == 0) = false) (hb : (b == 0) = true) (w : World) (het : w.cell? ⟨0, 0, none⟩ = some etype) :
    Calls Tryd.prog 6 #[.int .i64 a, .int .i64 b, .agg #[.int .i64 d0, .int .i64 d1]] w fun e w' => e = .returned (.bool true) ∧ Below w.heap.size w w' := by
  go_enter Tryd.func6, Tryd.ntmps6
  go_wp2_with (go_at_call 9; refine (tells_any (W := w.alloc (Obj.cells #[Value.int .i64 d0, Value.int .i64 d1] 34)) ⟨Below.refl _ _, cell_old het⟩).mono ?_; rintro e w1 ⟨rfl, hi1⟩; obtain ⟨c0, c1⟩ := arr hi1)
  go_ret
  exact ⟨rfl, hi1.out⟩

set_option maxHeartbeats 1000000 in
theorem apart_c0 (a b d0 d1 : Int) (ha : (a == 0) = false) (hb : (b == 0) = false) (h0 : d0 < 0) (w : World) (het : w.cell? ⟨0, 0, none⟩ = some etype) :
    Calls Tryd.prog 6 #[.int .i64 a, .int .i64 b, .agg #[.int .i64 d0, .int .i64 d1]] w fun e w' => e = .returned (.bool true) ∧ Below w.heap.size w w' := by
  go_enter Tryd.func6, Tryd.ntmps6
  go_wp2_with (go_at_call 9; refine (tells_any (W := w.alloc (Obj.cells #[Value.int .i64 d0, Value.int .i64 d1] 34)) ⟨Below.refl _ _, cell_old het⟩).mono ?_; rintro e w1 ⟨rfl, hi1⟩; obtain ⟨c0, c1⟩ := arr hi1)
  go_ret
  exact ⟨rfl, hi1.out⟩

set_option maxHeartbeats 1000000 in
theorem apart_c1 (a b d0 d1 : Int) (ha : (a == 0) = false) (hb : (b == 0) = false) (h0 : ¬ d0 < 0) (h1 : 30 < d0) (w : World) (het : w.cell? ⟨0, 0, none⟩ = some etype) :
    Calls Tryd.prog 6 #[.int .i64 a, .int .i64 b, .agg #[.int .i64 d0, .int .i64 d1]] w fun e w' => e = .returned (.bool true) ∧ Below w.heap.size w w' := by
  go_enter Tryd.func6, Tryd.ntmps6
  go_wp2_with (go_at_call 9; refine (tells_any (W := w.alloc (Obj.cells #[Value.int .i64 d0, Value.int .i64 d1] 34)) ⟨Below.refl _ _, cell_old het⟩).mono ?_; rintro e w1 ⟨rfl, hi1⟩; obtain ⟨c0, c1⟩ := arr hi1)
  go_ret
  exact ⟨rfl, hi1.out⟩

set_option maxHeartbeats 1000000 in
theorem apart_c2 (a b d0 d1 : Int) (ha : (a == 0) = false) (hb : (b == 0) = false) (h0 : ¬ d0 < 0) (h1 : ¬ 30 < d0) (h2 : d1 < 0) (w : World) (het : w.cell? ⟨0, 0, none⟩ = some etype) :
    Calls Tryd.prog 6 #[.int .i64 a, .int .i64 b, .agg #[.int .i64 d0, .int .i64 d1]] w fun e w' => e = .returned (.bool true) ∧ Below w.heap.size w w' := by
  go_enter Tryd.func6, Tryd.ntmps6
  go_wp2_with (go_at_call 9; refine (tells_any (W := w.alloc (Obj.cells #[Value.int .i64 d0, Value.int .i64 d1] 34)) ⟨Below.refl _ _, cell_old het⟩).mono ?_; rintro e w1 ⟨rfl, hi1⟩; obtain ⟨c0, c1⟩ := arr hi1)
  go_ret
  exact ⟨rfl, hi1.out⟩

set_option maxHeartbeats 1000000 in
theorem apart_c3 (a b d0 d1 : Int) (ha : (a == 0) = false) (hb : (b == 0) = false) (h0 : ¬ d0 < 0) (h1 : ¬ 30 < d0) (h2 : ¬ d1 < 0) (h3 : 30 < d1) (w : World) (het : w.cell? ⟨0, 0, none⟩ = some etype) :
    Calls Tryd.prog 6 #[.int .i64 a, .int .i64 b, .agg #[.int .i64 d0, .int .i64 d1]] w fun e w' => e = .returned (.bool true) ∧ Below w.heap.size w w' := by
  go_enter Tryd.func6, Tryd.ntmps6
  go_wp2_with (go_at_call 9; refine (tells_any (W := w.alloc (Obj.cells #[Value.int .i64 d0, Value.int .i64 d1] 34)) ⟨Below.refl _ _, cell_old het⟩).mono ?_; rintro e w1 ⟨rfl, hi1⟩; obtain ⟨c0, c1⟩ := arr hi1)
  go_ret
  exact ⟨rfl, hi1.out⟩

set_option maxHeartbeats 4000000 in
theorem apart_late (a b : Int) (n0 n1 : Nat) (ha : (a == 0) = false) (hb : (b == 0) = false) (h1 : ¬ (30 : Int) < (n0 : Int)) (h3 : ¬ (30 : Int) < (n1 : Int)) (same : Bool) (hs : (a == b) = same) (w : World) (het : w.cell? ⟨0, 0, none⟩ = some etype) :
    Calls Tryd.prog 6 #[.int .i64 a, .int .i64 b, .agg #[.int .i64 (n0 : Int), .int .i64 (n1 : Int)]] w fun e w' => e = .returned (.bool true) ∧ Below w.heap.size w w' := by
  obtain ⟨d0, e0⟩ : ∃ d0 : Int, d0 = n0 := ⟨_, rfl⟩
  obtain ⟨d1, e1⟩ : ∃ d1 : Int, d1 = n1 := ⟨_, rfl⟩
  rw [← e0] at h1 ⊢
  rw [← e1] at h3 ⊢
  have h0 : ¬ d0 < 0 := by omega
  have h2 : ¬ d1 < 0 := by omega
  have E0 := Lib.hid e0
  have E1 := Lib.hid e1
  have HS := Lib.hid hs
  clear e0 e1 hs
  go_enter Tryd.func6, Tryd.ntmps6
  go_wp2_with (first | (go_at_call 9; refine (tells_any (W := w.alloc (Obj.cells #[Value.int .i64 d0, Value.int .i64 d1] 34)) ⟨Below.refl _ _, cell_old het⟩).mono ?_; rintro e w1 ⟨rfl, hi1⟩; obtain ⟨c0, c1⟩ := arr hi1) | (go_at_call_of 10 (Value.int IntKind.i64 1); (with_reducible refine (new_any _ _ _ ha).mono ?_); rintro e w7 ⟨rfl, rfl⟩) | (go_at_call_of 10 (Value.int IntKind.i64 2); (with_reducible refine (new_any _ _ _ hb).mono ?_); rintro e w8 ⟨rfl, rfl⟩))
  go_loopw [45, 7, 9] (fun i E _ wr => ∃ k : Nat, k ≤ n0 ∧ i = .int .i64 k ∧ ApartRel a E ∧ Inv (w.alloc (Obj.cells #[Value.int .i64 d0, Value.int .i64 d1] 34)) wr) (fun i _ _ _ => n0 - (intOf i).toNat)
  case atStart => exact ⟨0, by omega, rfl, ⟨_, _, _, rfl, one_ _ _⟩, by assumption⟩
  case round =>
    obtain ⟨k, hk, rfl, ⟨ps, u, x, rfl, hC⟩, hi⟩ := hrel
    have HC := Lib.hid hC
    clear hC
    obtain ⟨b0, b1⟩ := arr hi
    clear c0 c1
    by_cases hlt : k < n0
    · have hlt' : (k : Int) < d0 := by have := E0.out; omega
      go_wp2_with (go_at_call 11; (with_reducible refine (wrap_any _ _ _ _).mono ?_); rintro e w2 ⟨rfl, rfl⟩)
      go_roundw
      case rel => exact ⟨k + 1, by omega, by go_num, ⟨_, _, _, rfl, .wrap _ _ _ _ HC.out⟩, hi⟩
      case measure => simp [intOf]; omega
    · have hlt' : ¬ (k : Int) < d0 := by have := E0.out; omega
      go_wp2
      go_loopw [54, 8, 10] (fun i E _ wr => ∃ k : Nat, k ≤ n1 ∧ i = .int .i64 k ∧ ApartRel b E ∧ Inv (w.alloc (Obj.cells #[Value.int .i64 d0, Value.int .i64 d1] 34)) wr) (fun i _ _ _ => n1 - (intOf i).toNat)
      case atStart => exact ⟨0, by omega, rfl, ⟨_, _, _, rfl, one_ _ _⟩, by assumption⟩
      case round =>
        obtain ⟨k2, hk2, rfl, ⟨qs, u2, x2, rfl, hD⟩, hi2⟩ := hrel
        have HD := Lib.hid hD
        clear hD b0 b1
        by_cases hlt2 : k2 < n1
        · have hlt2' : (k2 : Int) < d1 := by have := E1.out; omega
          go_wp2_with (go_at_call 11; (with_reducible refine (wrap_any _ _ _ _).mono ?_); rintro e w2 ⟨rfl, rfl⟩)
          go_roundw
          case rel => exact ⟨k2 + 1, by omega, by go_num, ⟨_, _, _, rfl, .wrap _ _ _ _ HD.out⟩, hi2⟩
          case measure => simp [intOf]; omega
        · have hlt2' : ¬ (k2 : Int) < d1 := by have := E1.out; omega
          have p1 : (b != 0 && a == b) = same := by rw [show (b != 0) = true by simp [bne, hb], Bool.true_and]; exact HS.out
          have p2 : (a != 0 && b == a) = same := by rw [show (a != 0) = true by simp [bne, ha], Bool.true_and, BEq.comm]; exact HS.out
          have P1 := Lib.hid p1
          have P2 := Lib.hid p2
          have ab : (a == b) = same := HS.out
          have ss : (same == same) = true := by simp
          clear p1 p2
          go_wp2_with (first
            | (go_at_call 15; (with_reducible refine (Inv.is (by assumption) b HC.out same P1.out).mono ?_); rintro e w12 ⟨rfl, hi12⟩)
            | (go_at_call 15; (with_reducible refine (Inv.is (by assumption) a HD.out same P2.out).mono ?_); rintro e w13 ⟨rfl, hi13⟩)
            | (go_at_call 12; (with_reducible refine (Inv.code (by assumption) HC.out).mono ?_); rintro e w14 ⟨rfl, hi14⟩)
            | (go_at_call 12; (with_reducible refine (Inv.code (by assumption) HD.out).mono ?_); rintro e w15 ⟨rfl, hi15⟩))
          go_ret
          exact ⟨rfl, hi15.out⟩

theorem apart_any (a b d0 d1 : Int) (w : World) (het : w.cell? ⟨0, 0, none⟩ = some etype) :
    Calls Tryd.prog 6 #[.int .i64 a, .int .i64 b, .agg #[.int .i64 d0, .int .i64 d1]] w fun e w' => e = .returned (.bool true) ∧ Below w.heap.size w w' := by
  by_cases ha : (a == 0) = true
  · exact apart_a0 a b d0 d1 ha w het
  have ha' : (a == 0) = false := by simpa using ha
  by_cases hb : (b == 0) = true
  · exact apart_b0 a b d0 d1 ha' hb w het
  have hb' : (b == 0) = false := by simpa using hb
  by_cases h0 : d0 < 0
  · exact apart_c0 a b d0 d1 ha' hb' h0 w het
  by_cases h1 : 30 < d0
  · exact apart_c1 a b d0 d1 ha' hb' h0 h1 w het
  by_cases h2 : d1 < 0
  · exact apart_c2 a b d0 d1 ha' hb' h0 h1 h2 w het
  by_cases h3 : 30 < d1
  · exact apart_c3 a b d0 d1 ha' hb' h0 h1 h2 h3 w het
  obtain ⟨n0, rfl⟩ := Int.eq_ofNat_of_zero_le (show 0 ≤ d0 by omega)
  obtain ⟨n1, rfl⟩ := Int.eq_ofNat_of_zero_le (show 0 ≤ d1 by omega)
  exact apart_late a b n0 n1 ha' hb' h1 h3 _ rfl w het
end Go.Proofs.YtnhffkdabdilpaaDoor
