/-
  The walk of FaultWords.
-/
import Derived.Test.YtnhffkdabdilpaaDoorFaultW4
import Derived.Test.YtnhffkdabdilpaaDoorFaultItoa
import Derived.Outline
namespace Go.Proofs.YtnhffkdabdilpaaDoor
open Go.RowKit Go.Extern.Stop Go.Stop Go.Extern

theorem below_next' {W w w' : World} (h : Below W.heap.size W w) (hb : Below w.heap.size w w') : Below W.heap.size W w' := h.trans (hb.mono h.size)

theorem words_early (code : Int) (A : Option Addr) (len cap : Nat) (hs : code = 0 ∨ 30 < len ∨ len = 0) (W w : World) (h : Inv W w) :
    Calls Tryd.prog 8 #[.int .i64 code, .slice A len cap] w fun e w' => e = .returned (.bool true) ∧ Inv W w' := by
  by_cases hc : code = 0
  · subst hc
    go_enter Tryd.func8, Tryd.ntmps8
    go_wp2_with (go_at_call 9; refine (tells_any h).mono ?_; rintro e w1 ⟨rfl, hi1⟩)
    go_ret
    exact ⟨rfl, by assumption⟩
  · have hc0 : (code == 0) = false := by simpa using hc
    by_cases h3 : 30 < len
    · have h3i : (30 : Int) < (len : Int) := by omega
      clear hs hc
      go_enter Tryd.func8, Tryd.ntmps8
      go_wp2_with (go_at_call 9; refine (tells_any h).mono ?_; rintro e w1 ⟨rfl, hi1⟩)
      go_ret
      exact ⟨rfl, by assumption⟩
    · have h3i : ¬ (30 : Int) < (len : Int) := by omega
      obtain rfl : len = 0 := by omega
      clear hs hc
      go_enter Tryd.func8, Tryd.ntmps8
      go_wp2_with (go_at_call 9; refine (tells_any h).mono ?_; rintro e w1 ⟨rfl, hi1⟩)
      go_ret
      exact ⟨rfl, by assumption⟩

def LenRel (code : Int) (k : Nat) (E S : Value) : Prop := ∃ ps u x s, E = .iface u x ∧ Chain code ps (.iface u x) ∧ ps.length = k + 1 ∧ S = .string s ∧ s.size = 4 * (k + 1) + (errnoS code).size

set_option maxHeartbeats 4000000 in
theorem words_late (code : Int) (l0 : -9223372036854775808 ≤ code) (l1 : code ≤ 9223372036854775807) (hc0 : (code == 0) = false) (b off m cap : Nat) (zs : List Int) (h5 : ¬ 30 < m + 1) (hl : m + 1 ≤ cap) (hcap : cap ≤ 9223372036854775807) (W w : World) (h : Inv W w) (ht : TabOk W) (hb : b < W.heap.size)
    (hcell : ∀ i, i < m + 1 → W.cell? ⟨b, off + i, none⟩ = some (.int .i64 (zs.getD i 0))) :
    Calls Tryd.prog 8 #[.int .i64 code, .slice (some ⟨b, off, none⟩) (m + 1) cap] w fun e w' => e = .returned (.bool true) ∧ Below W.heap.size W w' := by
  have hcw : ∀ w' : World, Inv W w' → ∀ i, i < m + 1 → w'.cell? ⟨b, off + i, none⟩ = some (.int .i64 (zs.getD i 0)) := fun w' hi i hlt => (hi.below.cell (p := ⟨b, off + i, none⟩) hb).trans (hcell i hlt)
  have HCW := Lib.hid hcw
  have htw : ∀ w' : World, Inv W w' → TabOk w' := fun w' hi => ht.below hi.below
  have HT := Lib.hid htw
  clear hcw hcell ht htw
  have h5i : ¬ (30 : Int) < (m : Int) + 1 := by omega
  have hl0 : ((m : Int) + 1 == 0) = false := by simp; omega
  have h0l : (0 : Int) < (m : Int) + 1 := by omega
  have hE := errnoS_size code l0 l1
  have hadd : ∀ wx, (Op.stringOp .add ⟨#[97, 116, 58, 32]⟩ (errnoS code)).run Tryd.prog wx = .ok (.string (⟨#[97, 116, 58, 32]⟩ ++ errnoS code)) wx := fun wx => run_string_add_sum wx _ _ (by show 4 + (errnoS code).size ≤ _; omega)
  by_cases hk1 : cap = 1
  · have hm0 : m ≤ 0 := by omega
    subst hk1
    go_enter Tryd.func8, Tryd.ntmps8
    go_wp2_with (first | (go_at_call 9; refine (tells_any h).mono ?_; rintro e w1 ⟨rfl, hi1⟩; have c0 := HCW.out _ hi1 0 (by omega); rw [Nat.add_zero] at c0) | (go_at_call 10; (with_reducible refine (new_any _ _ _ hc0).mono ?_); rintro e w7 ⟨rfl, rfl⟩) | (go_at_call 16; refine (errno_word code l0 l1 _ (HT.out _ hi1)).mono ?_; rintro e w3 ⟨rfl, hb3⟩; have hi3 := hi1.next hb3))
    go_loopw [35, 5, 6, 8] (fun i E S _ wr => ∃ k : Nat, k ≤ m ∧ i = .int .i64 k ∧ LenRel code k E S ∧ Inv W wr) (fun i _ _ _ _ => m - (intOf i).toNat)
    case atStart => exact ⟨0, by omega, rfl, ⟨_, _, _, _, rfl, one_ code _, rfl, rfl, by rw [ByteArray.size_append]; rfl⟩, hi3⟩
    case round =>
      obtain ⟨k, hk, rfl, ⟨ps, u, x, s, rfl, hC, hL, rfl, hS⟩, hi⟩ := hrel
      have hs2 : s.size ≤ 1000 := by omega
      have HC := Lib.hid hC
      have HL := Lib.hid hL
      have HS := Lib.hid hS
      clear hC hL hS
      by_cases hlt : k < m
      · omega
      · obtain rfl : k = m := by omega
        have c9 := HCW.out _ hi 0 (by omega)
        rw [Nat.add_zero] at c9
        obtain ⟨q0, hq0⟩ : ∃ q0, zs.getD 0 0 = q0 := ⟨_, rfl⟩
        rw [hq0] at c9
        have hL2 : (ps.length : Int) = (k : Int) + 1 := by have := HL.out; omega
        have LEN := Lib.hid hL2
        have hsz : ((s.size : Int) == 4 * ((k : Int) + 1) + ((errnoS code).size : Int)) = true := by have := HS.out; simp; omega
        have hbx : b < wr.heap.size := cell_lt c9
        have hiA : Inv (wr.alloc (.cells #[.int .i64 q0, .iface 24 (.int .i64 code)] 39)) (wr.alloc (.cells #[.int .i64 q0, .iface 24 (.int .i64 code)] 39)) := ⟨Below.refl _ _, cell_old hi.et⟩
        have hta : ∀ w', Inv (wr.alloc (.cells #[.int .i64 q0, .iface 24 (.int .i64 code)] 39)) w' → TabOk w' := fun w' hx => (HT.out _ hi).below hx.out
        have HTA := Lib.hid hta
        clear hL2 hq0 hta
        go_wp2_with (first
          | (go_at_call 14; (with_reducible refine (Inv.depthN hiA HC.out ((k : Int) + 1) LEN.out (by omega)).mono ?_); rintro e w4 ⟨rfl, hi4⟩; obtain ⟨d0, d1⟩ := arr hi4)
          | (go_at_call 17; refine (at_word q0 code l0 l1 _ (HTA.out _ hi4)).mono ?_; rintro e w5 ⟨rfl, hb5⟩; have hi5 := hi4.next hb5)
          | (go_at_call 18; refine (unwrap_any _ _ _ _).mono ?_; rintro e w7 ⟨rfl, hb7⟩; have hi7 := hi6.next hb7)
          | (go_at_call 12; refine (Inv.code hi7 (leaf_ _)).mono ?_; rintro e w8 ⟨rfl, hi8⟩)
          | (go_at_call 16; have _t := hi8; refine (errno_word code l0 l1 _ (HTA.out _ hi8)).mono ?_; rintro e w9 ⟨rfl, hb9⟩; have hi9 := hi8.next hb9)
          | (go_at_call 16; refine (errno_word code l0 l1 _ (HTA.out _ hi5)).mono ?_; rintro e w6 ⟨rfl, hb6⟩; have hi6 := hi5.next hb6; obtain ⟨f0, f1⟩ := arr hi6))
        go_ret
        exact ⟨rfl, below_next' hi.below hi9.out⟩
  · go_enter Tryd.func8, Tryd.ntmps8
    go_wp2_with (first | (go_at_call 9; refine (tells_any h).mono ?_; rintro e w1 ⟨rfl, hi1⟩; have c0 := HCW.out _ hi1 0 (by omega); rw [Nat.add_zero] at c0) | (go_at_call 10; (with_reducible refine (new_any _ _ _ hc0).mono ?_); rintro e w7 ⟨rfl, rfl⟩) | (go_at_call 16; refine (errno_word code l0 l1 _ (HT.out _ hi1)).mono ?_; rintro e w3 ⟨rfl, hb3⟩; have hi3 := hi1.next hb3))
    go_loopw [35, 5, 6, 8] (fun i E S _ wr => ∃ k : Nat, k ≤ m ∧ i = .int .i64 k ∧ LenRel code k E S ∧ Inv W wr) (fun i _ _ _ _ => m - (intOf i).toNat)
    case atStart => exact ⟨0, by omega, rfl, ⟨_, _, _, _, rfl, one_ code _, rfl, rfl, by rw [ByteArray.size_append]; rfl⟩, hi3⟩
    case round =>
      obtain ⟨k, hk, rfl, ⟨ps, u, x, s, rfl, hC, hL, rfl, hS⟩, hi⟩ := hrel
      have hs2 : s.size ≤ 1000 := by omega
      have HC := Lib.hid hC
      have HL := Lib.hid hL
      have HS := Lib.hid hS
      clear hC hL hS
      by_cases hlt : k < m
      · have c9 := HCW.out _ hi (1 + k) (by omega)
        rw [← Nat.add_assoc] at c9
        have hadd2 : ∀ wx, (Op.stringOp .add ⟨#[97, 116, 58, 32]⟩ s).run Tryd.prog wx = .ok (.string (⟨#[97, 116, 58, 32]⟩ ++ s)) wx := fun wx => run_string_add_sum wx _ _ (by show 4 + s.size ≤ _; omega)
        go_wp2_with (go_at_call 11; (with_reducible refine (wrap_any _ _ _ _).mono ?_); rintro e w2 ⟨rfl, rfl⟩)
        go_roundw
        case rel => exact ⟨k + 1, by omega, by go_num, ⟨_, _, _, _, rfl, .wrap _ _ _ _ HC.out, by simp [HL.out], rfl, by rw [ByteArray.size_append, HS.out]; show 4 + _ = _; omega⟩, hi⟩
        case measure => simp [intOf]; omega
      · obtain rfl : k = m := by omega
        have c9 := HCW.out _ hi 0 (by omega)
        rw [Nat.add_zero] at c9
        obtain ⟨q0, hq0⟩ : ∃ q0, zs.getD 0 0 = q0 := ⟨_, rfl⟩
        rw [hq0] at c9
        have hL2 : (ps.length : Int) = (k : Int) + 1 := by have := HL.out; omega
        have LEN := Lib.hid hL2
        have hsz : ((s.size : Int) == 4 * ((k : Int) + 1) + ((errnoS code).size : Int)) = true := by have := HS.out; simp; omega
        have hbx : b < wr.heap.size := cell_lt c9
        have hiA : Inv (wr.alloc (.cells #[.int .i64 q0, .iface 24 (.int .i64 code)] 39)) (wr.alloc (.cells #[.int .i64 q0, .iface 24 (.int .i64 code)] 39)) := ⟨Below.refl _ _, cell_old hi.et⟩
        have hta : ∀ w', Inv (wr.alloc (.cells #[.int .i64 q0, .iface 24 (.int .i64 code)] 39)) w' → TabOk w' := fun w' hx => (HT.out _ hi).below hx.out
        have HTA := Lib.hid hta
        clear hL2 hq0 hta
        go_wp2_with (first
          | (go_at_call 14; (with_reducible refine (Inv.depthN hiA HC.out ((k : Int) + 1) LEN.out (by omega)).mono ?_); rintro e w4 ⟨rfl, hi4⟩; obtain ⟨d0, d1⟩ := arr hi4)
          | (go_at_call 17; refine (at_word q0 code l0 l1 _ (HTA.out _ hi4)).mono ?_; rintro e w5 ⟨rfl, hb5⟩; have hi5 := hi4.next hb5)
          | (go_at_call 18; refine (unwrap_any _ _ _ _).mono ?_; rintro e w7 ⟨rfl, hb7⟩; have hi7 := hi6.next hb7)
          | (go_at_call 12; refine (Inv.code hi7 (leaf_ _)).mono ?_; rintro e w8 ⟨rfl, hi8⟩)
          | (go_at_call 16; have _t := hi8; refine (errno_word code l0 l1 _ (HTA.out _ hi8)).mono ?_; rintro e w9 ⟨rfl, hb9⟩; have hi9 := hi8.next hb9)
          | (go_at_call 16; refine (errno_word code l0 l1 _ (HTA.out _ hi5)).mono ?_; rintro e w6 ⟨rfl, hb6⟩; have hi6 := hi5.next hb6; obtain ⟨f0, f1⟩ := arr hi6))
        go_ret
        exact ⟨rfl, below_next' hi.below hi9.out⟩
end Go.Proofs.YtnhffkdabdilpaaDoor
