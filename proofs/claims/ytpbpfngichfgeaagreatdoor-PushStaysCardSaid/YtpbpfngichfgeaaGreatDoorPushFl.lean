/-
  The law package's flip, walked: a new row with all bits turned (for PushStays).
-/
import Derived.Test.YtpbpfngichfgeaaGreatDoorPushRd
namespace Go.Proofs.YtpbpfngichfgeaaGreatDoor
set_option linter.unusedVariables false
set_option linter.unusedSectionVars false
set_option linter.unusedSimpArgs false
open Go Go.RowKit Go.Proofs.YtpbpfngichfgeaaGreatDoorW.PrintWords Go.Proofs.YtpbpfngichfgeaaGreatDoorW.PrintLast Go.Proofs.YtpbpfngichfgeaaGreatDoorW.PrintMore

def flipI (x : Int) : Int := bits .xor .u8 x 255
def flipTo (xs : List Int) (k : Nat) : List Int := (xs.take k).map flipI ++ xs.drop k
theorem flipTo_len (xs : List Int) (k : Nat) : (flipTo xs k).length = xs.length := by
  unfold flipTo
  rw [List.length_append, List.length_map, List.length_take, List.length_drop]
  omega
theorem flipTo_get (xs : List Int) (k : Nat) (hk : k < xs.length) : (flipTo xs k).getD k 0 = xs.getD k 0 := by
  unfold flipTo
  rw [List.getD_eq_getElem?_getD, List.getD_eq_getElem?_getD, List.getElem?_append_right (by simp; omega)]
  simp only [List.length_map, List.length_take, List.getElem?_drop]
  congr 2
  omega
theorem flipTo_set (xs : List Int) (k : Nat) (hk : k < xs.length) : (flipTo xs k).set k (flipI (xs.getD k 0)) = flipTo xs (k + 1) := by
  unfold flipTo
  rw [List.set_append_right _ _ (by simp; omega)]
  have e1 : k - ((xs.take k).map flipI).length = 0 := by simp; omega
  rw [e1, List.drop_eq_getElem_cons hk, List.take_succ_eq_append_getElem hk, List.map_append, List.append_assoc]
  congr 1
  rw [List.set_cons_zero, List.getD_eq_getElem?_getD, List.getElem?_eq_getElem hk]
  rfl
set_option maxHeartbeats 8000000 in
set_option maxRecDepth 100000 in
theorem flip_any (A : Option Addr) (c : Nat) (xs : List Int) (w : World) (hC : Kd.C (Kd.int .u8) w A xs.length xs) (hc : xs.length ≤ c) (hl : xs.length ≤ 1000000) :
    Calls Tryz.prog 23 #[.slice A xs.length c] w fun e w' => ∃ v, e = .returned v ∧ Kd.R (Kd.int .u8) 5 w' w.heap.size (fun _ => True) v (xs.map flipI) ∧ Below w.heap.size w w' := by
  have HO7 : Hid (Kd.R (Kd.int .u8) 5 (w.alloc (.cells #[] 5)) w.heap.size (fun _ => True) (.slice (some ⟨w.heap.size, 0, none⟩) 0 0) []) := R_lit0 w _ trivial
  have HC7 : Hid (Kd.C (Kd.int .u8) (w.alloc (.cells #[] 5)) A xs.length xs) := Kd.C_below hC (below_alloc (Below.refl _ _) _)
  have HB7 : Hid (Below w.heap.size w (w.alloc (.cells #[] 5))) := below_alloc (Below.refl _ _) _
  have HS7 : Hid (w.heap.size ≤ (w.alloc (.cells #[] 5)).heap.size) := HB7.out.size
  obtain ⟨n, hn⟩ : ∃ n, xs.length = n := ⟨_, rfl⟩
  have HN := Lib.hid hn
  have HLN := Lib.hid hl
  rw [hn] at HC7 ⊢
  have HLE : Hid ((([] : List Int).length + n) * 1 ≤ 140737488355328) := by show _ ≤ _; rw [← hn]; simp only [List.length_nil]; omega
  clear hC hc hl hn
  go_enter Tryz.func23, Tryz.ntmps23
  go_upto_region 2 with ((at_builtin; refine Kd.R_append_rows (Kd.int .u8) (Rr := (Kd.int .u8).K (w.alloc (.cells #[] 5))) (w0 := w) (W := w.alloc (.cells #[] 5)) w.heap.size rfl (.tmp 5) (.tmp 6) 32 5 _ 1 rfl Tryz.underlying32 infoU8 rfl (by decide) (by decide) (.slice (some ⟨w.heap.size, 0, none⟩) 0 0) [] xs A n c _ (fun _ => False) rfl rfl HO7.out HC7.out (fun _ _ h => h) (fun _ hk => hk.elim) (fun _ _ => trivial) HB7.out HS7.out HLE.out ?_; intro v2 w2 ho2 hb2 hg2 hat2; rw [List.nil_append] at ho2; have HO2 := Lib.hid ho2; have HB2 := Lib.hid hb2; clear ho2 hb2 hg2 hat2))
  clear HO7 HC7 HB7 HS7 HLE
  by_cases h0 : n = 0
  · obtain ⟨A2, c2, hv2⟩ := Kd.R_slice HO2.out
    have hx : xs = [] := List.length_eq_zero_iff.1 (by rw [HN.out]; exact h0)
    have hl0 : xs.length = 0 := by rw [HN.out]; exact h0
    have HF : Hid (xs.map flipI = xs) := by show _ = _; rw [hx]; rfl
    rw [hl0] at hv2
    subst hv2
    clear hx hl0 h0
    go_wp2_with fail
    go_loopg [10] 0 (fun _ i wr => i = .int .i64 0 ∧ wr = w2)
    case atStart => exact ⟨rfl, rfl⟩
    case round =>
      obtain ⟨rfl, rfl⟩ := hrel
      go_wp2
      go_ret
      exact ⟨_, rfl, by rw [HF.out]; exact HO2.out, HB2.out⟩
  · obtain ⟨G, cap, hv2, hg1, hg2, _⟩ := Kd.R_form HO2.out (by rw [HN.out]; omega)
    rw [HN.out] at hv2
    subst hv2
    have H0 : Aside0 (Kd.R (Kd.int .u8) 5 w2 w.heap.size (fun _ => True) (.slice (some ⟨G, 0, none⟩) n cap) (flipTo xs 0)) := ⟨by simpa [flipTo] using HO2.out⟩
    have HG := Lib.hid hg1
    clear h0 hg1 hg2 HO2
    go_wp2_with fail
    go_loopg [4, 10] n (fun gk _ i wr => ∃ k : Nat, k + gk = n ∧ i = .int .i64 k ∧ Aside0 (Kd.R (Kd.int .u8) 5 wr w.heap.size (fun _ => True) (.slice (some ⟨G, 0, none⟩) n cap) (flipTo xs k)) ∧ Hid (Below w.heap.size w wr))
    case atStart => exact ⟨0, by omega, rfl, H0, HB2⟩
    case round =>
      clear H0 HB2
      obtain ⟨k, hk, rfl, HR, HB⟩ := hrel
      by_cases hlt : k < n
      · obtain ⟨y0, f0⟩ := Kd.R_celln (0 : Int) HR.out (k : Int) (by omega) (by omega)
        have ex : rdOf (0 : Int) (flipTo xs k) (k : Int) = xs.getD k 0 := by
          show (flipTo xs k).getD (k : Int).toNat 0 = _
          rw [Int.toNat_natCast]
          exact flipTo_get xs k (by rw [HN.out]; exact hlt)
        rw [ex] at y0
        simp only [Int.toNat_natCast] at y0 f0
        obtain ⟨x, hx⟩ : ∃ x, xs.getD k 0 = x := ⟨_, rfl⟩
        rw [hx] at y0
        have HX := Lib.hid hx
        have hbn : k + 1 ≤ 1000000 := by have := HLN.out; have := HN.out; omega
        have hg := Kd.R_lt HR.out G rfl
        clear ex hx
        go_wp2
        go_roundg (gk - 1)
        case measure => omega
        case rel =>
          refine ⟨k + 1, by omega, by rw [Int.natCast_add]; rfl, ⟨?_⟩, HB.out.setCell (p := ⟨G, k, none⟩) HG.out _⟩
          have q := (Kd.R_putg HR.out (k : Int) (flipI x)).1
          simp only [Int.toNat_natCast] at q
          rw [← HX.out, flipTo_set xs k (by rw [HN.out]; exact hlt), HX.out] at q
          exact q
      · have hkn : k = n := by omega
        subst hkn
        have HF : Hid (flipTo xs k = xs.map flipI) := by
          show _ = _
          unfold flipTo
          rw [List.take_of_length_le (by rw [HN.out]; exact Nat.le_refl _), List.drop_eq_nil_of_le (by rw [HN.out]; exact Nat.le_refl _), List.append_nil]
        clear hlt
        go_wp2
        go_ret
        exact ⟨_, rfl, by rw [← HF.out]; exact HR.out, HB.out⟩
end Go.Proofs.YtpbpfngichfgeaaGreatDoor
