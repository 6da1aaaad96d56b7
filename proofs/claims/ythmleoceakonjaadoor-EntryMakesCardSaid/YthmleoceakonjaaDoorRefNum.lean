/-
  pannierref07.Number, walked.
-/
import Derived.Test.YthmleoceakonjaaDoorEnv
import Derived.Deep.LoopGhost
import Derived.Outline
namespace Go.Proofs.YthmleoceakonjaaDoor
set_option linter.unusedVariables false
set_option linter.unusedSimpArgs false
open Go.RowKit

def goNum : List UInt8 → Int → Option Int
  | [], n => some n
  | b :: l, n => if b.toNat < 48 ∨ 57 < b.toNat then none else if n < Int.tdiv (-9223372036854775808 + ((b.toNat : Int) - 48)) 10 then none else goNum l (10 * n - ((b.toNat : Int) - 48))
def refDig (minus : Bool) (d : List UInt8) : Int × Bool :=
  if d = [] then (0, false) else if d.getD 0 0 = 48 ∧ (1 < d.length ∨ minus = true) then (0, false) else if 19 < d.length then (0, false) else
  match goNum d 0 with
  | none => (0, false)
  | some n => if minus = true then (n, true) else if n = -9223372036854775808 then (0, false) else (-n, true)
def refNum (s : List UInt8) : Int × Bool := if s.head? = some 45 then refDig true (s.drop 1) else refDig false s

theorem drop_at (s : ByteArray) (k : Nat) (h : k < s.size) : s.data.toList.drop k = s[k] :: s.data.toList.drop (k + 1) := by
  rw [List.drop_eq_getElem_cons (by rw [← Lib.size_eq]; exact h)]
  rfl
theorem bytes_nil {s : ByteArray} (h : s.data.toList = []) : s = ⟨#[]⟩ := by
  obtain ⟨⟨a⟩⟩ := s
  simp at h
  rw [h]
theorem tdiv10 (x : Int) (h0 : 0 ≤ x) (h1 : x ≤ 9) : -9223372036854775808 + x ≤ 10 * Int.tdiv (-9223372036854775808 + x) 10 ∧ 10 * Int.tdiv (-9223372036854775808 + x) 10 ≤ -9223372036854775808 + x + 9 := by
  rcases (by omega : x = 0 ∨ x = 1 ∨ x = 2 ∨ x = 3 ∨ x = 4 ∨ x = 5 ∨ x = 6 ∨ x = 7 ∨ x = 8 ∨ x = 9) with rfl | rfl | rfl | rfl | rfl | rfl | rfl | rfl | rfl | rfl <;> decide
def NumEnd (v : Int × Bool) (w : World) (e : Ending) (w' : World) : Prop := e = .returned (.tuple #[.int .i64 v.1, .bool v.2]) ∧ w = w'

set_option maxRecDepth 100000 in
set_option maxHeartbeats 4000000 in
theorem refNumber_any (s : ByteArray) (hs : s.size ≤ 281474976710656) (w : World) :
    Calls Tryd.prog 23 #[.string s] w (NumEnd (refNum s.data.toList) w) := by
  obtain ⟨V, hV⟩ : ∃ V, refNum s.data.toList = V := ⟨_, rfl⟩
  rw [hV]
  by_cases h0 : s = ⟨#[]⟩
  · subst h0
    have HV : Hid ((0, false) = V) := by show _ = _; rw [← hV]; rfl
    clear hV
    go_enter Tryd.func23, Tryd.ntmps23
    go_wp2
    go_ret2
    exact ⟨by rw [← HV.out]; rfl, rfl⟩
  · have hne : s.toList.isEmpty = false := str_nonempty.2 h0
    have hsz : 0 < s.size := by
      rcases Nat.eq_zero_or_pos s.size with h | h
      · exfalso; apply h0; cases s with | mk a => simp [ByteArray.size] at h; simp [h]
      · exact h
    have hhd : s.data.toList = s[0] :: s.data.toList.drop 1 := by have := drop_at s 0 hsz; simpa using this
    clear h0
    by_cases hm : ((s[0]'hsz).toNat : Int) = 45
    · have hmb : (((s[0]'hsz).toNat : Int) == 45) = true := by simpa using hm
      obtain ⟨D, hD⟩ : ∃ D, s.extract 1 s.size = D := ⟨_, rfl⟩
      have hDl : D.data.toList = s.data.toList.drop 1 := by
        rw [← hD]; simp only [ByteArray.data_extract, Array.toList_extract, List.extract_eq_take_drop]
        exact List.take_of_length_le (by rw [List.length_drop, ← Lib.size_eq]; omega)
      have hDs : D.size ≤ s.size := by rw [Lib.size_eq, hDl, List.length_drop, ← Lib.size_eq]; omega
      have hV2 : refDig true D.data.toList = V := by
        rw [← hV, refNum, if_pos ?_, hDl]
        rw [hhd]
        simp only [List.head?_cons, Option.some.injEq]
        apply UInt8.toNat_inj.1
        exact_mod_cast hm
      have HD := Lib.hid hD
      have hsl : ∀ wx, (Instr.slice 9 (.string s) (some (.int .i64 1)) none none).run Tryd.prog wx = .ok (.string D) wx := fun wx => by
        have h := run_slice_string_l (P := Tryd.prog) (w := wx) (t := 9) (s := s) (ht := Tryd.underlying9) .i64 1 (by omega) (by omega)
        rw [← hD]; exact h
      clear hV hDl hhd hm hD
      by_cases hDe : D = ⟨#[]⟩
      · subst hDe
        have HV : Hid ((0, false) = V) := by show _ = _; rw [← hV2]; rfl
        clear hV2
        go_enter Tryd.func23, Tryd.ntmps23
        go_wp2
        go_ret2
        exact ⟨by rw [← HV.out]; rfl, rfl⟩
      have hneD : D.toList.isEmpty = false := str_nonempty.2 hDe
      have hszD : 0 < D.size := by
        rcases Nat.eq_zero_or_pos D.size with h | h
        · exfalso; apply hDe; cases D with | mk a => simp [ByteArray.size] at h; simp [h]
        · exact h
      have hDn : D.data.toList ≠ [] := by intro h; apply hDe; exact bytes_nil h
      clear hDe
      have hg0 : D.data.toList.getD 0 0 = D[0] := by have := drop_at D 0 hszD; simp only [List.drop_zero] at this; rw [this]; rfl
      by_cases hz : ((D[0]'hszD).toNat : Int) = 48
      · have HV : Hid ((0, false) = V) := by
          show _ = _; rw [← hV2, refDig, if_neg hDn, if_pos ?_]
          exact ⟨by rw [hg0]; apply UInt8.toNat_inj.1; exact_mod_cast hz, .inr rfl⟩
        have hzb : (((D[0]'hszD).toNat : Int) == 48) = true := by simpa using hz
        clear hV2 hDn hg0 hz
        by_cases h1 : 1 < D.size
        · go_enter Tryd.func23, Tryd.ntmps23
          go_wp2
          go_ret2
          exact ⟨by rw [← HV.out]; rfl, rfl⟩
        · go_enter Tryd.func23, Tryd.ntmps23
          go_wp2
          go_ret2
          exact ⟨by rw [← HV.out]; rfl, rfl⟩
      have hzn : ¬ (D.data.toList.getD 0 0 = 48 ∧ (1 < D.data.toList.length ∨ true = true)) := by
        rintro ⟨h1, h2⟩
        apply hz
        rw [← hg0, h1]; rfl
      by_cases hl : 19 < D.size
      · have HV : Hid ((0, false) = V) := by show _ = _; rw [← hV2, refDig, if_neg hDn, if_neg hzn, if_pos (by rw [← Lib.size_eq]; exact hl)]
        clear hV2 hDn hg0 hzn
        have hzb : (((D[0]'hszD).toNat : Int) == 48) = false := by simpa using hz
        clear hz
        go_enter Tryd.func23, Tryd.ntmps23
        go_wp2
        go_ret2
        exact ⟨by rw [← HV.out]; rfl, rfl⟩
      have hV3 : (match goNum D.data.toList 0 with | none => (0, false) | some n => if true = true then (n, true) else if n = -9223372036854775808 then (0, false) else (-n, true)) = V := by rw [← hV2, refDig, if_neg hDn, if_neg hzn, if_neg (by rw [← Lib.size_eq]; exact hl)]
      obtain ⟨G, hG⟩ : ∃ G, goNum D.data.toList 0 = G := ⟨_, rfl⟩
      rw [hG] at hV3
      have HV := Lib.hid hV3
      have HG := Lib.hid hG
      have hl2 : D.size ≤ 19 := by omega
      clear hV2 hV3 hG hDn hzn hg0 hl
      have hzb : (((D[0]'hszD).toNat : Int) == 48) = false := by simpa using hz
      clear hz
      go_enter Tryd.func23, Tryd.ntmps23
      go_wp2
      go_loop [6, 7] (fun n i => ∃ (k : Nat) (m : Int), k ≤ D.size ∧ i = .int .i64 k ∧ n = .int .i64 m ∧ -9223372036854775808 ≤ m ∧ m ≤ 0 ∧ Hid (goNum (D.data.toList.drop k) m = G)) (fun _ i => D.size - (intOf i).toNat)
      case atStart => exact ⟨0, 0, by omega, rfl, rfl, by omega, by omega, HG.out⟩
      case round =>
        obtain ⟨k, m, hk, rfl, rfl, m0, m1, HM⟩ := hrel
        by_cases hlt : k < D.size
        · have hdr := drop_at D k hlt
          have hM := HM.out
          rw [hdr, goNum] at hM
          by_cases d0 : ((D[k]'hlt).toNat : Int) < 48
          · rw [if_pos (.inl (by omega))] at hM
            subst hM
            clear hdr
            go_wp2
            go_ret2
            exact ⟨by rw [← HV.out]; rfl, rfl⟩
          · by_cases d1 : (57 : Int) < ((D[k]'hlt).toNat : Int)
            · rw [if_pos (.inr (by omega))] at hM
              subst hM
              clear hdr
              go_wp2
              go_ret2
              exact ⟨by rw [← HV.out]; rfl, rfl⟩
            · rw [if_neg (by omega)] at hM
              obtain ⟨x, hx⟩ : ∃ x : Int, ((D[k]'hlt).toNat : Int) - 48 = x := ⟨_, rfl⟩
              have x0 : 0 ≤ x := by omega
              have x1 : x ≤ 9 := by omega
              rw [hx] at hM
              have hq := tdiv10 x x0 x1
              by_cases d2 : m < Int.tdiv (-9223372036854775808 + x) 10
              · rw [if_pos d2] at hM
                subst hM
                clear hdr
                go_wp2
                go_ret2
                exact ⟨by rw [← HV.out]; rfl, rfl⟩
              · rw [if_neg d2] at hM
                have HM2 := Lib.hid hM
                have b0 : -9223372036854775808 ≤ 10 * m - x := by omega
                have b1 : 10 * m - x ≤ 0 := by omega
                clear hM hdr HM
                go_wp2
                go_round
                case rel => exact ⟨k + 1, 10 * m - x, by omega, by go_num, rfl, b0, b1, HM2.out⟩
                case measure => simp [intOf]; omega
        · obtain rfl : k = D.size := by omega
          have hM := HM.out
          rw [List.drop_of_length_le (by rw [← Lib.size_eq]; omega)] at hM
          simp only [goNum] at hM
          subst hM
          go_wp2
          go_ret2
          exact ⟨by rw [← HV.out]; rfl, rfl⟩
    · have hmb : (((s[0]'hsz).toNat : Int) == 45) = false := by simpa using hm
      have hV2 : refDig false s.data.toList = V := by
        rw [← hV, refNum, if_neg ?_]
        rw [hhd]
        simp only [List.head?_cons, Option.some.injEq]
        intro h
        apply hm
        rw [h]; rfl
      clear hV hhd hm
      have hDn : s.data.toList ≠ [] := by intro h; rw [Lib.size_eq, h] at hsz; simp at hsz
      have hg0 : s.data.toList.getD 0 0 = s[0] := by have := drop_at s 0 hsz; simp only [List.drop_zero] at this; rw [this]; rfl
      by_cases hz : ((s[0]'hsz).toNat : Int) = 48 ∧ 1 < s.size
      · have HV : Hid ((0, false) = V) := by
          show _ = _; rw [← hV2, refDig, if_neg hDn, if_pos ?_]
          exact ⟨by rw [hg0]; apply UInt8.toNat_inj.1; exact_mod_cast hz.1, .inl (by rw [← Lib.size_eq]; exact hz.2)⟩
        have hzb : (((s[0]'hsz).toNat : Int) == 48) = true := by simpa using hz.1
        have h1 := hz.2
        clear hV2 hDn hg0 hz
        go_enter Tryd.func23, Tryd.ntmps23
        go_wp2
        go_ret2
        exact ⟨by rw [← HV.out]; rfl, rfl⟩
      have hzn : ¬ (s.data.toList.getD 0 0 = 48 ∧ (1 < s.data.toList.length ∨ false = true)) := by
        rintro ⟨h1, h2⟩
        apply hz
        exact ⟨by rw [← hg0, h1]; rfl, by rw [Lib.size_eq]; simpa using h2⟩
      by_cases hl : 19 < s.size
      · have HV : Hid ((0, false) = V) := by show _ = _; rw [← hV2, refDig, if_neg hDn, if_neg hzn, if_pos (by rw [← Lib.size_eq]; exact hl)]
        clear hV2 hDn hg0 hzn
        have hzb : (((s[0]'hsz).toNat : Int) == 48) = false := by rw [beq_eq_false_iff_ne]; intro h; exact hz ⟨h, by omega⟩
        clear hz
        go_enter Tryd.func23, Tryd.ntmps23
        go_wp2
        go_ret2
        exact ⟨by rw [← HV.out]; rfl, rfl⟩
      have hV3 : (match goNum s.data.toList 0 with | none => (0, false) | some n => if false = true then (n, true) else if n = -9223372036854775808 then (0, false) else (-n, true)) = V := by rw [← hV2, refDig, if_neg hDn, if_neg hzn, if_neg (by rw [← Lib.size_eq]; exact hl)]
      obtain ⟨G, hG⟩ : ∃ G, goNum s.data.toList 0 = G := ⟨_, rfl⟩
      rw [hG] at hV3
      have HV := Lib.hid hV3
      have HG := Lib.hid hG
      have hl2 : s.size ≤ 19 := by omega
      clear hV2 hV3 hG hDn hzn hg0 hl
      by_cases hz2 : ((s[0]'hsz).toNat : Int) = 48
      · have hzb : (((s[0]'hsz).toNat : Int) == 48) = true := by simpa using hz2
        have h1 : s.size = 1 := by rcases Nat.lt_or_ge 1 s.size with h | h; exact absurd ⟨hz2, h⟩ hz; omega
        have h1b : ¬ 1 < s.size := by omega
        clear hz hz2 h1
        go_enter Tryd.func23, Tryd.ntmps23
        go_wp2
        go_loop [6, 7] (fun n i => ∃ (k : Nat) (m : Int), k ≤ s.size ∧ i = .int .i64 k ∧ n = .int .i64 m ∧ -9223372036854775808 ≤ m ∧ m ≤ 0 ∧ Hid (goNum (s.data.toList.drop k) m = G)) (fun _ i => s.size - (intOf i).toNat)
        case atStart => exact ⟨0, 0, by omega, rfl, rfl, by omega, by omega, HG.out⟩
        case round =>
          obtain ⟨k, m, hk, rfl, rfl, m0, m1, HM⟩ := hrel
          by_cases hlt : k < s.size
          · have hdr := drop_at s k hlt
            have hM := HM.out
            rw [hdr, goNum] at hM
            by_cases d0 : ((s[k]'hlt).toNat : Int) < 48
            · rw [if_pos (.inl (by omega))] at hM
              subst hM
              clear hdr
              go_wp2
              go_ret2
              exact ⟨by rw [← HV.out]; rfl, rfl⟩
            · by_cases d1 : (57 : Int) < ((s[k]'hlt).toNat : Int)
              · rw [if_pos (.inr (by omega))] at hM
                subst hM
                clear hdr
                go_wp2
                go_ret2
                exact ⟨by rw [← HV.out]; rfl, rfl⟩
              · rw [if_neg (by omega)] at hM
                obtain ⟨x, hx⟩ : ∃ x : Int, ((s[k]'hlt).toNat : Int) - 48 = x := ⟨_, rfl⟩
                have x0 : 0 ≤ x := by omega
                have x1 : x ≤ 9 := by omega
                rw [hx] at hM
                have hq := tdiv10 x x0 x1
                by_cases d2 : m < Int.tdiv (-9223372036854775808 + x) 10
                · rw [if_pos d2] at hM
                  subst hM
                  clear hdr
                  go_wp2
                  go_ret2
                  exact ⟨by rw [← HV.out]; rfl, rfl⟩
                · rw [if_neg d2] at hM
                  have HM2 := Lib.hid hM
                  have b0 : -9223372036854775808 ≤ 10 * m - x := by omega
                  have b1 : 10 * m - x ≤ 0 := by omega
                  clear hM hdr HM
                  go_wp2
                  go_round
                  case rel => exact ⟨k + 1, 10 * m - x, by omega, by go_num, rfl, b0, b1, HM2.out⟩
                  case measure => simp [intOf]; omega
          · obtain rfl : k = s.size := by omega
            have hM := HM.out
            rw [List.drop_of_length_le (by rw [← Lib.size_eq]; omega)] at hM
            simp only [goNum] at hM
            subst hM
            have hV4 := HV.out
            by_cases e0 : m = -9223372036854775808
            · subst e0
              have HV5 : Hid ((0, false) = V) := by show _ = _; rw [← hV4]; rfl
              clear hV4 HV
              go_wp2
              go_ret2
              exact ⟨by rw [← HV5.out]; rfl, rfl⟩
            · have e1 : (m == -9223372036854775808) = false := by simpa using e0
              have HV5 : Hid ((-m, true) = V) := by show _ = _; rw [← hV4]; simp [e0]
              clear hV4 HV
              go_wp2
              go_ret2
              exact ⟨by rw [← HV5.out]; rfl, rfl⟩
      · have hzb : (((s[0]'hsz).toNat : Int) == 48) = false := by simpa using hz2
        clear hz hz2
        go_enter Tryd.func23, Tryd.ntmps23
        go_wp2
        go_loop [6, 7] (fun n i => ∃ (k : Nat) (m : Int), k ≤ s.size ∧ i = .int .i64 k ∧ n = .int .i64 m ∧ -9223372036854775808 ≤ m ∧ m ≤ 0 ∧ Hid (goNum (s.data.toList.drop k) m = G)) (fun _ i => s.size - (intOf i).toNat)
        case atStart => exact ⟨0, 0, by omega, rfl, rfl, by omega, by omega, HG.out⟩
        case round =>
          obtain ⟨k, m, hk, rfl, rfl, m0, m1, HM⟩ := hrel
          by_cases hlt : k < s.size
          · have hdr := drop_at s k hlt
            have hM := HM.out
            rw [hdr, goNum] at hM
            by_cases d0 : ((s[k]'hlt).toNat : Int) < 48
            · rw [if_pos (.inl (by omega))] at hM
              subst hM
              clear hdr
              go_wp2
              go_ret2
              exact ⟨by rw [← HV.out]; rfl, rfl⟩
            · by_cases d1 : (57 : Int) < ((s[k]'hlt).toNat : Int)
              · rw [if_pos (.inr (by omega))] at hM
                subst hM
                clear hdr
                go_wp2
                go_ret2
                exact ⟨by rw [← HV.out]; rfl, rfl⟩
              · rw [if_neg (by omega)] at hM
                obtain ⟨x, hx⟩ : ∃ x : Int, ((s[k]'hlt).toNat : Int) - 48 = x := ⟨_, rfl⟩
                have x0 : 0 ≤ x := by omega
                have x1 : x ≤ 9 := by omega
                rw [hx] at hM
                have hq := tdiv10 x x0 x1
                by_cases d2 : m < Int.tdiv (-9223372036854775808 + x) 10
                · rw [if_pos d2] at hM
                  subst hM
                  clear hdr
                  go_wp2
                  go_ret2
                  exact ⟨by rw [← HV.out]; rfl, rfl⟩
                · rw [if_neg d2] at hM
                  have HM2 := Lib.hid hM
                  have b0 : -9223372036854775808 ≤ 10 * m - x := by omega
                  have b1 : 10 * m - x ≤ 0 := by omega
                  clear hM hdr HM
                  go_wp2
                  go_round
                  case rel => exact ⟨k + 1, 10 * m - x, by omega, by go_num, rfl, b0, b1, HM2.out⟩
                  case measure => simp [intOf]; omega
          · obtain rfl : k = s.size := by omega
            have hM := HM.out
            rw [List.drop_of_length_le (by rw [← Lib.size_eq]; omega)] at hM
            simp only [goNum] at hM
            subst hM
            have hV4 := HV.out
            by_cases e0 : m = -9223372036854775808
            · subst e0
              have HV5 : Hid ((0, false) = V) := by show _ = _; rw [← hV4]; rfl
              clear hV4 HV
              go_wp2
              go_ret2
              exact ⟨by rw [← HV5.out]; rfl, rfl⟩
            · have e1 : (m == -9223372036854775808) = false := by simpa using e0
              have HV5 : Hid ((-m, true) = V) := by show _ = _; rw [← hV4]; simp [e0]
              clear hV4 HV
              go_wp2
              go_ret2
              exact ⟨by rw [← HV5.out]; rfl, rfl⟩
end Go.Proofs.YthmleoceakonjaaDoor
