/-
  ask.number, walked: a word as a number from 0 on.
-/
import Derived.Test.YtbkhhmgpfjemcaaDoorAskW
namespace Go.Proofs.YtbkhhmgpfjemcaaDoor
set_option linter.unusedVariables false
set_option linter.unusedSimpArgs false
open Go.RowKit Go.Sort

def atoiOpt (l : List UInt8) : Option Int := match Lib.atoiAll l with | .ok v => some v | _ => none
theorem atoi_some (s : ByteArray) (hs : s.size ≤ 281474976710656) (v : Int) (h : atoiOpt s.data.toList = some v) (w : World) :
    Calls Tryd.prog 31 #[.string s] w (Gives (.tuple #[.int .i64 v, .nilIface]) w) := by
  unfold atoiOpt at h
  split at h
  · rename_i u hu
    cases h
    refine (Tryd.strconv_Atoi_ok s (by omega) v hu w).mono fun e w' ⟨a, b⟩ => ⟨a, ?_⟩
    rcases b with rfl | ⟨t, rfl⟩
    · exact Below.refl _ _
    · exact below_bytes _ _
  · cases h
theorem atoi_none (s : ByteArray) (hs : s.size ≤ 281474976710656) (h : atoiOpt s.data.toList = none) (w : World) (he : EnvE w) :
    Calls Tryd.prog 31 #[.string s] w fun e w' => ∃ n t x, e = .returned (.tuple #[.int .i64 n, .iface t x]) ∧ Below w.heap.size w w' := by
  rcases hq : Lib.atoiAll s.data.toList with v | _ | _
  · simp [atoiOpt, hq] at h
  · obtain ⟨tp, p, hv⟩ := he.syn
    exact (Any.strconv_Atoi_syntax_var Tryd.laysC172 s hs hq tp p w hv).mono fun e w' ⟨N, a, _, _, b⟩ => ⟨_, _, _, a, b⟩
  · obtain ⟨tp, p, hv⟩ := he.ran
    exact (Tryd.strconv_Atoi_range_var s hs hq tp p w hv).mono fun e w' ⟨N, a, _, _, b⟩ => ⟨_, _, _, a, b⟩
theorem atoiOpt_bounds {l : List UInt8} {v : Int} (h : atoiOpt l = some v) : -9223372036854775808 ≤ v ∧ v ≤ 9223372036854775807 := by
  unfold atoiOpt at h
  split at h
  · rename_i u hu
    cases h
    rw [← Lib.parseIntB_64] at hu
    have := Lib.parseIntB_bounds hu
    simp at this
    omega
  · cases h

def askNum (w : ByteArray) : Int × Int := match atoiOpt w.data.toList with
  | none => (0, 200)
  | some n => if itoaS n ≠ w then (0, 200) else if n < 0 then (0, 200) else if 1048576 < n then (0, 1) else (n, 0)
set_option maxHeartbeats 2000000 in
theorem askNumber_any (s : ByteArray) (hs : s.size ≤ 281474976710656) (w : World) (he : EnvE w) :
    Calls Tryd.prog 23 #[.string s] w (Gives (.tuple #[.int .i64 (askNum s).1, .int .i64 (askNum s).2]) w) := by
  obtain ⟨V, hV⟩ : ∃ V, askNum s = V := ⟨_, rfl⟩
  rw [hV]
  have HE := Lib.hid he
  clear he
  cases hp : atoiOpt s.data.toList with
  | none =>
    have HV : Hid ((0, 200) = V) := by show _ = _; rw [← hV, askNum, hp]
    have HP := Lib.hid hp
    clear hV hp
    go_enter Tryd.func23, Tryd.ntmps23
    go_wp2_with (go_at_call 31; refine (atoi_none s hs HP.out _ HE.out).mono ?_; rintro e w1 ⟨n, t, x, rfl, hb⟩)
    go_ret2
    exact ⟨by rw [← HV.out]; rfl, hb⟩
  | some n =>
    obtain ⟨b0, b1⟩ := atoiOpt_bounds hp
    obtain ⟨z, hz⟩ : ∃ z, itoaS n = z := ⟨_, rfl⟩
    have hV2 : (if z ≠ s then (0, 200) else if n < 0 then (0, 200) else if 1048576 < n then (0, 1) else (n, 0)) = V := by rw [← hV, askNum, hp]; simp only [hz]
    have HP := Lib.hid hp
    have HZ := Lib.hid hz
    clear hV hp hz
    by_cases hq : z = s
    · have hq2 := str_true hq
      rw [if_neg (fun h => h hq)] at hV2
      clear hq
      by_cases h0 : n < 0
      · rw [if_pos h0] at hV2
        have HV := Lib.hid hV2
        clear hV2
        go_enter Tryd.func23, Tryd.ntmps23
        go_wp2_with (first | (go_at_call 31; refine (atoi_some s hs n HP.out _).mono ?_; rintro e w1 ⟨rfl, hb⟩) | (go_at_call 20; refine (itoaS_any n b0 b1 _ (HE.out.env.below hb) z HZ.out).mono ?_; rintro e w2 ⟨rfl, hb2⟩))
        go_ret2
        exact ⟨by rw [← HV.out]; rfl, below_next hb hb2⟩
      · rw [if_neg h0] at hV2
        by_cases h1 : 1048576 < n
        · rw [if_pos h1] at hV2
          have HV := Lib.hid hV2
          clear hV2
          go_enter Tryd.func23, Tryd.ntmps23
          go_wp2_with (first | (go_at_call 31; refine (atoi_some s hs n HP.out _).mono ?_; rintro e w1 ⟨rfl, hb⟩) | (go_at_call 20; refine (itoaS_any n b0 b1 _ (HE.out.env.below hb) z HZ.out).mono ?_; rintro e w2 ⟨rfl, hb2⟩))
          go_ret2
          exact ⟨by rw [← HV.out]; rfl, below_next hb hb2⟩
        · rw [if_neg h1] at hV2
          have HV := Lib.hid hV2
          clear hV2
          go_enter Tryd.func23, Tryd.ntmps23
          go_wp2_with (first | (go_at_call 31; refine (atoi_some s hs n HP.out _).mono ?_; rintro e w1 ⟨rfl, hb⟩) | (go_at_call 20; refine (itoaS_any n b0 b1 _ (HE.out.env.below hb) z HZ.out).mono ?_; rintro e w2 ⟨rfl, hb2⟩))
          go_ret2
          exact ⟨by rw [← HV.out]; rfl, below_next hb hb2⟩
    · have hq2 := str_false hq
      rw [if_pos hq] at hV2
      have HV := Lib.hid hV2
      clear hV2 hq
      go_enter Tryd.func23, Tryd.ntmps23
      go_wp2_with (first | (go_at_call 31; refine (atoi_some s hs n HP.out _).mono ?_; rintro e w1 ⟨rfl, hb⟩) | (go_at_call 20; refine (itoaS_any n b0 b1 _ (HE.out.env.below hb) z HZ.out).mono ?_; rintro e w2 ⟨rfl, hb2⟩))
      go_ret2
      exact ⟨by rw [← HV.out]; rfl, below_next hb hb2⟩
end Go.Proofs.YtbkhhmgpfjemcaaDoor
