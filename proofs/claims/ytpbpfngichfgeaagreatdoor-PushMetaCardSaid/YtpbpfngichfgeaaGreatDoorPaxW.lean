/-
  package pax by contracts: length, Check; strings.Cut at one byte; strconv.Atoi at few bytes.
-/
import Derived.Test.YtpbpfngichfgeaaGreatDoorEnv
import Derived.Test.YtpbpfngichfgeaaGreatDoorPaxGet
namespace Go.Proofs.YtpbpfngichfgeaaGreatDoor
set_option linter.unusedVariables false
set_option linter.unusedSimpArgs false
open Go.RowKit Go.Sort

def itoaS (n : Int) : ByteArray := ⟨(Lib.itoa n).toArray⟩
theorem itoaS_size (n : Int) : (itoaS n).size = (Lib.itoa n).length := by simp [itoaS, ByteArray.size]
theorem itoaS_le (n : Int) (h0 : -9223372036854775808 ≤ n) (h1 : n ≤ 9223372036854775807) : (itoaS n).size ≤ 21 := by rw [itoaS_size]; exact Lib.itoa_length_le n h0 h1
def lenOf (k v : ByteArray) : Int :=
  let n : Int := k.size + v.size + 3
  let d : Int := (itoaS n).size
  if d < (itoaS (n + d)).size then n + (d + 1) else n + d

theorem itoaS_any (n : Int) (h0 : -9223372036854775808 ≤ n) (h1 : n ≤ 9223372036854775807) (w : World) (he : Env w) (z : ByteArray) (hz : itoaS n = z) :
    Calls Tryz.prog 48 #[.int .i64 n] w (Gives (.string z) w) := by subst hz; exact itoa_any n h0 h1 w he

set_option maxHeartbeats 2000000 in
theorem length_any (k v : ByteArray) (hk : k.size ≤ 281474976710656) (hv : v.size ≤ 281474976710656) (w : World) (he : Env w) :
    Calls Tryz.prog 49 #[.agg #[.string k, .string v]] w (Gives (.int .i64 (lenOf k v)) w) := by
  obtain ⟨n, hn⟩ : ∃ n : Int, (k.size : Int) + v.size + 3 = n := ⟨_, rfl⟩
  obtain ⟨z, hz⟩ : ∃ z, itoaS n = z := ⟨_, rfl⟩
  have hzs : z.size ≤ 21 := by rw [← hz]; exact itoaS_le n (by omega) (by omega)
  obtain ⟨y, hy⟩ : ∃ y, itoaS (n + z.size) = y := ⟨_, rfl⟩
  have hys : y.size ≤ 21 := by rw [← hy]; exact itoaS_le _ (by omega) (by omega)
  have hl : lenOf k v = if (z.size : Int) < y.size then n + (z.size + 1) else n + z.size := by simp only [lenOf, hn, hz, hy]
  have HL := Lib.hid hl
  have HE := Lib.hid he
  have b1 : Hid (n + z.size ≤ 9223372036854775807 ∧ -9223372036854775808 ≤ n + z.size) := by show _ ∧ _; omega
  have HZ := Lib.hid hz
  have HY := Lib.hid hy
  have hn0 : n ≤ 562949953421315 := by omega
  have hn1 : 0 ≤ n := by omega
  have HN := Lib.hid hn
  clear hz hy hl he hn
  by_cases c : (z.size : Int) < y.size
  · have HF : Hid (Ending.returned (.int .i64 (n + (z.size + 1))) = .returned (.int .i64 (lenOf k v))) := by show Ending.returned _ = _; rw [HL.out, if_pos c]
    have hc : decide (z.size < y.size) = true := by simpa using c
    go_enter Tryz.func49, Tryz.ntmps49
    go_wp2_with fail
    rw [HN.out]
    refine (itoaS_any n (by omega) (by omega) _ (HE.out.below (by (repeat' (first | assumption | exact Below.refl _ _ | refine Below.alloc ?_ (Nat.le_refl _) _)))) z HZ.out).mono ?_
    rintro e w1 ⟨rfl, hb1⟩
    go_wp2_with fail
    refine (itoaS_any (n + z.size) (by omega) (by omega) _ ((HE.out.below ((Below.refl _ _).alloc (Nat.le_refl _) _)).below hb1) y HY.out).mono ?_
    rintro e w2 ⟨rfl, hb2⟩
    go_wp2_with fail
    go_ret
    exact ⟨HF.out, below_out (below_next hb1 hb2)⟩
  · have HF : Hid (Ending.returned (.int .i64 (n + z.size)) = .returned (.int .i64 (lenOf k v))) := by show Ending.returned _ = _; rw [HL.out, if_neg c]
    have hc : decide (z.size < y.size) = false := by simpa using c
    go_enter Tryz.func49, Tryz.ntmps49
    go_wp2_with fail
    rw [HN.out]
    refine (itoaS_any n (by omega) (by omega) _ (HE.out.below (by (repeat' (first | assumption | exact Below.refl _ _ | refine Below.alloc ?_ (Nat.le_refl _) _)))) z HZ.out).mono ?_
    rintro e w1 ⟨rfl, hb1⟩
    go_wp2_with fail
    refine (itoaS_any (n + z.size) (by omega) (by omega) _ ((HE.out.below ((Below.refl _ _).alloc (Nat.le_refl _) _)).below hb1) y HY.out).mono ?_
    rintro e w2 ⟨rfl, hb2⟩
    go_wp2_with fail
    go_ret
    exact ⟨HF.out, below_out (below_next hb1 hb2)⟩

def badKey (k : ByteArray) : Bool := k.data.toList.any (fun b => b == 61 || b == 0 || b == 10)
def chkOf (k v : ByteArray) : Int := if k = ⟨#[]⟩ then 70 else if badKey k = true then 70 else if 4096 < k.size + v.size then 2 else 0
def CAny : Prop := ∀ (s : ByteArray) (w : World), s.size < 4294967281 → Calls Tryz.prog 78 #[.string s, .string ⟨#[61, 0, 10]⟩] w (Gives (.bool (badKey s)) w)

set_option maxHeartbeats 2000000 in
theorem check_any (hC : CAny) (k v : ByteArray) (hk : k.size < 4294967281) (hv : v.size ≤ 281474976710656) (w : World) :
    Calls Tryz.prog 46 #[.agg #[.string k, .string v]] w (Gives (.int .i64 (chkOf k v)) w) := by
  unfold chkOf
  by_cases c0 : k = ⟨#[]⟩
  · rw [if_pos c0]
    subst c0
    go_enter Tryz.func46, Tryz.ntmps46
    go_wp2
    go_ret
    exact ⟨rfl, (Below.refl _ _).alloc (Nat.le_refl _) _⟩
  · rw [if_neg c0]
    have hne := str_nonempty.2 c0
    clear c0
    have HC : Hid CAny := hC
    obtain ⟨q, hq⟩ : ∃ q, badKey k = q := ⟨_, rfl⟩
    have HCk : Hid (∀ w, Calls Tryz.prog 78 #[.string k, .string ⟨#[61, 0, 10]⟩] w (Gives (.bool q) w)) := fun w => hq ▸ hC k w hk
    rw [hq]
    clear hC hq HC
    cases q with
    | true =>
      rw [if_pos rfl]
      go_enter Tryz.func46, Tryz.ntmps46
      go_wp2_with (go_at_call 78; refine (HCk.out _).mono ?_; rintro e w1 ⟨rfl, hb1⟩)
      go_ret
      exact ⟨rfl, below_out hb1⟩
    | false =>
      rw [if_neg (by decide)]
      by_cases c1 : 4096 < k.size + v.size
      · rw [if_pos c1]
        have c1a : (4096 : Int) < k.size + v.size := by omega
        go_enter Tryz.func46, Tryz.ntmps46
        go_wp2_with (go_at_call 78; refine (HCk.out _).mono ?_; rintro e w1 ⟨rfl, hb1⟩; have hc0 := (hb1.cell (p := ⟨w.heap.size, 0, none⟩) (by simp)).trans ((Blk.new w _ _).cell 0); have hc1 := (hb1.cell (p := ⟨w.heap.size, 1, none⟩) (by simp)).trans ((Blk.new w _ _).cell 1))
        go_ret
        exact ⟨rfl, below_out hb1⟩
      · rw [if_neg c1]
        have c1a : ¬ (4096 : Int) < k.size + v.size := by omega
        go_enter Tryz.func46, Tryz.ntmps46
        go_wp2_with (go_at_call 78; refine (HCk.out _).mono ?_; rintro e w1 ⟨rfl, hb1⟩; have hc0 := (hb1.cell (p := ⟨w.heap.size, 0, none⟩) (by simp)).trans ((Blk.new w _ _).cell 0); have hc1 := (hb1.cell (p := ⟨w.heap.size, 1, none⟩) (by simp)).trans ((Blk.new w _ _).cell 1))
        go_ret
        exact ⟨rfl, below_out hb1⟩

theorem cut_any (s sep : ByteArray) (hs : s.size < 4294967281) (w : World) (he : Env w) (a b : ByteArray) (q : Bool) (h : Lib.cut s.data.toList sep.data.toList = (a.data.toList, b.data.toList, q)) :
    Calls Tryz.prog 66 #[.string s, .string sep] w (Gives (.tuple #[.string a, .string b, .bool q]) w) := by
  obtain ⟨m, hm⟩ := he.mx
  refine (Tryz.strings_Cut s sep m w hs hm).mono fun e w' ⟨x, n, y⟩ => ⟨?_, by subst y; exact below_drewN' (Below.refl _ _) n⟩
  rw [x, h]
theorem atoi_ok (s : ByteArray) (hs : s.size ≤ 18) (n : Int) (h : Lib.atoi s.data.toList = some n) (w : World) :
    Calls Tryz.prog 113 #[.string s] w (Gives (.tuple #[.int .i64 n, .nilIface]) w) :=
  (Tryz.strconv_Atoi s n hs h w).mono fun e w' ⟨a, t, b⟩ => ⟨a, by subst b; exact below_bytes _ _⟩
theorem var_cell {w : World} {v : Value} {g : Nat} {nm : String} (hg : Tryz.prog.globalNamed nm = some g) (h : w.var? Tryz.prog nm = some #[v]) : w.cell? ⟨g, 0, none⟩ = some v := by
  unfold World.var? at h
  rw [hg] at h
  simp only [Option.bind_some] at h
  unfold World.cell?
  split at h
  · rename_i cs _ _ hq
    injection h with h
    subst h
    simp [hq]
  · cases h
theorem atoi_bad (s : ByteArray) (hs : s.size ≤ 18) (h : Lib.atoi s.data.toList = none) (w : World) (he : EnvE w) :
    Calls Tryz.prog 113 #[.string s] w fun e w' => ∃ n t x, e = .returned (.tuple #[.int .i64 n, .iface t x]) ∧ Below w.heap.size w w' := by
  obtain ⟨tp, p, hv⟩ := he.syn
  exact (Tryz.strconv_Atoi_err s hs h (.iface tp p) w (var_cell gSyn hv) (.inr ⟨_, _, rfl⟩)).mono fun e w' ⟨N, a, _, _, b⟩ => ⟨_, _, _, a, b⟩
end Go.Proofs.YtpbpfngichfgeaaGreatDoor
