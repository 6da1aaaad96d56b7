/-
  strconv.Itoa, strings.Cut and strconv.Atoi by contracts.
-/
import Derived.Test.YtbkhhmgpfjemcaaDoorEnvA
namespace Go.Proofs.YtbkhhmgpfjemcaaDoor
set_option linter.unusedVariables false
set_option linter.unusedSimpArgs false
open Go.RowKit Go.Sort

def itoaS (n : Int) : ByteArray := ⟨(Lib.itoa n).toArray⟩
theorem itoaS_size (n : Int) : (itoaS n).size = (Lib.itoa n).length := by simp [itoaS, ByteArray.size]
theorem itoaS_le (n : Int) (h0 : -9223372036854775808 ≤ n) (h1 : n ≤ 9223372036854775807) : (itoaS n).size ≤ 21 := by rw [itoaS_size]; exact Lib.itoa_length_le n h0 h1
theorem itoaS_any (n : Int) (h0 : -9223372036854775808 ≤ n) (h1 : n ≤ 9223372036854775807) (w : World) (he : Env w) (z : ByteArray) (hz : itoaS n = z) :
    Calls Tryd.prog 20 #[.int .i64 n] w (Gives (.string z) w) := by subst hz; exact itoa_any n h0 h1 w he

theorem cut_any (s sep : ByteArray) (hs : s.size < 4294967281) (w : World) (he : Env w) (a b : ByteArray) (q : Bool) (h : Lib.cut s.data.toList sep.data.toList = (a.data.toList, b.data.toList, q)) :
    Calls Tryd.prog 22 #[.string s, .string sep] w (Gives (.tuple #[.string a, .string b, .bool q]) w) := by
  obtain ⟨m, hm⟩ := he.mx
  refine (Tryd.strings_Cut s sep m w hs hm).mono fun e w' ⟨x, n, y⟩ => ⟨?_, by subst y; exact below_drewN' (Below.refl _ _) n⟩
  rw [x, h]
theorem atoi_ok (s : ByteArray) (hs : s.size ≤ 18) (n : Int) (h : Lib.atoi s.data.toList = some n) (w : World) :
    Calls Tryd.prog 31 #[.string s] w (Gives (.tuple #[.int .i64 n, .nilIface]) w) :=
  (Tryd.strconv_Atoi s n hs h w).mono fun e w' ⟨a, t, b⟩ => ⟨a, by subst b; exact below_bytes _ _⟩
theorem var_cell {w : World} {v : Value} {g : Nat} {nm : String} (hg : Tryd.prog.globalNamed nm = some g) (h : w.var? Tryd.prog nm = some #[v]) : w.cell? ⟨g, 0, none⟩ = some v := by
  unfold World.var? at h
  rw [hg] at h
  simp only [Option.bind_some] at h
  unfold World.cell?
  split at h
  · rename_i cs _ _ hq
    injection h with h
    subst h
    simp [hq]
  · cases h
theorem atoi_bad (s : ByteArray) (hs : s.size ≤ 18) (h : Lib.atoi s.data.toList = none) (w : World) (he : EnvE w) :
    Calls Tryd.prog 31 #[.string s] w fun e w' => ∃ n t x, e = .returned (.tuple #[.int .i64 n, .iface t x]) ∧ Below w.heap.size w w' := by
  obtain ⟨tp, p, hv⟩ := he.syn
  exact (Tryd.strconv_Atoi_err s hs h (.iface tp p) w (var_cell gSyn hv) (.inr ⟨_, _, rfl⟩)).mono fun e w' ⟨N, a, _, _, b⟩ => ⟨_, _, _, a, b⟩
end Go.Proofs.YtbkhhmgpfjemcaaDoor
