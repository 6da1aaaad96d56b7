/-
  strconv.Itoa, strings.Cut and strconv.Atoi by contracts.
-/
import Derived.Test.YtbkhhmgpfjemcaaDoorEnvA
namespace Go.Proofs.YtbkhhmgpfjemcaaDoor
set_option linter.unusedVariables false
set_option linter.unusedSimpArgs false
open Go.RowKit Go.Sort

def itoaS (n : Int) : ByteArray := ⟨(Lib.itoa n).toArray⟩
theorem itoaS_any (n : Int) (h0 : -9223372036854775808 ≤ n) (h1 : n ≤ 9223372036854775807) (w : World) (he : Env w) (z : ByteArray) (hz : itoaS n = z) :
    Calls Tryd.prog 20 #[.int .i64 n] w (Gives (.string z) w) := by subst hz; exact itoa_any n h0 h1 w he

theorem cut_any (s sep : ByteArray) (hs : s.size < 4294967281) (w : World) (he : Env w) (a b : ByteArray) (q : Bool) (h : Lib.cut s.data.toList sep.data.toList = (a.data.toList, b.data.toList, q)) :
    Calls Tryd.prog 22 #[.string s, .string sep] w (Gives (.tuple #[.string a, .string b, .bool q]) w) := by
  obtain ⟨m, hm⟩ := he.mx
  refine (Tryd.strings_Cut s sep m w hs hm).mono fun e w' ⟨x, n, y⟩ => ⟨?_, by subst y; exact below_drewN' (Below.refl _ _) n⟩
  rw [x, h]
end Go.Proofs.YtbkhhmgpfjemcaaDoor
