/-
  The words of errors: an Errno's, an At's; the table of powers of ten stays where it is.
-/
import Derived.Test.YtnhffkdabdilpaaDoorFaultInv
import Derived.Test.YtnhffkdabdilpaaDoorShelf
import Derived.WalkSmall
import Derived.Lib.ItoaLen
import Derived.Deep.RegionWith
namespace Go.Proofs.YtnhffkdabdilpaaDoor
open Go.RowKit Go.Extern.Stop Go.Stop Go.Extern Go.Sort

theorem below_grow {w : World} (k : Nat) (os : Array Obj) : Below w.heap.size w (grow (w.drewN k) os) :=
  ⟨rfl, rfl, rfl, by simp [grow, World.drewN], fun i hi => by simp [grow, World.drewN, Array.getElem?_append, hi]⟩

def TabOk (w : World) : Prop := Lib.TabIs Tryd.prog w "internal/strconv.uint64pow10" .u64 Lib.pow10Tab ∧ 1 < w.heap.size
theorem gTab : Tryd.prog.globalNamed "internal/strconv.uint64pow10" = some 1 := by kernel_rfl
theorem TabOk.below {w w' : World} (h : TabOk w) (hb : Below w.heap.size w w') : TabOk w' :=
  ⟨var?_below hb gTab h.2 h.1, Nat.lt_of_lt_of_le h.2 hb.size⟩

def errnoS (code : Int) : ByteArray := ⟨#[101, 114, 114, 110, 111, 32]⟩ ++ ⟨(Lib.itoa code).toArray⟩
theorem errnoS_size (code : Int) (h0 : -9223372036854775808 ≤ code) (h1 : code ≤ 9223372036854775807) : (errnoS code).size ≤ 27 := by
  have := Lib.itoa_length_le code h0 h1
  simp [errnoS, ByteArray.size]
  omega
def WordEnd (w : World) (s : ByteArray) (e : Ending) (w' : World) : Prop := e = .returned (.string s) ∧ Below w.heap.size w w'

theorem errno_word (code : Int) (h0 : -9223372036854775808 ≤ code) (h1 : code ≤ 9223372036854775807) (w : World) (ht : TabOk w) :
    Calls Tryd.prog 16 #[.int .i64 code] w (WordEnd w (errnoS code)) := by
  obtain ⟨z, hz⟩ : ∃ z : ByteArray, (⟨(Lib.itoa code).toArray⟩ : ByteArray) = z := ⟨_, rfl⟩
  have hl : z.size ≤ 21 := by have := Lib.itoa_length_le code h0 h1; rw [← hz]; simpa [ByteArray.size] using this
  have fin : ∀ w', Below w.heap.size w w' → WordEnd w (errnoS code) (.returned (.string (⟨#[101, 114, 114, 110, 111, 32]⟩ ++ z))) w' := fun w' hb => ⟨by rw [← hz]; rfl, hb⟩
  have hadd : ∀ wx, (Op.stringOp .add ⟨#[101, 114, 114, 110, 111, 32]⟩ z).run Tryd.prog wx = .ok (.string (⟨#[101, 114, 114, 110, 111, 32]⟩ ++ z)) wx := fun wx => run_string_add_sum wx _ _ (by show 6 + z.size ≤ _; omega)
  have HT := Lib.hid ht.1
  have HZ := Lib.hid hz
  clear ht hz
  go_enter Tryd.func16, Tryd.ntmps16
  go_wp2_with (go_at_call 22; refine (Tryd.strconv_Itoa code h0 h1 _ HT.out).mono ?_; rw [HZ.out]; rintro e w1 ⟨rfl, k, os, rfl⟩)
  go_ret
  exact fin _ (below_grow k os)

theorem mError24 (v : Value) (w : World) : (Go.method 225 24 v "Error").run Tryd.prog w = .ok (16, v) w := by kernel_rfl
def atS (code : Int) : ByteArray := ⟨#[97, 116, 58, 32]⟩ ++ errnoS code
theorem atS_size (code : Int) : (atS code).size = 4 + (errnoS code).size := by rw [atS, ByteArray.size_append]; rfl
theorem at_word (p code : Int) (h0 : -9223372036854775808 ≤ code) (h1 : code ≤ 9223372036854775807) (w : World) (ht : TabOk w) :
    Calls Tryd.prog 17 #[.agg #[.int .i64 p, .iface 24 (.int .i64 code)]] w (WordEnd w (⟨#[97, 116, 58, 32]⟩ ++ errnoS code)) := by
  have fin : ∀ w', Below w.heap.size w w' → WordEnd w (⟨#[97, 116, 58, 32]⟩ ++ errnoS code) (.returned (.string (⟨#[97, 116, 58, 32]⟩ ++ errnoS code))) w' := fun w' hb => ⟨rfl, hb⟩
  have HT := Lib.hid ht
  have mE := mError24
  have hsz := errnoS_size code h0 h1
  have hadd : ∀ wx, (Op.stringOp .add ⟨#[97, 116, 58, 32]⟩ (errnoS code)).run Tryd.prog wx = .ok (.string (⟨#[97, 116, 58, 32]⟩ ++ errnoS code)) wx := fun wx => run_string_add_sum wx _ _ (by show 4 + (errnoS code).size ≤ _; omega)
  clear ht
  go_enter Tryd.func17, Tryd.ntmps17
  go_wp2_with (go_at_call 16; refine (errno_word code h0 h1 _ (HT.out.below ((Below.refl _ _).alloc (Nat.le_refl _) _))).mono ?_; rintro e w1 ⟨rfl, hb⟩)
  go_ret
  exact fin _ (((Below.refl _ _).alloc (Nat.le_refl _) _).trans (hb.mono (by simp)))
end Go.Proofs.YtnhffkdabdilpaaDoor
