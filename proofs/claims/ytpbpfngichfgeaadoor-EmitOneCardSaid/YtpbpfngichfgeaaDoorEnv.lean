/-
  What the walks ask of a world: the library's variables, where they are asked. All of it stays behind a call that turns nothing below.
-/
import Derived.Test.YtpbpfngichfgeaaDoorUtil
import Derived.Test.YtpbpfngichfgeaaDoorShelf
import Derived.WalkSmall
import Derived.Lib.ConvBytes
import Derived.Lib.ItoaLen
import Derived.Lib.ParseIntBTie
namespace Go.Proofs.YtpbpfngichfgeaaDoor
open Go.RowKit Go.Sort

theorem below_grow {w : World} (k : Nat) (os : Array Obj) : Below w.heap.size w (grow (w.drewN k) os) :=
  ⟨rfl, rfl, rfl, by simp [grow, World.drewN], fun i hi => by simp [grow, World.drewN, Array.getElem?_append, hi]⟩
theorem below_bytes {w : World} (e : TypeId) (s : ByteArray) : Below w.heap.size w (Lib.bytesWorld w e s) := by
  unfold Lib.bytesWorld
  refine (((Below.refl w.heap.size w).drew).alloc (Nat.le_refl _) (.cells (Lib.bytesCells w e s) e)).trans ?_
  unfold World.freeze
  split
  · exact Below.refl _ _
  · exact ⟨rfl, rfl, rfl, by simp, fun k hk => by simp only [Array.getElem?_modify]; rw [if_neg (by omega)]⟩

theorem gTab : Tryd.prog.globalNamed "internal/strconv.uint64pow10" = some 1 := by kernel_rfl

/-- The table, and bytealg's variable. -/
structure Env (w : World) : Prop where
  tab : Lib.TabIs Tryd.prog w "internal/strconv.uint64pow10" .u64 Lib.pow10Tab
  mx : ∃ m, w.cell? ⟨0, 0, none⟩ = some (.int .i64 m)
  size : 4 ≤ w.heap.size
theorem Env.below {w w' : World} (h : Env w) (hb : Below w.heap.size w w') : Env w' where
  tab := var?_below hb gTab (Nat.lt_of_lt_of_le (by decide) h.size) h.tab
  mx := h.mx.imp fun m hm => (hb.cell (p := ⟨0, 0, none⟩) (Nat.lt_of_lt_of_le (by show 0 < 4; decide) h.size)).trans hm
  size := Nat.le_trans h.size hb.size
/-- .. and strconv's errors. -/
structure EnvE (w : World) : Prop where
  env : Env w
theorem EnvE.below {w w' : World} (h : EnvE w) (hb : Below w.heap.size w w') : EnvE w' where
  env := h.env.below hb
/-- A world behind W, in which all that is there. -/
structure Inv (W w : World) : Prop where
  below : Below W.heap.size W w
  env : Env w
theorem Inv.next {W w w' : World} (h : Inv W w) (hb : Below w.heap.size w w') : Inv W w' := ⟨below_next h.below hb, h.env.below hb⟩
structure InvE (W w : World) : Prop where
  below : Below W.heap.size W w
  env : EnvE w
theorem InvE.next {W w w' : World} (h : InvE W w) (hb : Below w.heap.size w w') : InvE W w' := ⟨below_next h.below hb, h.env.below hb⟩
theorem EnvE.refl {w : World} (h : EnvE w) : InvE w w := ⟨Below.refl _ _, h⟩
theorem Env.refl {w : World} (h : Env w) : Inv w w := ⟨Below.refl _ _, h⟩
theorem Inv.out {w w1 : World} {o : Obj} (hi : Inv (w.alloc o) w1) : Below w.heap.size w w1 := below_out hi.below
theorem InvE.out {w w1 : World} {o : Obj} (hi : InvE (w.alloc o) w1) : Below w.heap.size w w1 := below_out hi.below
theorem Inv.alloc {W w : World} (h : Inv W w) (o : Obj) : Inv W (w.alloc o) := h.next ((Below.refl _ _).alloc (Nat.le_refl _) _)
theorem InvE.alloc {W w : World} (h : InvE W w) (o : Obj) : InvE W (w.alloc o) := h.next ((Below.refl _ _).alloc (Nat.le_refl _) _)
theorem Env.alloc {w : World} (h : Env w) (o : Obj) : Env (w.alloc o) := h.below ((Below.refl _ _).alloc (Nat.le_refl _) _)
theorem EnvE.alloc {w : World} (h : EnvE w) (o : Obj) : EnvE (w.alloc o) := h.below ((Below.refl _ _).alloc (Nat.le_refl _) _)

/-- A call's end: the value, and all that stood stands. -/
def Gives (v : Value) (w : World) (e : Ending) (w' : World) : Prop := e = .returned v ∧ Below w.heap.size w w'
theorem Gives.mk {v : Value} {w w' : World} {e : Ending} (h : e = .returned v) (hb : Below w.heap.size w w') : Gives v w e w' := ⟨h, hb⟩

theorem fmt_any (n : Int) (h0 : -9223372036854775808 ≤ n) (h1 : n ≤ 9223372036854775807) (w : World) (he : Env w) :
    Calls Tryd.prog 27 #[.int .i64 n, .int .i64 10] w (Gives (.string ⟨(Lib.itoa n).toArray⟩) w) :=
  (Tryd.strconv_FormatInt_10 n h0 h1 w he.tab).mono fun _ _ ⟨a, k, os, b⟩ => ⟨a, by subst b; exact below_grow k os⟩
theorem itoa_any (n : Int) (h0 : -9223372036854775808 ≤ n) (h1 : n ≤ 9223372036854775807) (w : World) (he : Env w) :
    Calls Tryd.prog 30 #[.int .i64 n] w (Gives (.string ⟨(Lib.itoa n).toArray⟩) w) :=
  (Tryd.strconv_Itoa n h0 h1 w he.tab).mono fun _ _ ⟨a, k, os, b⟩ => ⟨a, by subst b; exact below_grow k os⟩


end Go.Proofs.YtpbpfngichfgeaaDoor
