/-
  What the walks ask of a world: the library's variables, where they are asked. All of it stays behind a call that turns nothing below.
-/
import Derived.Test.YtpbpfngichfgeaaGreatDoorUtil
import Derived.Test.YtpbpfngichfgeaaGreatDoorShelf
import Derived.WalkSmall
import Derived.Lib.ConvBytes
import Derived.Lib.ItoaLen
import Derived.Lib.ParseIntBTie
namespace Go.Proofs.YtpbpfngichfgeaaGreatDoor
open Go.RowKit Go.Sort

theorem below_grow {w : World} (k : Nat) (os : Array Obj) : Below w.heap.size w (grow (w.drewN k) os) :=
  ⟨rfl, rfl, rfl, by simp [grow, World.drewN], fun i hi => by simp [grow, World.drewN, Array.getElem?_append, hi]⟩
theorem below_bytes {w : World} (e : TypeId) (s : ByteArray) : Below w.heap.size w (Lib.bytesWorld w e s) := by
  unfold Lib.bytesWorld
  refine (((Below.refl w.heap.size w).drew).alloc (Nat.le_refl _) (.cells (Lib.bytesCells w e s) e)).trans ?_
  unfold World.freeze
  split
  · exact Below.refl _ _
  · exact ⟨rfl, rfl, rfl, by simp, fun k hk => by simp only [Array.getElem?_modify]; rw [if_neg (by omega)]⟩

theorem gTab : Tryz.prog.globalNamed "internal/strconv.uint64pow10" = some 2 := by kernel_rfl
theorem gSyn : Tryz.prog.globalNamed "strconv.ErrSyntax" = some 3 := by kernel_rfl
theorem gRan : Tryz.prog.globalNamed "strconv.ErrRange" = some 4 := by kernel_rfl

/-- The table, and bytealg's variable. -/
structure Env (w : World) : Prop where
  tab : Lib.TabIs Tryz.prog w "internal/strconv.uint64pow10" .u64 Lib.pow10Tab
  mx : ∃ m, w.cell? ⟨1, 0, none⟩ = some (.int .i64 m)
  size : 7 ≤ w.heap.size
theorem Env.below {w w' : World} (h : Env w) (hb : Below w.heap.size w w') : Env w' where
  tab := var?_below hb gTab (Nat.lt_of_lt_of_le (by decide) h.size) h.tab
  mx := h.mx.imp fun m hm => (hb.cell (p := ⟨1, 0, none⟩) (Nat.lt_of_lt_of_le (by show 1 < 7; decide) h.size)).trans hm
  size := Nat.le_trans h.size hb.size
/-- .. and strconv's errors. -/
structure EnvE (w : World) : Prop where
  env : Env w
  syn : ∃ tp p, w.var? Tryz.prog "strconv.ErrSyntax" = some #[.iface tp p]
  ran : ∃ tp p, w.var? Tryz.prog "strconv.ErrRange" = some #[.iface tp p]
theorem EnvE.below {w w' : World} (h : EnvE w) (hb : Below w.heap.size w w') : EnvE w' where
  env := h.env.below hb
  syn := h.syn.imp fun _ h1 => h1.imp fun _ h2 => var?_below hb gSyn (Nat.lt_of_lt_of_le (by decide) h.env.size) h2
  ran := h.ran.imp fun _ h1 => h1.imp fun _ h2 => var?_below hb gRan (Nat.lt_of_lt_of_le (by decide) h.env.size) h2
/-- A world behind W, in which all that is there. -/
structure Inv (W w : World) : Prop where
  below : Below W.heap.size W w
  env : Env w
theorem Inv.next {W w w' : World} (h : Inv W w) (hb : Below w.heap.size w w') : Inv W w' := ⟨below_next h.below hb, h.env.below hb⟩
structure InvE (W w : World) : Prop where
  below : Below W.heap.size W w
  env : EnvE w
theorem InvE.next {W w w' : World} (h : InvE W w) (hb : Below w.heap.size w w') : InvE W w' := ⟨below_next h.below hb, h.env.below hb⟩
theorem EnvE.refl {w : World} (h : EnvE w) : InvE w w := ⟨Below.refl _ _, h⟩
theorem Env.refl {w : World} (h : Env w) : Inv w w := ⟨Below.refl _ _, h⟩
theorem Inv.out {w w1 : World} {o : Obj} (hi : Inv (w.alloc o) w1) : Below w.heap.size w w1 := below_out hi.below
theorem InvE.out {w w1 : World} {o : Obj} (hi : InvE (w.alloc o) w1) : Below w.heap.size w w1 := below_out hi.below
theorem Inv.alloc {W w : World} (h : Inv W w) (o : Obj) : Inv W (w.alloc o) := h.next ((Below.refl _ _).alloc (Nat.le_refl _) _)
theorem InvE.alloc {W w : World} (h : InvE W w) (o : Obj) : InvE W (w.alloc o) := h.next ((Below.refl _ _).alloc (Nat.le_refl _) _)
theorem Env.alloc {w : World} (h : Env w) (o : Obj) : Env (w.alloc o) := h.below ((Below.refl _ _).alloc (Nat.le_refl _) _)
theorem EnvE.alloc {w : World} (h : EnvE w) (o : Obj) : EnvE (w.alloc o) := h.below ((Below.refl _ _).alloc (Nat.le_refl _) _)

/-- A call's end: the value, and all that stood stands. -/
def Gives (v : Value) (w : World) (e : Ending) (w' : World) : Prop := e = .returned v ∧ Below w.heap.size w w'
theorem Gives.mk {v : Value} {w w' : World} {e : Ending} (h : e = .returned v) (hb : Below w.heap.size w w') : Gives v w e w' := ⟨h, hb⟩

theorem fmt_any (n : Int) (h0 : -9223372036854775808 ≤ n) (h1 : n ≤ 9223372036854775807) (w : World) (he : Env w) :
    Calls Tryz.prog 83 #[.int .i64 n, .int .i64 10] w (Gives (.string ⟨(Lib.itoa n).toArray⟩) w) :=
  (Tryz.strconv_FormatInt_10 n h0 h1 w he.tab).mono fun _ _ ⟨a, k, os, b⟩ => ⟨a, by subst b; exact below_grow k os⟩
theorem itoa_any (n : Int) (h0 : -9223372036854775808 ≤ n) (h1 : n ≤ 9223372036854775807) (w : World) (he : Env w) :
    Calls Tryz.prog 48 #[.int .i64 n] w (Gives (.string ⟨(Lib.itoa n).toArray⟩) w) :=
  (Tryz.strconv_Itoa n h0 h1 w he.tab).mono fun _ _ ⟨a, k, os, b⟩ => ⟨a, by subst b; exact below_grow k os⟩

/-- strconv.ParseInt at base 10, 64 bits: the number and nil, or some number and an error that isn't nil. -/
def parsed (s : ByteArray) : Option Int := match Lib.parseIntB 64 s.data.toList with | .ok v => some v | _ => none
theorem parsed_bounds {s : ByteArray} {v : Int} (h : parsed s = some v) : -9223372036854775808 ≤ v ∧ v ≤ 9223372036854775807 := by
  unfold parsed at h
  split at h
  · rename_i u hu
    have := Lib.parseIntB_bounds hu
    simp at h this
    omega
  · cases h
theorem parse_ok (s : ByteArray) (hs : s.size ≤ 281474976710656) (v : Int) (hp : parsed s = some v) (w : World) :
    Calls Tryz.prog 143 #[.string s, .int .i64 10, .int .i64 64] w (Gives (.tuple #[.int .i64 v, .nilIface]) w) := by
  unfold parsed at hp
  split at hp
  · rename_i u hu
    cases hp
    refine (Tryz.strconv_ParseInt_10_at64_ok s (by omega) v hu w).mono fun e w' ⟨a, b⟩ => ⟨a, ?_⟩
    rcases b with rfl | ⟨t, rfl⟩
    · exact Below.refl _ _
    · exact below_bytes _ _
  · cases hp
theorem parse_bad (s : ByteArray) (hs : s.size ≤ 281474976710656) (hp : parsed s = none) (w : World) (he : EnvE w) :
    Calls Tryz.prog 143 #[.string s, .int .i64 10, .int .i64 64] w fun e w' => ∃ n t x, e = .returned (.tuple #[.int .i64 n, .iface t x]) ∧ Below w.heap.size w w' := by
  rcases h : Lib.parseIntB 64 s.data.toList with v | _ | _
  · simp [parsed, h] at hp
  · obtain ⟨tp, p, hv⟩ := he.syn
    exact (Any.strconv_ParseInt_10_at64_syntax_var Tryz.laysC174 s hs h tp p w hv).mono fun e w' ⟨N, a, _, _, b⟩ => ⟨_, _, _, a, b⟩
  · obtain ⟨tp, p, hv⟩ := he.ran
    exact (Tryz.strconv_ParseInt_10_at64_range_var s hs h tp p w hv).mono fun e w' ⟨N, a, _, _, b⟩ => ⟨_, _, _, a, b⟩

/-- pax.Number: the number, whether it is one. -/
def numberOf (s : ByteArray) : Option Int := (parsed s).bind fun v => if (⟨(Lib.itoa v).toArray⟩ : ByteArray) = s then some v else none
theorem numberOf_bounds {s : ByteArray} {v : Int} (h : numberOf s = some v) : -9223372036854775808 ≤ v ∧ v ≤ 9223372036854775807 := by
  unfold numberOf at h
  obtain ⟨u, hu, hv⟩ := Option.bind_eq_some_iff.1 h
  split at hv
  · cases hv; exact parsed_bounds hu
  · cases hv
def numV (r : Option Int) : Value := match r with | some v => .tuple #[.int .i64 v, .int .i64 0] | none => .tuple #[.int .i64 0, .int .i64 70]
set_option maxHeartbeats 1000000 in
theorem number_any (s : ByteArray) (hs : s.size ≤ 281474976710656) (w : World) (he : EnvE w) :
    Calls Tryz.prog 129 #[.string s] w (Gives (numV (numberOf s)) w) := by
  have HE := Lib.hid he
  clear he
  cases hp : parsed s with
  | none =>
    have fin : numV (numberOf s) = .tuple #[.int .i64 0, .int .i64 70] := by simp [numV, numberOf, hp]
    have FIN := Lib.hid fin
    have HP := Lib.hid hp
    clear fin hp
    go_enter Tryz.func129, Tryz.ntmps129
    go_wp2_with (go_at_call 143; refine (parse_bad s hs HP.out _ HE.out).mono ?_; rintro e w1 ⟨n, t, x, rfl, hb⟩)
    go_ret2
    exact ⟨by rw [FIN.out]; rfl, hb⟩
  | some v =>
    obtain ⟨b0, b1⟩ := parsed_bounds hp
    by_cases hq : (⟨(Lib.itoa v).toArray⟩ : ByteArray) = s
    · have fin : numV (numberOf s) = .tuple #[.int .i64 v, .int .i64 0] := by simp [numV, numberOf, hp, hq]
      have FIN := Lib.hid fin
      have HP := Lib.hid hp
      have hq2 := str_true hq
      clear fin hp hq
      generalize hgz : (⟨(Lib.itoa v).toArray⟩ : ByteArray) = z at hq2
      have HZ := Lib.hid hgz
      clear hgz
      go_enter Tryz.func129, Tryz.ntmps129
      go_wp2_with (first | (go_at_call 143; refine (parse_ok s hs v HP.out _).mono ?_; rintro e w1 ⟨rfl, hb⟩) | (go_at_call 83; refine (fmt_any v b0 b1 _ (HE.out.env.below hb)).mono ?_; rw [HZ.out]; rintro e w2 ⟨rfl, hb2⟩))
      go_ret2
      exact ⟨by rw [FIN.out]; rfl, below_next hb hb2⟩
    · have fin : numV (numberOf s) = .tuple #[.int .i64 0, .int .i64 70] := by simp [numV, numberOf, hp, hq]
      have FIN := Lib.hid fin
      have HP := Lib.hid hp
      have hq2 := str_false hq
      clear fin hp hq
      generalize hgz : (⟨(Lib.itoa v).toArray⟩ : ByteArray) = z at hq2
      have HZ := Lib.hid hgz
      clear hgz
      go_enter Tryz.func129, Tryz.ntmps129
      go_wp2_with (first | (go_at_call 143; refine (parse_ok s hs v HP.out _).mono ?_; rintro e w1 ⟨rfl, hb⟩) | (go_at_call 83; refine (fmt_any v b0 b1 _ (HE.out.env.below hb)).mono ?_; rw [HZ.out]; rintro e w2 ⟨rfl, hb2⟩))
      go_ret2
      exact ⟨by rw [FIN.out]; rfl, below_next hb hb2⟩
end Go.Proofs.YtpbpfngichfgeaaGreatDoor
