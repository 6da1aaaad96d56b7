/-
  EntryOrder, walked.
-/
import Derived.Deep.LoopGhost
import Derived.Deep.DeepCutAuto
import Derived.Deep.CutBlock
import Derived.Deep.RegionHeld3
import Derived.Deep.QuietTactic
import Derived.BigQuiet
import Derived.Test.YtokglnnmchjaeaaDoorEntryO0
namespace Go.Proofs.YtokglnnmchjaeaaDoor
set_option linter.unusedVariables false
set_option linter.unusedSimpArgs false
open Go.RowKit

theorem wr_ok {n : Int} (h0 : -9223372036854775808 ≤ n) (h1 : n ≤ 9223372036854775807) : IntKind.i64.wrap n = n := by
  simp [IntKind.wrap, IntKind.bits, IntKind.signed]; omega
theorem below_drewN {B : Nat} {w w1 : World} (h : Below B w w1) (n : Nat) : Below B w (w1.drewN n) := ⟨h.os, h.tape, h.output, h.size, h.block⟩
/-- What the last part of EntryOrder reads. -/
structure OrdSt (W : World) (b bo bg : Nat) (own all short : ByteArray) (wc : World) : Prop where
  h : Blk wc b 23 (shortH short)
  o : Blk wc bo 45 #[.string pathK, .string own]
  g : Blk wc bg 45 #[.string pathK, .string all]
  e : EnvE wc
  b : Below W.heap.size W wc
theorem OrdSt.next {W wc w' : World} {b bo bg : Nat} {own all short : ByteArray} (s : OrdSt W b bo bg own all short wc) (hb : Below wc.heap.size wc w') : OrdSt W b bo bg own all short w' :=
  ⟨s.h.below hb s.h.lt, s.o.below hb s.o.lt, s.g.below hb s.g.lt, s.e.below hb, s.b.trans (hb.mono s.b.size)⟩
theorem OrdSt.alloc {W wc : World} {b bo bg : Nat} {own all short : ByteArray} (s : OrdSt W b bo bg own all short wc) (o : Obj) : OrdSt W b bo bg own all short (wc.alloc o) := s.next ((Below.refl _ _).alloc (Nat.le_refl _) _)
section
variable {W wc : World} {b bo bg : Nat} {own all short long : ByteArray}
theorem path0 (s : OrdSt W b bo bg own all short wc) (z : own.size ≤ 1000 ∧ all.size ≤ 1000 ∧ long.size ≤ 1000 ∧ short.size ≤ 1000) :
    Calls Tryd.prog 9 #[.agg #[.slice none 0 0, .slice none 0 0, .string ⟨#[]⟩, .string ⟨#[]⟩], .pointer (some ⟨b, 0, none⟩)] wc (Gives (.string short) wc) :=
  path_any short ⟨#[]⟩ [] [] none none 0 0 b wc s.h (.inl rfl) (.inl rfl) (.inl rfl) (.inl rfl) z.2.2.2 (by decide) (lookup_le (by simp) (by simp)) s.e short (by simp [textOf, lookup, getUpto])
theorem path1 (s : OrdSt W b bo bg own all short wc) (z : own.size ≤ 1000 ∧ all.size ≤ 1000 ∧ long.size ≤ 1000 ∧ short.size ≤ 1000) :
    Calls Tryd.prog 9 #[.agg #[.slice none 0 0, .slice none 0 0, .string long, .string ⟨#[]⟩], .pointer (some ⟨b, 0, none⟩)] wc (Gives (.string (fst2 long short)) wc) :=
  path_any short long [] [] none none 0 0 b wc s.h (.inl rfl) (.inl rfl) (.inl rfl) (.inl rfl) z.2.2.2 z.2.2.1 (lookup_le (by simp) (by simp)) s.e _ (by simp [textOf, lookup, getUpto, fst2])
theorem path2 (s : OrdSt W b bo bg own all short wc) (z : own.size ≤ 1000 ∧ all.size ≤ 1000 ∧ long.size ≤ 1000 ∧ short.size ≤ 1000) :
    Calls Tryd.prog 9 #[.agg #[.slice (some ⟨bg, 0, none⟩) 1 1, .slice none 0 0, .string long, .string ⟨#[]⟩], .pointer (some ⟨b, 0, none⟩)] wc (Gives (.string (fst3 all long short)) wc) :=
  path_any short long [(pathK, all)] [] (some ⟨bg, 0, none⟩) none 1 0 b wc s.h (recs_one s.g) (.inl rfl) (.inr ⟨_, rfl⟩) (.inl rfl) z.2.2.2 z.2.2.1 (lookup_le (by intro r hr; simp at hr; subst hr; have := z.2.1; simp; omega) (by simp)) s.e _ (by simp [textOf, lookup, getUpto, fst2, fst3])
theorem path3 (s : OrdSt W b bo bg own all short wc) (z : own.size ≤ 1000 ∧ all.size ≤ 1000 ∧ long.size ≤ 1000 ∧ short.size ≤ 1000) :
    Calls Tryd.prog 9 #[.agg #[.slice (some ⟨bg, 0, none⟩) 1 1, .slice (some ⟨bo, 0, none⟩) 1 1, .string long, .string ⟨#[]⟩], .pointer (some ⟨b, 0, none⟩)] wc (Gives (.string (fst3 own long short)) wc) :=
  path_any short long [(pathK, all)] [(pathK, own)] (some ⟨bg, 0, none⟩) (some ⟨bo, 0, none⟩) 1 1 b wc s.h (recs_one s.g) (recs_one s.o) (.inr ⟨_, rfl⟩) (.inr ⟨_, rfl⟩) z.2.2.2 z.2.2.1 (lookup_le (by intro r hr; simp at hr; subst hr; have := z.2.1; simp; omega) (by intro r hr; simp at hr; subst hr; have := z.1; simp; omega)) s.e _ (by simp [textOf, lookup, getUpto, fst2, fst3])
end
set_option maxHeartbeats 8000000 in
theorem order_walk (own all long short : ByteArray) (w : World) (he : EnvE w) (z0 : own.size ≤ 281474976710656) (z1 : all.size ≤ 281474976710656) (z2 : long.size ≤ 281474976710656) (z3 : short.size ≤ 281474976710656) :
    Calls Tryd.prog 4 #[.agg #[.string own, .string all, .string long, .string short]] w (Gives (.bool true) w) := by
  have HE := Lib.hid he
  clear he
  have a1 : IntKind.i64.wrap ((own.size : Int) + (all.size : Int)) = (own.size : Int) + (all.size : Int) := wr_ok (by omega) (by omega)
  have a2 : IntKind.i64.wrap ((own.size : Int) + (all.size : Int) + (long.size : Int)) = (own.size : Int) + (all.size : Int) + (long.size : Int) := wr_ok (by omega) (by omega)
  have a3 : IntKind.i64.wrap ((own.size : Int) + (all.size : Int) + (long.size : Int) + (short.size : Int)) = (own.size : Int) + (all.size : Int) + (long.size : Int) + (short.size : Int) := wr_ok (by omega) (by omega)
  by_cases ht : 1000 < (own.size : Int) + (all.size : Int) + (long.size : Int) + (short.size : Int)
  · clear z0 z1 z2 z3
    go_enter Tryd.func4, Tryd.ntmps4
    go_wp2_with (go_at_call 5; refine (makes_any _ (HE.out.below (by (repeat' (first | assumption | exact Below.refl _ _ | refine Below.setCell ?_ (by show _ ≤ _; omega) _ | refine Below.drew ?_ | refine below_alloc ?_ _))))).mono ?_; rintro e w1 ⟨rfl, hb1⟩; have hB1 : Below w.heap.size w w1 := below_next (by (repeat' (first | assumption | exact Below.refl _ _ | refine Below.setCell ?_ (by show _ ≤ _; omega) _ | refine Below.drew ?_ | refine below_alloc ?_ _))) hb1; have hk := (Blk.new w 42 #[.string own, .string all, .string long, .string short]).below hb1 (by simp); have k0 := hk.cell 0; have k1 := hk.cell 1; have k2 := hk.cell 2; have k3 := hk.cell 3; simp at k0 k1 k2 k3; have kf0 := hk.frozen 0; clear hk hb1)
    repeat (go_quiet (fail); try go_wp2)
    go_ret
    exact ⟨rfl, below_drewN hB1 _⟩
  · have ZS : Hid (own.size ≤ 1000 ∧ all.size ≤ 1000 ∧ long.size ≤ 1000 ∧ short.size ≤ 1000) := by refine Lib.hid ⟨?_, ?_, ?_, ?_⟩ <;> omega
    have hmf : ∀ (fn : Fn) (first cap : Array Value) (w : World), (Instr.makeFunc fn first cap).run Tryd.prog w = .ok (.func fn first cap) w := fun _ _ _ _ => rfl
    clear z0 z1 z2 z3
    go_enter Tryd.func4, Tryd.ntmps4
    go_upto_region 6 with (go_at_call 5; refine (makes_any _ (HE.out.below (by (repeat' (first | assumption | exact Below.refl _ _ | refine Below.setCell ?_ (by show _ ≤ _; omega) _ | refine Below.drew ?_ | refine below_alloc ?_ _))))).mono ?_; rintro e w1 ⟨rfl, hb1⟩; have hB1 : Below w.heap.size w w1 := below_next (by (repeat' (first | assumption | exact Below.refl _ _ | refine Below.setCell ?_ (by show _ ≤ _; omega) _ | refine Below.drew ?_ | refine below_alloc ?_ _))) hb1; have hk := (Blk.new w 42 #[.string own, .string all, .string long, .string short]).below hb1 (by simp); have k0 := hk.cell 0; have k1 := hk.cell 1; have k2 := hk.cell 2; have k3 := hk.cell 3; simp at k0 k1 k2 k3; have kf0 := hk.frozen 0; clear hk hb1)
    repeat (go_quiet (fail); go_upto_region 6 with (fail))
    have hB2 := below_drewN hB1 nq
    clear hB1
    generalize w1.drewN nq = W1 at hB2 ⊢
    clear k0 k1 k2 k3 kf0
    go_upto_region 9 with (fail)
    have HS : Hid (OrdSt w W1.heap.size (W1.heap.size + 1) (W1.heap.size + 1 + 1) own all short (((W1.alloc (Obj.cells #[Value.int IntKind.i64 2, Value.string short, Value.string ⟨#[]⟩, Value.string ⟨#[]⟩, Value.string ⟨#[]⟩, Value.string ⟨#[]⟩, Value.int IntKind.u8 48, Value.int IntKind.i64 0, Value.int IntKind.i64 0, Value.int IntKind.i64 0, Value.int IntKind.i64 0, Value.int IntKind.i64 0] 23)).alloc (Obj.cells #[Value.string ⟨#[112, 97, 116, 104]⟩, Value.string own] 45)).alloc (Obj.cells #[Value.string ⟨#[112, 97, 116, 104]⟩, Value.string all] 45))) :=
      Lib.hid ⟨((Blk.new W1 _ _).alloc _).alloc _, by simpa using (Blk.new (W1.alloc _) _ _).alloc _, by simpa using (Blk.new ((W1.alloc _).alloc _) _ _), HE.out.below (below_alloc (below_alloc (below_alloc hB2 _) _) _), below_alloc (below_alloc (below_alloc hB2 _) _) _⟩
    clear hB2
    generalize (((W1.alloc (Obj.cells #[Value.int IntKind.i64 2, Value.string short, Value.string ⟨#[]⟩, Value.string ⟨#[]⟩, Value.string ⟨#[]⟩, Value.string ⟨#[]⟩, Value.int IntKind.u8 48, Value.int IntKind.i64 0, Value.int IntKind.i64 0, Value.int IntKind.i64 0, Value.int IntKind.i64 0, Value.int IntKind.i64 0] 23)).alloc (Obj.cells #[Value.string ⟨#[112, 97, 116, 104]⟩, Value.string own] 45)).alloc (Obj.cells #[Value.string ⟨#[112, 97, 116, 104]⟩, Value.string all] 45)) = W3 at HS ⊢
    generalize W1.heap.size = b0 at HS ⊢
    go_wp2_with (first | (go_at_call 9; (with_reducible refine (path0 HS.out ZS.out).mono ?_); rintro e wn ⟨rfl, hbn⟩; replace HS := Lib.hid (HS.out.next hbn); clear hbn) | (go_at_call 9; (with_reducible refine (path1 HS.out ZS.out).mono ?_); rintro e wn ⟨rfl, hbn⟩; replace HS := Lib.hid (HS.out.next hbn); clear hbn) | (go_at_call 9; (with_reducible refine (path2 HS.out ZS.out).mono ?_); rintro e wn ⟨rfl, hbn⟩; replace HS := Lib.hid (HS.out.next hbn); clear hbn) | (go_at_call 9; (with_reducible refine (path3 HS.out ZS.out).mono ?_); rintro e wn ⟨rfl, hbn⟩; replace HS := Lib.hid (HS.out.next hbn); clear hbn) | (go_at_call 10; (with_reducible refine (first2_any long short _ _ _ _ (Blk.new _ _ _)).mono ?_); rintro e wn ⟨rfl, hbn⟩; replace HS := Lib.hid ((HS.out.alloc _).next hbn); clear hbn) | (go_at_call 10; (with_reducible refine (first3_any all long short _ _ _ _ (Blk.new _ _ _)).mono ?_); rintro e wn ⟨rfl, hbn⟩; replace HS := Lib.hid ((HS.out.alloc _).next hbn); clear hbn) | (go_at_call 10; (with_reducible refine (first3_any own long short _ _ _ _ (Blk.new _ _ _)).mono ?_); rintro e wn ⟨rfl, hbn⟩; replace HS := Lib.hid ((HS.out.alloc _).next hbn); clear hbn))
    go_ret
    exact ⟨rfl, HS.out.b⟩
end Go.Proofs.YtokglnnmchjaeaaDoor
