/-
  package fault by contracts: New, Wrap, Code, Place, Depth, Is.
-/
import Derived.Test.YtnhffkdabdilpaaDoorFaultAs4
import Derived.Test.YtnhffkdabdilpaaDoorFaultIs
namespace Go.Proofs.YtnhffkdabdilpaaDoor
open Go.RowKit Go.Extern.Stop Go.Stop Go.Extern

theorem new_ok (p : Int) (w : World) : Calls Tryd.prog 10 #[.int .i64 0, .int .i64 p] w fun e w' => e = .returned .nilIface ∧ w = w' := by
  go_enter Tryd.func10, Tryd.ntmps10
  go_wp2
  go_ret
  exact ⟨rfl, rfl⟩
theorem new_any (c p : Int) (w : World) (hc : (c == 0) = false) : Calls Tryd.prog 10 #[.int .i64 c, .int .i64 p] w fun e w' => e = .returned (.iface 39 (.agg #[.int .i64 p, .iface 24 (.int .i64 c)])) ∧ w = w' := by
  go_enter Tryd.func10, Tryd.ntmps10
  go_wp2
  go_ret
  exact ⟨rfl, rfl⟩
theorem wrap_nil (p : Int) (w : World) : Calls Tryd.prog 11 #[.nilIface, .int .i64 p] w fun e w' => e = .returned .nilIface ∧ w = w' := by
  go_enter Tryd.func11, Tryd.ntmps11
  go_wp2
  go_ret
  exact ⟨rfl, rfl⟩
theorem wrap_any (u : TypeId) (x : Value) (p : Int) (w : World) : Calls Tryd.prog 11 #[.iface u x, .int .i64 p] w fun e w' => e = .returned (.iface 39 (.agg #[.int .i64 p, .iface u x])) ∧ w = w' := by
  go_enter Tryd.func11, Tryd.ntmps11
  go_wp2
  go_ret
  exact ⟨rfl, rfl⟩

theorem code_nil (w : World) : Calls Tryd.prog 12 #[.nilIface] w fun e w' => e = .returned (.int .i64 0) ∧ Below w.heap.size w w' := by
  go_enter Tryd.func12, Tryd.ntmps12
  go_wp2_with (go_at_call 19; refine (as_nil _ _).mono ?_; rintro e w1 ⟨rfl, rfl⟩)
  go_ret
  exact ⟨rfl, (Below.refl _ _).alloc (Nat.le_refl _) _⟩
theorem place_nil (w : World) : Calls Tryd.prog 13 #[.nilIface] w fun e w' => e = .returned (.int .i64 (-1)) ∧ Below w.heap.size w w' := by
  go_enter Tryd.func13, Tryd.ntmps13
  go_wp2_with (go_at_call 19; refine (as_nil _ _).mono ?_; rintro e w1 ⟨rfl, rfl⟩)
  go_ret
  exact ⟨rfl, (Below.refl _ _).alloc (Nat.le_refl _) _⟩

def CodeEnd (w : World) (code : Int) (e : Ending) (w' : World) : Prop := e = .returned (.int .i64 code) ∧ Below w.heap.size w w'

set_option maxHeartbeats 1000000 in
theorem code_any (code : Int) (ps : List Int) (u : TypeId) (x : Value) (hE : Chain code ps (.iface u x)) (w : World) (hg : w.cell? ⟨0, 0, none⟩ = some etype) :
    Calls Tryd.prog 12 #[.iface u x] w (CodeEnd w code) := by
  have C := As_chain code ps u x hE ⟨w.heap.size, 0, none⟩ (.int .i64 0) (w.alloc (.cells #[.int .i64 0] 24)) (cell_old hg) (by simp) (by simp)
  have HC := Lib.hid C
  clear C hE hg
  go_enter Tryd.func12, Tryd.ntmps12
  go_wp2_with (go_at_call 19; refine (HC.out).mono ?_; rintro e w1 ⟨rfl, W2, hb2, rfl⟩; have hsz : w.heap.size < W2.heap.size := (by have := hb2.size; simp at this; omega); have hc2 : W2.cell? ⟨w.heap.size, 0, none⟩ = some (.int .i64 0) := (by rw [hb2.cell (p := ⟨w.heap.size, 0, none⟩) (by simp)]; simp); have hf2 : W2.frozen? ⟨w.heap.size, 0, none⟩ = false := (by rw [hb2.frozen (p := ⟨w.heap.size, 0, none⟩) (by simp)]; simp))
  go_ret
  exact ⟨rfl, (((Below.refl _ _).alloc (Nat.le_refl _) _).trans (hb2.mono (by simp))).setCell (by simp) _⟩

set_option maxHeartbeats 1000000 in
theorem place_any (p : Int) (u : TypeId) (x : Value) (w : World) (hg : w.cell? ⟨0, 0, none⟩ = some etype) :
    Calls Tryd.prog 13 #[.iface 39 (.agg #[.int .i64 p, .iface u x])] w (CodeEnd w p) := by
  have C := As_at p u x w.heap.size (.int .i64 0) .nilIface (w.alloc (.cells #[.int .i64 0, .nilIface] 39)) (cell_old hg) (by simp) (by simp) (by simp) (by simp)
  have HC := Lib.hid C
  clear C hg
  go_enter Tryd.func13, Tryd.ntmps13
  go_wp2_with (go_at_call 19; refine (HC.out).mono ?_; rintro e w1 ⟨rfl, W2, hb2, rfl⟩; have hsz : w.heap.size < W2.heap.size := (by have := hb2.size; simp at this; omega); have hc2 : W2.cell? ⟨w.heap.size, 0, none⟩ = some (.int .i64 0) := (by rw [hb2.cell (p := ⟨w.heap.size, 0, none⟩) (by simp)]; simp); have hf2 : W2.frozen? ⟨w.heap.size, 0, none⟩ = false := (by rw [hb2.frozen (p := ⟨w.heap.size, 0, none⟩) (by simp)]; simp))
  go_ret
  exact ⟨rfl, ((((Below.refl _ _).alloc (Nat.le_refl _) _).trans (hb2.mono (by simp))).setCell (by simp) _).setCell (by simp) _⟩

set_option maxHeartbeats 1000000 in
theorem place_none (code : Int) (w : World) (hg : w.cell? ⟨0, 0, none⟩ = some etype) :
    Calls Tryd.prog 13 #[.iface 24 (.int .i64 code)] w (CodeEnd w (-1)) := by
  have C := As_miss code w.heap.size (w.alloc (.cells #[.int .i64 0, .nilIface] 39)) (cell_old hg)
  have HC := Lib.hid C
  clear C hg
  go_enter Tryd.func13, Tryd.ntmps13
  go_wp2_with (go_at_call 19; refine (HC.out).mono ?_; rintro e w1 ⟨rfl, hb2⟩)
  go_ret
  exact ⟨rfl, ((Below.refl _ _).alloc (Nat.le_refl _) _).trans (hb2.mono (by simp))⟩

/-! ### errors.Unwrap, fault.Depth -/
theorem unw_at (p : Int) (u : TypeId) (x : Value) (w : World) :
    Calls Tryd.prog 20 #[.iface 39 (.agg #[.int .i64 p, .iface u x])] w fun e w' => e = .returned (.iface u x) ∧ Below w.heap.size w w' := by
  have t8 := hasUnwrap39
  have t9 := mUnwrap39
  go_enter Tryd.func20, Tryd.ntmps20
  go_wp2_with (go_at_call 18; refine (unwrap_any _ _ _ _).mono ?_; rintro e w1 ⟨rfl, hb1⟩)
  go_ret
  exact ⟨rfl, hb1⟩
theorem unw_leaf (c : Int) (w : World) :
    Calls Tryd.prog 20 #[.iface 24 (.int .i64 c)] w fun e w' => e = .returned .nilIface ∧ w = w' := by
  have t8 := noUnwrap24
  go_enter Tryd.func20, Tryd.ntmps20
  go_wp2
  go_ret
  exact ⟨rfl, rfl⟩
theorem depth_nil (w : World) : Calls Tryd.prog 14 #[.nilIface] w (CodeEnd w 0) := by
  go_enter Tryd.func14, Tryd.ntmps14
  go_wp2
  refine wp_loop_rounds 1 ?_
  rw [rounds_succ]
  go_wp2
  go_ret
  exact ⟨rfl, Below.refl _ _⟩
theorem isAt39 (v : Value) (w : World) : (Instr.typeAssert (.iface 39 v) 26 39 true).run Tryd.prog w = .ok (.tuple #[v, .bool true]) w := by kernel_rfl
theorem isAt24 (v : Value) (w : World) : (Instr.typeAssert (.iface 24 v) 26 39 true).run Tryd.prog w = .ok (.tuple #[.agg #[.int .i64 0, .nilIface], .bool false]) w := by kernel_rfl

def DepthRel (code : Int) (ps : List Int) (E : Value) (n : Int) : Prop := (∃ qs, Chain code qs E ∧ n + qs.length = ps.length ∧ 0 ≤ n) ∨ (E = .nilIface ∧ n = ps.length)
set_option maxHeartbeats 1000000 in
theorem depth_any (code : Int) (ps : List Int) (u : TypeId) (x : Value) (hE : Chain code ps (.iface u x)) (hl : ps.length ≤ 1000000) (w : World) :
    Calls Tryd.prog 14 #[.iface u x] w (CodeEnd w ps.length) := by
  have t1 := isAt39
  have t2 := isAt24
  go_enter Tryd.func14, Tryd.ntmps14
  go_wp2
  go_loopw [0, 3] (fun E' n wr => (∃ m : Int, n = .int .i64 m ∧ DepthRel code ps E' m) ∧ Below w.heap.size w wr) (fun E' _ _ => SizeOf.sizeOf E')
  case atStart => exact ⟨⟨0, rfl, .inl ⟨ps, hE, by simp, by omega⟩⟩, Below.refl _ _⟩
  case round =>
    obtain ⟨⟨m, rfl, hd⟩, hb⟩ := hrel
    have HB := Lib.hid hb
    clear hb hE
    rcases hd with ⟨qs, hq, hm, h0⟩ | ⟨rfl, rfl⟩
    · cases hq with
      | leaf =>
        have hm' : m ≤ 1000000 := by simp at hm; omega
        have HM := Lib.hid hm
        clear hm
        go_wp2_with (go_at_call 20; refine (unw_leaf _ _).mono ?_; rintro e w1 ⟨rfl, rfl⟩)
        go_roundw
        case rel => exact ⟨⟨m, rfl, .inr ⟨rfl, by have := HM.out; simp at this; omega⟩⟩, HB.out.alloc HB.out.size _⟩
        case measure => simp; omega
      | wrap p ps2 u2 x2 hx =>
        have hm' : m ≤ 1000000 := by simp at hm; omega
        have HM := Lib.hid hm
        have HX := Lib.hid hx
        clear hm hx
        go_wp2_with (go_at_call 20; refine (unw_at _ _ _ _).mono ?_; rintro e w1 ⟨rfl, hb1⟩)
        go_roundw
        case rel => exact ⟨⟨m + 1, rfl, .inl ⟨ps2, HX.out, by have := HM.out; simp at this; omega, by omega⟩⟩, (HB.out.alloc HB.out.size _).trans (hb1.mono (by have := HB.out.size; simp; omega))⟩
        case measure => simp; omega
    · go_wp2
      go_ret
      exact ⟨rfl, HB.out⟩

/-! ### fault.Is -/
theorem isf_zero (E : Value) (w : World) : Calls Tryd.prog 15 #[E, .int .i64 0] w (IsEnd w false) := by
  go_enter Tryd.func15, Tryd.ntmps15
  go_wp2
  go_ret
  exact ⟨rfl, Below.refl _ _⟩
theorem isf_nil (c : Int) (hc : (c != 0) = true) (w : World) : Calls Tryd.prog 15 #[.nilIface, .int .i64 c] w (IsEnd w false) := by
  go_enter Tryd.func15, Tryd.ntmps15
  go_wp2_with (go_at_call 21; refine (Is_nil _ _).mono ?_; rintro e w1 ⟨rfl, hb1⟩)
  go_ret
  exact ⟨rfl, hb1⟩
theorem isf_any (code c : Int) (ps : List Int) (u : TypeId) (x : Value) (hE : Chain code ps (.iface u x)) (hc : (c != 0) = true) (w : World) :
    Calls Tryd.prog 15 #[.iface u x, .int .i64 c] w (IsEnd w (code == c)) := by
  have HC := Lib.hid hE
  clear hE
  go_enter Tryd.func15, Tryd.ntmps15
  go_wp2_with (go_at_call 21; refine (Is_chain code c ps _ _ HC.out _).mono ?_; rintro e w1 ⟨rfl, hb1⟩)
  go_ret
  exact ⟨rfl, hb1⟩
end Go.Proofs.YtnhffkdabdilpaaDoor
