/-
  errors.as over chains at the target *fault.At, and errors.As at both targets.
-/
import Derived.Test.YtnhffkdabdilpaaDoorFaultAs2
import Derived.Lib.Hide
namespace Go.Proofs.YtnhffkdabdilpaaDoor
open Go.RowKit Go.Extern.Stop Go.Stop Go.Extern

theorem vo39 (p : Int) (u : TypeId) (x : Value) (w : World) : (ReflectliteValue.unpack (.iface 39 (.agg #[.int .i64 p, .iface u x]))).run Tryd.prog w
    = .ok (.agg #[.pointer (some ⟨4, 39, none⟩), .pointer (some ⟨w.heap.size, 0, none⟩), .int .u64 153]) (w.alloc (.cells #[.int .i64 p, .iface u x] 39)) := by kernel_rfl
theorem pa39a (a : Addr) (w : World) : (ReflectliteValue.parts (.agg #[.pointer (some ⟨4, 39, none⟩), .pointer (some a), .int .u64 409])).run Tryd.prog w = .ok (some (39, a, 409)) w := by kernel_rfl
theorem pa39 (a : Addr) (w : World) : (ReflectliteValue.parts (.agg #[.pointer (some ⟨4, 39, none⟩), .pointer (some a), .int .u64 153])).run Tryd.prog w = .ok (some (39, a, 153)) w := by kernel_rfl
theorem di39 (w : World) : (Rtype.directlyAssignable 39 39).run Tryd.prog w = .ok true w := by kernel_rfl
theorem set39 (t b : Nat) (p : Int) (u : TypeId) (x o0 o1 : Value) (W : World) (hb0 : W.cell? ⟨b, 0, none⟩ = some (.int .i64 p)) (hb1 : W.cell? ⟨b, 1, none⟩ = some (.iface u x))
    (ht0 : W.cell? ⟨t, 0, none⟩ = some o0) (ht1 : W.cell? ⟨t, 1, none⟩ = some o1) (hf0 : W.frozen? ⟨t, 0, none⟩ = false) (hf1 : W.frozen? ⟨t, 1, none⟩ = false) :
    (ReflectliteValue.set #[.agg #[.pointer (some ⟨4, 39, none⟩), .pointer (some ⟨t, 0, none⟩), .int .u64 409], .agg #[.pointer (some ⟨4, 39, none⟩), .pointer (some ⟨b, 0, none⟩), .int .u64 153]]).run Tryd.prog W
      = .ok (.tuple #[]) ((W.setCell ⟨t, 0, none⟩ (.int .i64 p)).setCell ⟨t, 1, none⟩ (.iface u x)) := by
  rw [rls]
  simp only [Sem.run_bind, pa39a, pa39, Result.andThen]
  have s1 := run_store Tryd.prog W ⟨t, 0, none⟩ (.int .i64 p) .plain (by rfl)
  have s2 := run_store Tryd.prog (W.setCell ⟨t, 0, none⟩ (.int .i64 p)) ⟨t, 1, none⟩ (.iface u x) .plain (by rfl)
  simp [ht0, hf0] at s1
  have h1' : (W.setCell ⟨t, 0, none⟩ (.int .i64 p)).cell? ⟨t, 1, none⟩ = some o1 := by rw [World.cell?_setCell_other _ _ _ _ (by simp)]; exact ht1
  simp [h1', hf1] at s2
  simp [ReflectliteValue.flagAddr, loadVar, isAgg, underlying, Tryd.underlying39, loadCells, loadCellsFrom, Addr.add, hb0, hb1, Result.andThen, di39, storeVar, Value.cells, storeCells, s1, s2]

def Hit39 (W : World) (t : Nat) (p : Int) (u : TypeId) (x : Value) (e : Ending) (w' : World) : Prop :=
  e = .returned (.bool true) ∧ ∃ W2, Below W.heap.size W W2 ∧ w' = (W2.setCell ⟨t, 0, none⟩ (.int .i64 p)).setCell ⟨t, 1, none⟩ (.iface u x)

set_option maxHeartbeats 1000000 in
theorem as_at (p : Int) (u : TypeId) (x : Value) (a : Addr) (t : Nat) (o0 o1 : Value) (W : World) (hat : W.cell? a = some (.pointer (some ⟨t, 0, none⟩)))
    (ht0 : W.cell? ⟨t, 0, none⟩ = some o0) (ht1 : W.cell? ⟨t, 1, none⟩ = some o1) (hf0 : W.frozen? ⟨t, 0, none⟩ = false) (hf1 : W.frozen? ⟨t, 1, none⟩ = false) :
    Calls Tryd.prog 26 #[.iface 39 (.agg #[.int .i64 p, .iface u x]), .iface 43 (.pointer (some ⟨t, 0, none⟩)), .agg #[.pointer (some ⟨4, 43, none⟩), .pointer (some a), .int .u64 150], .iface 65 (.agg #[.pointer (some ⟨4, 39, none⟩)])] W (Hit39 W t p u x) := by
  have h27 := @run_callFunc_extern Tryd.prog 27 _ ReflectliteType.typeOf Tryd.func27 (by kernel_rfl) (by kernel_rfl) (by kernel_rfl) (by kernel_rfl)
  have h65 := @run_callFunc_extern Tryd.prog 65 _ (ReflectliteType.relation "AssignableTo" ReflectliteType.assignableTo) Tryd.func65 (by kernel_rfl) (by kernel_rfl) (by kernel_rfl) (by kernel_rfl)
  have h30 := @run_callFunc_extern Tryd.prog 30 _ (ReflectliteValue.method (ReflectliteValue.valueError "reflectlite.Value.Elem" 0) ReflectliteValue.elem) Tryd.func30 (by kernel_rfl) (by kernel_rfl) (by kernel_rfl) (by kernel_rfl)
  have h23 := @run_callFunc_extern Tryd.prog 23 _ (fun args => ReflectliteValue.unpack (args.getD 0 (.tuple #[]))) Tryd.func23 (by kernel_rfl) (by kernel_rfl) (by kernel_rfl) (by kernel_rfl)
  have h31 := @run_callFunc_extern Tryd.prog 31 _ ReflectliteValue.set Tryd.func31 (by kernel_rfl) (by kernel_rfl) (by kernel_rfl) (by kernel_rfl)
  have t1 := to39
  have t3 := mAssignableTo
  have t4 := as3939
  have t6 := vo39
  have hal := cell_lt hat
  have htl : t < W.heap.size := cell_lt ht0
  have el := elemV43 a ⟨t, 0, none⟩ (W.alloc (.cells #[.pointer (some ⟨4, 43, none⟩), .pointer (some a), .int .u64 150] 51)) (by rw [World.cell?_alloc_lt _ _ a (by omega)]; exact hat)
  have st := set39 t (W.heap.size + 1) p u x o0 o1 ((W.alloc (.cells #[.pointer (some ⟨4, 43, none⟩), .pointer (some a), .int .u64 150] 51)).alloc (.cells #[.int .i64 p, .iface u x] 39))
    (by rw [World.cell?_alloc_at _ _ _ _ (by simp)]; rfl) (by rw [World.cell?_alloc_at _ _ _ _ (by simp)]; rfl)
    (by rw [World.cell?_alloc_lt _ _ _ (by simp; omega), World.cell?_alloc_lt _ _ _ (by simp; omega)]; exact ht0) (by rw [World.cell?_alloc_lt _ _ _ (by simp; omega), World.cell?_alloc_lt _ _ _ (by simp; omega)]; exact ht1)
    (by rw [World.frozen?_alloc_old _ _ _ (by simp; omega), World.frozen?_alloc_old _ _ _ (by simp; omega)]; exact hf0) (by rw [World.frozen?_alloc_old _ _ _ (by simp; omega), World.frozen?_alloc_old _ _ _ (by simp; omega)]; exact hf1)
  have HF : ∀ e w', e = .returned (.bool true) → w' = (((W.alloc (.cells #[.pointer (some ⟨4, 43, none⟩), .pointer (some a), .int .u64 150] 51)).alloc (.cells #[.int .i64 p, .iface u x] 39)).setCell ⟨t, 0, none⟩ (.int .i64 p)).setCell ⟨t, 1, none⟩ (.iface u x) → Hit39 W t p u x e w' :=
    fun e w' h1 h2 => ⟨h1, _, ((Below.refl _ _).alloc (Nat.le_refl _) _).alloc (by simp) _, h2⟩
  clear hat ht0 ht1 hf0 hf1 htl hal
  go_enter Tryd.func26, Tryd.ntmps26
  go_wp2
  refine wp_loop_rounds 1 ?_
  rw [rounds_succ]
  go_wp2
  go_ret
  exact HF _ _ rfl rfl

def Miss (W : World) (e : Ending) (w' : World) : Prop := e = .returned (.bool false) ∧ Below W.heap.size W w'
set_option maxHeartbeats 1000000 in
theorem as_miss (code : Int) (a : Addr) (t : Nat) (W : World) :
    Calls Tryd.prog 26 #[.iface 24 (.int .i64 code), .iface 43 (.pointer (some ⟨t, 0, none⟩)), .agg #[.pointer (some ⟨4, 43, none⟩), .pointer (some a), .int .u64 150], .iface 65 (.agg #[.pointer (some ⟨4, 39, none⟩)])] W (Miss W) := by
  have h27 := @run_callFunc_extern Tryd.prog 27 _ ReflectliteType.typeOf Tryd.func27 (by kernel_rfl) (by kernel_rfl) (by kernel_rfl) (by kernel_rfl)
  have h65 := @run_callFunc_extern Tryd.prog 65 _ (ReflectliteType.relation "AssignableTo" ReflectliteType.assignableTo) Tryd.func65 (by kernel_rfl) (by kernel_rfl) (by kernel_rfl) (by kernel_rfl)
  have t1 := to24
  have t3 := mAssignableTo
  have t4 := as2439
  have t7 := noAs24
  have t8 := noUnwrap24
  have t9 := noUnwraps24
  have HF : ∀ e w', e = .returned (.bool false) → Below W.heap.size W w' → Miss W e w' := fun e w' h1 h2 => ⟨h1, h2⟩
  go_enter Tryd.func26, Tryd.ntmps26
  go_wp2
  refine wp_loop_rounds 1 ?_
  rw [rounds_succ]
  go_wp2
  go_ret
  exact HF _ _ rfl ((Below.refl _ _).alloc (Nat.le_refl _) _)

/-! ### errors.As itself -/
theorem cell_old {w : World} {o : Obj} {a : Addr} {v : Value} (h : w.cell? a = some v) : (w.alloc o).cell? a = some v := by
  rw [World.cell?_alloc_lt _ _ a (cell_lt h)]; exact h
theorem frozen_old {w : World} {o : Obj} {a : Addr} {v : Value} (h : w.cell? a = some v) (hf : w.frozen? a = false) : (w.alloc o).frozen? a = false := by
  rw [World.frozen?_alloc_old _ _ a (Nat.ne_of_lt (cell_lt h))]; exact hf

set_option maxHeartbeats 1000000 in
theorem As_chain (code : Int) (ps : List Int) (u : TypeId) (x : Value) (hE : Chain code ps (.iface u x)) (ta : Addr) (old : Value) (W : World) (hg : W.cell? ⟨0, 0, none⟩ = some etype) (ht : W.cell? ta = some old) (hf : W.frozen? ta = false) :
    Calls Tryd.prog 19 #[.iface u x, .iface 42 (.pointer (some ta))] W (Hit W ta code) := by
  have h23 := @run_callFunc_extern Tryd.prog 23 _ (fun args => ReflectliteValue.unpack (args.getD 0 (.tuple #[]))) Tryd.func23 (by kernel_rfl) (by kernel_rfl) (by kernel_rfl) (by kernel_rfl)
  have h24 := @run_callFunc_extern Tryd.prog 24 _ (ReflectliteValue.methodAny (ReflectliteValue.valueError "reflectlite.Value.Type" 0) (fun t _ _ _ => ReflectliteType.toType t)) Tryd.func24 (by kernel_rfl) (by kernel_rfl) (by kernel_rfl) (by kernel_rfl)
  have h25 := @run_callFunc_extern Tryd.prog 25 _ (ReflectliteValue.method (ReflectliteValue.valueError "reflectlite.Value.IsNil" 0) ReflectliteValue.isNil) Tryd.func25 (by kernel_rfl) (by kernel_rfl) (by kernel_rfl) (by kernel_rfl)
  have h58 := @run_callFunc_extern Tryd.prog 58 _ (ReflectliteType.abiMethod fun t => do pure (.int .u8 (← Rtype.kind t))) Tryd.func58 (by kernel_rfl) (by kernel_rfl) (by kernel_rfl) (by kernel_rfl)
  have h67 := @run_callFunc_extern Tryd.prog 67 _ (ReflectliteType.method ReflectliteType.elem) Tryd.func67 (by kernel_rfl) (by kernel_rfl) (by kernel_rfl) (by kernel_rfl)
  have h68 := @run_callFunc_extern Tryd.prog 68 _ (ReflectliteType.relation "Implements" ReflectliteType.implements_) Tryd.func68 (by kernel_rfl) (by kernel_rfl) (by kernel_rfl) (by kernel_rfl)
  have f1 := vo42
  have f2 := ty42
  have f3 := mKind
  have f4 := mElem
  have f5 := mImplements
  have f6 := k42
  have f7 := k24
  have f8 := el42
  have f9 := im24
  have n8 := isNil42 ⟨W.heap.size, 0, none⟩ ta ((W.alloc (.cells #[.pointer (some ta)] 42)).alloc (.cells #[.pointer (some ⟨4, 42, none⟩), .pointer (some ⟨W.heap.size, 0, none⟩), .int .u64 150] 51)) (by simp)
  have hg2 := cell_old (o := .cells #[.pointer (some ⟨4, 42, none⟩), .pointer (some ⟨W.heap.size, 0, none⟩), .int .u64 150] 51) (cell_old (o := .cells #[.pointer (some ta)] 42) hg)
  have C := as_chain code ps _ hE ⟨W.heap.size, 0, none⟩ ta old ((W.alloc (.cells #[.pointer (some ta)] 42)).alloc (.cells #[.pointer (some ⟨4, 42, none⟩), .pointer (some ⟨W.heap.size, 0, none⟩), .int .u64 150] 51)) (by simp) (cell_old (cell_old ht)) (frozen_old (cell_old ht) (frozen_old ht hf))
  have HC := Lib.hid C
  clear C hE ht hf hg
  have HF : ∀ e w', Hit ((W.alloc (.cells #[.pointer (some ta)] 42)).alloc (.cells #[.pointer (some ⟨4, 42, none⟩), .pointer (some ⟨W.heap.size, 0, none⟩), .int .u64 150] 51)) ta code e w' → Hit W ta code e w' :=
    fun e w' h => ⟨h.1, h.2.choose, (((Below.refl _ _).alloc (Nat.le_refl _) _).alloc (by simp) _).trans (h.2.choose_spec.1.mono (by simp; omega)), h.2.choose_spec.2⟩
  go_enter Tryd.func19, Tryd.ntmps19
  go_wp2_with (go_at_call 26; refine (HC.out).mono ?_; rintro e w1 hh; have hh2 := HF _ _ hh; obtain ⟨rfl, hx⟩ := hh; obtain ⟨_, H2⟩ := hh2; clear hx)
  go_ret
  exact ⟨rfl, H2⟩
end Go.Proofs.YtnhffkdabdilpaaDoor
