/-
  errors.as and errors.As over chains, at the target *api.Errno.
-/
import Derived.Test.YtnhffkdabdilpaaDoorFaultAs
namespace Go.Proofs.YtnhffkdabdilpaaDoor
open Go.RowKit Go.Extern.Stop Go.Stop Go.Extern

theorem unwrap_any (p : Int) (u : TypeId) (x : Value) (w : World) :
    Calls Tryd.prog 18 #[.agg #[.int .i64 p, .iface u x]] w fun e w' => e = .returned (.iface u x) ∧ Below w.heap.size w w' := by
  go_enter Tryd.func18, Tryd.ntmps18
  go_wp2
  go_ret
  exact ⟨rfl, (Below.refl _ _).alloc (Nat.le_refl _) _⟩

theorem noAs39 (v : Value) (xT : TypeId) (w : World) : (Instr.typeAssert (.iface 39 v) xT 69 true).run Tryd.prog w = .ok (.tuple #[.nilIface, .bool false]) w := run_typeAssert_lacksB Tryd.underlying69 (by kernel_rfl) (by kernel_rfl) v xT w
theorem hasUnwrap39 (v : Value) (xT : TypeId) (w : World) : (Instr.typeAssert (.iface 39 v) xT 60 true).run Tryd.prog w = .ok (.tuple #[.iface 39 v, .bool true]) w := run_typeAssert_hasB Tryd.underlying60 (by kernel_rfl) v xT w
theorem mUnwrap39 (v : Value) (w : World) : (Go.method 225 39 v "Unwrap").run Tryd.prog w = .ok (18, v) w := by kernel_rfl
theorem noAs24 (v : Value) (xT : TypeId) (w : World) : (Instr.typeAssert (.iface 24 v) xT 69 true).run Tryd.prog w = .ok (.tuple #[.nilIface, .bool false]) w := run_typeAssert_lacksB Tryd.underlying69 (by kernel_rfl) (by kernel_rfl) v xT w
theorem noUnwrap24 (v : Value) (xT : TypeId) (w : World) : (Instr.typeAssert (.iface 24 v) xT 60 true).run Tryd.prog w = .ok (.tuple #[.nilIface, .bool false]) w := run_typeAssert_lacksB Tryd.underlying60 (by kernel_rfl) (by kernel_rfl) v xT w
theorem noUnwraps24 (v : Value) (xT : TypeId) (w : World) : (Instr.typeAssert (.iface 24 v) xT 72 true).run Tryd.prog w = .ok (.tuple #[.nilIface, .bool false]) w := run_typeAssert_lacksB Tryd.underlying72 (by kernel_rfl) (by kernel_rfl) v xT w

theorem cell_lt {W : World} {a : Addr} {v : Value} (h : W.cell? a = some v) : a.block < W.heap.size := by
  rcases Nat.lt_or_ge a.block W.heap.size with hl | hl
  · exact hl
  · simp [World.cell?, Array.getElem?_eq_none hl] at h

def V42 (a : Addr) : Value := .agg #[.pointer (some ⟨4, 42, none⟩), .pointer (some a), .int .u64 150]
def Hit (W : World) (ta : Addr) (code : Int) (e : Ending) (w' : World) : Prop := e = .returned (.bool true) ∧ ∃ W2, Below W.heap.size W W2 ∧ w' = W2.setCell ta (.int .i64 code)

set_option maxHeartbeats 1000000 in
theorem as_chain (code : Int) (ps : List Int) (E : Value) (hE : Chain code ps E) (a ta : Addr) (old : Value) (W : World) (hat : W.cell? a = some (.pointer (some ta))) (ht : W.cell? ta = some old) (hf : W.frozen? ta = false) :
    Calls Tryd.prog 26 #[E, .iface 42 (.pointer (some ta)), .agg #[.pointer (some ⟨4, 42, none⟩), .pointer (some a), .int .u64 150], .iface 65 (.agg #[.pointer (some ⟨4, 24, none⟩)])] W (Hit W ta code) := by
  have h27 := @run_callFunc_extern Tryd.prog 27 _ ReflectliteType.typeOf Tryd.func27 (by kernel_rfl) (by kernel_rfl) (by kernel_rfl) (by kernel_rfl)
  have h65 := @run_callFunc_extern Tryd.prog 65 _ (ReflectliteType.relation "AssignableTo" ReflectliteType.assignableTo) Tryd.func65 (by kernel_rfl) (by kernel_rfl) (by kernel_rfl) (by kernel_rfl)
  have h30 := @run_callFunc_extern Tryd.prog 30 _ (ReflectliteValue.method (ReflectliteValue.valueError "reflectlite.Value.Elem" 0) ReflectliteValue.elem) Tryd.func30 (by kernel_rfl) (by kernel_rfl) (by kernel_rfl) (by kernel_rfl)
  have h23 := @run_callFunc_extern Tryd.prog 23 _ (fun args => ReflectliteValue.unpack (args.getD 0 (.tuple #[]))) Tryd.func23 (by kernel_rfl) (by kernel_rfl) (by kernel_rfl) (by kernel_rfl)
  have h31 := @run_callFunc_extern Tryd.prog 31 _ ReflectliteValue.set Tryd.func31 (by kernel_rfl) (by kernel_rfl) (by kernel_rfl) (by kernel_rfl)
  have t1 := to24
  have t2 := to39
  have t3 := mAssignableTo
  have t4 := as2424
  have t5 := as3924
  have t6 := vo24
  have t7 := noAs39
  have t8 := hasUnwrap39
  have t9 := mUnwrap39
  go_enter Tryd.func26, Tryd.ntmps26
  go_wp2
  go_loopw [0] (fun E' wr => (∃ qs, Chain code qs E') ∧ Below W.heap.size W wr ∧ W.heap.size < wr.heap.size ∧ wr.cell? ⟨W.heap.size, 0, none⟩ = some (.pointer (some ⟨4, 42, none⟩)) ∧ wr.cell? ⟨W.heap.size, 1, none⟩ = some (.pointer (some a)) ∧ wr.cell? ⟨W.heap.size, 2, none⟩ = some (.int .u64 150)) (fun E' _ => SizeOf.sizeOf E')
  case atStart => exact ⟨⟨ps, hE⟩, (Below.refl _ _).alloc (Nat.le_refl _) _, by simp, by simp, by simp, by simp⟩
  case round =>
    obtain ⟨⟨qs, hq⟩, hb, hsz, c0, c1, c2⟩ := hrel
    cases hq with
    | leaf =>
      have hal := cell_lt hat
      have htl := cell_lt ht
      have hwa : wr.cell? a = some (.pointer (some ta)) := (hb.cell hal).trans hat
      have hwt : wr.cell? ta = some old := (hb.cell htl).trans ht
      have hwf : wr.frozen? ta = false := (hb.frozen htl).trans hf
      have el := elemV42 a ta wr hwa
      have st := set24 ta ⟨wr.heap.size, 0, none⟩ code old (wr.alloc (.cells #[.int .i64 code] 24)) (by rw [World.cell?_alloc_at _ _ _ _ (by simp)]; rfl)
        (by rw [World.cell?_alloc_lt _ _ ta (by omega)]; exact hwt) (by rw [World.frozen?_alloc_old _ _ ta (by omega)]; exact hwf)
      have HF : ∀ e w', e = .returned (.bool true) → w' = (wr.alloc (.cells #[.int .i64 code] 24)).setCell ta (.int .i64 code) → Hit W ta code e w' :=
        fun e w' h1 h2 => ⟨h1, _, hb.alloc (Nat.le_of_lt hsz) _, h2⟩
      clear hE hat ht hf hwa hwt hwf
      go_wp2
      go_ret
      exact HF _ _ rfl rfl
    | wrap p ps u x hx =>
      have HC : Hid (Chain code ps (.iface u x)) := hx
      clear hx
      go_wp2_with (go_at_call 18; refine (unwrap_any _ _ _ _).mono ?_; rintro e w1 ⟨rfl, hb1⟩)
      go_roundw
      case rel =>
        exact ⟨⟨ps, HC.out⟩, hb.trans (hb1.mono (Nat.le_of_lt hsz)), Nat.lt_of_lt_of_le hsz hb1.size, (hb1.cell (p := ⟨W.heap.size, 0, none⟩) hsz).trans c0, (hb1.cell (p := ⟨W.heap.size, 1, none⟩) hsz).trans c1, (hb1.cell (p := ⟨W.heap.size, 2, none⟩) hsz).trans c2⟩
      case measure => simp; omega
end Go.Proofs.YtnhffkdabdilpaaDoor
