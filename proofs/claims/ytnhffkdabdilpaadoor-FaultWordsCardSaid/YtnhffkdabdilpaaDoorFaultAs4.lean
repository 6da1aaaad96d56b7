/-
  errors.As at the target *fault.At.
-/
import Derived.Test.YtnhffkdabdilpaaDoorFaultAs3
namespace Go.Proofs.YtnhffkdabdilpaaDoor
open Go.RowKit Go.Extern.Stop Go.Stop Go.Extern

set_option maxHeartbeats 1000000 in
theorem As_at (p : Int) (u : TypeId) (x : Value) (t : Nat) (o0 o1 : Value) (W : World) (hg : W.cell? ⟨0, 0, none⟩ = some etype) (ht0 : W.cell? ⟨t, 0, none⟩ = some o0) (ht1 : W.cell? ⟨t, 1, none⟩ = some o1) (hf0 : W.frozen? ⟨t, 0, none⟩ = false) (hf1 : W.frozen? ⟨t, 1, none⟩ = false) :
    Calls Tryd.prog 19 #[.iface 39 (.agg #[.int .i64 p, .iface u x]), .iface 43 (.pointer (some ⟨t, 0, none⟩))] W (Hit39 W t p u x) := by
  have h23 := @run_callFunc_extern Tryd.prog 23 _ (fun args => ReflectliteValue.unpack (args.getD 0 (.tuple #[]))) Tryd.func23 (by kernel_rfl) (by kernel_rfl) (by kernel_rfl) (by kernel_rfl)
  have h24 := @run_callFunc_extern Tryd.prog 24 _ (ReflectliteValue.methodAny (ReflectliteValue.valueError "reflectlite.Value.Type" 0) (fun t _ _ _ => ReflectliteType.toType t)) Tryd.func24 (by kernel_rfl) (by kernel_rfl) (by kernel_rfl) (by kernel_rfl)
  have h25 := @run_callFunc_extern Tryd.prog 25 _ (ReflectliteValue.method (ReflectliteValue.valueError "reflectlite.Value.IsNil" 0) ReflectliteValue.isNil) Tryd.func25 (by kernel_rfl) (by kernel_rfl) (by kernel_rfl) (by kernel_rfl)
  have h58 := @run_callFunc_extern Tryd.prog 58 _ (ReflectliteType.abiMethod fun t => do pure (.int .u8 (← Rtype.kind t))) Tryd.func58 (by kernel_rfl) (by kernel_rfl) (by kernel_rfl) (by kernel_rfl)
  have h67 := @run_callFunc_extern Tryd.prog 67 _ (ReflectliteType.method ReflectliteType.elem) Tryd.func67 (by kernel_rfl) (by kernel_rfl) (by kernel_rfl) (by kernel_rfl)
  have h68 := @run_callFunc_extern Tryd.prog 68 _ (ReflectliteType.relation "Implements" ReflectliteType.implements_) Tryd.func68 (by kernel_rfl) (by kernel_rfl) (by kernel_rfl) (by kernel_rfl)
  have f1 := vo43
  have f2 := ty43
  have f3 := mKind
  have f4 := mElem
  have f5 := mImplements
  have f6 := k43
  have f7 := k39
  have f8 := el43
  have f9 := im39
  have n8 := isNil43 ⟨W.heap.size, 0, none⟩ ⟨t, 0, none⟩ ((W.alloc (.cells #[.pointer (some ⟨t, 0, none⟩)] 43)).alloc (.cells #[.pointer (some ⟨4, 43, none⟩), .pointer (some ⟨W.heap.size, 0, none⟩), .int .u64 150] 51)) (by simp)
  have hg2 := cell_old (o := .cells #[.pointer (some ⟨4, 43, none⟩), .pointer (some ⟨W.heap.size, 0, none⟩), .int .u64 150] 51) (cell_old (o := .cells #[.pointer (some ⟨t, 0, none⟩)] 43) hg)
  have C := as_at p u x ⟨W.heap.size, 0, none⟩ t o0 o1 ((W.alloc (.cells #[.pointer (some ⟨t, 0, none⟩)] 43)).alloc (.cells #[.pointer (some ⟨4, 43, none⟩), .pointer (some ⟨W.heap.size, 0, none⟩), .int .u64 150] 51)) (by simp) (cell_old (cell_old ht0)) (cell_old (cell_old ht1)) (frozen_old (cell_old ht0) (frozen_old ht0 hf0)) (frozen_old (cell_old ht1) (frozen_old ht1 hf1))
  have HC := Lib.hid C
  clear C ht0 ht1 hf0 hf1 hg
  have HF : ∀ e w', Hit39 ((W.alloc (.cells #[.pointer (some ⟨t, 0, none⟩)] 43)).alloc (.cells #[.pointer (some ⟨4, 43, none⟩), .pointer (some ⟨W.heap.size, 0, none⟩), .int .u64 150] 51)) t p u x e w' → Hit39 W t p u x e w' :=
    fun e w' h => ⟨h.1, h.2.choose, (((Below.refl _ _).alloc (Nat.le_refl _) _).alloc (by simp) _).trans (h.2.choose_spec.1.mono (by simp; omega)), h.2.choose_spec.2⟩
  go_enter Tryd.func19, Tryd.ntmps19
  go_wp2_with (go_at_call 26; refine (HC.out).mono ?_; rintro e w1 hh; have hh2 := HF _ _ hh; obtain ⟨rfl, hx⟩ := hh; obtain ⟨_, H2⟩ := hh2; clear hx)
  go_ret
  exact ⟨rfl, H2⟩
set_option maxHeartbeats 1000000 in
theorem As_miss (code : Int) (t : Nat) (W : World) (hg : W.cell? ⟨0, 0, none⟩ = some etype) :
    Calls Tryd.prog 19 #[.iface 24 (.int .i64 code), .iface 43 (.pointer (some ⟨t, 0, none⟩))] W (Miss W) := by
  have h23 := @run_callFunc_extern Tryd.prog 23 _ (fun args => ReflectliteValue.unpack (args.getD 0 (.tuple #[]))) Tryd.func23 (by kernel_rfl) (by kernel_rfl) (by kernel_rfl) (by kernel_rfl)
  have h24 := @run_callFunc_extern Tryd.prog 24 _ (ReflectliteValue.methodAny (ReflectliteValue.valueError "reflectlite.Value.Type" 0) (fun t _ _ _ => ReflectliteType.toType t)) Tryd.func24 (by kernel_rfl) (by kernel_rfl) (by kernel_rfl) (by kernel_rfl)
  have h25 := @run_callFunc_extern Tryd.prog 25 _ (ReflectliteValue.method (ReflectliteValue.valueError "reflectlite.Value.IsNil" 0) ReflectliteValue.isNil) Tryd.func25 (by kernel_rfl) (by kernel_rfl) (by kernel_rfl) (by kernel_rfl)
  have h58 := @run_callFunc_extern Tryd.prog 58 _ (ReflectliteType.abiMethod fun t => do pure (.int .u8 (← Rtype.kind t))) Tryd.func58 (by kernel_rfl) (by kernel_rfl) (by kernel_rfl) (by kernel_rfl)
  have h67 := @run_callFunc_extern Tryd.prog 67 _ (ReflectliteType.method ReflectliteType.elem) Tryd.func67 (by kernel_rfl) (by kernel_rfl) (by kernel_rfl) (by kernel_rfl)
  have h68 := @run_callFunc_extern Tryd.prog 68 _ (ReflectliteType.relation "Implements" ReflectliteType.implements_) Tryd.func68 (by kernel_rfl) (by kernel_rfl) (by kernel_rfl) (by kernel_rfl)
  have f1 := vo43
  have f2 := ty43
  have f3 := mKind
  have f4 := mElem
  have f5 := mImplements
  have f6 := k43
  have f7 := k39
  have f8 := el43
  have f9 := im39
  have n8 := isNil43 ⟨W.heap.size, 0, none⟩ ⟨t, 0, none⟩ ((W.alloc (.cells #[.pointer (some ⟨t, 0, none⟩)] 43)).alloc (.cells #[.pointer (some ⟨4, 43, none⟩), .pointer (some ⟨W.heap.size, 0, none⟩), .int .u64 150] 51)) (by simp)
  have hg2 := cell_old (o := .cells #[.pointer (some ⟨4, 43, none⟩), .pointer (some ⟨W.heap.size, 0, none⟩), .int .u64 150] 51) (cell_old (o := .cells #[.pointer (some ⟨t, 0, none⟩)] 43) hg)
  have C := as_miss code ⟨W.heap.size, 0, none⟩ t ((W.alloc (.cells #[.pointer (some ⟨t, 0, none⟩)] 43)).alloc (.cells #[.pointer (some ⟨4, 43, none⟩), .pointer (some ⟨W.heap.size, 0, none⟩), .int .u64 150] 51))
  have HC := Lib.hid C
  clear C hg
  have HF : ∀ e w', Miss ((W.alloc (.cells #[.pointer (some ⟨t, 0, none⟩)] 43)).alloc (.cells #[.pointer (some ⟨4, 43, none⟩), .pointer (some ⟨W.heap.size, 0, none⟩), .int .u64 150] 51)) e w' → Miss W e w' :=
    fun e w' h => ⟨h.1, (((Below.refl _ _).alloc (Nat.le_refl _) _).alloc (by simp) _).trans (h.2.mono (by simp; omega))⟩
  go_enter Tryd.func19, Tryd.ntmps19
  go_wp2_with (go_at_call 26; refine (HC.out).mono ?_; rintro e w1 hh; have hh2 := HF _ _ hh; obtain ⟨rfl, hx⟩ := hh; obtain ⟨_, H2⟩ := hh2; clear hx)
  go_ret
  exact ⟨rfl, H2⟩
end Go.Proofs.YtnhffkdabdilpaaDoor
