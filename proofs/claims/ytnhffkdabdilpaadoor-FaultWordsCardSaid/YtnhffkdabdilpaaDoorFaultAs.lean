/-
  errors.As by contracts, at the two targets that package fault hands it (a *api.Errno, a *fault.At), over chains of fault.At round an api.Errno, of whatever depth.
-/
import Derived.Test.YtnhffkdabdilpaaDoorProg
import Derived.WalkKit
import Derived.LaidEql
import Derived.Stop.Asserts
import Derived.RowKitTokens
namespace Go.Proofs.YtnhffkdabdilpaaDoor
open Go.RowKit Go.Extern.Stop Go.Stop Go.Extern

/-- The value of an error: places outermost first, then the number. -/
inductive Chain (code : Int) : List Int → Value → Prop
  | leaf : Chain code [] (.iface 24 (.int .i64 code))
  | wrap (p : Int) (ps : List Int) (u : TypeId) (x : Value) : Chain code ps (.iface u x) → Chain code (p :: ps) (.iface 39 (.agg #[.int .i64 p, .iface u x]))
theorem Chain.shape {code : Int} {ps : List Int} {E : Value} (h : Chain code ps E) : ∃ u x, E = .iface u x := by cases h <;> exact ⟨_, _, rfl⟩

def etype : Value := .iface 65 (.agg #[.pointer (some ⟨4, 26, none⟩)])

/-- errors.As(nil, target). -/
theorem as_nil (t : Value) (w : World) :
    Calls Tryd.prog 19 #[.nilIface, t] w fun e w' => e = .returned (.bool false) ∧ w = w' := by
  go_enter Tryd.func19, Tryd.ntmps19
  go_wp2
  go_ret
  exact ⟨rfl, rfl⟩

/-! ### closed facts on the entries for internal/reflectlite: pE the pointer type, E the element type -/
theorem rlm (z : Sem Value) (f : TypeId → Addr → Nat → Nat → Sem Value) (v : Value) :
    ReflectliteValue.method z f #[v] = (do match ← ReflectliteValue.parts v with | none => z | some (t, a, fl) => f t a fl (fl % 32)) := rfl
theorem rls (v x : Value) : ReflectliteValue.set #[v, x] = (do
    let (some (dst, a, fl), some (src, b, _)) := (← ReflectliteValue.parts v, ← ReflectliteValue.parts x)
      | unsupported (.noEntry "extern/(internal/reflectlite.Value).Set.zeroValue")
    if fl / ReflectliteValue.flagAddr % 2 == 0 then unsupported (.noEntry "extern/(internal/reflectlite.Value).Set.unaddressable")
    let val ← loadVar src b
    if ← Rtype.directlyAssignable dst src then storeVar dst a val
    else if ← Rtype.implements dst src then
      if (← Rtype.kind src) == 20 then
        match val with
        | .nilIface => unsupported (.noEntry "extern/reflectlite: a nil value of one interface type handed on as a value of another")
        | _ => storeVar dst a val
      else storeVar dst a (.iface src val)
    else panicString ("reflectlite.Set: value of type " ++ (← Rtype.spelt src) ++ " is not assignable to type " ++ (← Rtype.spelt dst))
    pure (.tuple #[])) := rfl

-- the pointers' Values
theorem vo42 (t : Addr) (w : World) : (ReflectliteValue.unpack (.iface 42 (.pointer (some t)))).run Tryd.prog w
    = .ok (.agg #[.pointer (some ⟨4, 42, none⟩), .pointer (some ⟨w.heap.size, 0, none⟩), .int .u64 150]) (w.alloc (.cells #[.pointer (some t)] 42)) := by kernel_rfl
theorem vo43 (t : Addr) (w : World) : (ReflectliteValue.unpack (.iface 43 (.pointer (some t)))).run Tryd.prog w
    = .ok (.agg #[.pointer (some ⟨4, 43, none⟩), .pointer (some ⟨w.heap.size, 0, none⟩), .int .u64 150]) (w.alloc (.cells #[.pointer (some t)] 43)) := by kernel_rfl
theorem ty42 (a : Addr) (w : World) : (ReflectliteValue.methodAny (ReflectliteValue.valueError "reflectlite.Value.Type" 0) (fun t _ _ _ => ReflectliteType.toType t) #[.agg #[.pointer (some ⟨4, 42, none⟩), .pointer (some a), .int .u64 150]]).run Tryd.prog w
    = .ok (.iface 65 (.agg #[.pointer (some ⟨4, 42, none⟩)])) w := by kernel_rfl
theorem ty43 (a : Addr) (w : World) : (ReflectliteValue.methodAny (ReflectliteValue.valueError "reflectlite.Value.Type" 0) (fun t _ _ _ => ReflectliteType.toType t) #[.agg #[.pointer (some ⟨4, 43, none⟩), .pointer (some a), .int .u64 150]]).run Tryd.prog w
    = .ok (.iface 65 (.agg #[.pointer (some ⟨4, 43, none⟩)])) w := by kernel_rfl
theorem mKind (h : Value) (w : World) : (Go.method 225 65 (.agg #[h]) "Kind").run Tryd.prog w = .ok (58, h) w := by kernel_rfl
theorem mElem (h : Value) (w : World) : (Go.method 225 65 (.agg #[h]) "Elem").run Tryd.prog w = .ok (67, .agg #[h]) w := by kernel_rfl
theorem mAssignableTo (h : Value) (w : World) : (Go.method 225 65 (.agg #[h]) "AssignableTo").run Tryd.prog w = .ok (65, .agg #[h]) w := by kernel_rfl
theorem mImplements (h : Value) (w : World) : (Go.method 225 65 (.agg #[h]) "Implements").run Tryd.prog w = .ok (68, .agg #[h]) w := by kernel_rfl
theorem k42 (w : World) : ((ReflectliteType.abiMethod fun t => (fun a : Nat => Value.int IntKind.u8 (a : Int)) <$> Rtype.kind t) #[.pointer (some ⟨4, 42, none⟩)]).run Tryd.prog w = .ok (.int .u8 22) w := by kernel_rfl
theorem k43 (w : World) : ((ReflectliteType.abiMethod fun t => (fun a : Nat => Value.int IntKind.u8 (a : Int)) <$> Rtype.kind t) #[.pointer (some ⟨4, 43, none⟩)]).run Tryd.prog w = .ok (.int .u8 22) w := by kernel_rfl
theorem k24 (w : World) : ((ReflectliteType.abiMethod fun t => (fun a : Nat => Value.int IntKind.u8 (a : Int)) <$> Rtype.kind t) #[.pointer (some ⟨4, 24, none⟩)]).run Tryd.prog w = .ok (.int .u8 2) w := by kernel_rfl
theorem k39 (w : World) : ((ReflectliteType.abiMethod fun t => (fun a : Nat => Value.int IntKind.u8 (a : Int)) <$> Rtype.kind t) #[.pointer (some ⟨4, 39, none⟩)]).run Tryd.prog w = .ok (.int .u8 25) w := by kernel_rfl
theorem el42 (w : World) : (ReflectliteType.method ReflectliteType.elem #[.agg #[.pointer (some ⟨4, 42, none⟩)]]).run Tryd.prog w = .ok (.iface 65 (.agg #[.pointer (some ⟨4, 24, none⟩)])) w := by kernel_rfl
theorem el43 (w : World) : (ReflectliteType.method ReflectliteType.elem #[.agg #[.pointer (some ⟨4, 43, none⟩)]]).run Tryd.prog w = .ok (.iface 65 (.agg #[.pointer (some ⟨4, 39, none⟩)])) w := by kernel_rfl
theorem im24 (w : World) : (ReflectliteType.relation "Implements" ReflectliteType.implements_ #[.agg #[.pointer (some ⟨4, 24, none⟩)], etype]).run Tryd.prog w = .ok (.bool true) w := by kernel_rfl
theorem im39 (w : World) : (ReflectliteType.relation "Implements" ReflectliteType.implements_ #[.agg #[.pointer (some ⟨4, 39, none⟩)], etype]).run Tryd.prog w = .ok (.bool true) w := by kernel_rfl
theorem to24 (v : Value) (w : World) : (ReflectliteType.typeOf #[.iface 24 v]).run Tryd.prog w = .ok (.iface 65 (.agg #[.pointer (some ⟨4, 24, none⟩)])) w := by kernel_rfl
theorem to39 (v : Value) (w : World) : (ReflectliteType.typeOf #[.iface 39 v]).run Tryd.prog w = .ok (.iface 65 (.agg #[.pointer (some ⟨4, 39, none⟩)])) w := by kernel_rfl
theorem as2424 (w : World) : (ReflectliteType.relation "AssignableTo" ReflectliteType.assignableTo #[.agg #[.pointer (some ⟨4, 24, none⟩)], .iface 65 (.agg #[.pointer (some ⟨4, 24, none⟩)])]).run Tryd.prog w = .ok (.bool true) w := by kernel_rfl
theorem as3924 (w : World) : (ReflectliteType.relation "AssignableTo" ReflectliteType.assignableTo #[.agg #[.pointer (some ⟨4, 39, none⟩)], .iface 65 (.agg #[.pointer (some ⟨4, 24, none⟩)])]).run Tryd.prog w = .ok (.bool false) w := by kernel_rfl
theorem as2439 (w : World) : (ReflectliteType.relation "AssignableTo" ReflectliteType.assignableTo #[.agg #[.pointer (some ⟨4, 24, none⟩)], .iface 65 (.agg #[.pointer (some ⟨4, 39, none⟩)])]).run Tryd.prog w = .ok (.bool false) w := by kernel_rfl
theorem as3939 (w : World) : (ReflectliteType.relation "AssignableTo" ReflectliteType.assignableTo #[.agg #[.pointer (some ⟨4, 39, none⟩)], .iface 65 (.agg #[.pointer (some ⟨4, 39, none⟩)])]).run Tryd.prog w = .ok (.bool true) w := by kernel_rfl
theorem vo24 (c : Int) (w : World) : (ReflectliteValue.unpack (.iface 24 (.int .i64 c))).run Tryd.prog w
    = .ok (.agg #[.pointer (some ⟨4, 24, none⟩), .pointer (some ⟨w.heap.size, 0, none⟩), .int .u64 130]) (w.alloc (.cells #[.int .i64 c] 24)) := by kernel_rfl
theorem pa42 (a : Addr) (w : World) : (ReflectliteValue.parts (.agg #[.pointer (some ⟨4, 42, none⟩), .pointer (some a), .int .u64 150])).run Tryd.prog w = .ok (some (42, a, 150)) w := by kernel_rfl
theorem pa43 (a : Addr) (w : World) : (ReflectliteValue.parts (.agg #[.pointer (some ⟨4, 43, none⟩), .pointer (some a), .int .u64 150])).run Tryd.prog w = .ok (some (43, a, 150)) w := by kernel_rfl
theorem isNil42 (a p : Addr) (W : World) (ha : W.cell? a = some (.pointer (some p))) :
    (ReflectliteValue.method (ReflectliteValue.valueError "reflectlite.Value.IsNil" 0) ReflectliteValue.isNil #[.agg #[.pointer (some ⟨4, 42, none⟩), .pointer (some a), .int .u64 150]]).run Tryd.prog W = .ok (.bool false) W := by
  rw [rlm]
  simp only [Sem.run_bind, pa42, Result.andThen]
  simp [ReflectliteValue.isNil, loadVar, isAgg, underlying, Tryd.underlying42, ha, Result.andThen]
theorem isNil43 (a p : Addr) (W : World) (ha : W.cell? a = some (.pointer (some p))) :
    (ReflectliteValue.method (ReflectliteValue.valueError "reflectlite.Value.IsNil" 0) ReflectliteValue.isNil #[.agg #[.pointer (some ⟨4, 43, none⟩), .pointer (some a), .int .u64 150]]).run Tryd.prog W = .ok (.bool false) W := by
  rw [rlm]
  simp only [Sem.run_bind, pa43, Result.andThen]
  simp [ReflectliteValue.isNil, loadVar, isAgg, underlying, Tryd.underlying43, ha, Result.andThen]
theorem elOf42 (w : World) : (Rtype.elem? 42).run Tryd.prog w = .ok (some 24) w := by kernel_rfl
theorem elOf43 (w : World) : (Rtype.elem? 43).run Tryd.prog w = .ok (some 39) w := by kernel_rfl
theorem mk24 (p : Addr) (w : World) : (ReflectliteValue.mk 24 p ReflectliteValue.flagAddr).run Tryd.prog w = .ok (.agg #[.pointer (some ⟨4, 24, none⟩), .pointer (some p), .int .u64 386]) w := by kernel_rfl
theorem mk39 (p : Addr) (w : World) : (ReflectliteValue.mk 39 p ReflectliteValue.flagAddr).run Tryd.prog w = .ok (.agg #[.pointer (some ⟨4, 39, none⟩), .pointer (some p), .int .u64 409]) w := by kernel_rfl
theorem elemV42 (a p : Addr) (W : World) (ha : W.cell? a = some (.pointer (some p))) :
    (ReflectliteValue.method (ReflectliteValue.valueError "reflectlite.Value.Elem" 0) ReflectliteValue.elem #[.agg #[.pointer (some ⟨4, 42, none⟩), .pointer (some a), .int .u64 150]]).run Tryd.prog W
      = .ok (.agg #[.pointer (some ⟨4, 24, none⟩), .pointer (some p), .int .u64 386]) W := by
  rw [rlm]
  simp only [Sem.run_bind, pa42, Result.andThen]
  simp [ReflectliteValue.elem, loadVar, isAgg, underlying, Tryd.underlying42, ha, Result.andThen, elOf42, mk24]
theorem elemV43 (a p : Addr) (W : World) (ha : W.cell? a = some (.pointer (some p))) :
    (ReflectliteValue.method (ReflectliteValue.valueError "reflectlite.Value.Elem" 0) ReflectliteValue.elem #[.agg #[.pointer (some ⟨4, 43, none⟩), .pointer (some a), .int .u64 150]]).run Tryd.prog W
      = .ok (.agg #[.pointer (some ⟨4, 39, none⟩), .pointer (some p), .int .u64 409]) W := by
  rw [rlm]
  simp only [Sem.run_bind, pa43, Result.andThen]
  simp [ReflectliteValue.elem, loadVar, isAgg, underlying, Tryd.underlying43, ha, Result.andThen, elOf43, mk39]
theorem pa24a (a : Addr) (w : World) : (ReflectliteValue.parts (.agg #[.pointer (some ⟨4, 24, none⟩), .pointer (some a), .int .u64 386])).run Tryd.prog w = .ok (some (24, a, 386)) w := by kernel_rfl
theorem pa24 (a : Addr) (w : World) : (ReflectliteValue.parts (.agg #[.pointer (some ⟨4, 24, none⟩), .pointer (some a), .int .u64 130])).run Tryd.prog w = .ok (some (24, a, 130)) w := by kernel_rfl
theorem di24 (w : World) : (Rtype.directlyAssignable 24 24).run Tryd.prog w = .ok true w := by kernel_rfl
theorem set24 (ta b : Addr) (c : Int) (old : Value) (W : World) (hb : W.cell? b = some (.int .i64 c)) (ht : W.cell? ta = some old) (hf : W.frozen? ta = false) :
    (ReflectliteValue.set #[.agg #[.pointer (some ⟨4, 24, none⟩), .pointer (some ta), .int .u64 386], .agg #[.pointer (some ⟨4, 24, none⟩), .pointer (some b), .int .u64 130]]).run Tryd.prog W
      = .ok (.tuple #[]) (W.setCell ta (.int .i64 c)) := by
  rw [rls]
  simp only [Sem.run_bind, pa24a, pa24, Result.andThen]
  simp [ReflectliteValue.flagAddr, loadVar, isAgg, underlying, Tryd.underlying24, hb, Result.andThen, di24, storeVar, Value.cells, storeCells, Addr.add]
  rw [run_store Tryd.prog W ta _ _ (by rfl)]
  simp [ht, hf]

end Go.Proofs.YtnhffkdabdilpaaDoor
