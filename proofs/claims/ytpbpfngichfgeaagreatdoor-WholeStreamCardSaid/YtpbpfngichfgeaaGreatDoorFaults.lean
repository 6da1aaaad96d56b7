/-
  Several texts in one: YtpbpfngichfgeaaGreatDoorFaultAs, YtpbpfngichfgeaaGreatDoorFaultAs2, YtpbpfngichfgeaaGreatDoorFaultAs3, YtpbpfngichfgeaaGreatDoorFaultAs4, YtpbpfngichfgeaaGreatDoorFaultCP.
-/
import Derived.Test.YtpbpfngichfgeaaGreatDoorProg
import Derived.WalkKit
import Derived.LaidEql
import Derived.Stop.Asserts
import Derived.RowKitTokens
import Derived.Lib.Hide
namespace Go.Proofs.YtpbpfngichfgeaaGreatDoor
open Go.RowKit Go.Extern.Stop Go.Stop Go.Extern

/-- The value of an error: places outermost first, then the number. -/
inductive Chain (code : Int) : List Int → Value → Prop
  | leaf : Chain code [] (.iface 27 (.int .i64 code))
  | wrap (p : Int) (ps : List Int) (u : TypeId) (x : Value) : Chain code ps (.iface u x) → Chain code (p :: ps) (.iface 105 (.agg #[.int .i64 p, .iface u x]))
theorem Chain.shape {code : Int} {ps : List Int} {E : Value} (h : Chain code ps E) : ∃ u x, E = .iface u x := by cases h <;> exact ⟨_, _, rfl⟩

def etype : Value := .iface 169 (.agg #[.pointer (some ⟨7, 30, none⟩)])

/-! ### closed facts on the entries for internal/reflectlite: pE the pointer type, E the element type -/
theorem rlm (z : Sem Value) (f : TypeId → Addr → Nat → Nat → Sem Value) (v : Value) :
    ReflectliteValue.method z f #[v] = (do match ← ReflectliteValue.parts v with | none => z | some (t, a, fl) => f t a fl (fl % 32)) := rfl
theorem rls (v x : Value) : ReflectliteValue.set #[v, x] = (do
    let (some (dst, a, fl), some (src, b, _)) := (← ReflectliteValue.parts v, ← ReflectliteValue.parts x)
      | unsupported (.noEntry "extern/(internal/reflectlite.Value).Set.zeroValue")
    if fl / ReflectliteValue.flagAddr % 2 == 0 then unsupported (.noEntry "extern/(internal/reflectlite.Value).Set.unaddressable")
    let val ← loadVar src b
    if ← Rtype.directlyAssignable dst src then storeVar dst a val
    else if ← Rtype.implements dst src then
      if (← Rtype.kind src) == 20 then
        match val with
        | .nilIface => unsupported (.noEntry "extern/reflectlite: a nil value of one interface type handed on as a value of another")
        | _ => storeVar dst a val
      else storeVar dst a (.iface src val)
    else panicString ("reflectlite.Set: value of type " ++ (← Rtype.spelt src) ++ " is not assignable to type " ++ (← Rtype.spelt dst))
    pure (.tuple #[])) := rfl

-- the pointers' Values
theorem vo42 (t : Addr) (w : World) : (ReflectliteValue.unpack (.iface 79 (.pointer (some t)))).run Tryz.prog w
    = .ok (.agg #[.pointer (some ⟨7, 79, none⟩), .pointer (some ⟨w.heap.size, 0, none⟩), .int .u64 150]) (w.alloc (.cells #[.pointer (some t)] 79)) := by kernel_rfl
theorem vo43 (t : Addr) (w : World) : (ReflectliteValue.unpack (.iface 106 (.pointer (some t)))).run Tryz.prog w
    = .ok (.agg #[.pointer (some ⟨7, 106, none⟩), .pointer (some ⟨w.heap.size, 0, none⟩), .int .u64 150]) (w.alloc (.cells #[.pointer (some t)] 106)) := by kernel_rfl
theorem ty42 (a : Addr) (w : World) : (ReflectliteValue.methodAny (ReflectliteValue.valueError "reflectlite.Value.Type" 0) (fun t _ _ _ => ReflectliteType.toType t) #[.agg #[.pointer (some ⟨7, 79, none⟩), .pointer (some a), .int .u64 150]]).run Tryz.prog w
    = .ok (.iface 169 (.agg #[.pointer (some ⟨7, 79, none⟩)])) w := by kernel_rfl
theorem ty43 (a : Addr) (w : World) : (ReflectliteValue.methodAny (ReflectliteValue.valueError "reflectlite.Value.Type" 0) (fun t _ _ _ => ReflectliteType.toType t) #[.agg #[.pointer (some ⟨7, 106, none⟩), .pointer (some a), .int .u64 150]]).run Tryz.prog w
    = .ok (.iface 169 (.agg #[.pointer (some ⟨7, 106, none⟩)])) w := by kernel_rfl
theorem mKind (h : Value) (w : World) : (Go.method 375 169 (.agg #[h]) "Kind").run Tryz.prog w = .ok (170, h) w := by kernel_rfl
theorem mElem (h : Value) (w : World) : (Go.method 375 169 (.agg #[h]) "Elem").run Tryz.prog w = .ok (183, .agg #[h]) w := by kernel_rfl
theorem mAssignableTo (h : Value) (w : World) : (Go.method 375 169 (.agg #[h]) "AssignableTo").run Tryz.prog w = .ok (181, .agg #[h]) w := by kernel_rfl
theorem mImplements (h : Value) (w : World) : (Go.method 375 169 (.agg #[h]) "Implements").run Tryz.prog w = .ok (184, .agg #[h]) w := by kernel_rfl
theorem k42 (w : World) : ((ReflectliteType.abiMethod fun t => (fun a : Nat => Value.int IntKind.u8 (a : Int)) <$> Rtype.kind t) #[.pointer (some ⟨7, 79, none⟩)]).run Tryz.prog w = .ok (.int .u8 22) w := by kernel_rfl
theorem k43 (w : World) : ((ReflectliteType.abiMethod fun t => (fun a : Nat => Value.int IntKind.u8 (a : Int)) <$> Rtype.kind t) #[.pointer (some ⟨7, 106, none⟩)]).run Tryz.prog w = .ok (.int .u8 22) w := by kernel_rfl
theorem k24 (w : World) : ((ReflectliteType.abiMethod fun t => (fun a : Nat => Value.int IntKind.u8 (a : Int)) <$> Rtype.kind t) #[.pointer (some ⟨7, 27, none⟩)]).run Tryz.prog w = .ok (.int .u8 2) w := by kernel_rfl
theorem k39 (w : World) : ((ReflectliteType.abiMethod fun t => (fun a : Nat => Value.int IntKind.u8 (a : Int)) <$> Rtype.kind t) #[.pointer (some ⟨7, 105, none⟩)]).run Tryz.prog w = .ok (.int .u8 25) w := by kernel_rfl
theorem el42 (w : World) : (ReflectliteType.method ReflectliteType.elem #[.agg #[.pointer (some ⟨7, 79, none⟩)]]).run Tryz.prog w = .ok (.iface 169 (.agg #[.pointer (some ⟨7, 27, none⟩)])) w := by kernel_rfl
theorem el43 (w : World) : (ReflectliteType.method ReflectliteType.elem #[.agg #[.pointer (some ⟨7, 106, none⟩)]]).run Tryz.prog w = .ok (.iface 169 (.agg #[.pointer (some ⟨7, 105, none⟩)])) w := by kernel_rfl
theorem im24 (w : World) : (ReflectliteType.relation "Implements" ReflectliteType.implements_ #[.agg #[.pointer (some ⟨7, 27, none⟩)], etype]).run Tryz.prog w = .ok (.bool true) w := by kernel_rfl
theorem im39 (w : World) : (ReflectliteType.relation "Implements" ReflectliteType.implements_ #[.agg #[.pointer (some ⟨7, 105, none⟩)], etype]).run Tryz.prog w = .ok (.bool true) w := by kernel_rfl
theorem to24 (v : Value) (w : World) : (ReflectliteType.typeOf #[.iface 27 v]).run Tryz.prog w = .ok (.iface 169 (.agg #[.pointer (some ⟨7, 27, none⟩)])) w := by kernel_rfl
theorem to39 (v : Value) (w : World) : (ReflectliteType.typeOf #[.iface 105 v]).run Tryz.prog w = .ok (.iface 169 (.agg #[.pointer (some ⟨7, 105, none⟩)])) w := by kernel_rfl
theorem as2424 (w : World) : (ReflectliteType.relation "AssignableTo" ReflectliteType.assignableTo #[.agg #[.pointer (some ⟨7, 27, none⟩)], .iface 169 (.agg #[.pointer (some ⟨7, 27, none⟩)])]).run Tryz.prog w = .ok (.bool true) w := by kernel_rfl
theorem as3924 (w : World) : (ReflectliteType.relation "AssignableTo" ReflectliteType.assignableTo #[.agg #[.pointer (some ⟨7, 105, none⟩)], .iface 169 (.agg #[.pointer (some ⟨7, 27, none⟩)])]).run Tryz.prog w = .ok (.bool false) w := by kernel_rfl
theorem as3939 (w : World) : (ReflectliteType.relation "AssignableTo" ReflectliteType.assignableTo #[.agg #[.pointer (some ⟨7, 105, none⟩)], .iface 169 (.agg #[.pointer (some ⟨7, 105, none⟩)])]).run Tryz.prog w = .ok (.bool true) w := by kernel_rfl
theorem vo24 (c : Int) (w : World) : (ReflectliteValue.unpack (.iface 27 (.int .i64 c))).run Tryz.prog w
    = .ok (.agg #[.pointer (some ⟨7, 27, none⟩), .pointer (some ⟨w.heap.size, 0, none⟩), .int .u64 130]) (w.alloc (.cells #[.int .i64 c] 27)) := by kernel_rfl
theorem pa42 (a : Addr) (w : World) : (ReflectliteValue.parts (.agg #[.pointer (some ⟨7, 79, none⟩), .pointer (some a), .int .u64 150])).run Tryz.prog w = .ok (some (79, a, 150)) w := by kernel_rfl
theorem pa43 (a : Addr) (w : World) : (ReflectliteValue.parts (.agg #[.pointer (some ⟨7, 106, none⟩), .pointer (some a), .int .u64 150])).run Tryz.prog w = .ok (some (106, a, 150)) w := by kernel_rfl
theorem isNil42 (a p : Addr) (W : World) (ha : W.cell? a = some (.pointer (some p))) :
    (ReflectliteValue.method (ReflectliteValue.valueError "reflectlite.Value.IsNil" 0) ReflectliteValue.isNil #[.agg #[.pointer (some ⟨7, 79, none⟩), .pointer (some a), .int .u64 150]]).run Tryz.prog W = .ok (.bool false) W := by
  rw [rlm]
  simp only [Sem.run_bind, pa42, Result.andThen]
  simp [ReflectliteValue.isNil, loadVar, isAgg, underlying, Tryz.underlying79, ha, Result.andThen]
theorem isNil43 (a p : Addr) (W : World) (ha : W.cell? a = some (.pointer (some p))) :
    (ReflectliteValue.method (ReflectliteValue.valueError "reflectlite.Value.IsNil" 0) ReflectliteValue.isNil #[.agg #[.pointer (some ⟨7, 106, none⟩), .pointer (some a), .int .u64 150]]).run Tryz.prog W = .ok (.bool false) W := by
  rw [rlm]
  simp only [Sem.run_bind, pa43, Result.andThen]
  simp [ReflectliteValue.isNil, loadVar, isAgg, underlying, Tryz.underlying106, ha, Result.andThen]
theorem elOf42 (w : World) : (Rtype.elem? 79).run Tryz.prog w = .ok (some 27) w := by kernel_rfl
theorem elOf43 (w : World) : (Rtype.elem? 106).run Tryz.prog w = .ok (some 105) w := by kernel_rfl
theorem mk24 (p : Addr) (w : World) : (ReflectliteValue.mk 27 p ReflectliteValue.flagAddr).run Tryz.prog w = .ok (.agg #[.pointer (some ⟨7, 27, none⟩), .pointer (some p), .int .u64 386]) w := by kernel_rfl
theorem mk39 (p : Addr) (w : World) : (ReflectliteValue.mk 105 p ReflectliteValue.flagAddr).run Tryz.prog w = .ok (.agg #[.pointer (some ⟨7, 105, none⟩), .pointer (some p), .int .u64 409]) w := by kernel_rfl
theorem elemV42 (a p : Addr) (W : World) (ha : W.cell? a = some (.pointer (some p))) :
    (ReflectliteValue.method (ReflectliteValue.valueError "reflectlite.Value.Elem" 0) ReflectliteValue.elem #[.agg #[.pointer (some ⟨7, 79, none⟩), .pointer (some a), .int .u64 150]]).run Tryz.prog W
      = .ok (.agg #[.pointer (some ⟨7, 27, none⟩), .pointer (some p), .int .u64 386]) W := by
  rw [rlm]
  simp only [Sem.run_bind, pa42, Result.andThen]
  simp [ReflectliteValue.elem, loadVar, isAgg, underlying, Tryz.underlying79, ha, Result.andThen, elOf42, mk24]
theorem elemV43 (a p : Addr) (W : World) (ha : W.cell? a = some (.pointer (some p))) :
    (ReflectliteValue.method (ReflectliteValue.valueError "reflectlite.Value.Elem" 0) ReflectliteValue.elem #[.agg #[.pointer (some ⟨7, 106, none⟩), .pointer (some a), .int .u64 150]]).run Tryz.prog W
      = .ok (.agg #[.pointer (some ⟨7, 105, none⟩), .pointer (some p), .int .u64 409]) W := by
  rw [rlm]
  simp only [Sem.run_bind, pa43, Result.andThen]
  simp [ReflectliteValue.elem, loadVar, isAgg, underlying, Tryz.underlying106, ha, Result.andThen, elOf43, mk39]
theorem pa24a (a : Addr) (w : World) : (ReflectliteValue.parts (.agg #[.pointer (some ⟨7, 27, none⟩), .pointer (some a), .int .u64 386])).run Tryz.prog w = .ok (some (27, a, 386)) w := by kernel_rfl
theorem pa24 (a : Addr) (w : World) : (ReflectliteValue.parts (.agg #[.pointer (some ⟨7, 27, none⟩), .pointer (some a), .int .u64 130])).run Tryz.prog w = .ok (some (27, a, 130)) w := by kernel_rfl
theorem di24 (w : World) : (Rtype.directlyAssignable 27 27).run Tryz.prog w = .ok true w := by kernel_rfl
theorem set24 (ta b : Addr) (c : Int) (old : Value) (W : World) (hb : W.cell? b = some (.int .i64 c)) (ht : W.cell? ta = some old) (hf : W.frozen? ta = false) :
    (ReflectliteValue.set #[.agg #[.pointer (some ⟨7, 27, none⟩), .pointer (some ta), .int .u64 386], .agg #[.pointer (some ⟨7, 27, none⟩), .pointer (some b), .int .u64 130]]).run Tryz.prog W
      = .ok (.tuple #[]) (W.setCell ta (.int .i64 c)) := by
  rw [rls]
  simp only [Sem.run_bind, pa24a, pa24, Result.andThen]
  simp [ReflectliteValue.flagAddr, loadVar, isAgg, underlying, Tryz.underlying27, hb, Result.andThen, di24, storeVar, Value.cells, storeCells, Addr.add]
  rw [run_store Tryz.prog W ta _ _ (by rfl)]
  simp [ht, hf]

end Go.Proofs.YtpbpfngichfgeaaGreatDoor

namespace Go.Proofs.YtpbpfngichfgeaaGreatDoor
open Go.RowKit Go.Extern.Stop Go.Stop Go.Extern

theorem unwrap_any (p : Int) (u : TypeId) (x : Value) (w : World) :
    Calls Tryz.prog 175 #[.agg #[.int .i64 p, .iface u x]] w fun e w' => e = .returned (.iface u x) ∧ Below w.heap.size w w' := by
  go_enter Tryz.func175, Tryz.ntmps175
  go_wp2
  go_ret
  exact ⟨rfl, (Below.refl _ _).alloc (Nat.le_refl _) _⟩

theorem noAs39 (v : Value) (xT : TypeId) (w : World) : (Instr.typeAssert (.iface 105 v) xT 174 true).run Tryz.prog w = .ok (.tuple #[.nilIface, .bool false]) w := run_typeAssert_lacksB Tryz.underlying174 (by kernel_rfl) (by kernel_rfl) v xT w
theorem hasUnwrap39 (v : Value) (xT : TypeId) (w : World) : (Instr.typeAssert (.iface 105 v) xT 177 true).run Tryz.prog w = .ok (.tuple #[.iface 105 v, .bool true]) w := run_typeAssert_hasB Tryz.underlying177 (by kernel_rfl) v xT w
theorem mUnwrap39 (v : Value) (w : World) : (Go.method 375 105 v "Unwrap").run Tryz.prog w = .ok (175, v) w := by kernel_rfl
theorem cell_lt {W : World} {a : Addr} {v : Value} (h : W.cell? a = some v) : a.block < W.heap.size := by
  rcases Nat.lt_or_ge a.block W.heap.size with hl | hl
  · exact hl
  · simp [World.cell?, Array.getElem?_eq_none hl] at h

def V42 (a : Addr) : Value := .agg #[.pointer (some ⟨7, 79, none⟩), .pointer (some a), .int .u64 150]
def Hit (W : World) (ta : Addr) (code : Int) (e : Ending) (w' : World) : Prop := e = .returned (.bool true) ∧ ∃ W2, Below W.heap.size W W2 ∧ w' = W2.setCell ta (.int .i64 code)

set_option maxHeartbeats 1000000 in
theorem as_chain (code : Int) (ps : List Int) (E : Value) (hE : Chain code ps E) (a ta : Addr) (old : Value) (W : World) (hat : W.cell? a = some (.pointer (some ta))) (ht : W.cell? ta = some old) (hf : W.frozen? ta = false) :
    Calls Tryz.prog 57 #[E, .iface 79 (.pointer (some ta)), .agg #[.pointer (some ⟨7, 79, none⟩), .pointer (some a), .int .u64 150], .iface 169 (.agg #[.pointer (some ⟨7, 27, none⟩)])] W (Hit W ta code) := by
  have h27 := @run_callFunc_extern Tryz.prog 84 _ ReflectliteType.typeOf Tryz.func84 (by kernel_rfl) (by kernel_rfl) (by kernel_rfl) (by kernel_rfl)
  have h65 := @run_callFunc_extern Tryz.prog 181 _ (ReflectliteType.relation "AssignableTo" ReflectliteType.assignableTo) Tryz.func181 (by kernel_rfl) (by kernel_rfl) (by kernel_rfl) (by kernel_rfl)
  have h30 := @run_callFunc_extern Tryz.prog 85 _ (ReflectliteValue.method (ReflectliteValue.valueError "reflectlite.Value.Elem" 0) ReflectliteValue.elem) Tryz.func85 (by kernel_rfl) (by kernel_rfl) (by kernel_rfl) (by kernel_rfl)
  have h23 := @run_callFunc_extern Tryz.prog 54 _ (fun args => ReflectliteValue.unpack (args.getD 0 (.tuple #[]))) Tryz.func54 (by kernel_rfl) (by kernel_rfl) (by kernel_rfl) (by kernel_rfl)
  have h31 := @run_callFunc_extern Tryz.prog 86 _ ReflectliteValue.set Tryz.func86 (by kernel_rfl) (by kernel_rfl) (by kernel_rfl) (by kernel_rfl)
  have t1 := to24
  have t2 := to39
  have t3 := mAssignableTo
  have t4 := as2424
  have t5 := as3924
  have t6 := vo24
  have t7 := noAs39
  have t8 := hasUnwrap39
  have t9 := mUnwrap39
  go_enter Tryz.func57, Tryz.ntmps57
  go_wp2
  go_loopw [0] (fun E' wr => (∃ qs, Chain code qs E') ∧ Below W.heap.size W wr ∧ W.heap.size < wr.heap.size ∧ wr.cell? ⟨W.heap.size, 0, none⟩ = some (.pointer (some ⟨7, 79, none⟩)) ∧ wr.cell? ⟨W.heap.size, 1, none⟩ = some (.pointer (some a)) ∧ wr.cell? ⟨W.heap.size, 2, none⟩ = some (.int .u64 150)) (fun E' _ => SizeOf.sizeOf E')
  case atStart => exact ⟨⟨ps, hE⟩, (Below.refl _ _).alloc (Nat.le_refl _) _, by simp, by simp, by simp, by simp⟩
  case round =>
    obtain ⟨⟨qs, hq⟩, hb, hsz, c0, c1, c2⟩ := hrel
    cases hq with
    | leaf =>
      have hal := cell_lt hat
      have htl := cell_lt ht
      have hwa : wr.cell? a = some (.pointer (some ta)) := (hb.cell hal).trans hat
      have hwt : wr.cell? ta = some old := (hb.cell htl).trans ht
      have hwf : wr.frozen? ta = false := (hb.frozen htl).trans hf
      have el := elemV42 a ta wr hwa
      have st := set24 ta ⟨wr.heap.size, 0, none⟩ code old (wr.alloc (.cells #[.int .i64 code] 27)) (by rw [World.cell?_alloc_at _ _ _ _ (by simp)]; rfl)
        (by rw [World.cell?_alloc_lt _ _ ta (by omega)]; exact hwt) (by rw [World.frozen?_alloc_old _ _ ta (by omega)]; exact hwf)
      have HF : ∀ e w', e = .returned (.bool true) → w' = (wr.alloc (.cells #[.int .i64 code] 27)).setCell ta (.int .i64 code) → Hit W ta code e w' :=
        fun e w' h1 h2 => ⟨h1, _, hb.alloc (Nat.le_of_lt hsz) _, h2⟩
      clear hE hat ht hf hwa hwt hwf
      go_wp2
      go_ret
      exact HF _ _ rfl rfl
    | wrap p ps u x hx =>
      have HC : Hid (Chain code ps (.iface u x)) := hx
      clear hx
      go_wp2_with (go_at_call 175; refine (unwrap_any _ _ _ _).mono ?_; rintro e w1 ⟨rfl, hb1⟩)
      go_roundw
      case rel =>
        exact ⟨⟨ps, HC.out⟩, hb.trans (hb1.mono (Nat.le_of_lt hsz)), Nat.lt_of_lt_of_le hsz hb1.size, (hb1.cell (p := ⟨W.heap.size, 0, none⟩) hsz).trans c0, (hb1.cell (p := ⟨W.heap.size, 1, none⟩) hsz).trans c1, (hb1.cell (p := ⟨W.heap.size, 2, none⟩) hsz).trans c2⟩
      case measure => simp; omega
end Go.Proofs.YtpbpfngichfgeaaGreatDoor

namespace Go.Proofs.YtpbpfngichfgeaaGreatDoor
open Go.RowKit Go.Extern.Stop Go.Stop Go.Extern

theorem vo39 (p : Int) (u : TypeId) (x : Value) (w : World) : (ReflectliteValue.unpack (.iface 105 (.agg #[.int .i64 p, .iface u x]))).run Tryz.prog w
    = .ok (.agg #[.pointer (some ⟨7, 105, none⟩), .pointer (some ⟨w.heap.size, 0, none⟩), .int .u64 153]) (w.alloc (.cells #[.int .i64 p, .iface u x] 105)) := by kernel_rfl
theorem pa39a (a : Addr) (w : World) : (ReflectliteValue.parts (.agg #[.pointer (some ⟨7, 105, none⟩), .pointer (some a), .int .u64 409])).run Tryz.prog w = .ok (some (105, a, 409)) w := by kernel_rfl
theorem pa39 (a : Addr) (w : World) : (ReflectliteValue.parts (.agg #[.pointer (some ⟨7, 105, none⟩), .pointer (some a), .int .u64 153])).run Tryz.prog w = .ok (some (105, a, 153)) w := by kernel_rfl
theorem di39 (w : World) : (Rtype.directlyAssignable 105 105).run Tryz.prog w = .ok true w := by kernel_rfl
theorem set39 (t b : Nat) (p : Int) (u : TypeId) (x o0 o1 : Value) (W : World) (hb0 : W.cell? ⟨b, 0, none⟩ = some (.int .i64 p)) (hb1 : W.cell? ⟨b, 1, none⟩ = some (.iface u x))
    (ht0 : W.cell? ⟨t, 0, none⟩ = some o0) (ht1 : W.cell? ⟨t, 1, none⟩ = some o1) (hf0 : W.frozen? ⟨t, 0, none⟩ = false) (hf1 : W.frozen? ⟨t, 1, none⟩ = false) :
    (ReflectliteValue.set #[.agg #[.pointer (some ⟨7, 105, none⟩), .pointer (some ⟨t, 0, none⟩), .int .u64 409], .agg #[.pointer (some ⟨7, 105, none⟩), .pointer (some ⟨b, 0, none⟩), .int .u64 153]]).run Tryz.prog W
      = .ok (.tuple #[]) ((W.setCell ⟨t, 0, none⟩ (.int .i64 p)).setCell ⟨t, 1, none⟩ (.iface u x)) := by
  rw [rls]
  simp only [Sem.run_bind, pa39a, pa39, Result.andThen]
  have s1 := run_store Tryz.prog W ⟨t, 0, none⟩ (.int .i64 p) .plain (by rfl)
  have s2 := run_store Tryz.prog (W.setCell ⟨t, 0, none⟩ (.int .i64 p)) ⟨t, 1, none⟩ (.iface u x) .plain (by rfl)
  simp [ht0, hf0] at s1
  have h1' : (W.setCell ⟨t, 0, none⟩ (.int .i64 p)).cell? ⟨t, 1, none⟩ = some o1 := by rw [World.cell?_setCell_other _ _ _ _ (by simp)]; exact ht1
  simp [h1', hf1] at s2
  simp [ReflectliteValue.flagAddr, loadVar, isAgg, underlying, Tryz.underlying105, loadCells, loadCellsFrom, Addr.add, hb0, hb1, Result.andThen, di39, storeVar, Value.cells, storeCells, s1, s2]

def Hit39 (W : World) (t : Nat) (p : Int) (u : TypeId) (x : Value) (e : Ending) (w' : World) : Prop :=
  e = .returned (.bool true) ∧ ∃ W2, Below W.heap.size W W2 ∧ w' = (W2.setCell ⟨t, 0, none⟩ (.int .i64 p)).setCell ⟨t, 1, none⟩ (.iface u x)

set_option maxHeartbeats 1000000 in
theorem as_at (p : Int) (u : TypeId) (x : Value) (a : Addr) (t : Nat) (o0 o1 : Value) (W : World) (hat : W.cell? a = some (.pointer (some ⟨t, 0, none⟩)))
    (ht0 : W.cell? ⟨t, 0, none⟩ = some o0) (ht1 : W.cell? ⟨t, 1, none⟩ = some o1) (hf0 : W.frozen? ⟨t, 0, none⟩ = false) (hf1 : W.frozen? ⟨t, 1, none⟩ = false) :
    Calls Tryz.prog 57 #[.iface 105 (.agg #[.int .i64 p, .iface u x]), .iface 106 (.pointer (some ⟨t, 0, none⟩)), .agg #[.pointer (some ⟨7, 106, none⟩), .pointer (some a), .int .u64 150], .iface 169 (.agg #[.pointer (some ⟨7, 105, none⟩)])] W (Hit39 W t p u x) := by
  have h27 := @run_callFunc_extern Tryz.prog 84 _ ReflectliteType.typeOf Tryz.func84 (by kernel_rfl) (by kernel_rfl) (by kernel_rfl) (by kernel_rfl)
  have h65 := @run_callFunc_extern Tryz.prog 181 _ (ReflectliteType.relation "AssignableTo" ReflectliteType.assignableTo) Tryz.func181 (by kernel_rfl) (by kernel_rfl) (by kernel_rfl) (by kernel_rfl)
  have h30 := @run_callFunc_extern Tryz.prog 85 _ (ReflectliteValue.method (ReflectliteValue.valueError "reflectlite.Value.Elem" 0) ReflectliteValue.elem) Tryz.func85 (by kernel_rfl) (by kernel_rfl) (by kernel_rfl) (by kernel_rfl)
  have h23 := @run_callFunc_extern Tryz.prog 54 _ (fun args => ReflectliteValue.unpack (args.getD 0 (.tuple #[]))) Tryz.func54 (by kernel_rfl) (by kernel_rfl) (by kernel_rfl) (by kernel_rfl)
  have h31 := @run_callFunc_extern Tryz.prog 86 _ ReflectliteValue.set Tryz.func86 (by kernel_rfl) (by kernel_rfl) (by kernel_rfl) (by kernel_rfl)
  have t1 := to39
  have t3 := mAssignableTo
  have t4 := as3939
  have t6 := vo39
  have hal := cell_lt hat
  have htl : t < W.heap.size := cell_lt ht0
  have el := elemV43 a ⟨t, 0, none⟩ (W.alloc (.cells #[.pointer (some ⟨7, 106, none⟩), .pointer (some a), .int .u64 150] 122)) (by rw [World.cell?_alloc_lt _ _ a (by omega)]; exact hat)
  have st := set39 t (W.heap.size + 1) p u x o0 o1 ((W.alloc (.cells #[.pointer (some ⟨7, 106, none⟩), .pointer (some a), .int .u64 150] 122)).alloc (.cells #[.int .i64 p, .iface u x] 105))
    (by rw [World.cell?_alloc_at _ _ _ _ (by simp)]; rfl) (by rw [World.cell?_alloc_at _ _ _ _ (by simp)]; rfl)
    (by rw [World.cell?_alloc_lt _ _ _ (by simp; omega), World.cell?_alloc_lt _ _ _ (by simp; omega)]; exact ht0) (by rw [World.cell?_alloc_lt _ _ _ (by simp; omega), World.cell?_alloc_lt _ _ _ (by simp; omega)]; exact ht1)
    (by rw [World.frozen?_alloc_old _ _ _ (by simp; omega), World.frozen?_alloc_old _ _ _ (by simp; omega)]; exact hf0) (by rw [World.frozen?_alloc_old _ _ _ (by simp; omega), World.frozen?_alloc_old _ _ _ (by simp; omega)]; exact hf1)
  have HF : ∀ e w', e = .returned (.bool true) → w' = (((W.alloc (.cells #[.pointer (some ⟨7, 106, none⟩), .pointer (some a), .int .u64 150] 122)).alloc (.cells #[.int .i64 p, .iface u x] 105)).setCell ⟨t, 0, none⟩ (.int .i64 p)).setCell ⟨t, 1, none⟩ (.iface u x) → Hit39 W t p u x e w' :=
    fun e w' h1 h2 => ⟨h1, _, ((Below.refl _ _).alloc (Nat.le_refl _) _).alloc (by simp) _, h2⟩
  clear hat ht0 ht1 hf0 hf1 htl hal
  go_enter Tryz.func57, Tryz.ntmps57
  go_wp2
  refine wp_loop_rounds 1 ?_
  rw [rounds_succ]
  go_wp2
  go_ret
  exact HF _ _ rfl rfl

def Miss (W : World) (e : Ending) (w' : World) : Prop := e = .returned (.bool false) ∧ Below W.heap.size W w'
/-! ### errors.As itself -/
theorem cell_old {w : World} {o : Obj} {a : Addr} {v : Value} (h : w.cell? a = some v) : (w.alloc o).cell? a = some v := by
  rw [World.cell?_alloc_lt _ _ a (cell_lt h)]; exact h
theorem frozen_old {w : World} {o : Obj} {a : Addr} {v : Value} (h : w.cell? a = some v) (hf : w.frozen? a = false) : (w.alloc o).frozen? a = false := by
  rw [World.frozen?_alloc_old _ _ a (Nat.ne_of_lt (cell_lt h))]; exact hf

set_option maxHeartbeats 1000000 in
theorem As_chain (code : Int) (ps : List Int) (u : TypeId) (x : Value) (hE : Chain code ps (.iface u x)) (ta : Addr) (old : Value) (W : World) (hg : W.cell? ⟨0, 0, none⟩ = some etype) (ht : W.cell? ta = some old) (hf : W.frozen? ta = false) :
    Calls Tryz.prog 31 #[.iface u x, .iface 79 (.pointer (some ta))] W (Hit W ta code) := by
  have h23 := @run_callFunc_extern Tryz.prog 54 _ (fun args => ReflectliteValue.unpack (args.getD 0 (.tuple #[]))) Tryz.func54 (by kernel_rfl) (by kernel_rfl) (by kernel_rfl) (by kernel_rfl)
  have h24 := @run_callFunc_extern Tryz.prog 55 _ (ReflectliteValue.methodAny (ReflectliteValue.valueError "reflectlite.Value.Type" 0) (fun t _ _ _ => ReflectliteType.toType t)) Tryz.func55 (by kernel_rfl) (by kernel_rfl) (by kernel_rfl) (by kernel_rfl)
  have h25 := @run_callFunc_extern Tryz.prog 56 _ (ReflectliteValue.method (ReflectliteValue.valueError "reflectlite.Value.IsNil" 0) ReflectliteValue.isNil) Tryz.func56 (by kernel_rfl) (by kernel_rfl) (by kernel_rfl) (by kernel_rfl)
  have h58 := @run_callFunc_extern Tryz.prog 170 _ (ReflectliteType.abiMethod fun t => do pure (.int .u8 (← Rtype.kind t))) Tryz.func170 (by kernel_rfl) (by kernel_rfl) (by kernel_rfl) (by kernel_rfl)
  have h67 := @run_callFunc_extern Tryz.prog 183 _ (ReflectliteType.method ReflectliteType.elem) Tryz.func183 (by kernel_rfl) (by kernel_rfl) (by kernel_rfl) (by kernel_rfl)
  have h68 := @run_callFunc_extern Tryz.prog 184 _ (ReflectliteType.relation "Implements" ReflectliteType.implements_) Tryz.func184 (by kernel_rfl) (by kernel_rfl) (by kernel_rfl) (by kernel_rfl)
  have f1 := vo42
  have f2 := ty42
  have f3 := mKind
  have f4 := mElem
  have f5 := mImplements
  have f6 := k42
  have f7 := k24
  have f8 := el42
  have f9 := im24
  have n8 := isNil42 ⟨W.heap.size, 0, none⟩ ta ((W.alloc (.cells #[.pointer (some ta)] 79)).alloc (.cells #[.pointer (some ⟨7, 79, none⟩), .pointer (some ⟨W.heap.size, 0, none⟩), .int .u64 150] 122)) (by simp)
  have hg2 := cell_old (o := .cells #[.pointer (some ⟨7, 79, none⟩), .pointer (some ⟨W.heap.size, 0, none⟩), .int .u64 150] 122) (cell_old (o := .cells #[.pointer (some ta)] 79) hg)
  have C := as_chain code ps _ hE ⟨W.heap.size, 0, none⟩ ta old ((W.alloc (.cells #[.pointer (some ta)] 79)).alloc (.cells #[.pointer (some ⟨7, 79, none⟩), .pointer (some ⟨W.heap.size, 0, none⟩), .int .u64 150] 122)) (by simp) (cell_old (cell_old ht)) (frozen_old (cell_old ht) (frozen_old ht hf))
  have HC := Lib.hid C
  clear C hE ht hf hg
  have HF : ∀ e w', Hit ((W.alloc (.cells #[.pointer (some ta)] 79)).alloc (.cells #[.pointer (some ⟨7, 79, none⟩), .pointer (some ⟨W.heap.size, 0, none⟩), .int .u64 150] 122)) ta code e w' → Hit W ta code e w' :=
    fun e w' h => ⟨h.1, h.2.choose, (((Below.refl _ _).alloc (Nat.le_refl _) _).alloc (by simp) _).trans (h.2.choose_spec.1.mono (by simp; omega)), h.2.choose_spec.2⟩
  go_enter Tryz.func31, Tryz.ntmps31
  go_wp2_with (go_at_call 57; refine (HC.out).mono ?_; rintro e w1 hh; have hh2 := HF _ _ hh; obtain ⟨rfl, hx⟩ := hh; obtain ⟨_, H2⟩ := hh2; clear hx)
  go_ret
  exact ⟨rfl, H2⟩
end Go.Proofs.YtpbpfngichfgeaaGreatDoor

namespace Go.Proofs.YtpbpfngichfgeaaGreatDoor
open Go.RowKit Go.Extern.Stop Go.Stop Go.Extern

set_option maxHeartbeats 1000000 in
theorem As_at (p : Int) (u : TypeId) (x : Value) (t : Nat) (o0 o1 : Value) (W : World) (hg : W.cell? ⟨0, 0, none⟩ = some etype) (ht0 : W.cell? ⟨t, 0, none⟩ = some o0) (ht1 : W.cell? ⟨t, 1, none⟩ = some o1) (hf0 : W.frozen? ⟨t, 0, none⟩ = false) (hf1 : W.frozen? ⟨t, 1, none⟩ = false) :
    Calls Tryz.prog 31 #[.iface 105 (.agg #[.int .i64 p, .iface u x]), .iface 106 (.pointer (some ⟨t, 0, none⟩))] W (Hit39 W t p u x) := by
  have h23 := @run_callFunc_extern Tryz.prog 54 _ (fun args => ReflectliteValue.unpack (args.getD 0 (.tuple #[]))) Tryz.func54 (by kernel_rfl) (by kernel_rfl) (by kernel_rfl) (by kernel_rfl)
  have h24 := @run_callFunc_extern Tryz.prog 55 _ (ReflectliteValue.methodAny (ReflectliteValue.valueError "reflectlite.Value.Type" 0) (fun t _ _ _ => ReflectliteType.toType t)) Tryz.func55 (by kernel_rfl) (by kernel_rfl) (by kernel_rfl) (by kernel_rfl)
  have h25 := @run_callFunc_extern Tryz.prog 56 _ (ReflectliteValue.method (ReflectliteValue.valueError "reflectlite.Value.IsNil" 0) ReflectliteValue.isNil) Tryz.func56 (by kernel_rfl) (by kernel_rfl) (by kernel_rfl) (by kernel_rfl)
  have h58 := @run_callFunc_extern Tryz.prog 170 _ (ReflectliteType.abiMethod fun t => do pure (.int .u8 (← Rtype.kind t))) Tryz.func170 (by kernel_rfl) (by kernel_rfl) (by kernel_rfl) (by kernel_rfl)
  have h67 := @run_callFunc_extern Tryz.prog 183 _ (ReflectliteType.method ReflectliteType.elem) Tryz.func183 (by kernel_rfl) (by kernel_rfl) (by kernel_rfl) (by kernel_rfl)
  have h68 := @run_callFunc_extern Tryz.prog 184 _ (ReflectliteType.relation "Implements" ReflectliteType.implements_) Tryz.func184 (by kernel_rfl) (by kernel_rfl) (by kernel_rfl) (by kernel_rfl)
  have f1 := vo43
  have f2 := ty43
  have f3 := mKind
  have f4 := mElem
  have f5 := mImplements
  have f6 := k43
  have f7 := k39
  have f8 := el43
  have f9 := im39
  have n8 := isNil43 ⟨W.heap.size, 0, none⟩ ⟨t, 0, none⟩ ((W.alloc (.cells #[.pointer (some ⟨t, 0, none⟩)] 106)).alloc (.cells #[.pointer (some ⟨7, 106, none⟩), .pointer (some ⟨W.heap.size, 0, none⟩), .int .u64 150] 122)) (by simp)
  have hg2 := cell_old (o := .cells #[.pointer (some ⟨7, 106, none⟩), .pointer (some ⟨W.heap.size, 0, none⟩), .int .u64 150] 122) (cell_old (o := .cells #[.pointer (some ⟨t, 0, none⟩)] 106) hg)
  have C := as_at p u x ⟨W.heap.size, 0, none⟩ t o0 o1 ((W.alloc (.cells #[.pointer (some ⟨t, 0, none⟩)] 106)).alloc (.cells #[.pointer (some ⟨7, 106, none⟩), .pointer (some ⟨W.heap.size, 0, none⟩), .int .u64 150] 122)) (by simp) (cell_old (cell_old ht0)) (cell_old (cell_old ht1)) (frozen_old (cell_old ht0) (frozen_old ht0 hf0)) (frozen_old (cell_old ht1) (frozen_old ht1 hf1))
  have HC := Lib.hid C
  clear C ht0 ht1 hf0 hf1 hg
  have HF : ∀ e w', Hit39 ((W.alloc (.cells #[.pointer (some ⟨t, 0, none⟩)] 106)).alloc (.cells #[.pointer (some ⟨7, 106, none⟩), .pointer (some ⟨W.heap.size, 0, none⟩), .int .u64 150] 122)) t p u x e w' → Hit39 W t p u x e w' :=
    fun e w' h => ⟨h.1, h.2.choose, (((Below.refl _ _).alloc (Nat.le_refl _) _).alloc (by simp) _).trans (h.2.choose_spec.1.mono (by simp; omega)), h.2.choose_spec.2⟩
  go_enter Tryz.func31, Tryz.ntmps31
  go_wp2_with (go_at_call 57; refine (HC.out).mono ?_; rintro e w1 hh; have hh2 := HF _ _ hh; obtain ⟨rfl, hx⟩ := hh; obtain ⟨_, H2⟩ := hh2; clear hx)
  go_ret
  exact ⟨rfl, H2⟩
end Go.Proofs.YtpbpfngichfgeaaGreatDoor

namespace Go.Proofs.YtpbpfngichfgeaaGreatDoor
open Go.RowKit Go.Extern.Stop Go.Stop Go.Extern

def CodeEnd (w : World) (code : Int) (e : Ending) (w' : World) : Prop := e = .returned (.int .i64 code) ∧ Below w.heap.size w w'

set_option maxHeartbeats 1000000 in
theorem code_any (code : Int) (ps : List Int) (u : TypeId) (x : Value) (hE : Chain code ps (.iface u x)) (w : World) (hg : w.cell? ⟨0, 0, none⟩ = some etype) :
    Calls Tryz.prog 13 #[.iface u x] w (CodeEnd w code) := by
  have C := As_chain code ps u x hE ⟨w.heap.size, 0, none⟩ (.int .i64 0) (w.alloc (.cells #[.int .i64 0] 27)) (cell_old hg) (by simp) (by simp)
  have HC := Lib.hid C
  clear C hE hg
  go_enter Tryz.func13, Tryz.ntmps13
  go_wp2_with (go_at_call 31; refine (HC.out).mono ?_; rintro e w1 ⟨rfl, W2, hb2, rfl⟩; have hsz : w.heap.size < W2.heap.size := (by have := hb2.size; simp at this; omega); have hc2 : W2.cell? ⟨w.heap.size, 0, none⟩ = some (.int .i64 0) := (by rw [hb2.cell (p := ⟨w.heap.size, 0, none⟩) (by simp)]; simp); have hf2 : W2.frozen? ⟨w.heap.size, 0, none⟩ = false := (by rw [hb2.frozen (p := ⟨w.heap.size, 0, none⟩) (by simp)]; simp))
  go_ret
  exact ⟨rfl, (((Below.refl _ _).alloc (Nat.le_refl _) _).trans (hb2.mono (by simp))).setCell (by simp) _⟩

set_option maxHeartbeats 1000000 in
theorem place_any (p : Int) (u : TypeId) (x : Value) (w : World) (hg : w.cell? ⟨0, 0, none⟩ = some etype) :
    Calls Tryz.prog 24 #[.iface 105 (.agg #[.int .i64 p, .iface u x])] w (CodeEnd w p) := by
  have C := As_at p u x w.heap.size (.int .i64 0) .nilIface (w.alloc (.cells #[.int .i64 0, .nilIface] 105)) (cell_old hg) (by simp) (by simp) (by simp) (by simp)
  have HC := Lib.hid C
  clear C hg
  go_enter Tryz.func24, Tryz.ntmps24
  go_wp2_with (go_at_call 31; refine (HC.out).mono ?_; rintro e w1 ⟨rfl, W2, hb2, rfl⟩; have hsz : w.heap.size < W2.heap.size := (by have := hb2.size; simp at this; omega); have hc2 : W2.cell? ⟨w.heap.size, 0, none⟩ = some (.int .i64 0) := (by rw [hb2.cell (p := ⟨w.heap.size, 0, none⟩) (by simp)]; simp); have hf2 : W2.frozen? ⟨w.heap.size, 0, none⟩ = false := (by rw [hb2.frozen (p := ⟨w.heap.size, 0, none⟩) (by simp)]; simp))
  go_ret
  exact ⟨rfl, ((((Below.refl _ _).alloc (Nat.le_refl _) _).trans (hb2.mono (by simp))).setCell (by simp) _).setCell (by simp) _⟩

end Go.Proofs.YtpbpfngichfgeaaGreatDoor
