/-
  errors.Is over chains of fault.At round an api.Errno, at a target that is an api.Errno.
-/
import Derived.Test.YtnhffkdabdilpaaDoorFaultAs2
import Derived.Lib.Hide
namespace Go.Proofs.YtnhffkdabdilpaaDoor
open Go.RowKit Go.Extern.Stop Go.Stop Go.Extern

section
variable {P : Program} (w : World)
theorem run_equalIn_iface_int (d : Nat) {ti tn : TypeId} {ms : Array (String × TypeId)} {i : TypeInfo} {k : IntKind} (a b : Int)
    (hi : P.underlying ti = some (.interface ms)) (hn : P.underlying tn = some (.int k)) (hinfo : P.info? tn = some i) (hcomp : i.comparable = true) :
    (Op.equalIn (d + 2) ti (.iface tn (.int k a)) (.iface tn (.int k b))).run P w = .ok (a == b) w := by
  simp [Op.equalIn, run_underlying hi, run_underlying hn, typeInfo, hinfo, hcomp]
theorem run_eql_iface_int {ti tn : TypeId} {ms : Array (String × TypeId)} {i : TypeInfo} {k : IntKind} (a b : Int)
    (hi : P.underlying ti = some (.interface ms)) (hn : P.underlying tn = some (.int k)) (hinfo : P.info? tn = some i) (hcomp : i.comparable = true) :
    (binOp .eql ti (.iface tn (.int k a)) (.iface tn (.int k b))).run P w = .ok (.bool (a == b)) w := by
  simp only [binOp]
  simp [Op.equal, Op.maxDepth, run_equalIn_iface_int w 9998 a b hi hn hinfo hcomp]
end

theorem isTypeOf (v : Value) (w : World) : (Extern.ReflectliteType.typeOf #[.iface 24 v]).run Tryd.prog w = .ok (.iface 65 (.agg #[.pointer (some ⟨4, 24, none⟩)])) w := by kernel_rfl
theorem isComparable (w : World) : ((Extern.ReflectliteType.method fun t => do Rtype.noPackHeld "Comparable" t; (fun a => Value.bool a.comparable) <$> typeInfo t) #[.agg #[.pointer (some ⟨4, 24, none⟩)]]).run Tryd.prog w = .ok (.bool true) w := by kernel_rfl
theorem isMethodComparable (v : Value) (w : World) : (Go.method 225 65 v "Comparable").run Tryd.prog w = .ok (66, v) w := by kernel_rfl
theorem isComp : (Tryd.prog.info? 24).map (·.comparable) = some true := by kernel_rfl
theorem noIs39 (v : Value) (xT : TypeId) (w : World) : (Instr.typeAssert (.iface 39 v) xT 75 true).run Tryd.prog w = .ok (.tuple #[.nilIface, .bool false]) w := run_typeAssert_lacksB Tryd.underlying75 (by kernel_rfl) (by kernel_rfl) v xT w
theorem noIs24 (v : Value) (xT : TypeId) (w : World) : (Instr.typeAssert (.iface 24 v) xT 75 true).run Tryd.prog w = .ok (.tuple #[.nilIface, .bool false]) w := run_typeAssert_lacksB Tryd.underlying75 (by kernel_rfl) (by kernel_rfl) v xT w

def IsEnd (W : World) (b : Bool) (e : Ending) (w' : World) : Prop := e = .returned (.bool b) ∧ Below W.heap.size W w'

set_option maxHeartbeats 1000000 in
theorem is_chain (code c : Int) (ps : List Int) (E : Value) (hE : Chain code ps E) (W : World) :
    Calls Tryd.prog 28 #[E, .iface 24 (.int .i64 c), .bool true] W (IsEnd W (code == c)) := by
  obtain ⟨i, hi, hcmp⟩ := Option.map_eq_some_iff.1 isComp
  have t1 := noIs39
  have t2 := noIs24
  have t3 := hasUnwrap39
  have t4 := noUnwrap24
  have t5 := noUnwraps24
  have t6 := mUnwrap39
  have heq := fun w => run_eql_iface_int (P := Tryd.prog) w code c Tryd.underlying26 Tryd.underlying24 hi hcmp
  have hty := fun v w => run_eql_iface_types (P := Tryd.prog) 39 24 v (.int .i64 c) Tryd.underlying26 (by decide) w
  have HCM := Lib.hid hcmp
  have HI := Lib.hid hi
  clear hcmp hi
  have fin : ∀ w', Below W.heap.size W w' → IsEnd W (code == c) (.returned (.bool (code == c))) w' := fun w' h => ⟨rfl, h⟩
  go_enter Tryd.func28, Tryd.ntmps28
  go_wp2
  go_loopw [0] (fun E' wr => (∃ qs, Chain code qs E') ∧ Below W.heap.size W wr) (fun E' _ => SizeOf.sizeOf E')
  case atStart => exact ⟨⟨ps, hE⟩, Below.refl _ _⟩
  case round =>
    obtain ⟨⟨qs, hq⟩, hb⟩ := hrel
    cases hq with
    | leaf =>
      by_cases hcc : (code == c) = true
      · have HF : ∀ e, e = .returned (.bool true) → IsEnd W (code == c) e wr := fun e h => by rw [hcc]; exact ⟨h, hb⟩
        go_wp2
        go_ret
        exact HF _ rfl
      · have hcc' : (code == c) = false := by simpa using hcc
        have HF : ∀ e, e = .returned (.bool false) → IsEnd W (code == c) e wr := fun e h => by rw [hcc']; exact ⟨h, hb⟩
        clear hcc
        go_wp2
        go_ret
        exact HF _ rfl
    | wrap p ps u x hx =>
      have HC : Hid (Chain code ps (.iface u x)) := hx
      clear hx
      go_wp2_with (go_at_call 18; refine (unwrap_any _ _ _ _).mono ?_; rintro e w1 ⟨rfl, hb1⟩)
      go_roundw
      case rel => exact ⟨⟨ps, HC.out⟩, hb.trans (hb1.mono hb.size)⟩
      case measure => simp; omega

set_option maxHeartbeats 1000000 in
/-- errors.Is(err, c). -/
theorem Is_chain (code c : Int) (ps : List Int) (u : TypeId) (x : Value) (hE : Chain code ps (.iface u x)) (W : World) :
    Calls Tryd.prog 21 #[.iface u x, .iface 24 (.int .i64 c)] W (IsEnd W (code == c)) := by
  have h27 := @run_callFunc_extern Tryd.prog 27 _ ReflectliteType.typeOf Tryd.func27 (by kernel_rfl) (by kernel_rfl) (by kernel_rfl) (by kernel_rfl)
  have h66 := @run_callFunc_extern Tryd.prog 66 _ (Extern.ReflectliteType.method fun t => do Rtype.noPackHeld "Comparable" t; pure (.bool (← typeInfo t).comparable)) Tryd.func66 (by kernel_rfl) (by kernel_rfl) (by kernel_rfl) (by kernel_rfl)
  have tT := isTypeOf
  have cT := isComparable
  have mR := isMethodComparable
  have HC := Lib.hid hE
  clear hE
  go_enter Tryd.func21, Tryd.ntmps21
  go_wp2_with (go_at_call 28; refine (is_chain code c ps _ HC.out _).mono ?_; rintro e w1 ⟨rfl, hb1⟩)
  go_ret
  exact ⟨rfl, hb1⟩
/-- errors.Is(nil, c). -/
theorem Is_nil (c : Int) (W : World) :
    Calls Tryd.prog 21 #[.nilIface, .iface 24 (.int .i64 c)] W (IsEnd W false) := by
  have hn := run_eql_iface_nil_left (P := Tryd.prog) W 24 (.int .i64 c) Tryd.underlying26
  go_enter Tryd.func21, Tryd.ntmps21
  go_wp2
  go_ret
  exact ⟨rfl, Below.refl _ _⟩
end Go.Proofs.YtnhffkdabdilpaaDoor
