/-
  What the texts of AskLong and AskData ask of the texts of package ask (contracts that are proved in PAskx1 and PAskx3).
-/
import Derived.Test.YtbkhhmgpfjemcaaDoorPAskx3
namespace Go.Proofs.YtbkhhmgpfjemcaaDoor.PAskL
set_option linter.unusedVariables false
open Go.RowKit Go.Proofs.YtbkhhmgpfjemcaaDoor Go.Proofs.YtbkhhmgpfjemcaaDoorW.PrintWords Go.Proofs.YtbkhhmgpfjemcaaDoorW.PrintLast Go.Proofs.YtbkhhmgpfjemcaaDoorW.PrintMore

theorem v_string_d {P : Program} {w : World} {base e' : Nat} {ok : Nat → Prop} {src dst e : TypeId} {v : Value} {xs : List Int} (hs : P.underlying src = some (.slice e)) (he : P.underlying e = some (.int .u8)) (hd : P.underlying dst = some .string)
    (h : Kd.V (Kd.int .u8) e' w base ok v xs) (n : Nat) : (convert src dst v).run P (w.drewN n) = .ok (.string (strOfNums xs)) (w.drewN n) := PAsk.v_string_d hs he hd h n
theorem r_string_d {P : Program} {w : World} {base e' : Nat} {ok : Nat → Prop} {src dst e : TypeId} {v : Value} {xs : List Int} (hs : P.underlying src = some (.slice e)) (he : P.underlying e = some (.int .u8)) (hd : P.underlying dst = some .string)
    (h : Kd.R (Kd.int .u8) e' w base ok v xs) (n : Nat) : (convert src dst v).run P (w.drewN n) = .ok (.string (strOfNums xs)) (w.drewN n) := PAsk.r_string_d hs he hd h n
theorem info5 : (Tryd.prog.info? 5).map (fun i => (i.zero, i.size, i.bytes)) = some (some (.int .u8 0), 1, 1) := PAsk.info5
/-! ### the row that a constant text is turned into: a mark stands behind its end -/
abbrev listCells : Array Value := #[Value.int IntKind.u8 108, Value.int IntKind.u8 105, Value.int IntKind.u8 115, Value.int IntKind.u8 116, Value.int IntKind.u8 32, Value.int IntKind.u8 48, Value.int IntKind.u8 32]
def marked (w : World) : World := (w.alloc (.cells listCells 5)).freeze ⟨w.heap.size, 7, none⟩ 1
theorem mark_run (w : World) : (convert 23 23 (.slice (some ⟨w.heap.size, 0, none⟩) 7 7)).run Tryd.prog (w.alloc (.cells listCells 5)) = .ok (.slice (some ⟨w.heap.size, 0, none⟩) 7 7) (marked w) := by
  have hsh : (w.alloc (.cells listCells 5)).shape? w.heap.size = some (5, 7) := by
    simp [World.shape?, World.alloc, -World.alloc_eq]
  simp [convert, run_underlying Tryd.underlying23, run_underlying Tryd.underlying5, markStringish, hsh, marked, -World.alloc_eq, Result.andThen]
theorem marked_heap (w : World) : (marked w).heap[w.heap.size]? = some (.cells listCells 5 (7, 8)) := by
  simp [marked, World.freeze, World.alloc, -World.alloc_eq]
  rw [Array.getElem_modify_self]
  simp
theorem marked_below {B : Nat} {a w : World} (h : Below B a w) (hB : B ≤ w.heap.size) : Below B a (marked w) :=
  Lib.below_freeze (h.alloc hB _) hB 1
theorem marked_C (w : World) : Kd.C (Kd.int .u8) (marked w) (some ⟨w.heap.size, 0, none⟩) 7 [108, 105, 115, 116, 32, 48, 32] := by
  refine ⟨rfl, by omega, fun _ => ⟨_, rfl, ?_⟩⟩
  intro j p hp
  refine ⟨[.int .u8 p], rfl, rfl, ?_⟩
  intro i u hu
  obtain ⟨hi, hu2⟩ := List.getElem?_eq_some_iff.1 hu
  have hi0 : i = 0 := by simpa using hi
  subst hi0
  have hu3 : u = .int .u8 p := by simpa using hu2.symm
  subst hu3
  obtain ⟨hj, hp2⟩ := List.getElem?_eq_some_iff.1 hp
  have hj7 : j < 7 := by simpa using hj
  have key : ∀ j : Nat, j < 7 → listCells[j]? = some (Value.int .u8 (([108, 105, 115, 116, 32, 48, 32] : List Int).getD j 0)) := by
    intro j hj
    rcases (by omega : j = 0 ∨ j = 1 ∨ j = 2 ∨ j = 3 ∨ j = 4 ∨ j = 5 ∨ j = 6) with rfl | rfl | rfl | rfl | rfl | rfl | rfl <;> rfl
  have e := key j hj7
  rw [List.getD_eq_getElem?_getD, hp] at e
  have ea : (Addr.add ⟨w.heap.size, 0, none⟩ (j * (Kd.int .u8).sz + 0)) = ⟨w.heap.size, j, none⟩ := by
    show (Addr.add ⟨w.heap.size, 0, none⟩ (j * 1 + 0)) = ⟨w.heap.size, j, none⟩
    unfold Addr.add
    split
    · have : j = 0 := by omega
      subst this; rfl
    · simp
  rw [ea, World.cell?, marked_heap]
  simpa using e
theorem marked_step {w : World} {A : Addr} {c : Array Value} {e : Nat} {xs : List Int} (h : Kd.C (Kd.int .u8) w (some A) 7 xs) : Kd.C (Kd.int .u8) (w.alloc (.cells c e)) (some A) 7 xs := Kd.C_alloc h _
theorem cell_new97 (w : World) : (w.alloc (.cells #[.int .u8 97] 5)).cell? ⟨w.heap.size, 0, none⟩ = some (.int .u8 97) := by
  simp [World.cell?, World.alloc, -World.alloc_eq]
theorem grow_marked {ops : Array Oper} {rest : List Oper} {o : Oper} {a : Act} {Q : Exit → Act → World → Prop} {W : World} {base : Nat} (hgd : o.guard = none) (s x : Operand)
    (ho : o.op = .call { callee := .builtin .append, args := #[s, x], argTypes := #[23, 23] }) (A : Addr) (hs : a.eval s = .slice (some A) 7 7)
    (hC : Kd.C (Kd.int .u8) W (some A) 7 [108, 105, 115, 116, 32, 48, 32]) {b : Nat} (hx : a.eval x = .slice (some ⟨b, 0, none⟩) 1 1) (hN : W.cell? ⟨b, 0, none⟩ = some (.int .u8 97)) (hsz : base ≤ W.heap.size)
    (h : ∀ v1 w1, Kd.R (Kd.int .u8) 5 w1 base (fun _ => True) v1 [108, 105, 115, 116, 32, 48, 32, 97] → Below W.heap.size W w1 → wpList Tryd.prog ops Q rest (a.put o.dst v1) w1) :
    wpList Tryd.prog ops Q (o :: rest) a W := by
  obtain ⟨i0, hi, hz0, hz1, hz2⟩ := info_parts PAsk.info5
  refine wpList_append_grows W hgd s x 23 ho 5 i0 (.int .u8 0) 1 1 Tryd.underlying23 hi hz0 hz1 hz2 rfl (by omega) (some A) 7 7 (([108, 105, 115, 116, 32, 48, 32] : List Int).map (Value.int .u8)) hs (by simp) rfl ?_ ⟨b, 0, none⟩ 1 1 [.int .u8 97] hx rfl ?_ (by simp [Value.oneCell']) (by omega) (by unfold maxLen; omega) (by omega) ?_
  · rintro b1 e j u hu
    cases e
    rw [List.getElem?_map] at hu
    obtain ⟨p, hp, rfl⟩ := Option.map_eq_some_iff.1 hu
    obtain ⟨ad, e, hc⟩ := hC.2.2 (by omega)
    cases e
    obtain ⟨c, _, hk, hcell⟩ := hc j p hp
    have hk2 : c = [Value.int .u8 p] := hk
    have := hcell 0 (.int .u8 p) (by rw [hk2]; rfl)
    simpa [show (Kd.int .u8).sz = 1 from rfl] using this
  · intro j u hu
    obtain ⟨hj, hu2⟩ := List.getElem?_eq_some_iff.1 hu
    have hj0 : j = 0 := by simpa using hj
    subst hj0
    have hu3 : u = .int .u8 97 := by simpa using hu2.symm
    subst hu3
    exact hN
  · intro v' w' hown hgrow
    refine h v' w' (Kd.R_lower (Kd.R_of_own (xs := [108, 105, 115, 116, 32, 48, 32, 97]) hown (fun _ _ => trivial)) hsz) ?_
    exact (Below.refl W.heap.size W).grown hgrow (Nat.le_refl _) (fun k hk => by cases hk)
def ask_Decode.f (a0 : ByteArray) : Option (Int × Int × Int × Int × ByteArray × List Int × Int) := PAsk.ask_Decode.f 100 a0
theorem ask_Decode.calls (a0 : ByteArray) (r1 : Int) (r2 : Int) (r3 : Int) (r4 : Int) (r5 : ByteArray) (r6 : List Int) (r7 : Int) (w : World) (hE_ : EnvE w) (h : ask_Decode.f a0 = some (r1, r2, r3, r4, r5, r6, r7)) :
    Calls Tryd.prog 10 #[.string a0] w fun e w' => ∃ v5_ : Value, e = .returned (.tuple #[.agg #[.int .i64 r1, .int .i64 r2, .int .i64 r3, .int .i64 r4, .string r5, v5_], .int .i64 r7]) ∧ Kd.R (Kd.int .u8) 5 w' w.heap.size (fun _ => True) v5_ r6 ∧ Below w.heap.size w w' :=
  PAsk.ask_Decode.calls 100 a0 r1 r2 r3 r4 r5 r6 r7 w hE_ h
def pannierlaw20_asks.f : Option Bool := PAsk.pannierlaw20_asks.f 100
theorem pannierlaw20_asks.calls (r : Bool) (w : World) (hE_ : EnvE w) (h : pannierlaw20_asks.f = some r) :
    Calls Tryd.prog 9 #[] w fun e w' => e = .returned (.bool r) ∧ Below w.heap.size w w' :=
  PAsk.pannierlaw20_asks.calls 100 r w hE_ h
def ask_Encode.f (a0 a1 a2 a3 : Int) (a4 : ByteArray) (l5 : List Int) : Option ByteArray := PAsk.ask_Encode.f 5000 a0 a1 a2 a3 a4 l5
theorem ask_Encode.calls (a0_0 : Int) (a0_1 : Int) (a0_2 : Int) (a0_3 : Int) (a0_4 : ByteArray) (A0_5 : Option Addr) (c0_5 : Nat) (l0_5 : List Int) (r : ByteArray) (w : World) (hr0_5 : Kd.C (Kd.int .u8) w A0_5 l0_5.length l0_5) (hc0_5 : l0_5.length ≤ c0_5) (hE_ : EnvE w) (h : ask_Encode.f a0_0 a0_1 a0_2 a0_3 a0_4 l0_5 = some r) :
    Calls Tryd.prog 13 #[.agg #[.int .i64 a0_0, .int .i64 a0_1, .int .i64 a0_2, .int .i64 a0_3, .string a0_4, .slice A0_5 l0_5.length c0_5]] w fun e w' => e = .returned (.string r) ∧ Below w.heap.size w w' :=
  PAsk.ask_Encode.calls 5000 a0_0 a0_1 a0_2 a0_3 a0_4 A0_5 c0_5 l0_5 r w hr0_5 hc0_5 hE_ h
end Go.Proofs.YtbkhhmgpfjemcaaDoor.PAskL
