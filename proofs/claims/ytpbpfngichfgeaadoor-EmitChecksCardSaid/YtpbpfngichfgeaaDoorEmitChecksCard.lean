/-
 An api.Entry argument, opened.
 What the rows of emit's laws list: the library's tables: the facts; a world that holds them.
 What emit.Check answers, as the printed text has it.
 Which entries can be written: what the printed law EmitChecks computes is true.
 The law EmitChecks returns true at every input; each argument reads behind the call as it read before: the statement's card.
-/
import Derived.Test.YtpbpfngichfgeaaDoorKit
import Derived.SizedLaws
import Derived.Test.YtpbpfngichfgeaaDoorEnv
import Derived.Stop.LaidErr
import Derived.Shelf.Vars
import Derived.Deep.DeepWitnessRowRef
import Derived.Test.YtpbpfngichfgeaaDoorPEmitx2
import Derived.Lib.IndexLaws
import Derived.Test.YtpbpfngichfgeaaDoorPEmitx5
import Derived.ChangeMaps5
namespace Go.Proofs.YtpbpfngichfgeaaDoor
open Go.ChangeShapes Go.WideShapes Go.ChangeAt Go.RowKit

section
open Go.Joins Go.Deep
variable {H : Type} {enc : TypeId × Value → H} {w : World} {base : Nat} {spare : Nat → Bool} {held : Bool}
theorem open_aggD10 {P : Program} {r : Reach} {b0 : Nat} {t : TypeId} {f0 f1 f2 f3 f4 f5 f6 f7 f8 f9 : Field} {v : Value} {d : DataW H} {p : List MemPlace} (hs : P.underlying t = some (.struct #[f0, f1, f2, f3, f4, f5, f6, f7, f8, f9])) (hone : oneCellFields P #[f0, f1, f2, f3, f4, f5, f6, f7, f8, f9] = true) (hC : P.cellsOf t = 10)
  (hv : Value.okWide P w r b0 t v) (h : DataW.Trod enc P w base spare held t v d p) :
  ∃ (c0 c1 c2 c3 c4 c5 c6 c7 c8 c9 : Value) (n : Nat) (y0 y1 y2 y3 y4 y5 y6 y7 y8 y9 : DataW H × List MemPlace), v = .agg #[c0, c1, c2, c3, c4, c5, c6, c7, c8, c9] ∧ d = .agg [y0.1, y1.1, y2.1, y3.1, y4.1, y5.1, y6.1, y7.1, y8.1, y9.1] ∧ DataW.trod enc P w base spare held n f0.type [c0] = some y0 ∧ DataW.trod enc P w base spare held n f1.type [c1] = some y1 ∧ DataW.trod enc P w base spare held n f2.type [c2] = some y2 ∧ DataW.trod enc P w base spare held n f3.type [c3] = some y3 ∧ DataW.trod enc P w base spare held n f4.type [c4] = some y4 ∧ DataW.trod enc P w base spare held n f5.type [c5] = some y5 ∧ DataW.trod enc P w base spare held n f6.type [c6] = some y6 ∧ DataW.trod enc P w base spare held n f7.type [c7] = some y7 ∧ DataW.trod enc P w base spare held n f8.type [c8] = some y8 ∧ DataW.trod enc P w base spare held n f9.type [c9] = some y9 := by
 obtain ⟨cs, rfl, hsz⟩ := okWide_struct hs hv
 obtain ⟨l⟩ := cs
 match l, hsz.trans hC with
 | [c0, c1, c2, c3, c4, c5, c6, c7, c8, c9], _ =>
  obtain ⟨fuel, hf⟩ := h
  obtain ⟨xs, n, _, hx, _, hlen, hg⟩ := DataW.trod_struct hs hf
  obtain ⟨o0, k0⟩ := hone_of hone 0 f0 rfl
  obtain ⟨o1, k1⟩ := hone_of hone 1 f1 rfl
  obtain ⟨o2, k2⟩ := hone_of hone 2 f2 rfl
  obtain ⟨o3, k3⟩ := hone_of hone 3 f3 rfl
  obtain ⟨o4, k4⟩ := hone_of hone 4 f4 rfl
  obtain ⟨o5, k5⟩ := hone_of hone 5 f5 rfl
  obtain ⟨o6, k6⟩ := hone_of hone 6 f6 rfl
  obtain ⟨o7, k7⟩ := hone_of hone 7 f7 rfl
  obtain ⟨o8, k8⟩ := hone_of hone 8 f8 rfl
  obtain ⟨o9, k9⟩ := hone_of hone 9 f9 rfl
  match xs, hlen with
  | [y0, y1, y2, y3, y4, y5, y6, y7, y8, y9], _ =>
   exact ⟨c0, c1, c2, c3, c4, c5, c6, c7, c8, c9, n, y0, y1, y2, y3, y4, y5, y6, y7, y8, y9, rfl, (Prod.mk.inj hx).1, by simpa [Value.cells, o0, k0] using hg 0 f0 rfl, by simpa [Value.cells, o1, k1] using hg 1 f1 rfl, by simpa [Value.cells, o2, k2] using hg 2 f2 rfl, by simpa [Value.cells, o3, k3] using hg 3 f3 rfl, by simpa [Value.cells, o4, k4] using hg 4 f4 rfl, by simpa [Value.cells, o5, k5] using hg 5 f5 rfl, by simpa [Value.cells, o6, k6] using hg 6 f6 rfl, by simpa [Value.cells, o7, k7] using hg 7 f7 rfl, by simpa [Value.cells, o8, k8] using hg 8 f8 rfl, by simpa [Value.cells, o9, k9] using hg 9 f9 rfl⟩
theorem ent_one : Tryd.prog.cellsOf 23 = 10 := by kernel_rfl
set_option maxRecDepth 100000 in
theorem open_ent {r : Reach} {b0 : Nat} {v : Value} {d : DataW H} {p : List MemPlace} (hv : Value.okWide Tryd.prog w r b0 23 v) (h : DataW.Trod enc Tryd.prog w base spare held 23 v d p) :
  ∃ (path link : ByteArray) (kd md uid gid mt sz : Int) (user group : ByteArray), v = .agg #[.string path, .string link, .int .i64 kd, .int .i64 md, .int .i64 uid, .int .i64 gid, .int .i64 mt, .int .i64 sz, .string user, .string group] ∧ d = .agg [.lit (.string path.data.toList), .lit (.string link.data.toList), .lit (.int .i64 kd), .lit (.int .i64 md), .lit (.int .i64 uid), .lit (.int .i64 gid), .lit (.int .i64 mt), .lit (.int .i64 sz), .lit (.string user.data.toList), .lit (.string group.data.toList)] := by
 obtain ⟨c0, c1, c2, c3, c4, c5, c6, c7, c8, c9, n, y0, y1, y2, y3, y4, y5, y6, y7, y8, y9, rfl, hd, t0, t1, t2, t3, t4, t5, t6, t7, t8, t9⟩ := open_aggD10 Tryd.underlying23 (by kernel_rfl) ent_one hv h
 obtain ⟨x0, e0, r0, _⟩ := DataW.trod_string Tryd.underlying9 t0
 obtain ⟨x1, e1, r1, _⟩ := DataW.trod_string Tryd.underlying9 t1
 obtain ⟨x2, e2, r2, _⟩ := DataW.trod_int Tryd.underlying3 t2
 obtain ⟨x3, e3, r3, _⟩ := DataW.trod_int Tryd.underlying3 t3
 obtain ⟨x4, e4, r4, _⟩ := DataW.trod_int Tryd.underlying2 t4
 obtain ⟨x5, e5, r5, _⟩ := DataW.trod_int Tryd.underlying2 t5
 obtain ⟨x6, e6, r6, _⟩ := DataW.trod_int Tryd.underlying2 t6
 obtain ⟨x7, e7, r7, _⟩ := DataW.trod_int Tryd.underlying2 t7
 obtain ⟨x8, e8, r8, _⟩ := DataW.trod_string Tryd.underlying9 t8
 obtain ⟨x9, e9, r9, _⟩ := DataW.trod_string Tryd.underlying9 t9
 obtain ⟨rfl, rfl, rfl, rfl, rfl, rfl, rfl, rfl, rfl, rfl⟩ : c0 = _ ∧ c1 = _ ∧ c2 = _ ∧ c3 = _ ∧ c4 = _ ∧ c5 = _ ∧ c6 = _ ∧ c7 = _ ∧ c8 = _ ∧ c9 = _ := ⟨List.head_eq_of_cons_eq e0, List.head_eq_of_cons_eq e1, List.head_eq_of_cons_eq e2, List.head_eq_of_cons_eq e3, List.head_eq_of_cons_eq e4, List.head_eq_of_cons_eq e5, List.head_eq_of_cons_eq e6, List.head_eq_of_cons_eq e7, List.head_eq_of_cons_eq e8, List.head_eq_of_cons_eq e9⟩
 exact ⟨x0, x1, x2, x3, x4, x5, x6, x7, x8, x9, rfl, by rw [hd, r0, r1, r2, r3, r4, r5, r6, r7, r8, r9]⟩
end
end Go.Proofs.YtpbpfngichfgeaaDoor

namespace Go.Proofs.YtpbpfngichfgeaaDoor
open Go.ChangeShapes Go.WideShapes Go.RowKit

theorem gTabType : (Tryd.prog.globals[1]?).map (·.type) = some 111 := by kernel_rfl
theorem cellsTab : Tryd.prog.cellsOf 111 = 20 := by kernel_rfl
theorem cellsU64 : Tryd.prog.cellsOf 98 = 1 := by kernel_rfl
theorem tabData_pow : Rows.laid_internal_strconv_uint64pow10 = (Lib.tabData .u64 Lib.pow10Tab : DataW Unit) := by kernel_rfl
theorem tab_met {W : World} {rest : List (String × DataW Unit)} (h : laidMet Tryd.prog (("internal/strconv.uint64pow10", Rows.laid_internal_strconv_uint64pow10) :: rest) W) : Lib.TabIs Tryd.prog W "internal/strconv.uint64pow10" .u64 Lib.pow10Tab := by
 rw [tabData_pow] at h
 exact Lib.tabIs_of_head gTab gTabType Tryd.underlying111 Tryd.underlying98 cellsU64 cellsTab h
abbrev laidM : List (String × DataW Unit) := [("math/bits.deBruijn32tab", Rows.laid_math_bits_deBruijn32tab), ("math/bits.deBruijn64tab", Rows.laid_math_bits_deBruijn64tab), ("internal/strconv.uint64pow10", Rows.laid_internal_strconv_uint64pow10)]
theorem size_of_shaped {W : World} (h : W.ShapedOpen Tryd.prog) : 4 ≤ W.heap.size := by
 obtain ⟨o, _, ho, _⟩ := h.2 4 (by decide +kernel) (of_decide_eq_true (by kernel_rfl))
 rcases Nat.lt_or_ge 4 W.heap.size with hl | hl
 ·omega
 ·simp [Array.getElem?_eq_none hl] at ho
theorem envE_of {W : World} (hL : laidMetH Tryd.prog laidM W) (hsh : W.ShapedOpen Tryd.prog) : EnvE W := by
 have h : laidMet Tryd.prog laidM W := hL
 exact { env := { tab := tab_met h.tail.tail, mx := cell_of_shapedOpen_int (zero := #[.int .i64 0]) (t := 3) hsh (of_decide_eq_true (by kernel_rfl)) (by kernel_rfl) rfl (by kernel_rfl) (by kernel_rfl) Tryd.underlying3, size := size_of_shaped hsh } }
noncomputable def laidWorld (os : Os) : World :=
 let w0 := World.holding Tryd.prog os ⟨#[], #[], []⟩
 let w1 : World := { w0 with heap := w0.heap.modify 1 fun
   | .cells _ t frozen => .cells #[.int .u64 1, .int .u64 10, .int .u64 100, .int .u64 1000, .int .u64 10000, .int .u64 100000, .int .u64 1000000, .int .u64 10000000, .int .u64 100000000, .int .u64 1000000000, .int .u64 10000000000, .int .u64 100000000000, .int .u64 1000000000000, .int .u64 10000000000000, .int .u64 100000000000000, .int .u64 1000000000000000, .int .u64 10000000000000000, .int .u64 100000000000000000, .int .u64 1000000000000000000, .int .u64 10000000000000000000] t frozen
   | o => o }
 let w2 : World := { w1 with heap := w1.heap.modify 2 fun
   | .cells _ t frozen => .cells #[.int .u8 0, .int .u8 1, .int .u8 28, .int .u8 2, .int .u8 29, .int .u8 14, .int .u8 24, .int .u8 3, .int .u8 30, .int .u8 22, .int .u8 20, .int .u8 15, .int .u8 25, .int .u8 17, .int .u8 4, .int .u8 8, .int .u8 31, .int .u8 27, .int .u8 13, .int .u8 23, .int .u8 21, .int .u8 19, .int .u8 16, .int .u8 7, .int .u8 26, .int .u8 12, .int .u8 18, .int .u8 6, .int .u8 11, .int .u8 5, .int .u8 10, .int .u8 9] t frozen
   | o => o }
 { w2 with heap := w2.heap.modify 3 fun
   | .cells _ t frozen => .cells #[.int .u8 0, .int .u8 1, .int .u8 56, .int .u8 2, .int .u8 57, .int .u8 49, .int .u8 28, .int .u8 3, .int .u8 61, .int .u8 58, .int .u8 42, .int .u8 50, .int .u8 38, .int .u8 29, .int .u8 17, .int .u8 4, .int .u8 62, .int .u8 47, .int .u8 59, .int .u8 36, .int .u8 45, .int .u8 43, .int .u8 51, .int .u8 22, .int .u8 53, .int .u8 39, .int .u8 33, .int .u8 30, .int .u8 24, .int .u8 18, .int .u8 12, .int .u8 5, .int .u8 63, .int .u8 55, .int .u8 48, .int .u8 27, .int .u8 60, .int .u8 41, .int .u8 37, .int .u8 16, .int .u8 46, .int .u8 35, .int .u8 44, .int .u8 21, .int .u8 52, .int .u8 32, .int .u8 23, .int .u8 11, .int .u8 54, .int .u8 26, .int .u8 40, .int .u8 15, .int .u8 34, .int .u8 20, .int .u8 31, .int .u8 10, .int .u8 25, .int .u8 14, .int .u8 19, .int .u8 9, .int .u8 13, .int .u8 8, .int .u8 7, .int .u8 6] t frozen
   | o => o }
theorem laid_met (os : Os) (args : Array Value) : laidMetH Tryd.prog laidM ((laidWorld os).forCall (fun _ _ => 0) ⟨#[], args, []⟩).memory :=
 laidMetH_of_parts (laidMet_of_run' 40 (by kernel_rfl) (by kernel_rfl)) (by kernel_rfl)
end Go.Proofs.YtpbpfngichfgeaaDoor

namespace Go.Proofs.YtpbpfngichfgeaaDoor.PEmit
set_option linter.unusedVariables false
set_option linter.unusedSimpArgs false
open Go.RowKit Go.Proofs.YtpbpfngichfgeaaDoor Go.Proofs.YtpbpfngichfgeaaDoorW.PrintWords Go.Proofs.YtpbpfngichfgeaaDoorW.PrintLast Go.Proofs.YtpbpfngichfgeaaDoorW.PrintMore

def any0 (s : ByteArray) : Bool := s.data.toList.any (· == 0)
theorem has0_any (s : ByteArray) : has0 s = any0 s := by
 unfold has0 any0
 rw [Bool.eq_iff_iff, decide_eq_true_eq, List.any_eq_true]
 have hge := Lib.indexByte_ge s.data.toList 0
 constructor
 ·intro h
  obtain ⟨o, ho⟩ : ∃ o : Nat, Lib.indexByte s.data.toList 0 = o := ⟨(Lib.indexByte s.data.toList 0).toNat, by omega⟩
  exact ⟨0, List.mem_of_getElem? (Lib.indexByte_some ho).1, rfl⟩
 ·rintro ⟨x, hx, h0⟩
  rcases (by omega : 0 ≤ Lib.indexByte s.data.toList 0 ∨ Lib.indexByte s.data.toList 0 = -1) with h1 | h1
  ·exact h1
  ·obtain ⟨k, hk, e⟩ := List.getElem_of_mem hx
   refine absurd ?_ (Lib.indexByte_none h1 k)
   rw [List.getElem?_eq_getElem hk, e]
   simpa using h0
theorem any0_append (a b : ByteArray) : any0 (a ++ b) = (any0 a || any0 b) := by simp [any0]
theorem bt_zero (s : ByteArray) (i : Nat) (h : i < s.size) : (bt s (i : Int) == 0) = (s.data.toList[i]'(by simpa using h) == 0) := by
 have e : bt s (i : Int) = ((s[i]'h).toNat : Int) := (bt_at s (i : Int) (by simpa using h)).symm
 rw [e]
 have e2 : s[i]'h = s.data.toList[i]'(by simpa using h) := by simp [ByteArray.getElem_eq_getElem_data]
 rw [e2, Bool.eq_iff_iff]
 generalize s.data.toList[i]'(by simpa using h) = x
 simp only [beq_iff_eq]
 constructor
 ·intro h; exact UInt8.toNat_inj.1 (by simpa using h)
 ·rintro rfl; rfl
def goodE (p : ByteArray) (lb nul : Bool) (kd md uid gid sz : Int) : Prop :=
 1 ≤ kd ∧ kd ≤ 4 ∧ 0 ≤ md ∧ md ≤ 4095 ∧ 0 ≤ uid ∧ 0 ≤ gid ∧ 0 ≤ sz ∧ (kd = 1 ∨ sz = 0) ∧ ((kd = 2 ∨ kd = 3) ↔ lb = true) ∧ p.toList ≠ [] ∧ nul = false
section
variable (p l u g : ByteArray) (kd md uid gid mt sz : Int)
theorem j2_val (hp : p.size ≤ 5000) (hl : l.size ≤ 5000) (hu : u.size ≤ 5000) (hg : g.size ≤ 5000) (b : Bool) (k : Nat) :
  emit_Check.j2 (k + 1) b p l kd md uid gid mt sz u g = some (if b = true then 90 else if p.toList = [] then 90 else if (any0 p || any0 l || any0 u || any0 g) = true then 90 else 0) := by
 have hcon : strings_Contains.f (((p ++ l) ++ u) ++ g) (⟨#[0]⟩ : ByteArray) = some (any0 p || any0 l || any0 u || any0 g) := by
  unfold strings_Contains.f
  rw [if_pos rfl, has0_any, any0_append, any0_append, any0_append]
 have s1 : (p ++ l).size = p.size + l.size := ByteArray.size_append
 have s2 : ((p ++ l) ++ u).size = p.size + l.size + u.size := by rw [ByteArray.size_append, s1]
 rw [emit_Check.j2, hcon, Option.bind_some, if_pos (show p.size + l.size ≤ _ by omega), if_pos (show (p ++ l).size + u.size ≤ _ by omega), if_pos (show ((p ++ l) ++ u).size + g.size ≤ _ by omega)]
 generalize (any0 p || any0 l || any0 u || any0 g) = nul
 by_cases h1 : b = true
 ·rw [if_pos h1, if_pos h1]
 ·rw [if_neg h1, if_neg h1]
  by_cases h2 : p.toList = []
  ·rw [if_pos h2, if_pos h2]
  ·rw [if_neg h2, if_neg h2]
   cases nul <;> rfl
theorem check_val (hp : p.size ≤ 5000) (hl : l.size ≤ 5000) (hu : u.size ≤ 5000) (hg : g.size ≤ 5000) (k : Nat) : ∃ c, emit_Check.f (k + 3) p l kd md uid gid mt sz u g = some c ∧
  (goodE p (l.toList != []) (any0 p || any0 l || any0 u || any0 g) kd md uid gid sz → c = 0) ∧ (¬ goodE p (l.toList != []) (any0 p || any0 l || any0 u || any0 g) kd md uid gid sz → c = 90) := by
 have h2 := j2_val p l u g kd md uid gid mt sz hp hl hu hg
 have hj0 : emit_Check.j0 (k + 3) true p l kd md uid gid mt sz u g = some 90 := by rw [emit_Check.j0, if_pos rfl]
 have hj1 : ∀ b, emit_Check.j1 (k + 2) b p l kd md uid gid mt sz u g = emit_Check.j2 (k + 1) (if b = true then true else if kd = 2 then (true != (l.toList != ([] : List UInt8))) else ((kd == 3) != (l.toList != ([] : List UInt8)))) p l kd md uid gid mt sz u g := by
  intro b
  rw [emit_Check.j1]
  cases b
  ·simp only [Bool.false_eq_true, if_false]; split <;> rfl
  ·rfl
 generalize (any0 p || any0 l || any0 u || any0 g) = nul at *
 generalize (l.toList != ([] : List UInt8)) = lb at *
 by_cases hk : 1 ≤ kd ∧ kd ≤ 4
 ·obtain ⟨t, ht, ht0⟩ : ∃ t, kind_Type.f kd = some t ∧ t ≠ 0 := by
   rcases (by omega : kd = 1 ∨ kd = 2 ∨ kd = 3 ∨ kd = 4) with rfl | rfl | rfl | rfl <;> exact ⟨_, rfl, by decide⟩
  unfold emit_Check.f
  rw [ht, Option.bind_some, if_neg ht0, hj0]
  by_cases c1 : md < 0
  ·exact ⟨90, by rw [if_pos c1], fun h => by unfold goodE at h; omega, fun _ => rfl⟩
  rw [if_neg c1]
  by_cases c2 : md > 4095
  ·exact ⟨90, by rw [if_pos c2], fun h => by unfold goodE at h; omega, fun _ => rfl⟩
  rw [if_neg c2]
  by_cases c3 : uid < 0
  ·exact ⟨90, by rw [if_pos c3], fun h => by unfold goodE at h; omega, fun _ => rfl⟩
  rw [if_neg c3]
  by_cases c4 : gid < 0
  ·exact ⟨90, by rw [if_pos c4], fun h => by unfold goodE at h; omega, fun _ => rfl⟩
  rw [if_neg c4]
  by_cases c5 : sz < 0
  ·exact ⟨90, by rw [decide_eq_true c5, hj0], fun h => by unfold goodE at h; omega, fun _ => rfl⟩
  rw [decide_eq_false c5, emit_Check.j0, if_neg (by decide), hj1, hj1, h2, h2]
  unfold goodE
  by_cases hpl : p.toList = []
  ·refine ⟨90, ?_, fun h => absurd hpl h.2.2.2.2.2.2.2.2.2.1, fun _ => rfl⟩
   split <;> (repeat' split) <;> rfl
  ·rw [if_neg hpl]
   cases nul with
   | true =>
    refine ⟨90, ?_, fun h => by simp at h, fun _ => rfl⟩
    split <;> (repeat' split) <;> first | rfl | contradiction
   | false =>
    simp only [Bool.false_eq_true, if_false]
    rcases (by omega : kd = 1 ∨ kd = 2 ∨ kd = 3 ∨ kd = 4) with rfl | rfl | rfl | rfl <;> cases lb <;> by_cases c6 : sz = 0
    all_goals first
     | exact ⟨0, by simp [c6], fun _ => rfl, fun h => absurd ⟨by omega, by omega, by omega, by omega, by omega, by omega, by omega, by omega, by decide, hpl, (by first | exact trivial | rfl)⟩ h⟩
     | exact ⟨90, by simp [c6], fun h => absurd h (by rintro ⟨_, _, _, _, _, _, _, q1, q2, _⟩; first | omega | exact absurd q2 (by decide)), fun _ => rfl⟩
 ·have ht : kind_Type.f kd = some 0 := by
   unfold kind_Type.f
   rw [if_neg (by omega), if_neg (by omega), if_neg (by omega), if_neg (by omega)]
  exact ⟨90, by unfold emit_Check.f; rw [ht, Option.bind_some, if_pos rfl, hj0], fun h => by unfold goodE at h; omega, fun _ => rfl⟩
end
end Go.Proofs.YtpbpfngichfgeaaDoor.PEmit

namespace Go.Proofs.YtpbpfngichfgeaaDoor.PEmit
set_option linter.unusedVariables false
set_option linter.unusedSimpArgs false
open Go.RowKit Go.Proofs.YtpbpfngichfgeaaDoor Go.Proofs.YtpbpfngichfgeaaDoorW.PrintWords Go.Proofs.YtpbpfngichfgeaaDoorW.PrintLast Go.Proofs.YtpbpfngichfgeaaDoorW.PrintMore

theorem wrapIn (n : Int) (h : -9223372036854775808 ≤ n ∧ n ≤ 9223372036854775807) : wrap64 n = n := by unfold wrap64; omega
section
variable (p l u g : ByteArray) (kd md uid gid mt sz : Int)
theorem l1_run (s : ByteArray) (hs : s.size ≤ 5000) (L : List ByteArray) (n j : Int) : ∀ m i nul k, s.size = i + m →
  pannierlaw18_EmitChecks.l1 (k + m + 1) nul s L n j (s.size : Int) (i : Nat) p l kd md uid gid mt sz u g = pannierlaw18_EmitChecks.l0 k (nul || (s.data.toList.drop i).any (· == 0)) L n (wrap64 (j + 1)) p l kd md uid gid mt sz u g
 | 0, i, nul, k, h => by
  rw [pannierlaw18_EmitChecks.l1, if_neg (by omega)]
  rw [List.drop_eq_nil_of_le (by simp; omega)]
  simp
 | m + 1, i, nul, k, h => by
  have e : k + (m + 1) + 1 = (k + m + 1) + 1 := by omega
  have hw : wrap64 ((i : Int) + 1) = ((i + 1 : Nat) : Int) := by rw [wrapIn _ (by omega)]; omega
  have hi : i < s.data.toList.length := by simp; omega
  rw [e, pannierlaw18_EmitChecks.l1, if_pos (by omega), hw, List.drop_eq_getElem_cons hi, List.any_cons]
  cases nul with
  | true => rw [if_pos rfl, l1_run s hs L n j m (i + 1) true k (by omega)]; simp
  | false =>
   rw [if_neg (by decide), if_pos (by omega), if_pos (by omega), l1_run s hs L n j m (i + 1) _ k (by omega), bt_zero s i (by omega)]
   simp
theorem l0_one (nul : Bool) (x : ByteArray) (L : List ByteArray) (j k : Nat) (hj : j < 4) (hL : L.length = 4) (hx : rdOf ByteArray.empty L (j : Int) = x) (hs : x.size ≤ 5000) :
  pannierlaw18_EmitChecks.l0 (k + x.size + 2) nul L 4 (j : Int) p l kd md uid gid mt sz u g = pannierlaw18_EmitChecks.l0 k (nul || any0 x) L 4 ((j + 1 : Nat) : Int) p l kd md uid gid mt sz u g := by
 have hw : wrap64 ((j : Int) + 1) = ((j + 1 : Nat) : Int) := by rw [wrapIn _ (by omega)]; omega
 have h := l1_run p l u g kd md uid gid mt sz x hs L 4 (j : Int) x.size 0 nul k (by omega)
 rw [hw] at h
 rw [show k + x.size + 2 = (k + x.size + 1) + 1 from rfl, pannierlaw18_EmitChecks.l0, if_pos (by omega), if_pos (by omega), if_pos (by rw [hL]; omega), hx]
 exact h
set_option maxHeartbeats 4000000 in
set_option maxRecDepth 100000 in
theorem l0_end (nul : Bool) (L : List ByteArray) (k : Nat) (c : Int) (hchk : emit_Check.f k p l kd md uid gid mt sz u g = some c) (hc : goodE p (l.toList != []) nul kd md uid gid sz → c = 0) (hc' : ¬ goodE p (l.toList != []) nul kd md uid gid sz → c = 90) :
  pannierlaw18_EmitChecks.l0 (k + 1) nul L 4 4 p l kd md uid gid mt sz u g = some true := by
 rw [pannierlaw18_EmitChecks.l0, if_neg (by decide)]
 simp only [hchk, Option.bind_some]
 clear hchk
 generalize (l.toList != ([] : List UInt8)) = lb at *
 unfold goodE at hc hc'
 by_cases hp : p.toList = []
 ·have h90 : c = 90 := hc' (fun h => h.2.2.2.2.2.2.2.2.2.1 hp)
  subst h90
  cases nul <;> cases lb <;> (repeat' split) <;> first | rfl | contradiction | (simp_all; done)
 ·cases nul with
  | true =>
   have h90 : c = 90 := hc' (fun h => by simp at h)
   subst h90
   cases lb <;> (repeat' split) <;> first | rfl | contradiction | (simp_all; done)
  | false =>
   simp only [hp, Bool.false_eq_true, if_false, not_false_eq_true, if_true, and_true, ne_eq] at hc hc' ⊢
   by_cases g1 : 1 ≤ kd
   case neg =>
    have h90 : c = 90 := hc' (fun h => by omega)
    subst h90
    rw [if_neg (by omega)]
    by_cases k3 : kd = 3 <;> simp [k3, g1] <;> omega
   by_cases g2 : kd ≤ 4
   case neg =>
    have h90 : c = 90 := hc' (fun h => by omega)
    subst h90
    by_cases k2 : kd = 2
    ·subst k2; simp [g1, g2]
    ·simp [k2, g1, g2]
   by_cases g3 : 0 ≤ md
   case neg =>
    have h90 : c = 90 := hc' (fun h => by omega)
    subst h90
    by_cases k2 : kd = 2
    ·subst k2; simp [g1, g2, g3]
    ·simp [k2, g1, g2, g3]
   by_cases g4 : md ≤ 4095
   case neg =>
    have h90 : c = 90 := hc' (fun h => by omega)
    subst h90
    by_cases k2 : kd = 2
    ·subst k2; simp [g1, g2, g3, g4]
    ·simp [k2, g1, g2, g3, g4]
   by_cases g5 : 0 ≤ uid
   case neg =>
    have h90 : c = 90 := hc' (fun h => by omega)
    subst h90
    by_cases k2 : kd = 2
    ·subst k2; simp [g1, g2, g3, g4, g5]
    ·simp [k2, g1, g2, g3, g4, g5]
   by_cases g6 : 0 ≤ gid
   case neg =>
    have h90 : c = 90 := hc' (fun h => by omega)
    subst h90
    by_cases k2 : kd = 2
    ·subst k2; simp [g1, g2, g3, g4, g5, g6]
    ·simp [k2, g1, g2, g3, g4, g5, g6]
   by_cases g7 : 0 ≤ sz
   case neg =>
    have h90 : c = 90 := hc' (fun h => by omega)
    subst h90
    by_cases k2 : kd = 2
    ·subst k2; simp [g1, g2, g3, g4, g5, g6, g7]
    ·simp [k2, g1, g2, g3, g4, g5, g6, g7]
   rcases (by omega : kd = 1 ∨ kd = 2 ∨ kd = 3 ∨ kd = 4) with rfl | rfl | rfl | rfl <;> cases lb <;> by_cases z : sz = 0
   all_goals first
    | (have h0 : c = 0 := hc (by refine ⟨by omega, by omega, by omega, by omega, by omega, by omega, by omega, by omega, ?_⟩; simp); simp [h0, g3, g4, g5, g6, g7, z]; done)
    | (have h90 : c = 90 := hc' (by rintro ⟨_, _, _, _, _, _, _, q1, q2⟩; first | omega | simp at q2); subst h90; simp [g3, g4, g5, g6, g7, z]; done)
theorem fits_spec : pannierlaw18_fits.f p l kd md uid gid mt sz u g = some (decide (p.size ≤ 5000 ∧ l.size ≤ 5000 ∧ u.size ≤ 5000 ∧ g.size ≤ 5000)) := by
 unfold pannierlaw18_fits.f
 by_cases h1 : p.size ≤ 5000
 ·rw [if_pos (by omega)]
  by_cases h2 : l.size ≤ 5000
  ·rw [if_pos (by omega)]
   by_cases h3 : u.size ≤ 5000
   ·rw [if_pos (by omega)]
    congr 1
    rw [decide_eq_decide]
    omega
   ·rw [if_neg (by omega)]; simp [h3]
  ·rw [if_neg (by omega)]; simp [h2]
 ·rw [if_neg (by omega)]; simp [h1]
theorem writes_true : pannierlaw18_writes.f 220 = some true := by decide +kernel
theorem writes_ge : ∀ n, pannierlaw18_writes.f (220 + n) = some true
 | 0 => writes_true
 | n + 1 => pannierlaw18_writes.mono (220 + n) _ (writes_ge n)
/-- The law's meaning: it answers true. -/
theorem checks_true : ∃ k, pannierlaw18_EmitChecks.f k p l kd md uid gid mt sz u g = some true := by
 by_cases hf : p.size ≤ 5000 ∧ l.size ≤ 5000 ∧ u.size ≤ 5000 ∧ g.size ≤ 5000
 ·obtain ⟨hp, hl, hu, hg⟩ := hf
  obtain ⟨c, hchk, hc, hc'⟩ := check_val p l u g kd md uid gid mt sz hp hl hu hg 217
  refine ⟨220 + 1 + g.size + 2 + u.size + 2 + l.size + 2 + p.size + 2, ?_⟩
  unfold pannierlaw18_EmitChecks.f
  rw [show 220 + 1 + g.size + 2 + u.size + 2 + l.size + 2 + p.size + 2 = 220 + (1 + g.size + 2 + u.size + 2 + l.size + 2 + p.size + 2) by omega, writes_ge, Option.bind_some, if_pos rfl, fits_spec, Option.bind_some, if_pos (by simp [hp, hl, hu, hg]), Option.bind_some]
  rw [show 220 + (1 + g.size + 2 + u.size + 2 + l.size + 2 + p.size + 2) = 220 + 1 + g.size + 2 + u.size + 2 + l.size + 2 + p.size + 2 by omega]
  have a0 := l0_one p l u g kd md uid gid mt sz false p [p, l, u, g] 0 (220 + 1 + g.size + 2 + u.size + 2 + l.size + 2) (by decide) rfl rfl hp
  have a1 := l0_one p l u g kd md uid gid mt sz (false || any0 p) l [p, l, u, g] 1 (220 + 1 + g.size + 2 + u.size + 2) (by decide) rfl rfl hl
  have a2 := l0_one p l u g kd md uid gid mt sz (false || any0 p || any0 l) u [p, l, u, g] 2 (220 + 1 + g.size + 2) (by decide) rfl rfl hu
  have a3 := l0_one p l u g kd md uid gid mt sz (false || any0 p || any0 l || any0 u) g [p, l, u, g] 3 (220 + 1) (by decide) rfl rfl hg
  refine Eq.trans a0 (Eq.trans a1 (Eq.trans a2 (Eq.trans a3 ?_)))
  refine l0_end p l u g kd md uid gid mt sz _ _ 220 c hchk ?_ ?_
  ·simpa using hc
  ·simpa using hc'
 ·refine ⟨220, ?_⟩
  unfold pannierlaw18_EmitChecks.f
  rw [writes_true, Option.bind_some, if_pos rfl, fits_spec, Option.bind_some, if_neg (by simpa using hf)]
end
end Go.Proofs.YtpbpfngichfgeaaDoor.PEmit

namespace Go.Proofs.YtpbpfngichfgeaaDoor.emitChecks
open Go.ChangeShapes Go.WideShapes Go.ChangeAt Go.RowKit

set_option maxRecDepth 100000 in
theorem contract (H : Type) (enc : TypeId × Value → H) (W : World) (base : Nat) (args : Array Value) (ds gs : List (DataW H)) (before : List MemPlace)
  (hval : ∀ (j : Nat) t v, Tryd.f5.params[j]? = some t → args[j]? = some v → Value.okWide Tryd.prog W .any base t v)
  (hW : DataW.Whole enc Tryd.prog Tryd.f5.params.toList Rows.emitChecksSpec.vars false W args.toList ds gs before)
  (_hcond : ∀ k, (OpenSpec.ofChange Rows.emitChecksSpec).cond = some k → k H (ds ++ gs) = true)
  (hsz : (DataW.weightsEach Tryd.prog (Tryd.f5.params.toList ++ (OpenSpec.ofChange Rows.emitChecksSpec).bare.plain.varTypes Tryd.prog) (ds ++ gs)).all (· ≤ reachBytes) = true)
  (hL : laidMetH Tryd.prog Rows.emitChecksRow.laid W) (hsh : W.ShapedOpen Tryd.prog) :
  Calls Tryd.prog 5 args W fun e W' => ∃ v, e = .returned v ∧ Rows.emitChecksSpec.post enc Tryd.prog Tryd.f5 false true false false W args v W' := by
 have hW' := hW
 obtain ⟨p, q, hA0, hV, rfl, hfz, hnd⟩ := hW
 have hA : DataW.TrodAll enc Tryd.prog W 0 (fun _ => true) true Tryd.f5.params.toList args.toList ds p := hA0
 rw [Tryd.params5] at hA hval
 obtain ⟨v0, vs0, d0, ds0, p0, q0, hargs, rfl, rfl, h0, r0⟩ := trodAll_cons hA
 obtain ⟨rfl, rfl, rfl⟩ := trodAll_nil r0
 obtain rfl : args = #[v0] := by cases args; simp_all
 obtain ⟨rfl, rfl⟩ := trodVars_none hV
 obtain ⟨path0, link0, kd0, md0, uid0, gid0, mt0, sz0, user0, group0, rfl, rfl⟩ := open_ent (hval 0 23 v0 rfl rfl) h0
 obtain ⟨k, hk⟩ := PEmit.checks_true path0 link0 user0 group0 kd0 md0 uid0 gid0 mt0 sz0
 refine (PEmit.pannierlaw18_EmitChecks.calls k path0 link0 kd0 md0 uid0 gid0 mt0 sz0 user0 group0 true W (envE_of hL hsh) hk).mono fun e W' ⟨he, hi⟩ => ?_
 subst he
 exact ⟨_, rfl, post_law (tb := 4) laidOut hW' rfl (by kernel_rfl) Tryd.underlying4 (by kernel_rfl) (by kernel_rfl) hi⟩

theorem reads (os : Os) {H : Type} (enc : TypeId × Value → H) : ∃ places, DataW.whole enc Tryd.prog ((laidWorld os).forCall (fun _ _ => 0) ⟨#[], #[.agg #[.string ⟨#[]⟩, .string ⟨#[]⟩, .int .i64 0, .int .i64 0, .int .i64 0, .int .i64 0, .int .i64 0, .int .i64 0, .string ⟨#[]⟩, .string ⟨#[]⟩]], []⟩).memory Tryd.f5.params.toList Rows.emitChecksSpec.vars false (#[.agg #[.string ⟨#[]⟩, .string ⟨#[]⟩, .int .i64 0, .int .i64 0, .int .i64 0, .int .i64 0, .int .i64 0, .int .i64 0, .string ⟨#[]⟩, .string ⟨#[]⟩]] : Array Value).toList 12 = some ([.agg [.lit (.string []), .lit (.string []), .lit (.int .i64 0), .lit (.int .i64 0), .lit (.int .i64 0), .lit (.int .i64 0), .lit (.int .i64 0), .lit (.int .i64 0), .lit (.string []), .lit (.string [])]], [], places) :=
 ⟨[], by kernel_rfl⟩

set_option maxRecDepth 100000 in
theorem lifted (os : Os) (started : os.Started) (H : Type) (enc : TypeId × Value → H) (F : Stop.Interp) :
  ReturnsInHanded {} Tryd.checked os 5 .any ((OpenSpec.ofChange Rows.emitChecksSpec).preRow enc Tryd.prog Tryd.f5 Rows.emitChecksRow.domain false Rows.emitChecksRow.laid) (((OpenSpec.ofChange Rows.emitChecksSpec).at F).post enc Tryd.prog Tryd.f5 false true false false) := by
 obtain ⟨places, hx⟩ := reads os enc
 refine returnsInHanded_of_row (C := Tryd.checked) (s := OpenSpec.ofChange Rows.emitChecksSpec) own started (by kernel_rfl) Tryd.func5
  (witness_row_atRef (enc := enc) (C := Tryd.checked) false (laidWorld os) #[.agg #[.string ⟨#[]⟩, .string ⟨#[]⟩, .int .i64 0, .int .i64 0, .int .i64 0, .int .i64 0, .int .i64 0, .int .i64 0, .string ⟨#[]⟩, .string ⟨#[]⟩]] rfl (by kernel_rfl) (by kernel_rfl) (by kernel_rfl)
   (OpenSpec.preRow_of_cond 12 hx (by kernel_rfl) (fun k hk => by cases hk) (by kernel_rfl) (laid_met os _))) ?_
 intro W base args ds gs before hval hW _ hcond hsz hL hsh _
 exact contract H enc W base args ds gs before hval hW hcond hsz hL hsh

theorem said : Rows.EmitChecksSaid :=
 OpenClaim.holds_of_cond 5 Tryd.f5 rfl rfl rfl rfl rfl rfl rfl ⟨rfl, rfl, rfl, rfl, rfl⟩ rfl rfl rfl rfl rfl (by kernel_rfl) Tryd.func5 (by kernel_rfl)
  (of_decide_eq_true (by kernel_rfl)) (by unfold Func.isWrapper; first | (rw [if_pos (by decide +kernel)]; kernel_rfl) | (rw [if_neg (by decide +kernel)]; exact ⟨rfl, rfl⟩))
  (fun os started H enc _ F => by rw [OpenClaim.pre_eq_preRow]; exact lifted os started H enc F)

theorem plain (f : FuncId) (fn : Func) (hf : Tryd.pinned.checked.prog.funcNamed "pannier/pannierlaw18.EmitChecks" = some f) (hfn : Tryd.pinned.checked.prog.funcs[f]? = some fn) :
  false = Tryd.pinned.checked.prog.looks [] ∧ ∀ (j : Nat) t, fn.params[j]? = some t → Tryd.pinned.checked.prog.wantsStandIn t = false := by
 obtain rfl : f = 5 := Option.some.inj ((show Tryd.prog.funcNamed "pannier/pannierlaw18.EmitChecks" = some 5 by kernel_rfl).symm.trans hf) |>.symm
 obtain rfl : fn = Tryd.f5 := (Option.some.inj (Tryd.func5.symm.trans hfn)).symm
 refine ⟨by kernel_rfl, fun j t ht => ?_⟩
 have hall : Tryd.f5.params.toList.all (fun t => !Tryd.prog.wantsStandIn t) = true := by kernel_rfl
 have := List.all_eq_true.1 hall t (Array.mem_toList_iff.2 (Array.mem_of_getElem? ht))
 have h2 : Tryd.prog.wantsStandIn t = false := by simpa using this
 exact h2

theorem card : Rows.EmitChecksCardSaid :=
 Claim7.holds_tied_plain_at .later [] _ _ _ _ said (fun _ h => by cases h) (by kernel_rfl) (fun _ h => by cases h) emitChecks_row_tie rfl ⟨rfl, rfl⟩ (by kernel_rfl) rfl plain (by kernel_rfl)
#print axioms card
end Go.Proofs.YtpbpfngichfgeaaDoor.emitChecks
