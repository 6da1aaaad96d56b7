/-
  An api.Entry argument, opened.
-/
import Derived.Test.YtpbpfngichfgeaaDoorKit
import Derived.SizedLaws
namespace Go.Proofs.YtpbpfngichfgeaaDoor
open Go.ChangeShapes Go.WideShapes Go.ChangeAt Go.RowKit

section
open Go.Joins Go.Deep
variable {H : Type} {enc : TypeId × Value → H} {w : World} {base : Nat} {spare : Nat → Bool} {held : Bool}
theorem open_aggD10 {P : Program} {r : Reach} {b0 : Nat} {t : TypeId} {f0 f1 f2 f3 f4 f5 f6 f7 f8 f9 : Field} {v : Value} {d : DataW H} {p : List MemPlace} (hs : P.underlying t = some (.struct #[f0, f1, f2, f3, f4, f5, f6, f7, f8, f9])) (hone : oneCellFields P #[f0, f1, f2, f3, f4, f5, f6, f7, f8, f9] = true) (hC : P.cellsOf t = 10)
    (hv : Value.okWide P w r b0 t v) (h : DataW.Trod enc P w base spare held t v d p) :
    ∃ (c0 c1 c2 c3 c4 c5 c6 c7 c8 c9 : Value) (n : Nat) (y0 y1 y2 y3 y4 y5 y6 y7 y8 y9 : DataW H × List MemPlace), v = .agg #[c0, c1, c2, c3, c4, c5, c6, c7, c8, c9] ∧ d = .agg [y0.1, y1.1, y2.1, y3.1, y4.1, y5.1, y6.1, y7.1, y8.1, y9.1] ∧ DataW.trod enc P w base spare held n f0.type [c0] = some y0 ∧ DataW.trod enc P w base spare held n f1.type [c1] = some y1 ∧ DataW.trod enc P w base spare held n f2.type [c2] = some y2 ∧ DataW.trod enc P w base spare held n f3.type [c3] = some y3 ∧ DataW.trod enc P w base spare held n f4.type [c4] = some y4 ∧ DataW.trod enc P w base spare held n f5.type [c5] = some y5 ∧ DataW.trod enc P w base spare held n f6.type [c6] = some y6 ∧ DataW.trod enc P w base spare held n f7.type [c7] = some y7 ∧ DataW.trod enc P w base spare held n f8.type [c8] = some y8 ∧ DataW.trod enc P w base spare held n f9.type [c9] = some y9 := by
  obtain ⟨cs, rfl, hsz⟩ := okWide_struct hs hv
  obtain ⟨l⟩ := cs
  match l, hsz.trans hC with
  | [c0, c1, c2, c3, c4, c5, c6, c7, c8, c9], _ =>
    obtain ⟨fuel, hf⟩ := h
    obtain ⟨xs, n, _, hx, _, hlen, hg⟩ := DataW.trod_struct hs hf
    obtain ⟨o0, k0⟩ := hone_of hone 0 f0 rfl
    obtain ⟨o1, k1⟩ := hone_of hone 1 f1 rfl
    obtain ⟨o2, k2⟩ := hone_of hone 2 f2 rfl
    obtain ⟨o3, k3⟩ := hone_of hone 3 f3 rfl
    obtain ⟨o4, k4⟩ := hone_of hone 4 f4 rfl
    obtain ⟨o5, k5⟩ := hone_of hone 5 f5 rfl
    obtain ⟨o6, k6⟩ := hone_of hone 6 f6 rfl
    obtain ⟨o7, k7⟩ := hone_of hone 7 f7 rfl
    obtain ⟨o8, k8⟩ := hone_of hone 8 f8 rfl
    obtain ⟨o9, k9⟩ := hone_of hone 9 f9 rfl
    match xs, hlen with
    | [y0, y1, y2, y3, y4, y5, y6, y7, y8, y9], _ =>
      exact ⟨c0, c1, c2, c3, c4, c5, c6, c7, c8, c9, n, y0, y1, y2, y3, y4, y5, y6, y7, y8, y9, rfl, (Prod.mk.inj hx).1, by simpa [Value.cells, o0, k0] using hg 0 f0 rfl, by simpa [Value.cells, o1, k1] using hg 1 f1 rfl, by simpa [Value.cells, o2, k2] using hg 2 f2 rfl, by simpa [Value.cells, o3, k3] using hg 3 f3 rfl, by simpa [Value.cells, o4, k4] using hg 4 f4 rfl, by simpa [Value.cells, o5, k5] using hg 5 f5 rfl, by simpa [Value.cells, o6, k6] using hg 6 f6 rfl, by simpa [Value.cells, o7, k7] using hg 7 f7 rfl, by simpa [Value.cells, o8, k8] using hg 8 f8 rfl, by simpa [Value.cells, o9, k9] using hg 9 f9 rfl⟩
theorem ent_one : Tryd.prog.cellsOf 23 = 10 := by kernel_rfl
set_option maxRecDepth 100000 in
theorem open_entR {r : Reach} {b0 : Nat} {v : Value} {d : DataW H} {p : List MemPlace} (hv : Value.okWide Tryd.prog w r b0 23 v) (h : DataW.Trod enc Tryd.prog w base spare held 23 v d p) :
    ∃ (path link : ByteArray) (kd md uid gid mt sz : Int) (user group : ByteArray), v = .agg #[.string path, .string link, .int .i64 kd, .int .i64 md, .int .i64 uid, .int .i64 gid, .int .i64 mt, .int .i64 sz, .string user, .string group] ∧ d = .agg [.lit (.string path.data.toList), .lit (.string link.data.toList), .lit (.int .i64 kd), .lit (.int .i64 md), .lit (.int .i64 uid), .lit (.int .i64 gid), .lit (.int .i64 mt), .lit (.int .i64 sz), .lit (.string user.data.toList), .lit (.string group.data.toList)] ∧ (-9223372036854775808 ≤ uid ∧ uid ≤ 9223372036854775807) ∧ (-9223372036854775808 ≤ gid ∧ gid ≤ 9223372036854775807) ∧ (-9223372036854775808 ≤ mt ∧ mt ≤ 9223372036854775807) ∧ (-9223372036854775808 ≤ sz ∧ sz ≤ 9223372036854775807) := by
  obtain ⟨c0, c1, c2, c3, c4, c5, c6, c7, c8, c9, n, y0, y1, y2, y3, y4, y5, y6, y7, y8, y9, rfl, hd, t0, t1, t2, t3, t4, t5, t6, t7, t8, t9⟩ := open_aggD10 Tryd.underlying23 (by kernel_rfl) ent_one hv h
  obtain ⟨x0, e0, r0, _⟩ := DataW.trod_string Tryd.underlying9 t0
  obtain ⟨x1, e1, r1, _⟩ := DataW.trod_string Tryd.underlying9 t1
  obtain ⟨x2, e2, r2, _⟩ := DataW.trod_int Tryd.underlying3 t2
  obtain ⟨x3, e3, r3, _⟩ := DataW.trod_int Tryd.underlying3 t3
  obtain ⟨x4, e4, r4, q4⟩ := DataW.trod_int Tryd.underlying2 t4
  obtain ⟨x5, e5, r5, q5⟩ := DataW.trod_int Tryd.underlying2 t5
  obtain ⟨x6, e6, r6, q6⟩ := DataW.trod_int Tryd.underlying2 t6
  obtain ⟨x7, e7, r7, q7⟩ := DataW.trod_int Tryd.underlying2 t7
  obtain ⟨x8, e8, r8, _⟩ := DataW.trod_string Tryd.underlying9 t8
  obtain ⟨x9, e9, r9, _⟩ := DataW.trod_string Tryd.underlying9 t9
  obtain ⟨rfl, rfl, rfl, rfl, rfl, rfl, rfl, rfl, rfl, rfl⟩ : c0 = _ ∧ c1 = _ ∧ c2 = _ ∧ c3 = _ ∧ c4 = _ ∧ c5 = _ ∧ c6 = _ ∧ c7 = _ ∧ c8 = _ ∧ c9 = _ := ⟨List.head_eq_of_cons_eq e0, List.head_eq_of_cons_eq e1, List.head_eq_of_cons_eq e2, List.head_eq_of_cons_eq e3, List.head_eq_of_cons_eq e4, List.head_eq_of_cons_eq e5, List.head_eq_of_cons_eq e6, List.head_eq_of_cons_eq e7, List.head_eq_of_cons_eq e8, List.head_eq_of_cons_eq e9⟩
  exact ⟨x0, x1, x2, x3, x4, x5, x6, x7, x8, x9, rfl, by rw [hd, r0, r1, r2, r3, r4, r5, r6, r7, r8, r9], bounds_i64 q4, bounds_i64 q5, bounds_i64 q6, bounds_i64 q7⟩
end
end Go.Proofs.YtpbpfngichfgeaaDoor
