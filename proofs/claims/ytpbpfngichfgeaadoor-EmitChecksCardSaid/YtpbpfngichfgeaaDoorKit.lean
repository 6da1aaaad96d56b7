/-
 The last step of a law's row, for every kind of parameter: behind a walk that leaves all that stood as it was, the law's specification (true; the arguments read as they did) is met.
-/
import Derived.Test.YtpbpfngichfgeaaDoorCards
import Derived.Test.YtpbpfngichfgeaaDoorTie
import Derived.WalkKit
import Derived.ProofKit
import Derived.OpenShut
import Derived.Deep.DeepHandedRow
import Derived.Lib.LaidTab
import Derived.LaidHandle
import Derived.Lib.SmallJoins
import Derived.Deep.Slices
import Derived.Deep.Fields
import Derived.ChangeSame
namespace Go.Proofs.YtpbpfngichfgeaaDoor
open Go.ChangeShapes Go.WideShapes Go.ChangeAt Go.RowKit

theorem own : ownKnob Tryd.prog.godebug = none := by kernel_rfl
theorem laidOut : laidOutB Tryd.prog = true := by kernel_rfl

theorem trodAll_later {H : Type} {enc : TypeId × Value → H} {P : Program} (hl : laidOutB P = true) {W W' : World} (hb : Below W.heap.size W W') :
  ∀ {ts : List TypeId} {vs : List Value} {ds : List (DataW H)} {ps : List MemPlace}, (∀ t ∈ ts, P.readableRec t = true ∧ t < P.types.size) → (∀ x ∈ ps, x.block < W.heap.size) →
   DataW.TrodAll enc P W 0 (fun _ => true) true ts vs ds ps → DataW.TrodAll enc P W' 0 (fun b => decide (b < W.heap.size)) true ts vs ds ps
 | [], _, _, _, _, _, h => by obtain ⟨rfl, rfl, rfl⟩ := trodAll_nil h; exact trodAll_mk0
 | t :: ts, vs, ds, ps, ht, hp, h => by
  obtain ⟨v, vs', d, ds', p, q, rfl, rfl, rfl, h0, h1⟩ := trodAll_cons h
  exact trodAll_cons_mk (Below.trod hl (ht t (by simp)).1 (ht t (by simp)).2 h0 hb (fun x hx => hp x (by simp [hx])))
   (trodAll_later hl hb (fun t' h' => ht t' (by simp [h'])) (fun x hx => hp x (by simp [hx])) h1)

theorem post_law {H : Type} {enc : TypeId × Value → H} {P : Program} (hl : laidOutB P = true) {f : Func} {s : ChangeSpec} {apart fresh handsOn : Bool} {W W' : World} {args : Array Value} {ds gs : List (DataW H)} {before : List MemPlace} {tb : TypeId}
  (hW : DataW.Whole enc P f.params.toList s.vars apart W args.toList ds gs before) (hv : s.vars = []) (hres : f.resultTypes = #[tb]) (htb : P.underlying tb = some .bool)
  (hfn : s.fn H (ds ++ gs) = { results := [.lit (.bool true)], args := ds }) (hpar : f.params.toList.all (fun t => P.readableRec t && decide (t < P.types.size)) = true)
  (hb : Below W.heap.size W W') : s.post enc P f apart fresh handsOn false W args (.bool true) W' := by
 have hW' := hW
 obtain ⟨p, q, hA, hV, rfl, _, _⟩ := hW
 have hlt : ∀ x ∈ p, x.block < W.heap.size := fun x hx => hW'.lt x (by simp [hx])
 refine ⟨ds, gs, _, [], p, [], hW', ?_, ?_, ?_, hb.frame _, fun h => by cases h⟩
 ·rw [hfn, hres]; exact trodAll_cons_mk (shut_bool htb true) trodAll_mk0
 ·rw [hfn]
  refine trodAll_later hl hb (fun t ht => ?_) hlt hA
  have := List.all_eq_true.1 hpar t ht
  simpa using this
 ·rw [hfn, hv]; rfl

section
open Go.Joins Go.Deep
variable {H : Type} {enc : TypeId × Value → H} {P : Program} {w : World} {base : Nat} {spare : Nat → Bool} {held : Bool}
theorem open_arr2 {r : Reach} {b0 : Nat} {t e : TypeId} {k : IntKind} {v : Value} {d : DataW H} {p : List MemPlace} (ht : P.underlying t = some (.array 2 e)) (he : P.underlying e = some (.int k)) (hce : P.cellsOf e = 1) (hct : P.cellsOf t = 2)
  (hv : Value.okWide P w r b0 t v) (h : DataW.Trod enc P w base spare held t v d p) : ∃ a0 a1, v = .agg #[.int k a0, .int k a1] := by
 simp only [Value.okWide, ht] at hv
 obtain ⟨cs, rfl, hsz, _⟩ := hv
 obtain ⟨l⟩ := cs
 match l, hsz.trans hct with
 | [c0, c1], _ =>
  obtain ⟨fuel, hf⟩ := h
  obtain ⟨xs, m, _, _, _, hlen, hi⟩ := DataW.trod_array ht hf
  match xs, hlen with
  | [y0, y1], _ =>
   have h0 := hi 0 (by omega)
   have h1 := hi 1 (by omega)
   simp [Value.cells, hce] at h0 h1
   obtain ⟨n0, e0, _⟩ := DataW.trod_int he h0
   obtain ⟨n1, e1, _⟩ := DataW.trod_int he h1
   simp at e0 e1
   exact ⟨n0, n1, by rw [e0, e1]⟩
theorem open_agg2 {r : Reach} {b0 : Nat} {t : TypeId} {f0 f1 : Field} {v : Value} {d : DataW H} {p : List MemPlace} (hs : P.underlying t = some (.struct #[f0, f1])) (hone : oneCellFields P #[f0, f1] = true) (hC : P.cellsOf t = 2)
  (hv : Value.okWide P w r b0 t v) (h : DataW.Trod enc P w base spare held t v d p) :
  ∃ (c0 c1 : Value) (n : Nat), v = .agg #[c0, c1] ∧ (∃ y, DataW.trod enc P w base spare held n f0.type [c0] = some y) ∧ (∃ y, DataW.trod enc P w base spare held n f1.type [c1] = some y) := by
 obtain ⟨cs, rfl, hsz⟩ := okWide_struct hs hv
 obtain ⟨l⟩ := cs
 match l, hsz.trans hC with
 | [c0, c1], _ =>
  obtain ⟨fuel, hf⟩ := h
  obtain ⟨xs, n, _, hx, _, hlen, hg⟩ := DataW.trod_struct hs hf
  obtain ⟨o0, k0⟩ := hone_of hone 0 f0 rfl
  obtain ⟨o1, k1⟩ := hone_of hone 1 f1 rfl
  match xs, hlen with
  | [y0, y1], _ =>
   exact ⟨c0, c1, n, rfl, ⟨y0, by simpa [Value.cells, o0, k0] using hg 0 f0 rfl⟩, ⟨y1, by simpa [Value.cells, o1, k1] using hg 1 f1 rfl⟩⟩
theorem open_agg4 {r : Reach} {b0 : Nat} {t : TypeId} {f0 f1 f2 f3 : Field} {v : Value} {d : DataW H} {p : List MemPlace} (hs : P.underlying t = some (.struct #[f0, f1, f2, f3])) (hone : oneCellFields P #[f0, f1, f2, f3] = true) (hC : P.cellsOf t = 4)
  (hv : Value.okWide P w r b0 t v) (h : DataW.Trod enc P w base spare held t v d p) :
  ∃ (c0 c1 c2 c3 : Value) (n : Nat), v = .agg #[c0, c1, c2, c3] ∧ (∃ y, DataW.trod enc P w base spare held n f0.type [c0] = some y) ∧ (∃ y, DataW.trod enc P w base spare held n f1.type [c1] = some y) ∧ (∃ y, DataW.trod enc P w base spare held n f2.type [c2] = some y) ∧ (∃ y, DataW.trod enc P w base spare held n f3.type [c3] = some y) := by
 obtain ⟨cs, rfl, hsz⟩ := okWide_struct hs hv
 obtain ⟨l⟩ := cs
 match l, hsz.trans hC with
 | [c0, c1, c2, c3], _ =>
  obtain ⟨fuel, hf⟩ := h
  obtain ⟨xs, n, _, hx, _, hlen, hg⟩ := DataW.trod_struct hs hf
  obtain ⟨o0, k0⟩ := hone_of hone 0 f0 rfl
  obtain ⟨o1, k1⟩ := hone_of hone 1 f1 rfl
  obtain ⟨o2, k2⟩ := hone_of hone 2 f2 rfl
  obtain ⟨o3, k3⟩ := hone_of hone 3 f3 rfl
  match xs, hlen with
  | [y0, y1, y2, y3], _ =>
   exact ⟨c0, c1, c2, c3, n, rfl, ⟨y0, by simpa [Value.cells, o0, k0] using hg 0 f0 rfl⟩, ⟨y1, by simpa [Value.cells, o1, k1] using hg 1 f1 rfl⟩, ⟨y2, by simpa [Value.cells, o2, k2] using hg 2 f2 rfl⟩, ⟨y3, by simpa [Value.cells, o3, k3] using hg 3 f3 rfl⟩⟩
theorem open_agg6 {r : Reach} {b0 : Nat} {t : TypeId} {f0 f1 f2 f3 f4 f5 : Field} {v : Value} {d : DataW H} {p : List MemPlace} (hs : P.underlying t = some (.struct #[f0, f1, f2, f3, f4, f5])) (hone : oneCellFields P #[f0, f1, f2, f3, f4, f5] = true) (hC : P.cellsOf t = 6)
  (hv : Value.okWide P w r b0 t v) (h : DataW.Trod enc P w base spare held t v d p) :
  ∃ (c0 c1 c2 c3 c4 c5 : Value) (n : Nat), v = .agg #[c0, c1, c2, c3, c4, c5] ∧ (∃ y, DataW.trod enc P w base spare held n f0.type [c0] = some y) ∧ (∃ y, DataW.trod enc P w base spare held n f1.type [c1] = some y) ∧ (∃ y, DataW.trod enc P w base spare held n f2.type [c2] = some y) ∧ (∃ y, DataW.trod enc P w base spare held n f3.type [c3] = some y) ∧ (∃ y, DataW.trod enc P w base spare held n f4.type [c4] = some y) ∧ (∃ y, DataW.trod enc P w base spare held n f5.type [c5] = some y) := by
 obtain ⟨cs, rfl, hsz⟩ := okWide_struct hs hv
 obtain ⟨l⟩ := cs
 match l, hsz.trans hC with
 | [c0, c1, c2, c3, c4, c5], _ =>
  obtain ⟨fuel, hf⟩ := h
  obtain ⟨xs, n, _, hx, _, hlen, hg⟩ := DataW.trod_struct hs hf
  obtain ⟨o0, k0⟩ := hone_of hone 0 f0 rfl
  obtain ⟨o1, k1⟩ := hone_of hone 1 f1 rfl
  obtain ⟨o2, k2⟩ := hone_of hone 2 f2 rfl
  obtain ⟨o3, k3⟩ := hone_of hone 3 f3 rfl
  obtain ⟨o4, k4⟩ := hone_of hone 4 f4 rfl
  obtain ⟨o5, k5⟩ := hone_of hone 5 f5 rfl
  match xs, hlen with
  | [y0, y1, y2, y3, y4, y5], _ =>
   exact ⟨c0, c1, c2, c3, c4, c5, n, rfl, ⟨y0, by simpa [Value.cells, o0, k0] using hg 0 f0 rfl⟩, ⟨y1, by simpa [Value.cells, o1, k1] using hg 1 f1 rfl⟩, ⟨y2, by simpa [Value.cells, o2, k2] using hg 2 f2 rfl⟩, ⟨y3, by simpa [Value.cells, o3, k3] using hg 3 f3 rfl⟩, ⟨y4, by simpa [Value.cells, o4, k4] using hg 4 f4 rfl⟩, ⟨y5, by simpa [Value.cells, o5, k5] using hg 5 f5 rfl⟩⟩
theorem open_agg10 {r : Reach} {b0 : Nat} {t : TypeId} {f0 f1 f2 f3 f4 f5 f6 f7 f8 f9 : Field} {v : Value} {d : DataW H} {p : List MemPlace} (hs : P.underlying t = some (.struct #[f0, f1, f2, f3, f4, f5, f6, f7, f8, f9])) (hone : oneCellFields P #[f0, f1, f2, f3, f4, f5, f6, f7, f8, f9] = true) (hC : P.cellsOf t = 10)
  (hv : Value.okWide P w r b0 t v) (h : DataW.Trod enc P w base spare held t v d p) :
  ∃ (c0 c1 c2 c3 c4 c5 c6 c7 c8 c9 : Value) (n : Nat), v = .agg #[c0, c1, c2, c3, c4, c5, c6, c7, c8, c9] ∧ (∃ y, DataW.trod enc P w base spare held n f0.type [c0] = some y) ∧ (∃ y, DataW.trod enc P w base spare held n f1.type [c1] = some y) ∧ (∃ y, DataW.trod enc P w base spare held n f2.type [c2] = some y) ∧ (∃ y, DataW.trod enc P w base spare held n f3.type [c3] = some y) ∧ (∃ y, DataW.trod enc P w base spare held n f4.type [c4] = some y) ∧ (∃ y, DataW.trod enc P w base spare held n f5.type [c5] = some y) ∧ (∃ y, DataW.trod enc P w base spare held n f6.type [c6] = some y) ∧ (∃ y, DataW.trod enc P w base spare held n f7.type [c7] = some y) ∧ (∃ y, DataW.trod enc P w base spare held n f8.type [c8] = some y) ∧ (∃ y, DataW.trod enc P w base spare held n f9.type [c9] = some y) := by
 obtain ⟨cs, rfl, hsz⟩ := okWide_struct hs hv
 obtain ⟨l⟩ := cs
 match l, hsz.trans hC with
 | [c0, c1, c2, c3, c4, c5, c6, c7, c8, c9], _ =>
  obtain ⟨fuel, hf⟩ := h
  obtain ⟨xs, n, _, hx, _, hlen, hg⟩ := DataW.trod_struct hs hf
  obtain ⟨o0, k0⟩ := hone_of hone 0 f0 rfl
  obtain ⟨o1, k1⟩ := hone_of hone 1 f1 rfl
  obtain ⟨o2, k2⟩ := hone_of hone 2 f2 rfl
  obtain ⟨o3, k3⟩ := hone_of hone 3 f3 rfl
  obtain ⟨o4, k4⟩ := hone_of hone 4 f4 rfl
  obtain ⟨o5, k5⟩ := hone_of hone 5 f5 rfl
  obtain ⟨o6, k6⟩ := hone_of hone 6 f6 rfl
  obtain ⟨o7, k7⟩ := hone_of hone 7 f7 rfl
  obtain ⟨o8, k8⟩ := hone_of hone 8 f8 rfl
  obtain ⟨o9, k9⟩ := hone_of hone 9 f9 rfl
  match xs, hlen with
  | [y0, y1, y2, y3, y4, y5, y6, y7, y8, y9], _ =>
   exact ⟨c0, c1, c2, c3, c4, c5, c6, c7, c8, c9, n, rfl, ⟨y0, by simpa [Value.cells, o0, k0] using hg 0 f0 rfl⟩, ⟨y1, by simpa [Value.cells, o1, k1] using hg 1 f1 rfl⟩, ⟨y2, by simpa [Value.cells, o2, k2] using hg 2 f2 rfl⟩, ⟨y3, by simpa [Value.cells, o3, k3] using hg 3 f3 rfl⟩, ⟨y4, by simpa [Value.cells, o4, k4] using hg 4 f4 rfl⟩, ⟨y5, by simpa [Value.cells, o5, k5] using hg 5 f5 rfl⟩, ⟨y6, by simpa [Value.cells, o6, k6] using hg 6 f6 rfl⟩, ⟨y7, by simpa [Value.cells, o7, k7] using hg 7 f7 rfl⟩, ⟨y8, by simpa [Value.cells, o8, k8] using hg 8 f8 rfl⟩, ⟨y9, by simpa [Value.cells, o9, k9] using hg 9 f9 rfl⟩⟩
theorem open_agg12 {r : Reach} {b0 : Nat} {t : TypeId} {f0 f1 f2 f3 f4 f5 f6 f7 f8 f9 f10 f11 : Field} {v : Value} {d : DataW H} {p : List MemPlace} (hs : P.underlying t = some (.struct #[f0, f1, f2, f3, f4, f5, f6, f7, f8, f9, f10, f11])) (hone : oneCellFields P #[f0, f1, f2, f3, f4, f5, f6, f7, f8, f9, f10, f11] = true) (hC : P.cellsOf t = 12)
  (hv : Value.okWide P w r b0 t v) (h : DataW.Trod enc P w base spare held t v d p) :
  ∃ (c0 c1 c2 c3 c4 c5 c6 c7 c8 c9 c10 c11 : Value) (n : Nat), v = .agg #[c0, c1, c2, c3, c4, c5, c6, c7, c8, c9, c10, c11] ∧ (∃ y, DataW.trod enc P w base spare held n f0.type [c0] = some y) ∧ (∃ y, DataW.trod enc P w base spare held n f1.type [c1] = some y) ∧ (∃ y, DataW.trod enc P w base spare held n f2.type [c2] = some y) ∧ (∃ y, DataW.trod enc P w base spare held n f3.type [c3] = some y) ∧ (∃ y, DataW.trod enc P w base spare held n f4.type [c4] = some y) ∧ (∃ y, DataW.trod enc P w base spare held n f5.type [c5] = some y) ∧ (∃ y, DataW.trod enc P w base spare held n f6.type [c6] = some y) ∧ (∃ y, DataW.trod enc P w base spare held n f7.type [c7] = some y) ∧ (∃ y, DataW.trod enc P w base spare held n f8.type [c8] = some y) ∧ (∃ y, DataW.trod enc P w base spare held n f9.type [c9] = some y) ∧ (∃ y, DataW.trod enc P w base spare held n f10.type [c10] = some y) ∧ (∃ y, DataW.trod enc P w base spare held n f11.type [c11] = some y) := by
 obtain ⟨cs, rfl, hsz⟩ := okWide_struct hs hv
 obtain ⟨l⟩ := cs
 match l, hsz.trans hC with
 | [c0, c1, c2, c3, c4, c5, c6, c7, c8, c9, c10, c11], _ =>
  obtain ⟨fuel, hf⟩ := h
  obtain ⟨xs, n, _, hx, _, hlen, hg⟩ := DataW.trod_struct hs hf
  obtain ⟨o0, k0⟩ := hone_of hone 0 f0 rfl
  obtain ⟨o1, k1⟩ := hone_of hone 1 f1 rfl
  obtain ⟨o2, k2⟩ := hone_of hone 2 f2 rfl
  obtain ⟨o3, k3⟩ := hone_of hone 3 f3 rfl
  obtain ⟨o4, k4⟩ := hone_of hone 4 f4 rfl
  obtain ⟨o5, k5⟩ := hone_of hone 5 f5 rfl
  obtain ⟨o6, k6⟩ := hone_of hone 6 f6 rfl
  obtain ⟨o7, k7⟩ := hone_of hone 7 f7 rfl
  obtain ⟨o8, k8⟩ := hone_of hone 8 f8 rfl
  obtain ⟨o9, k9⟩ := hone_of hone 9 f9 rfl
  obtain ⟨o10, k10⟩ := hone_of hone 10 f10 rfl
  obtain ⟨o11, k11⟩ := hone_of hone 11 f11 rfl
  match xs, hlen with
  | [y0, y1, y2, y3, y4, y5, y6, y7, y8, y9, y10, y11], _ =>
   exact ⟨c0, c1, c2, c3, c4, c5, c6, c7, c8, c9, c10, c11, n, rfl, ⟨y0, by simpa [Value.cells, o0, k0] using hg 0 f0 rfl⟩, ⟨y1, by simpa [Value.cells, o1, k1] using hg 1 f1 rfl⟩, ⟨y2, by simpa [Value.cells, o2, k2] using hg 2 f2 rfl⟩, ⟨y3, by simpa [Value.cells, o3, k3] using hg 3 f3 rfl⟩, ⟨y4, by simpa [Value.cells, o4, k4] using hg 4 f4 rfl⟩, ⟨y5, by simpa [Value.cells, o5, k5] using hg 5 f5 rfl⟩, ⟨y6, by simpa [Value.cells, o6, k6] using hg 6 f6 rfl⟩, ⟨y7, by simpa [Value.cells, o7, k7] using hg 7 f7 rfl⟩, ⟨y8, by simpa [Value.cells, o8, k8] using hg 8 f8 rfl⟩, ⟨y9, by simpa [Value.cells, o9, k9] using hg 9 f9 rfl⟩, ⟨y10, by simpa [Value.cells, o10, k10] using hg 10 f10 rfl⟩, ⟨y11, by simpa [Value.cells, o11, k11] using hg 11 f11 rfl⟩⟩
end
end Go.Proofs.YtpbpfngichfgeaaDoor
