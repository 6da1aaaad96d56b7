/-
  An entry.Ahead argument, opened; the sizes of its records' values.
-/
import Derived.Test.YthmleoceakonjaaDoorPEntMx0
import Derived.Test.YthmleoceakonjaaDoorHdr
import Derived.ChangeMaps5
import Derived.Deep.SlicePairs
namespace Go.Proofs.YthmleoceakonjaaDoor
set_option linter.unusedVariables false
set_option linter.unusedSimpArgs false
set_option maxRecDepth 100000
open Go.ChangeShapes Go.WideShapes Go.ChangeAt Go.RowKit Go.Joins Go.Deep Go.Proofs.YthmleoceakonjaaDoorW.PrintWords Go.Proofs.YthmleoceakonjaaDoorW.PrintLast Go.Proofs.YthmleoceakonjaaDoorW.PrintMore Go.Proofs.YthmleoceakonjaaDoor.PEntM

section
variable {H : Type} {enc : TypeId × Value → H} {w : World} {base : Nat} {spare : Nat → Bool} {held : Bool}
theorem weightsAll_mem {P : Program} {e : TypeId} {d : DataW H} {n : Nat} : ∀ {l : List (DataW H)}, d ∈ l → n ∈ d.weights P e → n ∈ DataW.weightsAll P e l
  | a :: r, h, hn => by
    simp only [DataW.weightsAll, List.mem_append]
    rcases List.mem_cons.1 h with rfl | h
    · exact .inl hn
    · exact .inr (weightsAll_mem h hn)
theorem recs_trod {fuel : Nat} {cs : List Value} {x : DataW H × List MemPlace} (h : DataW.trod enc Tryd.prog w base spare held fuel 24 cs = some x) :
    ∃ (A : Option Addr) (c : Nat) (l : List S45), cs = [.slice A l.length c] ∧ l.length ≤ c ∧ Kd.C k45 w A l.length l ∧ ∀ y ∈ l, y.f0.size ∈ x.1.weights Tryd.prog 24 ∧ y.f1.size ∈ x.1.weights Tryd.prog 24 := by
  rcases open_slice_pairs Tryd.underlying24 Tryd.underlying45 (by kernel_rfl) rfl rfl (by kernel_rfl) (by kernel_rfl) h with ⟨rfl, rfl⟩ | ⟨a, len, cap, m, n, V0, V1, D0, D1, P0, P1, rfl, hb, hl, hm, hmm, rfl, hi⟩
  · exact ⟨none, 0, [], rfl, Nat.le_refl _, ⟨rfl, by simp, fun h => by simp at h⟩, by simp⟩
  · have hlm : len ≤ m := by rw [hmm]; split <;> omega
    have hcell : ∀ i, i < len → ∃ y : S45, w.cell? (a.add (i * 2)) = some (.string y.f0) ∧ w.cell? (a.add (i * 2 + 1)) = some (.string y.f1) ∧ D0 i = .lit (.string y.f0.data.toList) ∧ D1 i = .lit (.string y.f1.data.toList) := by
      intro i hil
      obtain ⟨c0, c1, t0, t1⟩ := hi i (by omega)
      obtain ⟨s0, e0, r0, _⟩ := DataW.trod_string Tryd.underlying9 t0
      obtain ⟨s1, e1, r1, _⟩ := DataW.trod_string Tryd.underlying9 t1
      refine ⟨⟨s0, s1⟩, ?_, ?_, (Prod.mk.inj r0).1, (Prod.mk.inj r1).1⟩
      · rw [c0, List.head_eq_of_cons_eq e0]
      · rw [c1, List.head_eq_of_cons_eq e1]
    obtain ⟨f, hfx⟩ : ∃ f : Nat → S45, ∀ i, i < len → w.cell? (a.add (i * 2)) = some (.string (f i).f0) ∧ w.cell? (a.add (i * 2 + 1)) = some (.string (f i).f1) ∧ D0 i = .lit (.string (f i).f0.data.toList) ∧ D1 i = .lit (.string (f i).f1.data.toList) := by
      refine ⟨fun i => if h : i < len then (hcell i h).choose else z45, fun i hi => ?_⟩
      simp only [dif_pos hi]
      exact (hcell i hi).choose_spec
    have hlen : ((List.range len).map f).length = len := by simp
    refine ⟨some a, cap, (List.range len).map f, by rw [hlen], by rw [hlen]; exact hl, ?_, ?_⟩
    · rw [hlen]
      refine ⟨hlen, by unfold maxLen at hm; omega, fun h0 => ⟨a, rfl, fun j p hp => ?_⟩⟩
      have hj : j < len := by have := (List.getElem?_eq_some_iff.1 hp).1; rwa [hlen] at this
      obtain rfl : p = f j := by simp [hj] at hp; exact hp.symm
      refine ⟨[.string (f j).f0, .string (f j).f1], rfl, k45_mk w (f j), fun i u hu => ?_⟩
      obtain ⟨g0, g1, _⟩ := hfx j hj
      rcases i with _ | _ | i
      · simp at hu; subst hu; exact g0
      · simp at hu; subst hu; exact g1
      · simp at hu
    · intro y hy
      obtain ⟨j, hj, rfl⟩ := List.mem_map.1 hy
      have hj' : j < len := List.mem_range.1 hj
      obtain ⟨_, _, d0, d1⟩ := hfx j hj'
      have hw : ∀ n, n ∈ DataW.weights Tryd.prog 45 (.agg [D0 j, D1 j]) → n ∈ DataW.weights Tryd.prog 24 (DataW.slice ((List.range len).map fun i => DataW.agg [D0 i, D1 i]) ((List.range (m - len)).map fun j => DataW.agg [D0 (len + j), D1 (len + j)])) := by
        intro n hn
        simp only [DataW.weights, Tryd.underlying24, List.mem_cons, List.mem_append]
        exact .inr (.inl (weightsAll_mem (List.mem_map.2 ⟨j, hj, rfl⟩) hn))
      constructor
      · apply hw
        rw [d0]
        simp [DataW.weights, Tryd.underlying45, DataW.weightsEach]
      · apply hw
        rw [d1]
        simp [DataW.weights, Tryd.underlying45, DataW.weightsEach]
theorem open_aggD4 {P : Program} {r : Reach} {b0 : Nat} {t : TypeId} {f0 f1 f2 f3 : Field} {v : Value} {d : DataW H} {p : List MemPlace} (hs : P.underlying t = some (.struct #[f0, f1, f2, f3])) (hone : oneCellFields P #[f0, f1, f2, f3] = true) (hC : P.cellsOf t = 4)
    (hv : Value.okWide P w r b0 t v) (h : DataW.Trod enc P w base spare held t v d p) :
    ∃ (c0 c1 c2 c3 : Value) (n : Nat) (y0 y1 y2 y3 : DataW H × List MemPlace), v = .agg #[c0, c1, c2, c3] ∧ d = .agg [y0.1, y1.1, y2.1, y3.1] ∧ DataW.trod enc P w base spare held n f0.type [c0] = some y0 ∧ DataW.trod enc P w base spare held n f1.type [c1] = some y1 ∧ DataW.trod enc P w base spare held n f2.type [c2] = some y2 ∧ DataW.trod enc P w base spare held n f3.type [c3] = some y3 := by
  obtain ⟨cs, rfl, hsz⟩ := okWide_struct hs hv
  obtain ⟨l⟩ := cs
  match l, hsz.trans hC with
  | [c0, c1, c2, c3], _ =>
    obtain ⟨fuel, hf⟩ := h
    obtain ⟨xs, n, _, hx, _, hlen, hg⟩ := DataW.trod_struct hs hf
    obtain ⟨o0, k0⟩ := hone_of hone 0 f0 rfl
    obtain ⟨o1, k1⟩ := hone_of hone 1 f1 rfl
    obtain ⟨o2, k2⟩ := hone_of hone 2 f2 rfl
    obtain ⟨o3, k3⟩ := hone_of hone 3 f3 rfl
    match xs, hlen with
    | [y0, y1, y2, y3], _ =>
      exact ⟨c0, c1, c2, c3, n, y0, y1, y2, y3, rfl, (Prod.mk.inj hx).1, by simpa [Value.cells, o0, k0] using hg 0 f0 rfl, by simpa [Value.cells, o1, k1] using hg 1 f1 rfl, by simpa [Value.cells, o2, k2] using hg 2 f2 rfl, by simpa [Value.cells, o3, k3] using hg 3 f3 rfl⟩
theorem open_ahead {r : Reach} {b0 : Nat} {v : Value} {d : DataW H} {p : List MemPlace} (hv : Value.okWide Tryd.prog w r b0 26 v) (h : DataW.Trod enc Tryd.prog w base spare held 26 v d p) :
    ∃ (Ag Al : Option Addr) (cg cl : Nat) (g l : List S45) (nm lk : ByteArray), v = .agg #[.slice Ag g.length cg, .slice Al l.length cl, .string nm, .string lk] ∧ g.length ≤ cg ∧ l.length ≤ cl ∧ Kd.C k45 w Ag g.length g ∧ Kd.C k45 w Al l.length l ∧
      (∀ y ∈ g, y.f1.size ∈ d.weights Tryd.prog 26) ∧ (∀ y ∈ l, y.f1.size ∈ d.weights Tryd.prog 26) ∧ nm.size ∈ d.weights Tryd.prog 26 := by
  obtain ⟨c0, c1, c2, c3, n, y0, y1, y2, y3, rfl, hd, t0, t1, t2, t3⟩ := open_aggD4 Tryd.underlying26 (by kernel_rfl) (by kernel_rfl) hv h
  obtain ⟨Ag, cg, g, e0, hcg, hCg, hwg⟩ := recs_trod t0
  obtain ⟨Al, cl, l, e1, hcl, hCl, hwl⟩ := recs_trod t1
  obtain ⟨nm, e2, r2, _⟩ := DataW.trod_string Tryd.underlying9 t2
  obtain ⟨lk, e3, r3, _⟩ := DataW.trod_string Tryd.underlying9 t3
  obtain ⟨rfl, rfl, rfl, rfl⟩ : c0 = _ ∧ c1 = _ ∧ c2 = _ ∧ c3 = _ := ⟨List.head_eq_of_cons_eq e0, List.head_eq_of_cons_eq e1, List.head_eq_of_cons_eq e2, List.head_eq_of_cons_eq e3⟩
  have key : ∀ n, n ∈ y0.1.weights Tryd.prog 24 ++ (y1.1.weights Tryd.prog 24 ++ (y2.1.weights Tryd.prog 9)) → n ∈ d.weights Tryd.prog 26 := by
    intro n hn
    rw [hd]
    simp only [DataW.weights, Tryd.underlying26, List.map_cons, List.map_nil, DataW.weightsEach, List.mem_append] at hn ⊢
    rcases hn with h | h | h
    · exact .inl h
    · exact .inr (.inl h)
    · exact .inr (.inr (.inl h))
  refine ⟨Ag, Al, cg, cl, g, l, nm, lk, rfl, hcg, hcl, hCg, hCl, fun y hy => key _ (List.mem_append.2 (.inl (hwg y hy).2)), fun y hy => key _ (List.mem_append.2 (.inr (List.mem_append.2 (.inl (hwl y hy).2)))), key _ (List.mem_append.2 (.inr (List.mem_append.2 (.inr ?_))))⟩
  rw [r2]
  simp [DataW.weights]
end
end Go.Proofs.YthmleoceakonjaaDoor
