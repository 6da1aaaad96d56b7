/-
  A record, and a slice of records, that a law is handed: opened to their cells.
-/
import Derived.Test.YtcgopeneoignpaaDoorPPaxx0
import Derived.Test.YtcgopeneoignpaaDoorKit
import Derived.ChangeMaps5
namespace Go.Proofs.YtcgopeneoignpaaDoor
set_option linter.unusedVariables false
set_option linter.unusedSimpArgs false
set_option maxRecDepth 100000
open Go.ChangeShapes Go.WideShapes Go.RowKit Go.Deep Go.Proofs.YtcgopeneoignpaaDoorW.PrintWords Go.Proofs.YtcgopeneoignpaaDoorW.PrintLast Go.Proofs.YtcgopeneoignpaaDoorW.PrintMore Go.Proofs.YtcgopeneoignpaaDoor.PPax

section
variable {H : Type} {enc : TypeId × Value → H} {w : World} {base : Nat} {spare : Nat → Bool} {held : Bool}
theorem rec_cells {fuel : Nat} {cs : List Value} {x : DataW H × List MemPlace} (h : DataW.trod enc Tryd.prog w base spare held fuel 45 cs = some x) : ∃ k v : ByteArray, cs = [.string k, .string v] := by
  obtain ⟨xs, n, _, _, hl, hxl, hf⟩ := DataW.trod_struct Tryd.underlying45 h
  have hl2 : cs.length = 2 := hl.trans (by kernel_rfl)
  match cs, hl2 with
  | [a, b], _ =>
    have h0 : DataW.trod enc Tryd.prog w base spare held n 9 (([a, b].drop 0).take (Tryd.prog.cellsOf 9)) = xs[0]? := hf 0 _ rfl
    have h1 : DataW.trod enc Tryd.prog w base spare held n 9 (([a, b].drop 1).take (Tryd.prog.cellsOf 9)) = xs[1]? := hf 1 _ rfl
    obtain ⟨y0, hy0⟩ : ∃ y, xs[0]? = some y := ⟨_, List.getElem?_eq_getElem (by rw [hxl]; decide)⟩
    obtain ⟨y1, hy1⟩ : ∃ y, xs[1]? = some y := ⟨_, List.getElem?_eq_getElem (by rw [hxl]; decide)⟩
    have c9 : Tryd.prog.cellsOf 9 = 1 := by kernel_rfl
    rw [hy0, c9] at h0
    rw [hy1, c9] at h1
    obtain ⟨k, e0, _⟩ := DataW.trod_string Tryd.underlying9 h0
    obtain ⟨v, e1, _⟩ := DataW.trod_string Tryd.underlying9 h1
    have e0' : a = .string k := by have := (List.cons.inj e0).1; exact this
    have e1' : b = .string v := by have := (List.cons.inj e1).1; exact this
    exact ⟨k, v, by rw [e0', e1']⟩
theorem open_rec {r : Reach} {b0 : Nat} {v : Value} {d : DataW H} {p : List MemPlace} (hv : Value.okWide Tryd.prog w r b0 45 v) (h : DataW.Trod enc Tryd.prog w base spare held 45 v d p) : ∃ k s : ByteArray, v = .agg #[.string k, .string s] := by
  obtain ⟨cs, rfl, hsz⟩ := okWide_struct Tryd.underlying45 hv
  obtain ⟨fuel, hf⟩ := h
  obtain ⟨k, s, hk⟩ := rec_cells hf
  refine ⟨k, s, ?_⟩
  have : cs.toList = [.string k, .string s] := hk
  rw [← Array.toArray_toList (xs := cs), this]
theorem open_recs {r : Reach} {b0 : Nat} {v : Value} {d : DataW H} {p : List MemPlace} (hv : Value.okWide Tryd.prog w r b0 24 v) (h : DataW.Trod enc Tryd.prog w base spare held 24 v d p) :
    ∃ (A : Option Addr) (c : Nat) (l : List S45), v = .slice A l.length c ∧ l.length ≤ c ∧ Kd.C k45 w A l.length l := by
  obtain ⟨A, n, c, rfl⟩ := okWide_slice Tryd.underlying24 hv
  obtain ⟨fuel, hf⟩ := h
  rcases open_slice Tryd.underlying24 hf with ⟨h0, _⟩ | ⟨a, len, cap, m, n', D, Pl, hcs, hb, hl, hm, hmm, _, hi⟩
  · simp [Value.cells] at h0
    obtain ⟨rfl, rfl, rfl⟩ := h0
    exact ⟨none, 0, [], rfl, Nat.le_refl _, ⟨rfl, by simp, fun h => by simp at h⟩⟩
  · simp [Value.cells] at hcs
    obtain ⟨rfl, rfl, rfl⟩ := hcs
    have hcell : ∀ i, i < n → ∃ x : S45, w.cell? (a.add (i * 2)) = some (.string x.f0) ∧ w.cell? (a.add (i * 2 + 1)) = some (.string x.f1) := by
      intro i him
      obtain ⟨cs', hc, ht'⟩ := hi i (by rw [hmm]; split <;> omega)
      have c2 : Tryd.prog.cellsOf 45 = 2 := by kernel_rfl
      rw [c2] at hc
      obtain ⟨_, hcl, hat⟩ := World.cells?_some hc
      obtain ⟨k, s, rfl⟩ := rec_cells ht'
      refine ⟨⟨k, s⟩, ?_, ?_⟩
      · have := hat 0 (by omega)
        rw [Go.Deep.add_add] at this
        exact this
      · have := hat 1 (by omega)
        rw [Go.Deep.add_add] at this
        exact this
    obtain ⟨f, hfx⟩ : ∃ f : Nat → S45, ∀ i, i < n → w.cell? (a.add (i * 2)) = some (.string (f i).f0) ∧ w.cell? (a.add (i * 2 + 1)) = some (.string (f i).f1) := by
      refine ⟨fun i => if h : i < n then (hcell i h).choose else z45, fun i hi => ?_⟩
      simp only [dif_pos hi]
      exact (hcell i hi).choose_spec
    have hlen : ((List.range n).map f).length = n := by simp
    refine ⟨some a, c, (List.range n).map f, by rw [hlen], by rw [hlen]; exact hl, ?_⟩
    rw [hlen]
    refine ⟨hlen, by unfold maxLen at hm; omega, fun h0 => ⟨a, rfl, fun j p hp => ?_⟩⟩
    have hj : j < n := by have := (List.getElem?_eq_some_iff.1 hp).1; rwa [hlen] at this
    obtain rfl : p = f j := by simp [hj] at hp; exact hp.symm
    refine ⟨[.string (f j).f0, .string (f j).f1], rfl, k45_mk w (f j), fun i u hu => ?_⟩
    obtain ⟨g0, g1⟩ := hfx j hj
    rcases i with _ | _ | i
    · simp at hu; subst hu; exact g0
    · simp at hu; subst hu; exact g1
    · simp at hu
end
end Go.Proofs.YtcgopeneoignpaaDoor
