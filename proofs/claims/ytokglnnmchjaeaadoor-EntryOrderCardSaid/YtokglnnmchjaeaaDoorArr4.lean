/-
  An argument of type [4]string, opened; its texts' sizes.
-/
import Derived.Test.YtokglnnmchjaeaaDoorKit
import Derived.ChangeMaps5
namespace Go.Proofs.YtokglnnmchjaeaaDoor
open Go.ChangeShapes Go.WideShapes Go.ChangeAt Go.RowKit
set_option linter.unusedVariables false
section
open Go.Joins Go.Deep
variable {H : Type} {enc : TypeId × Value → H} {P : Program} {w : World} {base : Nat} {spare : Nat → Bool} {held : Bool}
theorem open_arr4s {r : Reach} {b0 : Nat} {t e : TypeId} {v : Value} {d : DataW H} {p : List MemPlace} (ht : P.underlying t = some (.array 4 e)) (he : P.underlying e = some .string) (hce : P.cellsOf e = 1) (hct : P.cellsOf t = 4)
    (hv : Value.okWide P w r b0 t v) (h : DataW.Trod enc P w base spare held t v d p) :
    ∃ a0 a1 a2 a3 : ByteArray, v = .agg #[.string a0, .string a1, .string a2, .string a3] ∧ d = .agg [.lit (.string a0.data.toList), .lit (.string a1.data.toList), .lit (.string a2.data.toList), .lit (.string a3.data.toList)] := by
  simp only [Value.okWide, ht] at hv
  obtain ⟨cs, rfl, hsz, _⟩ := hv
  obtain ⟨l⟩ := cs
  match l, hsz.trans hct with
  | [c0, c1, c2, c3], _ =>
    obtain ⟨fuel, hf⟩ := h
    obtain ⟨xs, m, _, hx, _, hlen, hi⟩ := DataW.trod_array ht hf
    match xs, hlen with
    | [y0, y1, y2, y3], _ =>
      have h0 := hi 0 (by omega)
      have h1 := hi 1 (by omega)
      have h2 := hi 2 (by omega)
      have h3 := hi 3 (by omega)
      simp [Value.cells, hce] at h0 h1 h2 h3
      obtain ⟨n0, e0, r0, _⟩ := DataW.trod_string he h0
      obtain ⟨n1, e1, r1, _⟩ := DataW.trod_string he h1
      obtain ⟨n2, e2, r2, _⟩ := DataW.trod_string he h2
      obtain ⟨n3, e3, r3, _⟩ := DataW.trod_string he h3
      simp at e0 e1 e2 e3
      subst e0 e1 e2 e3 r0 r1 r2 r3
      have hd := (Prod.mk.inj hx).1
      exact ⟨n0, n1, n2, n3, rfl, hd⟩
theorem arr4_sizes {ts : List TypeId} {ds : List (DataW H)} {t e : TypeId} (hu : P.underlying t = some (.array 4 e)) (hsz : (DataW.weightsEach P ts ds).all (· ≤ reachBytes) = true) {j : Nat} {a b c d : List UInt8} (ht : ts[j]? = some t)
    (hd : ds[j]? = some (.agg [.lit (.string a), .lit (.string b), .lit (.string c), .lit (.string d)])) : a.length ≤ reachBytes ∧ b.length ≤ reachBytes ∧ c.length ≤ reachBytes ∧ d.length ≤ reachBytes := by
  have key : ∀ n, n ∈ [a.length, b.length, c.length, d.length] → n ≤ reachBytes := by
    intro n hn
    have h := List.all_eq_true.1 hsz _ (DataW.weights_mem_each ht hd n (by simpa [DataW.weights, hu, DataW.weightsAll] using hn))
    simpa using h
  exact ⟨key _ (by simp), key _ (by simp), key _ (by simp), key _ (by simp)⟩
end
end Go.Proofs.YtokglnnmchjaeaaDoor
