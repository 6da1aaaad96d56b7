/-
 A map from texts to texts that a call makes, each key written once: its entries as a list; of no program.
-/
import Derived.MapKept
import Derived.Test.YtpbpfngichfgeaaDoorUtil
namespace Go.Proofs.YtpbpfngichfgeaaDoor
set_option linter.unusedVariables false
set_option linter.unusedSimpArgs false
open Go Go.RowKit

abbrev KV := ByteArray × ByteArray
def esOf (l : List KV) : Array MapEntry := (l.mapIdx fun i x => ({ key := .string x.1, val := .string x.2, born := i } : MapEntry)).toArray
def MapIs (w : World) (r : Nat) (l : List KV) : Prop := w.heap[r]? = some (.map (esOf l) l.length)
def putM (w : World) (r : Nat) (l : List KV) : World := { w with heap := w.heap.setIfInBounds r (.map (esOf l) l.length) }
def findM : List KV → ByteArray → Option ByteArray
 | [], _ => none
 | x :: l, k => if x.1 = k then some x.2 else findM l k
theorem MapIs.lt {w : World} {r : Nat} {l : List KV} (h : MapIs w r l) : r < w.heap.size := by
 rcases Nat.lt_or_ge r w.heap.size with h' | h'
 ·exact h'
 ·rw [MapIs, Array.getElem?_eq_none h'] at h; cases h
theorem putM_is {w : World} {r : Nat} {l : List KV} (h : r < w.heap.size) : MapIs (putM w r l) r l := by
 simp [MapIs, putM, h]
theorem putM_other {w : World} {r k : Nat} {l : List KV} (h : k ≠ r) : (putM w r l).heap[k]? = w.heap[k]? := by
 simp only [putM, Array.getElem?_setIfInBounds]
 rw [if_neg (fun e => h e.symm)]
theorem putM_size {w : World} {r : Nat} {l : List KV} : (putM w r l).heap.size = w.heap.size := by simp [putM]
theorem putM_below {W w : World} {B r : Nat} {l : List KV} (h : Below B W w) (hB : B ≤ r) : Below B W (putM w r l) :=
 h.trans ⟨rfl, rfl, rfl, by rw [putM_size]; exact Nat.le_refl _, fun k hk => putM_other (by omega)⟩
theorem MapIs.below {w w' : World} {r : Nat} {l : List KV} (h : MapIs w r l) (hb : Below w.heap.size w w') : MapIs w' r l := (hb.block r h.lt).trans h
theorem blk_putM {w : World} {g r : Nat} {t : TypeId} {cs : Array Value} {l : List KV} (h : Blk w g t cs) (hne : g ≠ r) : Blk (putM w r l) g t cs := (putM_other hne).trans h

theorem findNow_spec_s (k : ByteArray) : ∀ (l : List KV) (i0 j : Nat), Instr.findNow .string (.string k) ((l.mapIdx fun i x => ({ key := .string x.1, val := .string x.2, born := i0 + i } : MapEntry))) j =
  some (match findM l k with | some v => (match l.findIdx? (fun x => x.1 = k) with | some i => some (j + i, .string v) | none => none) | none => none)
 | [], _, _ => rfl
 | x :: l, i0, j => by
  rw [List.mapIdx_cons]
  simp only [Instr.findNow, Instr.sameNow, findM]
  by_cases h : x.1 = k
  ·subst h
   have hb : (x.1 == x.1) = true := by rw [MapKept.bytes_beq]
   simp [hb, List.findIdx?_cons]
  ·have hb : (k == x.1) = false := by
    cases hq : (k == x.1) with
    | false => rfl
    | true => exact absurd ((MapKept.bytes_beq _ _).1 hq).symm h
   have ih := findNow_spec_s k l (i0 + 1) (j + 1)
   have e : (List.mapIdx (fun i (x : KV) => ({ key := Value.string x.1, val := Value.string x.2, born := i0 + (i + 1) } : MapEntry)) l) = (List.mapIdx (fun i (x : KV) => ({ key := Value.string x.1, val := Value.string x.2, born := i0 + 1 + i } : MapEntry)) l) := by
    congr 1; funext i x; congr 1; omega
   simp only [hb, e, ih, h, if_false, List.findIdx?_cons]
   cases findM l k with
   | none => simp
   | some v =>
    cases hq : l.findIdx? (fun x => decide (x.1 = k)) with
    | none => simp [hq]
    | some i => simp [hq]; omega
theorem findM_none {l : List KV} {k : ByteArray} (h : ∀ x ∈ l, x.1 ≠ k) : findM l k = none := by
 induction l with
 | nil => rfl
 | cons x l ih =>
  rw [findM, if_neg (h x (by simp))]
  exact ih fun y hy => h y (by simp [hy])
theorem findNow_new (k : ByteArray) (l : List KV) (h : ∀ x ∈ l, x.1 ≠ k) : Instr.findNow .string (.string k) (esOf l).toList 0 = some none := by
 have := findNow_spec_s k l 0 0
 simp only [Nat.zero_add, findM_none h] at this
 exact this
theorem esOf_push (l : List KV) (k v : ByteArray) : (esOf l).push { key := .string k, val := .string v, born := l.length } = esOf (l ++ [(k, v)]) := by
 simp [esOf, List.mapIdx_append]
section
variable {P : Program} {w : World} {T K E : TypeId} {r : Nat} {l : List KV}
theorem key_s (k : ByteArray) : MapKept.IsKey .string (.string k) := by simp [MapKept.IsKey]
theorem run_update_new (hm : P.underlying T = some (.map K E)) (hd : P.underlying K = some .string) (h : MapIs w r l) (k v : ByteArray) (hn : ∀ x ∈ l, x.1 ≠ k) :
  (Instr.mapUpdate T (.map (some r)) (.string k) (.string v)).run P w = .ok () (putM w r (l ++ [(k, v)])) := by
 have h1 := findNow_new k l hn
 simp [Instr.mapUpdate, run_underlying hm, MapKept.run_getObj_map h, MapKept.run_checkKey hd (key_s k), MapKept.run_findKey hd h1, MapKept.run_setObj_map _ h, Result.andThen]
 simp [putM, esOf_push]
theorem run_entry_new (hm : P.underlying T = some (.map K E)) (hd : P.underlying K = some .string) (hz : (zeroValue E).run P w = .ok (.string ⟨#[]⟩) w) (h : MapIs w r l) (k : ByteArray) (hn : ∀ x ∈ l, x.1 ≠ k) :
  (Instr.mapEntry T (.map (some r)) (.string k)).run P w = .ok (.tuple #[.string ⟨#[]⟩, .int .i64 l.length]) (putM w r (l ++ [(k, ⟨#[]⟩)])) := by
 have h1 := findNow_new k l hn
 simp [Instr.mapEntry, run_underlying hm, MapKept.run_getObj_map h, MapKept.run_checkKey hd (key_s k), MapKept.run_findKey hd h1, hz, MapKept.run_setObj_map _ h, Result.andThen]
 simp [putM, esOf_push, goInt]
theorem run_entry_store {k z : ByteArray} (h : MapIs w r (l ++ [(k, z)])) (v : ByteArray) :
  (Instr.entryStore T (.map (some r)) (.int .i64 l.length) (.string v)).run P w = .ok () (putM w r (l ++ [(k, v)])) := by
 have e1 : esOf (l ++ [(k, z)]) = (esOf l).push { key := .string k, val := .string z, born := l.length } := (esOf_push l k z).symm
 have hs : (esOf l).size = l.length := by simp [esOf]
 have hb : ∀ (i : Nat) (hi : i < (esOf l).size), (esOf l)[i].born = i := by
  intro i hi
  simp [esOf]
 have hf : (esOf (l ++ [(k, z)])).findIdx? (fun e => (e.born : Int) == (l.length : Int)) = some l.length := by
  rw [e1, Array.findIdx?_eq_some_iff_getElem]
  refine ⟨by simp [hs], by simp [Array.getElem_push, hs], fun j hj => ?_⟩
  have hj2 : j < (esOf l).size := by rw [hs]; exact hj
  simp only [Array.getElem_push, hj2, dif_pos, hb j hj2]
  simp
  omega
 have hm : (esOf (l ++ [(k, z)])).modify l.length (fun e => { e with val := .string v }) = esOf (l ++ [(k, v)]) := by
  rw [e1, ← esOf_push]
  apply Array.ext
  ·simp
  ·intro i h1 h2
   rw [Array.getElem_modify]
   by_cases hi : l.length = i
   ·subst hi
    simp [Array.getElem_push, hs]
   ·rw [if_neg hi]
    have hi2 : i < (esOf l).size := by simp at h1; omega
    simp [Array.getElem_push, hi2]
 simp [Instr.entryStore, MapKept.run_getObj_map h, Result.andThen, asInt, asIntOf, hf, hm, MapKept.run_setObj_map _ h]
 simp [putM]
theorem run_lookup_ok (hm : P.underlying T = some (.map K E)) (hd : P.underlying K = some .string) (hz : (zeroValue E).run P w = .ok (.string ⟨#[]⟩) w) (h : MapIs w r l) (k : ByteArray) :
  (Instr.lookup T (.map (some r)) (.string k) true).run P w = .ok (.tuple #[.string ((findM l k).getD ⟨#[]⟩), .bool (findM l k).isSome]) w := by
 have h0 := findNow_spec_s k l 0 0
 simp only [Nat.zero_add] at h0
 cases hq : findM l k with
 | none =>
  rw [hq] at h0
  have h1 : Instr.findNow .string (.string k) (esOf l).toList 0 = some none := h0
  simp [Instr.lookup, run_underlying hm, MapKept.run_getObj_map h, MapKept.run_checkKey hd (key_s k), MapKept.run_findKey hd h1, hz, Result.andThen]
 | some v =>
  rw [hq] at h0
  have hi : ∃ i, l.findIdx? (fun x => decide (x.1 = k)) = some i := by
   clear h0 h
   induction l with
   | nil => cases hq
   | cons x l ih =>
    rw [List.findIdx?_cons]
    by_cases hx : x.1 = k
    ·exact ⟨0, by simp [hx]⟩
    ·rw [findM, if_neg hx] at hq
     obtain ⟨i, hi⟩ := ih hq
     exact ⟨i + 1, by simp [hx, hi]⟩
  obtain ⟨i, hi⟩ := hi
  simp only [hi] at h0
  have h1 : Instr.findNow .string (.string k) (esOf l).toList 0 = some (some (i, .string v)) := h0
  simp [Instr.lookup, run_underlying hm, MapKept.run_getObj_map h, MapKept.run_checkKey hd (key_s k), MapKept.run_findKey hd h1, Result.andThen]
end
end Go.Proofs.YtpbpfngichfgeaaDoor
