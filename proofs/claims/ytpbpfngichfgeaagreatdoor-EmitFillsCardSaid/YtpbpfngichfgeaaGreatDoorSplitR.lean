/-
  Several texts in one: YtpbpfngichfgeaaGreatDoorMapS, YtpbpfngichfgeaaGreatDoorSplit, YtpbpfngichfgeaaGreatDoorSplitU, YtpbpfngichfgeaaGreatDoorSplitN, YtpbpfngichfgeaaGreatDoorSplitT, YtpbpfngichfgeaaGreatDoorSplitV.
-/
import Derived.MapKept
import Derived.Test.YtpbpfngichfgeaaGreatDoorUtil
import Derived.Test.YtpbpfngichfgeaaGreatDoorOctR
import Derived.Test.YtpbpfngichfgeaaGreatDoorEnc
import Derived.Test.YtpbpfngichfgeaaGreatDoorPaxes
import Derived.Deep.DeepCutAuto
import Derived.Deep.CutBlock
import Derived.Deep.LoopGhost
import Derived.Deep.RegionHeld3
import Derived.RegionTactic
import Derived.ChangeAlike
import Derived.Deep.RegionLaw
namespace Go.Proofs.YtpbpfngichfgeaaGreatDoor
set_option linter.unusedVariables false
set_option linter.unusedSimpArgs false
open Go Go.RowKit

abbrev KV := ByteArray × ByteArray
def esOf (l : List KV) : Array MapEntry := (l.mapIdx fun i x => ({ key := .string x.1, val := .string x.2, born := i } : MapEntry)).toArray
def MapIs (w : World) (r : Nat) (l : List KV) : Prop := w.heap[r]? = some (.map (esOf l) l.length)
def putM (w : World) (r : Nat) (l : List KV) : World := { w with heap := w.heap.setIfInBounds r (.map (esOf l) l.length) }
def findM : List KV → ByteArray → Option ByteArray
 | [], _ => none
 | x :: l, k => if x.1 = k then some x.2 else findM l k
theorem MapIs.lt {w : World} {r : Nat} {l : List KV} (h : MapIs w r l) : r < w.heap.size := by
 rcases Nat.lt_or_ge r w.heap.size with h' | h'
 ·exact h'
 ·rw [MapIs, Array.getElem?_eq_none h'] at h; cases h
theorem putM_is {w : World} {r : Nat} {l : List KV} (h : r < w.heap.size) : MapIs (putM w r l) r l := by
 simp [MapIs, putM, h]
theorem putM_other {w : World} {r k : Nat} {l : List KV} (h : k ≠ r) : (putM w r l).heap[k]? = w.heap[k]? := by
 simp only [putM, Array.getElem?_setIfInBounds]
 rw [if_neg (fun e => h e.symm)]
theorem putM_size {w : World} {r : Nat} {l : List KV} : (putM w r l).heap.size = w.heap.size := by simp [putM]
theorem putM_below {W w : World} {B r : Nat} {l : List KV} (h : Below B W w) (hB : B ≤ r) : Below B W (putM w r l) :=
 h.trans ⟨rfl, rfl, rfl, by rw [putM_size]; exact Nat.le_refl _, fun k hk => putM_other (by omega)⟩
theorem MapIs.below {w w' : World} {r : Nat} {l : List KV} (h : MapIs w r l) (hb : Below w.heap.size w w') : MapIs w' r l := (hb.block r h.lt).trans h
theorem blk_putM {w : World} {g r : Nat} {t : TypeId} {cs : Array Value} {l : List KV} (h : Blk w g t cs) (hne : g ≠ r) : Blk (putM w r l) g t cs := (putM_other hne).trans h

theorem findNow_spec_s (k : ByteArray) : ∀ (l : List KV) (i0 j : Nat), Instr.findNow .string (.string k) ((l.mapIdx fun i x => ({ key := .string x.1, val := .string x.2, born := i0 + i } : MapEntry))) j =
  some (match findM l k with | some v => (match l.findIdx? (fun x => x.1 = k) with | some i => some (j + i, .string v) | none => none) | none => none)
 | [], _, _ => rfl
 | x :: l, i0, j => by
  rw [List.mapIdx_cons]
  simp only [Instr.findNow, Instr.sameNow, findM]
  by_cases h : x.1 = k
  ·subst h
   have hb : (x.1 == x.1) = true := by rw [MapKept.bytes_beq]
   simp [hb, List.findIdx?_cons]
  ·have hb : (k == x.1) = false := by
    cases hq : (k == x.1) with
    | false => rfl
    | true => exact absurd ((MapKept.bytes_beq _ _).1 hq).symm h
   have ih := findNow_spec_s k l (i0 + 1) (j + 1)
   have e : (List.mapIdx (fun i (x : KV) => ({ key := Value.string x.1, val := Value.string x.2, born := i0 + (i + 1) } : MapEntry)) l) = (List.mapIdx (fun i (x : KV) => ({ key := Value.string x.1, val := Value.string x.2, born := i0 + 1 + i } : MapEntry)) l) := by
    congr 1; funext i x; congr 1; omega
   simp only [hb, e, ih, h, if_false, List.findIdx?_cons]
   cases findM l k with
   | none => simp
   | some v =>
    cases hq : l.findIdx? (fun x => decide (x.1 = k)) with
    | none => simp [hq]
    | some i => simp [hq]; omega
theorem findM_none {l : List KV} {k : ByteArray} (h : ∀ x ∈ l, x.1 ≠ k) : findM l k = none := by
 induction l with
 | nil => rfl
 | cons x l ih =>
  rw [findM, if_neg (h x (by simp))]
  exact ih fun y hy => h y (by simp [hy])
theorem findNow_new (k : ByteArray) (l : List KV) (h : ∀ x ∈ l, x.1 ≠ k) : Instr.findNow .string (.string k) (esOf l).toList 0 = some none := by
 have := findNow_spec_s k l 0 0
 simp only [Nat.zero_add, findM_none h] at this
 exact this
theorem esOf_push (l : List KV) (k v : ByteArray) : (esOf l).push { key := .string k, val := .string v, born := l.length } = esOf (l ++ [(k, v)]) := by
 simp [esOf, List.mapIdx_append]
section
variable {P : Program} {w : World} {T K E : TypeId} {r : Nat} {l : List KV}
theorem key_s (k : ByteArray) : MapKept.IsKey .string (.string k) := by simp [MapKept.IsKey]
theorem run_update_new (hm : P.underlying T = some (.map K E)) (hd : P.underlying K = some .string) (h : MapIs w r l) (k v : ByteArray) (hn : ∀ x ∈ l, x.1 ≠ k) :
  (Instr.mapUpdate T (.map (some r)) (.string k) (.string v)).run P w = .ok () (putM w r (l ++ [(k, v)])) := by
 have h1 := findNow_new k l hn
 simp [Instr.mapUpdate, run_underlying hm, MapKept.run_getObj_map h, MapKept.run_checkKey hd (key_s k), MapKept.run_findKey hd h1, MapKept.run_setObj_map _ h, Result.andThen]
 simp [putM, esOf_push]
theorem run_entry_new (hm : P.underlying T = some (.map K E)) (hd : P.underlying K = some .string) (hz : (zeroValue E).run P w = .ok (.string ⟨#[]⟩) w) (h : MapIs w r l) (k : ByteArray) (hn : ∀ x ∈ l, x.1 ≠ k) :
  (Instr.mapEntry T (.map (some r)) (.string k)).run P w = .ok (.tuple #[.string ⟨#[]⟩, .int .i64 l.length]) (putM w r (l ++ [(k, ⟨#[]⟩)])) := by
 have h1 := findNow_new k l hn
 simp [Instr.mapEntry, run_underlying hm, MapKept.run_getObj_map h, MapKept.run_checkKey hd (key_s k), MapKept.run_findKey hd h1, hz, MapKept.run_setObj_map _ h, Result.andThen]
 simp [putM, esOf_push, goInt]
theorem run_entry_store {k z : ByteArray} (h : MapIs w r (l ++ [(k, z)])) (v : ByteArray) :
  (Instr.entryStore T (.map (some r)) (.int .i64 l.length) (.string v)).run P w = .ok () (putM w r (l ++ [(k, v)])) := by
 have e1 : esOf (l ++ [(k, z)]) = (esOf l).push { key := .string k, val := .string z, born := l.length } := (esOf_push l k z).symm
 have hs : (esOf l).size = l.length := by simp [esOf]
 have hb : ∀ (i : Nat) (hi : i < (esOf l).size), (esOf l)[i].born = i := by
  intro i hi
  simp [esOf]
 have hf : (esOf (l ++ [(k, z)])).findIdx? (fun e => (e.born : Int) == (l.length : Int)) = some l.length := by
  rw [e1, Array.findIdx?_eq_some_iff_getElem]
  refine ⟨by simp [hs], by simp [Array.getElem_push, hs], fun j hj => ?_⟩
  have hj2 : j < (esOf l).size := by rw [hs]; exact hj
  simp only [Array.getElem_push, hj2, dif_pos, hb j hj2]
  simp
  omega
 have hm : (esOf (l ++ [(k, z)])).modify l.length (fun e => { e with val := .string v }) = esOf (l ++ [(k, v)]) := by
  rw [e1, ← esOf_push]
  apply Array.ext
  ·simp
  ·intro i h1 h2
   rw [Array.getElem_modify]
   by_cases hi : l.length = i
   ·subst hi
    simp [Array.getElem_push, hs]
   ·rw [if_neg hi]
    have hi2 : i < (esOf l).size := by simp at h1; omega
    simp [Array.getElem_push, hi2]
 simp [Instr.entryStore, MapKept.run_getObj_map h, Result.andThen, asInt, asIntOf, hf, hm, MapKept.run_setObj_map _ h]
 simp [putM]
theorem run_lookup_ok (hm : P.underlying T = some (.map K E)) (hd : P.underlying K = some .string) (hz : (zeroValue E).run P w = .ok (.string ⟨#[]⟩) w) (h : MapIs w r l) (k : ByteArray) :
  (Instr.lookup T (.map (some r)) (.string k) true).run P w = .ok (.tuple #[.string ((findM l k).getD ⟨#[]⟩), .bool (findM l k).isSome]) w := by
 have h0 := findNow_spec_s k l 0 0
 simp only [Nat.zero_add] at h0
 cases hq : findM l k with
 | none =>
  rw [hq] at h0
  have h1 : Instr.findNow .string (.string k) (esOf l).toList 0 = some none := h0
  simp [Instr.lookup, run_underlying hm, MapKept.run_getObj_map h, MapKept.run_checkKey hd (key_s k), MapKept.run_findKey hd h1, hz, Result.andThen]
 | some v =>
  rw [hq] at h0
  have hi : ∃ i, l.findIdx? (fun x => decide (x.1 = k)) = some i := by
   clear h0 h
   induction l with
   | nil => cases hq
   | cons x l ih =>
    rw [List.findIdx?_cons]
    by_cases hx : x.1 = k
    ·exact ⟨0, by simp [hx]⟩
    ·rw [findM, if_neg hx] at hq
     obtain ⟨i, hi⟩ := ih hq
     exact ⟨i + 1, by simp [hx, hi]⟩
  obtain ⟨i, hi⟩ := hi
  simp only [hi] at h0
  have h1 : Instr.findNow .string (.string k) (esOf l).toList 0 = some (some (i, .string v)) := h0
  simp [Instr.lookup, run_underlying hm, MapKept.run_getObj_map h, MapKept.run_checkKey hd (key_s k), MapKept.run_findKey hd h1, Result.andThen]
end
end Go.Proofs.YtpbpfngichfgeaaGreatDoor

namespace Go.Proofs.YtpbpfngichfgeaaGreatDoor
set_option linter.unusedVariables false
set_option linter.unusedSimpArgs false
open Go Go.RowKit Go.Proofs.YtpbpfngichfgeaaGreatDoorW.PrintWords Go.Proofs.YtpbpfngichfgeaaGreatDoorW.PrintLast Go.Proofs.YtpbpfngichfgeaaGreatDoorW.PrintMore

theorem drawn_below {W w : World} (h : Drawn0 W.drew w) : Below W.heap.size W w := by
 obtain ⟨n, rfl⟩ := h
 exact below_drewN' ((Below.refl _ _).drew) n
noncomputable def splRest (n : Nat) : Code := dropC n (Tryz.f53.body.getD .skip)
def fitsT (s : ByteArray) (most : Nat) : Bool := decide (s.size ≤ most) && !has0 s
theorem fits_t (s : ByteArray) (most : Nat) : POct.head_Fits.f s (most : Int) = some (fitsT s most) := by
 unfold POct.head_Fits.f fitsT POct.strings_Contains.f
 by_cases h : s.size ≤ most
 ·rw [if_pos (by omega)]; simp [h]
 ·rw [if_neg (by omega)]; simp [h]
/-- What a cell holds, by a name that simp leaves alone. -/
def cellOr (w : World) (a : Addr) : Value := (w.cell? a).getD undef
/-- The memory of emit.split: the entry's box, the result's, the header, the map. -/
structure SM (w wc : World) (be br bh bm : Nat) (en hd : Array Value) (l : List KV) : Prop where
 b : Below w.heap.size w wc
 e : Blk wc be 41 en
 r : Blk wc br 36 #[.int .i64 0, .string ⟨#[]⟩, .string ⟨#[]⟩, .string ⟨#[]⟩, .string ⟨#[]⟩, .string ⟨#[]⟩, .int .u8 0, .int .i64 0, .int .i64 0, .int .i64 0, .int .i64 0, .int .i64 0]
 h : Blk wc bh 36 hd
 m : MapIs wc bm l
 n1 : w.heap.size ≤ bh
 n2 : w.heap.size ≤ bm
 n3 : br ≠ bh
 n0 : w.heap.size ≤ br
theorem SM.next {w wc w' : World} {be br bh bm : Nat} {en hd : Array Value} {l : List KV} (s : SM w wc be br bh bm en hd l) (hb : Below wc.heap.size wc w') : SM w w' be br bh bm en hd l :=
 ⟨below_next s.b hb, s.e.below hb s.e.lt, s.r.below hb s.r.lt, s.h.below hb s.h.lt, s.m.below hb, s.n1, s.n2, s.n3, s.n0⟩
theorem blk_ne_map {w : World} {g r : Nat} {t : TypeId} {cs : Array Value} {l : List KV} (h : Blk w g t cs) (hm : MapIs w r l) : g ≠ r := by
 rintro rfl
 rw [MapIs, h] at hm
 cases hm
theorem SM.ebh {w wc : World} {be br bh bm : Nat} {en hd : Array Value} {l : List KV} (s : SM w wc be br bh bm en hd l) : be ≠ bh := Blk.ne_ s.e s.h (by decide)
theorem SM.putM {w wc : World} {be br bh bm : Nat} {en hd : Array Value} {l : List KV} (s : SM w wc be br bh bm en hd l) (l' : List KV) : SM w (putM wc bm l') be br bh bm en hd l' :=
 ⟨putM_below s.b s.n2, blk_putM s.e (blk_ne_map s.e s.m), blk_putM s.r (blk_ne_map s.r s.m), blk_putM s.h (blk_ne_map s.h s.m), putM_is s.m.lt, s.n1, s.n2, s.n3, s.n0⟩
theorem mapIs_setCell {w : World} {r : Nat} {l : List KV} {p : Addr} (h : MapIs w r l) (hne : r ≠ p.block) (v : Value) : MapIs (w.setCell p v) r l := (Below.heap_setCell w p v r hne).trans h
theorem SM.set {w wc : World} {be br bh bm : Nat} {en hd : Array Value} {l : List KV} (s : SM w wc be br bh bm en hd l) (i : Nat) (v : Value) : SM w (wc.setCell ⟨bh, i, none⟩ v) be br bh bm en (hd.setIfInBounds i v) l :=
 ⟨s.b.setCell (p := ⟨bh, i, none⟩) s.n1 v, s.e.far s.ebh v, s.r.far s.n3 v, s.h.set_ i v, mapIs_setCell s.m (Ne.symm (blk_ne_map s.h s.m)) v, s.n1, s.n2, s.n3, s.n0⟩
/-- .. and a table. -/
structure ST (w wc : World) (be br bh bm : Nat) (en hd : Array Value) (l : List KV) (tb : Nat) (tt : TypeId) (tab : Array Value) : Prop extends SM w wc be br bh bm en hd l where
 t : Blk wc tb tt tab
 n4 : bh ≠ tb
 n5 : bm ≠ tb
theorem ST.next {w wc w' : World} {be br bh bm : Nat} {en hd : Array Value} {l : List KV} {tb : Nat} {tt : TypeId} {tab : Array Value} (s : ST w wc be br bh bm en hd l tb tt tab) (hb : Below wc.heap.size wc w') : ST w w' be br bh bm en hd l tb tt tab := ⟨s.toSM.next hb, s.t.below hb s.t.lt, s.n4, s.n5⟩
theorem ST.putM {w wc : World} {be br bh bm : Nat} {en hd : Array Value} {l : List KV} {tb : Nat} {tt : TypeId} {tab : Array Value} (s : ST w wc be br bh bm en hd l tb tt tab) (l' : List KV) : ST w (putM wc bm l') be br bh bm en hd l' tb tt tab := ⟨s.toSM.putM l', blk_putM s.t (Ne.symm s.n5), s.n4, s.n5⟩
theorem ST.set {w wc : World} {be br bh bm : Nat} {en hd : Array Value} {l : List KV} {tb : Nat} {tt : TypeId} {tab : Array Value} (s : ST w wc be br bh bm en hd l tb tt tab) (i : Nat) (v : Value) : ST w (wc.setCell ⟨bh, i, none⟩ v) be br bh bm en (hd.setIfInBounds i v) l tb tt tab := ⟨s.toSM.set i v, s.t.far (Ne.symm s.n4) v, s.n4, s.n5⟩

def tKey (k : Nat) : ByteArray := [⟨#[108, 105, 110, 107, 112, 97, 116, 104]⟩, ⟨#[117, 110, 97, 109, 101]⟩, ⟨#[103, 110, 97, 109, 101]⟩].getD k ⟨#[]⟩
def tFi (k : Nat) : Nat := [2, 4, 5].getD k 0
def tMost (k : Nat) : Nat := [100, 31, 31].getD k 0
def tS (link user group : ByteArray) (k : Nat) : ByteArray := [link, user, group].getD k ⟨#[]⟩
def hdS0 (name pre link user group : ByteArray) (typ md uid gid sz mt : Int) : Array Value := #[.int .i64 0, .string name, .string link, .string pre, .string user, .string group, .int .u8 typ, .int .i64 md, .int .i64 uid, .int .i64 gid, .int .i64 sz, .int .i64 mt]
def hdT (name pre link user group : ByteArray) (typ md uid gid sz mt : Int) : Nat → Array Value
 | 0 => hdS0 name pre link user group typ md uid gid sz mt
 | k + 1 => if fitsT (tS link user group k) (tMost k) = true then hdT name pre link user group typ md uid gid sz mt k else (hdT name pre link user group typ md uid gid sz mt k).setIfInBounds (tFi k) (.string ⟨#[]⟩)
def lT (l0 : List KV) (link user group : ByteArray) : Nat → List KV
 | 0 => l0
 | k + 1 => if fitsT (tS link user group k) (tMost k) = true then lT l0 link user group k else lT l0 link user group k ++ [(tKey k, tS link user group k)]
theorem hdT_cell (name pre link user group : ByteArray) (typ md uid gid sz mt : Int) (k : Nat) (hk : k < 3) : (hdT name pre link user group typ md uid gid sz mt k)[tFi k]? = some (.string (tS link user group k)) := by
 rcases (by omega : k = 0 ∨ k = 1 ∨ k = 2) with rfl | rfl | rfl
 ·rfl
 ·simp only [hdT]; split <;> rfl
 ·simp only [hdT]; split <;> split <;> rfl
theorem lT_new {l0 : List KV} (h0 : ∀ x ∈ l0, x.1 = ⟨#[112, 97, 116, 104]⟩) (link user group : ByteArray) (k : Nat) (hk : k < 3) : ∀ x ∈ lT l0 link user group k, x.1 ≠ tKey k := by
 have hp : ∀ k, k < 3 → ⟨#[112, 97, 116, 104]⟩ ≠ tKey k := by decide
 have h1 : ∀ x ∈ l0, x.1 ≠ tKey k := fun x hx => by rw [h0 x hx]; exact hp k hk
 rcases (by omega : k = 0 ∨ k = 1 ∨ k = 2) with rfl | rfl | rfl
 ·exact h1
 ·simp only [lT]
  split
  ·exact h1
  ·intro x hx
   rcases List.mem_append.1 hx with h | h
   ·exact h1 x h
   ·rw [List.mem_singleton.1 h]
    show tKey 0 ≠ tKey 1
    decide
 ·simp only [lT]
  intro x hx
  have h2 : x ∈ l0 ∨ x.1 = tKey 0 ∨ x.1 = tKey 1 := by
   split at hx <;> split at hx <;> (try simp only [List.mem_append, List.mem_singleton] at hx)
   all_goals first | exact .inl hx | (rcases hx with h | h <;> first | exact .inl h | (rcases h with h | h <;> first | exact .inl h | exact .inr (.inl (congrArg Prod.fst h)) | exact .inr (.inr (congrArg Prod.fst h))) | exact .inr (.inl (congrArg Prod.fst h)) | exact .inr (.inr (congrArg Prod.fst h)))
  rcases h2 with h | h | h
  ·exact h1 x h
  ·rw [h]; decide
  ·rw [h]; decide
def nKey (k : Nat) : ByteArray := [⟨#[117, 105, 100]⟩, ⟨#[103, 105, 100]⟩, ⟨#[115, 105, 122, 101]⟩, ⟨#[109, 116, 105, 109, 101]⟩].getD k ⟨#[]⟩
def nFi (k : Nat) : Nat := [8, 9, 10, 11].getD k 0
def nWd (k : Nat) : Nat := [8, 8, 12, 12].getD k 0
def nN (uid gid sz mt : Int) (k : Nat) : Int := [uid, gid, sz, mt].getD k 0
def hdN (h0 : Array Value) (uid gid sz mt : Int) : Nat → Array Value
 | 0 => h0
 | k + 1 => if fitsN (nN uid gid sz mt k) (nWd k) = true then hdN h0 uid gid sz mt k else (hdN h0 uid gid sz mt k).setIfInBounds (nFi k) (.int .i64 0)
def lN (l0 : List KV) (uid gid sz mt : Int) : Nat → List KV
 | 0 => l0
 | k + 1 => if fitsN (nN uid gid sz mt k) (nWd k) = true then lN l0 uid gid sz mt k else lN l0 uid gid sz mt k ++ [(nKey k, itoaS (nN uid gid sz mt k))]
theorem hdT_num (name pre link user group : ByteArray) (typ md uid gid sz mt : Int) (k j : Nat) (hj : j < 4) : (hdT name pre link user group typ md uid gid sz mt k)[nFi j]? = some (.int .i64 (nN uid gid sz mt j)) := by
 induction k with
 | zero => rcases (by omega : j = 0 ∨ j = 1 ∨ j = 2 ∨ j = 3) with rfl | rfl | rfl | rfl <;> rfl
 | succ k ih =>
  have hne : ∀ j, j < 4 → ∀ k, tFi k ≠ nFi j := by
   intro j hj k
   have h1 : tFi k ≤ 5 := by
    unfold tFi
    rcases k with _ | _ | _ | k <;> simp
   have h2 : ∀ j, j < 4 → 8 ≤ nFi j := by decide
   have := h2 j hj
   omega
  simp only [hdT]
  split
  ·exact ih
  ·rw [Array.getElem?_setIfInBounds_ne (hne j hj k)]; exact ih
theorem hdN_cell {h0 : Array Value} {uid gid sz mt : Int} (h : ∀ j, j < 4 → h0[nFi j]? = some (.int .i64 (nN uid gid sz mt j))) : ∀ k j, k ≤ j → j < 4 → (hdN h0 uid gid sz mt k)[nFi j]? = some (.int .i64 (nN uid gid sz mt j))
 | 0, j, _, hj => h j hj
 | k + 1, j, hk, hj => by
  have ih := hdN_cell h k j (by omega) hj
  have hne : ∀ j, j < 4 → ∀ k, k < j → nFi k ≠ nFi j := by decide
  simp only [hdN]
  split
  ·exact ih
  ·rw [Array.getElem?_setIfInBounds_ne (hne j hj k (by omega))]; exact ih
theorem lT_mem {l0 : List KV} {link user group : ByteArray} : ∀ k, ∀ x ∈ lT l0 link user group k, x ∈ l0 ∨ ∃ j, j < k ∧ x.1 = tKey j
 | 0, x, hx => .inl hx
 | k + 1, x, hx => by
  simp only [lT] at hx
  have ih : ∀ y ∈ lT l0 link user group k, y ∈ l0 ∨ ∃ j, j < k + 1 ∧ y.1 = tKey j := fun y hy => (lT_mem k y hy).imp id fun ⟨j, h1, h2⟩ => ⟨j, by omega, h2⟩
  split at hx
  ·exact ih x hx
  ·rcases List.mem_append.1 hx with h | h
   ·exact ih x h
   ·exact .inr ⟨k, by omega, by rw [List.mem_singleton.1 h]⟩
theorem lN_mem {l0 : List KV} {uid gid sz mt : Int} : ∀ k, ∀ x ∈ lN l0 uid gid sz mt k, x ∈ l0 ∨ ∃ j, j < k ∧ x.1 = nKey j
 | 0, x, hx => .inl hx
 | k + 1, x, hx => by
  simp only [lN] at hx
  have ih : ∀ y ∈ lN l0 uid gid sz mt k, y ∈ l0 ∨ ∃ j, j < k + 1 ∧ y.1 = nKey j := fun y hy => (lN_mem k y hy).imp id fun ⟨j, h1, h2⟩ => ⟨j, by omega, h2⟩
  split at hx
  ·exact ih x hx
  ·rcases List.mem_append.1 hx with h | h
   ·exact ih x h
   ·exact .inr ⟨k, by omega, by rw [List.mem_singleton.1 h]⟩
theorem lN_new {l0 : List KV} (h0 : ∀ x ∈ l0, x.1 = ⟨#[112, 97, 116, 104]⟩) {link user group : ByteArray} {uid gid sz mt : Int} (k : Nat) (hk : k < 4) : ∀ x ∈ lN (lT l0 link user group 3) uid gid sz mt k, x.1 ≠ nKey k := by
 intro x hx
 have d1 : ∀ k, k < 4 → ⟨#[112, 97, 116, 104]⟩ ≠ nKey k := by decide
 have d2 : ∀ k, k < 4 → ∀ j, j < 3 → tKey j ≠ nKey k := by decide
 have d3 : ∀ k, k < 4 → ∀ j, j < k → nKey j ≠ nKey k := by decide
 rcases lN_mem k x hx with h | ⟨j, hj, h⟩
 ·rcases lT_mem 3 x h with h | ⟨j, hj, h⟩
  ·rw [h0 x h]; exact d1 k hk
  ·rw [h]; exact d2 k hk j hj
 ·rw [h]; exact d3 k hk j hj
abbrev kKV : Kd KV := Kd.pair Kd.string Kd.string
theorem kKV_mkM (w : World) (base : Nat) (ok : Nat → Prop) (x : KV) : kKV.M w base ok x [.string x.1, .string x.2] := ⟨[.string x.1], [.string x.2], rfl, rfl, rfl⟩
def sKey (k : Nat) : ByteArray := [⟨#[103, 105, 100]⟩, ⟨#[103, 110, 97, 109, 101]⟩, ⟨#[108, 105, 110, 107, 112, 97, 116, 104]⟩, ⟨#[109, 116, 105, 109, 101]⟩, ⟨#[112, 97, 116, 104]⟩, ⟨#[115, 105, 122, 101]⟩, ⟨#[117, 105, 100]⟩, ⟨#[117, 110, 97, 109, 101]⟩].getD k ⟨#[]⟩
def recsK (L : List KV) : Nat → List KV
 | 0 => []
 | k + 1 => recsK L k ++ (match findM L (sKey k) with | some v => [(sKey k, v)] | none => [])
theorem recsK_len (L : List KV) : ∀ k, (recsK L k).length ≤ k
 | 0 => Nat.le_refl _
 | k + 1 => by
  have := recsK_len L k
  simp only [recsK, List.length_append]
  split <;> simp <;> omega
def tv (s : ByteArray) (most : Nat) : ByteArray := if fitsT s most = true then s else ⟨#[]⟩
def nv (n : Int) (w : Nat) : Int := if fitsN n w = true then n else 0
theorem hdT_three (name pre link user group : ByteArray) (typ md uid gid sz mt : Int) : hdT name pre link user group typ md uid gid sz mt 3 = hdS0 name pre (tv link 100) (tv user 31) (tv group 31) typ md uid gid sz mt := by
 have h1 : hdT name pre link user group typ md uid gid sz mt 1 = hdS0 name pre (tv link 100) user group typ md uid gid sz mt := by
  show (if fitsT link 100 = true then _ else _) = _
  unfold tv
  split <;> rfl
 have h2 : hdT name pre link user group typ md uid gid sz mt 2 = hdS0 name pre (tv link 100) (tv user 31) group typ md uid gid sz mt := by
  show (if fitsT user 31 = true then hdT name pre link user group typ md uid gid sz mt 1 else (hdT name pre link user group typ md uid gid sz mt 1).setIfInBounds 4 (.string ⟨#[]⟩)) = _
  rw [h1]
  generalize tv link 100 = q
  unfold tv
  split <;> rfl
 show (if fitsT group 31 = true then hdT name pre link user group typ md uid gid sz mt 2 else (hdT name pre link user group typ md uid gid sz mt 2).setIfInBounds 5 (.string ⟨#[]⟩)) = _
 rw [h2]
 generalize tv link 100 = q
 generalize tv user 31 = p
 unfold tv
 split <;> rfl
theorem hdN_four (name pre l u g : ByteArray) (typ md uid gid sz mt : Int) : hdN (hdS0 name pre l u g typ md uid gid sz mt) uid gid sz mt 4 = hdS0 name pre l u g typ md (nv uid 8) (nv gid 8) (nv sz 12) (nv mt 12) := by
 have h1 : hdN (hdS0 name pre l u g typ md uid gid sz mt) uid gid sz mt 1 = hdS0 name pre l u g typ md (nv uid 8) gid sz mt := by
  show (if fitsN uid 8 = true then _ else _) = _
  unfold nv
  split <;> rfl
 have h2 : hdN (hdS0 name pre l u g typ md uid gid sz mt) uid gid sz mt 2 = hdS0 name pre l u g typ md (nv uid 8) (nv gid 8) sz mt := by
  show (if fitsN gid 8 = true then hdN (hdS0 name pre l u g typ md uid gid sz mt) uid gid sz mt 1 else (hdN (hdS0 name pre l u g typ md uid gid sz mt) uid gid sz mt 1).setIfInBounds 9 (.int .i64 0)) = _
  rw [h1]
  generalize nv uid 8 = a
  unfold nv
  split <;> rfl
 have h3 : hdN (hdS0 name pre l u g typ md uid gid sz mt) uid gid sz mt 3 = hdS0 name pre l u g typ md (nv uid 8) (nv gid 8) (nv sz 12) mt := by
  show (if fitsN sz 12 = true then hdN (hdS0 name pre l u g typ md uid gid sz mt) uid gid sz mt 2 else (hdN (hdS0 name pre l u g typ md uid gid sz mt) uid gid sz mt 2).setIfInBounds 10 (.int .i64 0)) = _
  rw [h2]
  generalize nv uid 8 = a
  generalize nv gid 8 = b
  unfold nv
  split <;> rfl
 show (if fitsN mt 12 = true then hdN (hdS0 name pre l u g typ md uid gid sz mt) uid gid sz mt 3 else (hdN (hdS0 name pre l u g typ md uid gid sz mt) uid gid sz mt 3).setIfInBounds 11 (.int .i64 0)) = _
 rw [h3]
 generalize nv uid 8 = a
 generalize nv gid 8 = b
 generalize nv sz 12 = c
 unfold nv
 split <;> rfl
def SplitEnd (X : Array Value) (L : List KV) (w : World) (e : Ending) (w' : World) : Prop := ∃ v, e = .returned (.tuple #[.agg X, v]) ∧ Kd.R kKV 66 w' w.heap.size (fun _ => True) v (recsK L 8) ∧ Below w.heap.size w w'
theorem infoRec : (Tryz.prog.info? 66).map (fun i => (i.zero, i.size, i.bytes)) = some (some (.agg #[.string ⟨#[]⟩, .string ⟨#[]⟩]), 2, 32) := by kernel_rfl
theorem r_blk_ne {w : World} {base : Nat} {ok : Nat → Prop} {v : Value} {xs : List KV} {g : Nat} {t : TypeId} {cs : Array Value} (h : Kd.R kKV 66 w base ok v xs) (hg : Blk w g t cs) (hne : 66 ≠ t) : some g ≠ v.ownBlock := by
 obtain ⟨_, inner, ho, _⟩ := h
 exact fun e => own_blk_ne ho hg hne e.symm
theorem r_map_ne {w : World} {base : Nat} {ok : Nat → Prop} {v : Value} {xs : List KV} {r : Nat} {l : List KV} (h : Kd.R kKV 66 w base ok v xs) (hm : MapIs w r l) : some r ≠ v.ownBlock := by
 obtain ⟨_, inner, ho, _⟩ := h
 intro e
 obtain ⟨cells, hc⟩ := own_typed ho r e.symm
 rw [MapIs, hc] at hm
 cases hm
theorem ST.grown {w wc w' : World} {be br bh bm : Nat} {en hd : Array Value} {l : List KV} {tb : Nat} {tt : TypeId} {tab : Array Value} (s : ST w wc be br bh bm en hd l tb tt tab) {ok : Nat → Prop} {v : Value} {xs : List KV} (hr : Kd.R kKV 66 wc w.heap.size ok v xs) (hne : 66 ≠ tt) (hg : wc.grownBy w' v.ownBlock) (hb : Below w.heap.size w w') : ST w w' be br bh bm en hd l tb tt tab :=
 ⟨⟨hb, s.e.grown hg (r_blk_ne hr s.e (by decide)), s.r.grown hg (r_blk_ne hr s.r (by decide)), s.h.grown hg (r_blk_ne hr s.h (by decide)), (hg.block bm s.m.lt (r_map_ne hr s.m)).trans s.m, s.n1, s.n2, s.n3, s.n0⟩, s.t.grown hg (r_blk_ne hr s.t hne), s.n4, s.n5⟩
theorem SM.hcells {w wc : World} {be br bh bm : Nat} {en : Array Value} {l : List KV} {h0 h1 h2 h3 h4 h5 h6 h7 h8 h9 h10 h11 : Value} (s : SM w wc be br bh bm en #[h0, h1, h2, h3, h4, h5, h6, h7, h8, h9, h10, h11] l) : wc.cell? ⟨bh, 0, none⟩ = some h0 ∧ wc.cell? ⟨bh, 1, none⟩ = some h1 ∧ wc.cell? ⟨bh, 2, none⟩ = some h2 ∧ wc.cell? ⟨bh, 3, none⟩ = some h3 ∧ wc.cell? ⟨bh, 4, none⟩ = some h4 ∧ wc.cell? ⟨bh, 5, none⟩ = some h5 ∧ wc.cell? ⟨bh, 6, none⟩ = some h6 ∧ wc.cell? ⟨bh, 7, none⟩ = some h7 ∧ wc.cell? ⟨bh, 8, none⟩ = some h8 ∧ wc.cell? ⟨bh, 9, none⟩ = some h9 ∧ wc.cell? ⟨bh, 10, none⟩ = some h10 ∧ wc.cell? ⟨bh, 11, none⟩ = some h11 := ⟨s.h.cell 0, s.h.cell 1, s.h.cell 2, s.h.cell 3, s.h.cell 4, s.h.cell 5, s.h.cell 6, s.h.cell 7, s.h.cell 8, s.h.cell 9, s.h.cell 10, s.h.cell 11⟩
theorem SM.rcells {w wc : World} {be br bh bm : Nat} {en hd : Array Value} {l : List KV} (s : SM w wc be br bh bm en hd l) : wc.cell? ⟨br, 0, none⟩ = some (.int .i64 0) ∧ wc.cell? ⟨br, 1, none⟩ = some (.string ⟨#[]⟩) ∧ wc.cell? ⟨br, 2, none⟩ = some (.string ⟨#[]⟩) ∧ wc.cell? ⟨br, 3, none⟩ = some (.string ⟨#[]⟩) ∧ wc.cell? ⟨br, 4, none⟩ = some (.string ⟨#[]⟩) ∧ wc.cell? ⟨br, 5, none⟩ = some (.string ⟨#[]⟩) ∧ wc.cell? ⟨br, 6, none⟩ = some (.int .u8 0) ∧ wc.cell? ⟨br, 7, none⟩ = some (.int .i64 0) ∧ wc.cell? ⟨br, 8, none⟩ = some (.int .i64 0) ∧ wc.cell? ⟨br, 9, none⟩ = some (.int .i64 0) ∧ wc.cell? ⟨br, 10, none⟩ = some (.int .i64 0) ∧ wc.cell? ⟨br, 11, none⟩ = some (.int .i64 0) := ⟨s.r.cell 0, s.r.cell 1, s.r.cell 2, s.r.cell 3, s.r.cell 4, s.r.cell 5, s.r.cell 6, s.r.cell 7, s.r.cell 8, s.r.cell 9, s.r.cell 10, s.r.cell 11⟩
theorem SM.rfroz {w wc : World} {be br bh bm : Nat} {en hd : Array Value} {l : List KV} (s : SM w wc be br bh bm en hd l) : wc.frozen? ⟨br, 0, none⟩ = false ∧ wc.frozen? ⟨br, 1, none⟩ = false ∧ wc.frozen? ⟨br, 2, none⟩ = false ∧ wc.frozen? ⟨br, 3, none⟩ = false ∧ wc.frozen? ⟨br, 4, none⟩ = false ∧ wc.frozen? ⟨br, 5, none⟩ = false ∧ wc.frozen? ⟨br, 6, none⟩ = false ∧ wc.frozen? ⟨br, 7, none⟩ = false ∧ wc.frozen? ⟨br, 8, none⟩ = false ∧ wc.frozen? ⟨br, 9, none⟩ = false ∧ wc.frozen? ⟨br, 10, none⟩ = false ∧ wc.frozen? ⟨br, 11, none⟩ = false := ⟨s.r.frozen 0, s.r.frozen 1, s.r.frozen 2, s.r.frozen 3, s.r.frozen 4, s.r.frozen 5, s.r.frozen 6, s.r.frozen 7, s.r.frozen 8, s.r.frozen 9, s.r.frozen 10, s.r.frozen 11⟩
theorem spl_rets {w wc : World} {be br bh bm : Nat} {en hd : Array Value} {l : List KV} (s : SM w wc be br bh bm en hd l) {v : Value} {L : List KV} (hR : Kd.R kKV 66 wc w.heap.size (fun _ => True) v (recsK L 8)) (v0 v1 v2 v3 v4 v5 v6 v7 v8 v9 v10 v11 : Value) {tmps : Array Value}
  (hp : tmps.getD 2 undef = .pointer (some ⟨br, 0, none⟩)) (hu : tmps.getD 3 undef = v) : bodyPost Tryz.prog Tryz.f53 (SplitEnd #[v0, v1, v2, v3, v4, v5, v6, v7, v8, v9, v10, v11] L w) .ret { tmps := tmps, defers := [] } (World.setCell (World.setCell (World.setCell (World.setCell (World.setCell (World.setCell (World.setCell (World.setCell (World.setCell (World.setCell (World.setCell (World.setCell wc ⟨br, 0, none⟩ v0) ⟨br, 1, none⟩ v1) ⟨br, 2, none⟩ v2) ⟨br, 3, none⟩ v3) ⟨br, 4, none⟩ v4) ⟨br, 5, none⟩ v5) ⟨br, 6, none⟩ v6) ⟨br, 7, none⟩ v7) ⟨br, 8, none⟩ v8) ⟨br, 9, none⟩ v9) ⟨br, 10, none⟩ v10) ⟨br, 11, none⟩ v11) := by
 have k : ∀ {W' : World} {cs : Array Value}, (Blk W' br 36 cs ∧ Kd.R kKV 66 W' w.heap.size (fun _ => True) v (recsK L 8) ∧ Below w.heap.size w W') → ∀ (i : Nat) (x : Value), (Blk (W'.setCell ⟨br, i, none⟩ x) br 36 (cs.setIfInBounds i x) ∧ Kd.R kKV 66 (W'.setCell ⟨br, i, none⟩ x) w.heap.size (fun _ => True) v (recsK L 8) ∧ Below w.heap.size w (W'.setCell ⟨br, i, none⟩ x)) :=
  fun h i x => ⟨h.1.set_ i x, Kd.R_mono (Kd.R_far (p := ⟨br, i, none⟩) (Kd.R_far1 h.2.1 rfl (r_blk_ne h.2.1 h.1 (by decide))) (fun _ hk => hk.2) x) (fun _ _ => trivial), h.2.2.setCell (p := ⟨br, i, none⟩) s.n0 x⟩
 have h := (k (k (k (k (k (k (k (k (k (k (k (k ⟨s.r, hR, s.b⟩ 0 v0) 1 v1) 2 v2) 3 v3) 4 v4) 5 v5) 6 v6) 7 v7) 8 v8) 9 v9) 10 v10) 11 v11)
 have hb : Blk (World.setCell (World.setCell (World.setCell (World.setCell (World.setCell (World.setCell (World.setCell (World.setCell (World.setCell (World.setCell (World.setCell (World.setCell wc ⟨br, 0, none⟩ v0) ⟨br, 1, none⟩ v1) ⟨br, 2, none⟩ v2) ⟨br, 3, none⟩ v3) ⟨br, 4, none⟩ v4) ⟨br, 5, none⟩ v5) ⟨br, 6, none⟩ v6) ⟨br, 7, none⟩ v7) ⟨br, 8, none⟩ v8) ⟨br, 9, none⟩ v9) ⟨br, 10, none⟩ v10) ⟨br, 11, none⟩ v11) br 36 #[v0, v1, v2, v3, v4, v5, v6, v7, v8, v9, v10, v11] := by simpa using h.1
 exact bodyPost_ret (by rw [← hu]; exact results_ct rfl _ _ br 36 #[v0, v1, v2, v3, v4, v5, v6, v7, v8, v9, v10, v11] (0, 0) _ hp hb Tryz.underlying36 rfl (by kernel_rfl)) rfl ⟨v, rfl, h.2.1, h.2.2⟩
set_option maxHeartbeats 8000000 in
set_option maxRecDepth 100000 in
theorem spl_s8 (w wc : World) (be br bh bm : Nat) (path link : ByteArray) (kd md uid gid mt sz : Int) (user group name pre : ByteArray) (typ : Int) (l0 : List KV) (l u g : ByteArray) (a b c d : Int) (L : List KV) (u0 u3 u6 u7 u8 u9 u10 u11 u12 u14 u15 u16 u17 u18 u19 u20 u21 u22 u23 u24 u25 u26 u27 u28 u29 u30 u31 u32 u33 u34 u35 u36 u37 u38 u39 u40 u41 u42 u43 u44 u45 u46 u47 u48 u49 u50 u51 u52 u53 u54 u55 u56 u57 u58 u59 u60 u61 u62 u63 u64 u65 u66 u67 u68 u69 u70 u71 u72 u73 u74 u75 u76 u77 u78 u79 u80 u81 u82 u83 u84 u85 u86 u87 u88 u89 u90 u91 u92 u93 u94 u95 u96 u97 u98 u99 u100 u101 u102 u103 u104 u105 u106 u107 u108 u109 u110 u111 u112 u113 u114 u115 u116 u117 u118 u119 u120 u121 u122 u123 u124 u125 u126 u127 u128 u129 u130 u131 u132 u133 u134 u135 u136 u137 u138 u139 u140 u141 u142 u143 u144 u145 u146 u147 : Value)
  (S : SM w wc be br bh bm #[.string path, .string link, .int .i64 kd, .int .i64 md, .int .i64 uid, .int .i64 gid, .int .i64 mt, .int .i64 sz, .string user, .string group] #[.int .i64 0, .string name, .string l, .string pre, .string u, .string g, .int .u8 typ, .int .i64 md, .int .i64 a, .int .i64 b, .int .i64 c, .int .i64 d] L) :
  Code.wp Tryz.prog (splRest 8) (bodyPost Tryz.prog Tryz.f53 (SplitEnd #[.int .i64 0, .string name, .string l, .string pre, .string u, .string g, .int .u8 typ, .int .i64 md, .int .i64 a, .int .i64 b, .int .i64 c, .int .i64 d] L w)) ⟨(u0 :: (.pointer (some ⟨be, 0, none⟩)) :: (.pointer (some ⟨br, 0, none⟩)) :: u3 :: (.pointer (some ⟨bh, 0, none⟩)) :: (.map (some bm)) :: u6 :: u7 :: u8 :: u9 :: u10 :: u11 :: u12 :: (.slice none 0 0) :: u14 :: u15 :: u16 :: u17 :: u18 :: u19 :: u20 :: u21 :: u22 :: u23 :: u24 :: u25 :: u26 :: u27 :: u28 :: u29 :: u30 :: u31 :: u32 :: u33 :: u34 :: u35 :: u36 :: u37 :: u38 :: u39 :: u40 :: u41 :: u42 :: u43 :: u44 :: u45 :: u46 :: u47 :: u48 :: u49 :: u50 :: u51 :: u52 :: u53 :: u54 :: u55 :: u56 :: u57 :: u58 :: u59 :: u60 :: u61 :: u62 :: u63 :: u64 :: u65 :: u66 :: u67 :: u68 :: u69 :: u70 :: u71 :: u72 :: u73 :: u74 :: u75 :: u76 :: u77 :: u78 :: u79 :: u80 :: u81 :: u82 :: u83 :: u84 :: u85 :: u86 :: u87 :: u88 :: u89 :: u90 :: u91 :: u92 :: u93 :: u94 :: u95 :: u96 :: u97 :: u98 :: u99 :: u100 :: u101 :: u102 :: u103 :: u104 :: u105 :: u106 :: u107 :: u108 :: u109 :: u110 :: u111 :: u112 :: u113 :: u114 :: u115 :: u116 :: u117 :: u118 :: u119 :: u120 :: u121 :: u122 :: u123 :: u124 :: u125 :: u126 :: u127 :: u128 :: u129 :: u130 :: u131 :: u132 :: u133 :: u134 :: u135 :: u136 :: u137 :: u138 :: u139 :: u140 :: u141 :: u142 :: u143 :: u144 :: u145 :: u146 :: u147 :: []).toArray, []⟩ wc := by
 conv => arg 2; whnf
 have HS := Aside0.mk S
 clear S
 go_upto_block 4 with (fail)
 have S1 : Aside0 (ST w (wc.alloc (.cells #[.string ⟨#[103, 105, 100]⟩, .string ⟨#[103, 110, 97, 109, 101]⟩, .string ⟨#[108, 105, 110, 107, 112, 97, 116, 104]⟩, .string ⟨#[109, 116, 105, 109, 101]⟩, .string ⟨#[112, 97, 116, 104]⟩, .string ⟨#[115, 105, 122, 101]⟩, .string ⟨#[117, 105, 100]⟩, .string ⟨#[117, 110, 97, 109, 101]⟩] 9)) be br bh bm #[.string path, .string link, .int .i64 kd, .int .i64 md, .int .i64 uid, .int .i64 gid, .int .i64 mt, .int .i64 sz, .string user, .string group] #[.int .i64 0, .string name, .string l, .string pre, .string u, .string g, .int .u8 typ, .int .i64 md, .int .i64 a, .int .i64 b, .int .i64 c, .int .i64 d] L wc.heap.size 9 #[.string ⟨#[103, 105, 100]⟩, .string ⟨#[103, 110, 97, 109, 101]⟩, .string ⟨#[108, 105, 110, 107, 112, 97, 116, 104]⟩, .string ⟨#[109, 116, 105, 109, 101]⟩, .string ⟨#[112, 97, 116, 104]⟩, .string ⟨#[115, 105, 122, 101]⟩, .string ⟨#[117, 105, 100]⟩, .string ⟨#[117, 110, 97, 109, 101]⟩]) := ⟨⟨HS.out.next (below_alloc (Below.refl _ _) _), Blk.new _ _ _, Nat.ne_of_lt HS.out.h.lt, Nat.ne_of_lt HS.out.m.lt⟩⟩
 obtain ⟨tb, htb⟩ : ∃ tb, wc.heap.size = tb := ⟨_, rfl⟩
 rw [htb] at S1 ⊢
 clear htb HS
 generalize wc.alloc _ = W1 at S1 ⊢
 have R1 : Kd.R kKV 66 W1 w.heap.size (fun _ => True) (.slice none 0 0) (recsK L 0) := Kd.R_nil _ _ _ _ _
 go_cut [13] (fun v wc => Kd.R kKV 66 wc w.heap.size (fun _ => True) v (recsK L 8) ∧ Aside0 (SM w wc be br bh bm #[.string path, .string link, .int .i64 kd, .int .i64 md, .int .i64 uid, .int .i64 gid, .int .i64 mt, .int .i64 sz, .string user, .string group] #[.int .i64 0, .string name, .string l, .string pre, .string u, .string g, .int .u8 typ, .int .i64 md, .int .i64 a, .int .i64 b, .int .i64 c, .int .i64 d] L))
 case first =>
  go_wp2_with fail
  go_loopw [13, 128] (fun v i wr => ∃ k : Nat, k ≤ 8 ∧ i = .int .i64 k ∧ Hid (Kd.R kKV 66 wr w.heap.size (fun _ => True) v (recsK L k)) ∧ Aside0 (ST w wr be br bh bm #[.string path, .string link, .int .i64 kd, .int .i64 md, .int .i64 uid, .int .i64 gid, .int .i64 mt, .int .i64 sz, .string user, .string group] #[.int .i64 0, .string name, .string l, .string pre, .string u, .string g, .int .u8 typ, .int .i64 md, .int .i64 a, .int .i64 b, .int .i64 c, .int .i64 d] L tb 9 #[.string ⟨#[103, 105, 100]⟩, .string ⟨#[103, 110, 97, 109, 101]⟩, .string ⟨#[108, 105, 110, 107, 112, 97, 116, 104]⟩, .string ⟨#[109, 116, 105, 109, 101]⟩, .string ⟨#[112, 97, 116, 104]⟩, .string ⟨#[115, 105, 122, 101]⟩, .string ⟨#[117, 105, 100]⟩, .string ⟨#[117, 110, 97, 109, 101]⟩])) (fun _ i _ => 8 - (intOf i).toNat)
  case atStart => exact ⟨0, by omega, rfl, R1, S1⟩
  case round =>
   clear S1 R1
   obtain ⟨k, hk, rfl, HRK, SK⟩ := hrel
   by_cases hlt : k < 8
   ·have hc : ∃ key : ByteArray, sKey k = key ∧ wr.cell? ⟨tb, k, none⟩ = some (.string key) := by
     have q := fun i => SK.out.t.cell i
     rcases (by omega : k = 0 ∨ k = 1 ∨ k = 2 ∨ k = 3 ∨ k = 4 ∨ k = 5 ∨ k = 6 ∨ k = 7) with rfl | rfl | rfl | rfl | rfl | rfl | rfl | rfl
     ·exact ⟨_, rfl, q 0⟩
     ·exact ⟨_, rfl, q 1⟩
     ·exact ⟨_, rfl, q 2⟩
     ·exact ⟨_, rfl, q 3⟩
     ·exact ⟨_, rfl, q 4⟩
     ·exact ⟨_, rfl, q 5⟩
     ·exact ⟨_, rfl, q 6⟩
     ·exact ⟨_, rfl, q 7⟩
    obtain ⟨key, hke, c0⟩ := hc
    have hz : (zeroValue 9).run Tryz.prog wr = .ok (.string ⟨#[]⟩) wr := by kernel_rfl
    have hlk := run_lookup_ok Tryz.underlying157 Tryz.underlying9 hz SK.out.m key
    have hln := recsK_len L k
    cases hq : findM L key with
    | none =>
     have HK1 : Hid (recsK L (k + 1) = recsK L k) := by show _ = _; rw [recsK, hke, hq]; exact List.append_nil _
     rw [hq] at hlk
     simp only [Option.getD_none, Option.isSome_none] at hlk
     clear hq hke hz
     go_wp2
     go_roundw
     case rel => exact ⟨k + 1, by omega, by go_num, by rw [HK1.out]; exact HRK, SK⟩
     case measure => simp [intOf]; omega
    | some val =>
     have HK1 : Hid (recsK L (k + 1) = recsK L k ++ [(key, val)]) := by show _ = _; rw [recsK, hke, hq]
     rw [hq] at hlk
     simp only [Option.getD_some, Option.isSome_some] at hlk
     clear hq hke hz
     go_wp2_with (refine Kd.R_append kKV (w0 := w) w.heap.size rfl (.tmp 139) (.tmp 143) 73 66 (.agg #[.string ⟨#[]⟩, .string ⟨#[]⟩]) 32 rfl Tryz.underlying73 infoRec rfl (by decide) (by omega) _ (recsK L k) ((key, val) : KV) [.string key, .string val] (fun _ => True) (fun _ => False) rfl rfl (kKV_mkM _ _ _ (key, val)) (fun _ hk => hk.elim) (fun _ _ => trivial) HRK.out SK.out.b SK.out.b.size (by omega) ?_; intro v2 w2 hr2 hb2 hg2 hat2)
     go_roundw
     case rel => exact ⟨k + 1, by omega, by go_num, by rw [HK1.out]; exact hr2, ⟨SK.out.grown HRK.out (by decide) hg2 hb2⟩⟩
     case measure => simp [intOf]; omega
   ·obtain rfl : k = 8 := by omega
    go_wp2
    go_meet
    case rel => exact ⟨HRK, ⟨SK.out.toSM⟩⟩
 case rest =>
  clear S1 R1
  obtain ⟨hR, hS⟩ := hcut
  have HRR := Lib.hid hR
  obtain ⟨x0, x1, x2, x3, x4, x5, x6, x7, x8, x9, x10, x11⟩ := hS.out.hcells
  obtain ⟨r0, r1, r2, r3, r4, r5, r6, r7, r8, r9, r10, r11⟩ := hS.out.rcells
  obtain ⟨f0, f1, f2, f3, f4, f5, f6, f7, f8, f9, f10, f11⟩ := hS.out.rfroz
  clear hR
  go_wp2
  exact spl_rets hS.out HRR.out _ _ _ _ _ _ _ _ _ _ _ _ rfl rfl
set_option maxHeartbeats 8000000 in
set_option maxRecDepth 100000 in
theorem spl_s7 (w wc : World) (be br bh bm : Nat) (path link : ByteArray) (kd md uid gid mt sz : Int) (user group name pre : ByteArray) (typ : Int) (l0 : List KV) (l u g : ByteArray) (a b c d : Int) (L : List KV) (u0 u3 u6 u7 u8 u9 u10 u11 u12 u13 u14 u15 u16 u17 u18 u19 u20 u21 u22 u23 u24 u25 u26 u27 u28 u29 u30 u31 u32 u33 u34 u35 u36 u37 u38 u39 u40 u41 u42 u43 u44 u45 u46 u47 u48 u49 u50 u51 u52 u53 u54 u55 u56 u57 u58 u59 u60 u61 u62 u63 u64 u65 u66 u67 u68 u69 u70 u71 u72 u73 u74 u75 u76 u77 u78 u79 u80 u81 u82 u83 u84 u85 u86 u87 u88 u89 u90 u91 u92 u93 u94 u95 u96 u97 u98 u99 u100 u101 u102 u103 u104 u105 u106 u107 u108 u109 u110 u111 u112 u113 u114 u115 u116 u117 u118 u119 u120 u121 u122 u123 u124 u125 u126 u127 u128 u129 u130 u131 u132 u133 u134 u135 u136 u137 u138 u139 u140 u141 u142 u143 u144 u145 u146 u147 : Value)
  (S : SM w wc be br bh bm #[.string path, .string link, .int .i64 kd, .int .i64 md, .int .i64 uid, .int .i64 gid, .int .i64 mt, .int .i64 sz, .string user, .string group] #[.int .i64 0, .string name, .string l, .string pre, .string u, .string g, .int .u8 typ, .int .i64 md, .int .i64 a, .int .i64 b, .int .i64 c, .int .i64 d] L) :
  Code.wp Tryz.prog (splRest 7) (bodyPost Tryz.prog Tryz.f53 (SplitEnd #[.int .i64 0, .string name, .string l, .string pre, .string u, .string g, .int .u8 typ, .int .i64 md, .int .i64 a, .int .i64 b, .int .i64 c, .int .i64 d] L w)) ⟨(u0 :: (.pointer (some ⟨be, 0, none⟩)) :: (.pointer (some ⟨br, 0, none⟩)) :: u3 :: (.pointer (some ⟨bh, 0, none⟩)) :: (.map (some bm)) :: u6 :: u7 :: u8 :: u9 :: u10 :: u11 :: u12 :: u13 :: u14 :: u15 :: u16 :: u17 :: u18 :: u19 :: u20 :: u21 :: u22 :: u23 :: u24 :: u25 :: u26 :: u27 :: u28 :: u29 :: u30 :: u31 :: u32 :: u33 :: u34 :: u35 :: u36 :: u37 :: u38 :: u39 :: u40 :: u41 :: u42 :: u43 :: u44 :: u45 :: u46 :: u47 :: u48 :: u49 :: u50 :: u51 :: u52 :: u53 :: u54 :: u55 :: u56 :: u57 :: u58 :: u59 :: u60 :: u61 :: u62 :: u63 :: u64 :: u65 :: u66 :: u67 :: u68 :: u69 :: u70 :: u71 :: u72 :: u73 :: u74 :: u75 :: u76 :: u77 :: u78 :: u79 :: u80 :: u81 :: u82 :: u83 :: u84 :: u85 :: u86 :: u87 :: u88 :: u89 :: u90 :: u91 :: u92 :: u93 :: u94 :: u95 :: u96 :: u97 :: u98 :: u99 :: u100 :: u101 :: u102 :: u103 :: u104 :: u105 :: u106 :: u107 :: u108 :: u109 :: u110 :: u111 :: u112 :: u113 :: u114 :: u115 :: u116 :: u117 :: u118 :: u119 :: u120 :: u121 :: u122 :: u123 :: u124 :: u125 :: u126 :: u127 :: u128 :: u129 :: u130 :: u131 :: u132 :: u133 :: u134 :: u135 :: u136 :: u137 :: u138 :: u139 :: u140 :: u141 :: u142 :: u143 :: u144 :: u145 :: u146 :: u147 :: []).toArray, []⟩ wc := by
 conv => arg 2; whnf
 have HS := Aside0.mk S
 clear S
 go_step
 go_cut [13] (fun v wc => v = .slice none 0 0 ∧ Aside0 (SM w wc be br bh bm #[.string path, .string link, .int .i64 kd, .int .i64 md, .int .i64 uid, .int .i64 gid, .int .i64 mt, .int .i64 sz, .string user, .string group] #[.int .i64 0, .string name, .string l, .string pre, .string u, .string g, .int .u8 typ, .int .i64 md, .int .i64 a, .int .i64 b, .int .i64 c, .int .i64 d] L))
 case first =>
  go_wp2
  go_meet
  case rel => exact ⟨rfl, HS⟩
 case rest =>
  obtain ⟨rfl, hS⟩ := hcut
  clear HS
  go_step
  exact spl_s8 w _ be br bh bm path link kd md uid gid mt sz user group name pre typ l0 l u g a b c d L _ _ _ _ _ _ _ _ _ _ _ _ _ _ _ _ _ _ _ _ _ _ _ _ _ _ _ _ _ _ _ _ _ _ _ _ _ _ _ _ _ _ _ _ _ _ _ _ _ _ _ _ _ _ _ _ _ _ _ _ _ _ _ _ _ _ _ _ _ _ _ _ _ _ _ _ _ _ _ _ _ _ _ _ _ _ _ _ _ _ _ _ _ _ _ _ _ _ _ _ _ _ _ _ _ _ _ _ _ _ _ _ _ _ _ _ _ _ _ _ _ _ _ _ _ _ _ _ _ _ _ _ _ _ _ _ _ _ _ _ _ _ _ hS.out
end Go.Proofs.YtpbpfngichfgeaaGreatDoor

namespace Go.Proofs.YtpbpfngichfgeaaGreatDoor
set_option linter.unusedVariables false
set_option linter.unusedSimpArgs false
open Go Go.RowKit Go.Proofs.YtpbpfngichfgeaaGreatDoorW.PrintWords Go.Proofs.YtpbpfngichfgeaaGreatDoorW.PrintLast Go.Proofs.YtpbpfngichfgeaaGreatDoorW.PrintMore

/-- The memory ahead of the map. -/
structure S0 (w wc : World) (be br bh : Nat) (en hd : Array Value) : Prop where
 b : Below w.heap.size w wc
 e : Blk wc be 41 en
 r : Blk wc br 36 #[.int .i64 0, .string ⟨#[]⟩, .string ⟨#[]⟩, .string ⟨#[]⟩, .string ⟨#[]⟩, .string ⟨#[]⟩, .int .u8 0, .int .i64 0, .int .i64 0, .int .i64 0, .int .i64 0, .int .i64 0]
 h : Blk wc bh 36 hd
 n1 : w.heap.size ≤ bh
 n3 : br ≠ bh
 n0 : w.heap.size ≤ br
theorem S0.map {w wc : World} {be br bh : Nat} {en hd : Array Value} (s : S0 w wc be br bh en hd) : SM w (wc.alloc (.map #[] 0)) be br bh wc.heap.size en hd [] :=
 ⟨below_next s.b (below_alloc (Below.refl _ _) _), s.e.alloc _, s.r.alloc _, s.h.alloc _, (by show (wc.heap.push (.map #[] 0))[wc.heap.size]? = _; simp [esOf]), s.n1, s.b.size, s.n3, s.n0⟩
theorem SM.hfroz {w wc : World} {be br bh bm : Nat} {en hd : Array Value} {l : List KV} (s : SM w wc be br bh bm en hd l) : wc.frozen? ⟨bh, 0, none⟩ = false ∧ wc.frozen? ⟨bh, 1, none⟩ = false ∧ wc.frozen? ⟨bh, 2, none⟩ = false ∧ wc.frozen? ⟨bh, 3, none⟩ = false ∧ wc.frozen? ⟨bh, 4, none⟩ = false ∧ wc.frozen? ⟨bh, 5, none⟩ = false ∧ wc.frozen? ⟨bh, 6, none⟩ = false ∧ wc.frozen? ⟨bh, 7, none⟩ = false ∧ wc.frozen? ⟨bh, 8, none⟩ = false ∧ wc.frozen? ⟨bh, 9, none⟩ = false ∧ wc.frozen? ⟨bh, 10, none⟩ = false ∧ wc.frozen? ⟨bh, 11, none⟩ = false := ⟨s.h.frozen 0, s.h.frozen 1, s.h.frozen 2, s.h.frozen 3, s.h.frozen 4, s.h.frozen 5, s.h.frozen 6, s.h.frozen 7, s.h.frozen 8, s.h.frozen 9, s.h.frozen 10, s.h.frozen 11⟩
set_option maxHeartbeats 8000000 in
set_option maxRecDepth 100000 in
theorem spl_s4 (w wc : World) (be br bh bm : Nat) (path link : ByteArray) (kd md uid gid mt sz : Int) (user group : ByteArray) (typ : Int) (R : Ending → World → Prop) (nm pr : ByteArray) (b : Bool) (u0 u3 u9 u10 u11 u12 u13 u14 u15 u16 u17 u18 u19 u20 u21 u22 u23 u24 u25 u26 u27 u28 u29 u30 u31 u32 u33 u34 u35 u36 u37 u38 u39 u40 u41 u42 u43 u44 u45 u46 u47 u48 u49 u50 u51 u52 u53 u54 u55 u56 u57 u58 u59 u60 u61 u62 u63 u64 u65 u66 u67 u68 u69 u70 u71 u72 u73 u74 u75 u76 u77 u78 u79 u80 u81 u82 u83 u84 u85 u86 u87 u88 u89 u90 u91 u92 u93 u94 u95 u96 u97 u98 u99 u100 u101 u102 u103 u104 u105 u106 u107 u108 u109 u110 u111 u112 u113 u114 u115 u116 u117 u118 u119 u120 u121 u122 u123 u124 u125 u126 u127 u128 u129 u130 u131 u132 u133 u134 u135 u136 u137 u138 u139 u140 u141 u142 u143 u144 u145 u146 u147 : Value)
  (KK : ∀  (wc : World) (u0 u3 u6 u7 u8 u9 u10 u11 u12 u13 u14 u15 u16 u17 u18 u19 u20 u21 u22 u23 u24 u25 u26 u27 u28 u29 u30 u31 u32 u33 u34 u35 u36 u37 u38 u39 u40 u41 u42 u43 u44 u45 u46 u47 u48 u49 u50 u51 u52 u53 u54 u55 u56 u57 u58 u59 u60 u61 u62 u63 u64 u65 u66 u67 u68 u69 u70 u71 u72 u73 u74 u75 u76 u77 u78 u79 u80 u81 u82 u83 u84 u85 u86 u87 u88 u89 u90 u91 u92 u93 u94 u95 u96 u97 u98 u99 u100 u101 u102 u103 u104 u105 u106 u107 u108 u109 u110 u111 u112 u113 u114 u115 u116 u117 u118 u119 u120 u121 u122 u123 u124 u125 u126 u127 u128 u129 u130 u131 u132 u133 u134 u135 u136 u137 u138 u139 u140 u141 u142 u143 u144 u145 u146 u147 : Value), SM w wc be br bh bm #[.string path, .string link, .int .i64 kd, .int .i64 md, .int .i64 uid, .int .i64 gid, .int .i64 mt, .int .i64 sz, .string user, .string group] #[.int .i64 0, .string (if b then nm else ⟨#[108, 111, 110, 103]⟩), .string link, .string (if b then pr else ⟨#[]⟩), .string user, .string group, .int .u8 typ, .int .i64 md, .int .i64 uid, .int .i64 gid, .int .i64 sz, .int .i64 mt] (if b then [] else [(⟨#[112, 97, 116, 104]⟩, path)]) → Code.wp Tryz.prog (splRest 5) (bodyPost Tryz.prog Tryz.f53 R) ⟨(u0 :: (.pointer (some ⟨be, 0, none⟩)) :: (.pointer (some ⟨br, 0, none⟩)) :: u3 :: (.pointer (some ⟨bh, 0, none⟩)) :: (.map (some bm)) :: u6 :: u7 :: u8 :: u9 :: u10 :: u11 :: u12 :: u13 :: u14 :: u15 :: u16 :: u17 :: u18 :: u19 :: u20 :: u21 :: u22 :: u23 :: u24 :: u25 :: u26 :: u27 :: u28 :: u29 :: u30 :: u31 :: u32 :: u33 :: u34 :: u35 :: u36 :: u37 :: u38 :: u39 :: u40 :: u41 :: u42 :: u43 :: u44 :: u45 :: u46 :: u47 :: u48 :: u49 :: u50 :: u51 :: u52 :: u53 :: u54 :: u55 :: u56 :: u57 :: u58 :: u59 :: u60 :: u61 :: u62 :: u63 :: u64 :: u65 :: u66 :: u67 :: u68 :: u69 :: u70 :: u71 :: u72 :: u73 :: u74 :: u75 :: u76 :: u77 :: u78 :: u79 :: u80 :: u81 :: u82 :: u83 :: u84 :: u85 :: u86 :: u87 :: u88 :: u89 :: u90 :: u91 :: u92 :: u93 :: u94 :: u95 :: u96 :: u97 :: u98 :: u99 :: u100 :: u101 :: u102 :: u103 :: u104 :: u105 :: u106 :: u107 :: u108 :: u109 :: u110 :: u111 :: u112 :: u113 :: u114 :: u115 :: u116 :: u117 :: u118 :: u119 :: u120 :: u121 :: u122 :: u123 :: u124 :: u125 :: u126 :: u127 :: u128 :: u129 :: u130 :: u131 :: u132 :: u133 :: u134 :: u135 :: u136 :: u137 :: u138 :: u139 :: u140 :: u141 :: u142 :: u143 :: u144 :: u145 :: u146 :: u147 :: []).toArray, []⟩ wc)
  (S : SM w wc be br bh bm #[.string path, .string link, .int .i64 kd, .int .i64 md, .int .i64 uid, .int .i64 gid, .int .i64 mt, .int .i64 sz, .string user, .string group] #[.int .i64 0, .string ⟨#[]⟩, .string link, .string ⟨#[]⟩, .string user, .string group, .int .u8 typ, .int .i64 md, .int .i64 uid, .int .i64 gid, .int .i64 sz, .int .i64 mt] []) :
  Code.wp Tryz.prog (splRest 4) (bodyPost Tryz.prog Tryz.f53 R) ⟨(u0 :: (.pointer (some ⟨be, 0, none⟩)) :: (.pointer (some ⟨br, 0, none⟩)) :: u3 :: (.pointer (some ⟨bh, 0, none⟩)) :: (.map (some bm)) :: (.string pr) :: (.string nm) :: (.bool b) :: u9 :: u10 :: u11 :: u12 :: u13 :: u14 :: u15 :: u16 :: u17 :: u18 :: u19 :: u20 :: u21 :: u22 :: u23 :: u24 :: u25 :: u26 :: u27 :: u28 :: u29 :: u30 :: u31 :: u32 :: u33 :: u34 :: u35 :: u36 :: u37 :: u38 :: u39 :: u40 :: u41 :: u42 :: u43 :: u44 :: u45 :: u46 :: u47 :: u48 :: u49 :: u50 :: u51 :: u52 :: u53 :: u54 :: u55 :: u56 :: u57 :: u58 :: u59 :: u60 :: u61 :: u62 :: u63 :: u64 :: u65 :: u66 :: u67 :: u68 :: u69 :: u70 :: u71 :: u72 :: u73 :: u74 :: u75 :: u76 :: u77 :: u78 :: u79 :: u80 :: u81 :: u82 :: u83 :: u84 :: u85 :: u86 :: u87 :: u88 :: u89 :: u90 :: u91 :: u92 :: u93 :: u94 :: u95 :: u96 :: u97 :: u98 :: u99 :: u100 :: u101 :: u102 :: u103 :: u104 :: u105 :: u106 :: u107 :: u108 :: u109 :: u110 :: u111 :: u112 :: u113 :: u114 :: u115 :: u116 :: u117 :: u118 :: u119 :: u120 :: u121 :: u122 :: u123 :: u124 :: u125 :: u126 :: u127 :: u128 :: u129 :: u130 :: u131 :: u132 :: u133 :: u134 :: u135 :: u136 :: u137 :: u138 :: u139 :: u140 :: u141 :: u142 :: u143 :: u144 :: u145 :: u146 :: u147 :: []).toArray, []⟩ wc := by
 conv => arg 2; whnf
 have HS := Aside0.mk S
 have HK := Lib.hid KK
 obtain ⟨x0, x1, x2, x3, x4, x5, x6, x7, x8, x9, x10, x11⟩ := S.hcells
 obtain ⟨f0, f1, f2, f3, f4, f5, f6, f7, f8, f9, f10, f11⟩ := S.hfroz
 have e0 : wc.cell? ⟨be, 0, none⟩ = some (.string path) := S.e.cell 0
 clear S KK
 go_step
 cases b with
 | true =>
  go_cut [] (fun wc => Aside0 (SM w wc be br bh bm #[.string path, .string link, .int .i64 kd, .int .i64 md, .int .i64 uid, .int .i64 gid, .int .i64 mt, .int .i64 sz, .string user, .string group] #[.int .i64 0, .string nm, .string link, .string pr, .string user, .string group, .int .u8 typ, .int .i64 md, .int .i64 uid, .int .i64 gid, .int .i64 sz, .int .i64 mt] []))
  case first =>
   go_wp2
   go_meet
   case rel => exact ⟨(HS.out.set 3 (.string pr)).set 1 (.string nm)⟩
  case rest =>
   clear x0 x1 x2 x3 x4 x5 x6 x7 x8 x9 x10 x11 f0 f1 f2 f3 f4 f5 f6 f7 f8 f9 f10 f11 e0 HS
   go_step
   exact HK.out _ _ _ _ _ _ _ _ _ _ _ _ _ _ _ _ _ _ _ _ _ _ _ _ _ _ _ _ _ _ _ _ _ _ _ _ _ _ _ _ _ _ _ _ _ _ _ _ _ _ _ _ _ _ _ _ _ _ _ _ _ _ _ _ _ _ _ _ _ _ _ _ _ _ _ _ _ _ _ _ _ _ _ _ _ _ _ _ _ _ _ _ _ _ _ _ _ _ _ _ _ _ _ _ _ _ _ _ _ _ _ _ _ _ _ _ _ _ _ _ _ _ _ _ _ _ _ _ _ _ _ _ _ _ _ _ _ _ _ _ _ _ _ _ _ hcut.out
 | false =>
  have S2 : SM w (putM ((wc.setCell ⟨bh, 3, none⟩ (.string pr)).setCell ⟨bh, 1, none⟩ (.string nm)) bm [(⟨#[112, 97, 116, 104]⟩, path)]) be br bh bm #[.string path, .string link, .int .i64 kd, .int .i64 md, .int .i64 uid, .int .i64 gid, .int .i64 mt, .int .i64 sz, .string user, .string group] #[.int .i64 0, .string nm, .string link, .string pr, .string user, .string group, .int .u8 typ, .int .i64 md, .int .i64 uid, .int .i64 gid, .int .i64 sz, .int .i64 mt] [(⟨#[112, 97, 116, 104]⟩, path)] := (((HS.out.set 3 (.string pr)).set 1 (.string nm)).putM [(⟨#[112, 97, 116, 104]⟩, path)])
  obtain ⟨g0, g1, g2, g3, g4, g5, g6, g7, g8, g9, g10, g11⟩ := S2.hfroz
  obtain ⟨y0, y1, y2, y3, y4, y5, y6, y7, y8, y9, y10, y11⟩ := S2.hcells
  clear y0 y2 y4 y5 y6 y7 y8 y9 y10 y11
  clear S2 g0 g2 g4 g5 g6 g7 g8 g9 g10 g11
  have hup := run_update_new (P := Tryz.prog) Tryz.underlying157 Tryz.underlying9 (((HS.out.set 3 (.string pr)).set 1 (.string nm)).m) ⟨#[112, 97, 116, 104]⟩ path (by simp)
  go_cut [] (fun wc => Aside0 (SM w wc be br bh bm #[.string path, .string link, .int .i64 kd, .int .i64 md, .int .i64 uid, .int .i64 gid, .int .i64 mt, .int .i64 sz, .string user, .string group] #[.int .i64 0, .string ⟨#[108, 111, 110, 103]⟩, .string link, .string ⟨#[]⟩, .string user, .string group, .int .u8 typ, .int .i64 md, .int .i64 uid, .int .i64 gid, .int .i64 sz, .int .i64 mt] [(⟨#[112, 97, 116, 104]⟩, path)]))
  case first =>
   go_wp2_with fail
   go_meet
   case rel => exact ⟨((((HS.out.set 3 (.string pr)).set 1 (.string nm)).putM [(⟨#[112, 97, 116, 104]⟩, path)]).set 3 (.string ⟨#[]⟩)).set 1 (.string ⟨#[108, 111, 110, 103]⟩)⟩
  case rest =>
   clear x0 x1 x2 x3 x4 x5 x6 x7 x8 x9 x10 x11 f0 f1 f2 f3 f4 f5 f6 f7 f8 f9 f10 f11 e0 HS
   go_step
   exact HK.out _ _ _ _ _ _ _ _ _ _ _ _ _ _ _ _ _ _ _ _ _ _ _ _ _ _ _ _ _ _ _ _ _ _ _ _ _ _ _ _ _ _ _ _ _ _ _ _ _ _ _ _ _ _ _ _ _ _ _ _ _ _ _ _ _ _ _ _ _ _ _ _ _ _ _ _ _ _ _ _ _ _ _ _ _ _ _ _ _ _ _ _ _ _ _ _ _ _ _ _ _ _ _ _ _ _ _ _ _ _ _ _ _ _ _ _ _ _ _ _ _ _ _ _ _ _ _ _ _ _ _ _ _ _ _ _ _ _ _ _ _ _ _ _ _ hcut.out
set_option maxHeartbeats 8000000 in
set_option maxRecDepth 100000 in
theorem spl_s3 (w wc : World) (be br bh bm : Nat) (path link : ByteArray) (kd md uid gid mt sz : Int) (user group : ByteArray) (typ : Int) (R : Ending → World → Prop) (nm pr : ByteArray) (b : Bool) (fuel : Nat) (hsp : POct.head_Split.f fuel path = some (pr, nm, b)) (u0 u3 u6 u7 u8 u9 u10 u11 u12 u13 u14 u15 u16 u17 u18 u19 u20 u21 u22 u23 u24 u25 u26 u27 u28 u29 u30 u31 u32 u33 u34 u35 u36 u37 u38 u39 u40 u41 u42 u43 u44 u45 u46 u47 u48 u49 u50 u51 u52 u53 u54 u55 u56 u57 u58 u59 u60 u61 u62 u63 u64 u65 u66 u67 u68 u69 u70 u71 u72 u73 u74 u75 u76 u77 u78 u79 u80 u81 u82 u83 u84 u85 u86 u87 u88 u89 u90 u91 u92 u93 u94 u95 u96 u97 u98 u99 u100 u101 u102 u103 u104 u105 u106 u107 u108 u109 u110 u111 u112 u113 u114 u115 u116 u117 u118 u119 u120 u121 u122 u123 u124 u125 u126 u127 u128 u129 u130 u131 u132 u133 u134 u135 u136 u137 u138 u139 u140 u141 u142 u143 u144 u145 u146 u147 : Value)
  (KK : ∀  (wc : World) (u0 u3 u9 u10 u11 u12 u13 u14 u15 u16 u17 u18 u19 u20 u21 u22 u23 u24 u25 u26 u27 u28 u29 u30 u31 u32 u33 u34 u35 u36 u37 u38 u39 u40 u41 u42 u43 u44 u45 u46 u47 u48 u49 u50 u51 u52 u53 u54 u55 u56 u57 u58 u59 u60 u61 u62 u63 u64 u65 u66 u67 u68 u69 u70 u71 u72 u73 u74 u75 u76 u77 u78 u79 u80 u81 u82 u83 u84 u85 u86 u87 u88 u89 u90 u91 u92 u93 u94 u95 u96 u97 u98 u99 u100 u101 u102 u103 u104 u105 u106 u107 u108 u109 u110 u111 u112 u113 u114 u115 u116 u117 u118 u119 u120 u121 u122 u123 u124 u125 u126 u127 u128 u129 u130 u131 u132 u133 u134 u135 u136 u137 u138 u139 u140 u141 u142 u143 u144 u145 u146 u147 : Value), SM w wc be br bh bm #[.string path, .string link, .int .i64 kd, .int .i64 md, .int .i64 uid, .int .i64 gid, .int .i64 mt, .int .i64 sz, .string user, .string group] #[.int .i64 0, .string ⟨#[]⟩, .string link, .string ⟨#[]⟩, .string user, .string group, .int .u8 typ, .int .i64 md, .int .i64 uid, .int .i64 gid, .int .i64 sz, .int .i64 mt] [] → Code.wp Tryz.prog (splRest 4) (bodyPost Tryz.prog Tryz.f53 R) ⟨(u0 :: (.pointer (some ⟨be, 0, none⟩)) :: (.pointer (some ⟨br, 0, none⟩)) :: u3 :: (.pointer (some ⟨bh, 0, none⟩)) :: (.map (some bm)) :: (.string pr) :: (.string nm) :: (.bool b) :: u9 :: u10 :: u11 :: u12 :: u13 :: u14 :: u15 :: u16 :: u17 :: u18 :: u19 :: u20 :: u21 :: u22 :: u23 :: u24 :: u25 :: u26 :: u27 :: u28 :: u29 :: u30 :: u31 :: u32 :: u33 :: u34 :: u35 :: u36 :: u37 :: u38 :: u39 :: u40 :: u41 :: u42 :: u43 :: u44 :: u45 :: u46 :: u47 :: u48 :: u49 :: u50 :: u51 :: u52 :: u53 :: u54 :: u55 :: u56 :: u57 :: u58 :: u59 :: u60 :: u61 :: u62 :: u63 :: u64 :: u65 :: u66 :: u67 :: u68 :: u69 :: u70 :: u71 :: u72 :: u73 :: u74 :: u75 :: u76 :: u77 :: u78 :: u79 :: u80 :: u81 :: u82 :: u83 :: u84 :: u85 :: u86 :: u87 :: u88 :: u89 :: u90 :: u91 :: u92 :: u93 :: u94 :: u95 :: u96 :: u97 :: u98 :: u99 :: u100 :: u101 :: u102 :: u103 :: u104 :: u105 :: u106 :: u107 :: u108 :: u109 :: u110 :: u111 :: u112 :: u113 :: u114 :: u115 :: u116 :: u117 :: u118 :: u119 :: u120 :: u121 :: u122 :: u123 :: u124 :: u125 :: u126 :: u127 :: u128 :: u129 :: u130 :: u131 :: u132 :: u133 :: u134 :: u135 :: u136 :: u137 :: u138 :: u139 :: u140 :: u141 :: u142 :: u143 :: u144 :: u145 :: u146 :: u147 :: []).toArray, []⟩ wc)
  (S : SM w wc be br bh bm #[.string path, .string link, .int .i64 kd, .int .i64 md, .int .i64 uid, .int .i64 gid, .int .i64 mt, .int .i64 sz, .string user, .string group] #[.int .i64 0, .string ⟨#[]⟩, .string link, .string ⟨#[]⟩, .string user, .string group, .int .u8 typ, .int .i64 md, .int .i64 uid, .int .i64 gid, .int .i64 sz, .int .i64 mt] []) :
  Code.wp Tryz.prog (splRest 3) (bodyPost Tryz.prog Tryz.f53 R) ⟨(u0 :: (.pointer (some ⟨be, 0, none⟩)) :: (.pointer (some ⟨br, 0, none⟩)) :: u3 :: (.pointer (some ⟨bh, 0, none⟩)) :: (.map (some bm)) :: u6 :: u7 :: u8 :: u9 :: u10 :: u11 :: u12 :: u13 :: u14 :: u15 :: u16 :: u17 :: u18 :: u19 :: u20 :: u21 :: u22 :: u23 :: u24 :: u25 :: u26 :: u27 :: u28 :: u29 :: u30 :: u31 :: u32 :: u33 :: u34 :: u35 :: u36 :: u37 :: u38 :: u39 :: u40 :: u41 :: u42 :: u43 :: u44 :: u45 :: u46 :: u47 :: u48 :: u49 :: u50 :: u51 :: u52 :: u53 :: u54 :: u55 :: u56 :: u57 :: u58 :: u59 :: u60 :: u61 :: u62 :: u63 :: u64 :: u65 :: u66 :: u67 :: u68 :: u69 :: u70 :: u71 :: u72 :: u73 :: u74 :: u75 :: u76 :: u77 :: u78 :: u79 :: u80 :: u81 :: u82 :: u83 :: u84 :: u85 :: u86 :: u87 :: u88 :: u89 :: u90 :: u91 :: u92 :: u93 :: u94 :: u95 :: u96 :: u97 :: u98 :: u99 :: u100 :: u101 :: u102 :: u103 :: u104 :: u105 :: u106 :: u107 :: u108 :: u109 :: u110 :: u111 :: u112 :: u113 :: u114 :: u115 :: u116 :: u117 :: u118 :: u119 :: u120 :: u121 :: u122 :: u123 :: u124 :: u125 :: u126 :: u127 :: u128 :: u129 :: u130 :: u131 :: u132 :: u133 :: u134 :: u135 :: u136 :: u137 :: u138 :: u139 :: u140 :: u141 :: u142 :: u143 :: u144 :: u145 :: u146 :: u147 :: []).toArray, []⟩ wc := by
 conv => arg 2; whnf
 have HS := Aside0.mk S
 have HK := Lib.hid KK
 have HSP := Lib.hid hsp
 have e0 : wc.cell? ⟨be, 0, none⟩ = some (.string path) := S.e.cell 0
 clear S KK hsp
 go_step
 go_cut [6, 7, 8] (fun v6 v7 v8 wc => v6 = .string pr ∧ v7 = .string nm ∧ v8 = .bool b ∧ Aside0 (SM w wc be br bh bm #[.string path, .string link, .int .i64 kd, .int .i64 md, .int .i64 uid, .int .i64 gid, .int .i64 mt, .int .i64 sz, .string user, .string group] #[.int .i64 0, .string ⟨#[]⟩, .string link, .string ⟨#[]⟩, .string user, .string group, .int .u8 typ, .int .i64 md, .int .i64 uid, .int .i64 gid, .int .i64 sz, .int .i64 mt] []))
 case first =>
  go_wp2_with (go_at_call 82; (with_reducible refine (POct.head_Split.calls fuel path pr nm b _ HSP.out).mono ?_); rintro e w3 ⟨rfl, hb3⟩)
  go_meet
  case rel => exact ⟨rfl, rfl, rfl, ⟨HS.out.next hb3⟩⟩
 case rest =>
  obtain ⟨rfl, rfl, rfl, hS⟩ := hcut
  clear e0 HS
  go_step
  exact HK.out _ _ _ _ _ _ _ _ _ _ _ _ _ _ _ _ _ _ _ _ _ _ _ _ _ _ _ _ _ _ _ _ _ _ _ _ _ _ _ _ _ _ _ _ _ _ _ _ _ _ _ _ _ _ _ _ _ _ _ _ _ _ _ _ _ _ _ _ _ _ _ _ _ _ _ _ _ _ _ _ _ _ _ _ _ _ _ _ _ _ _ _ _ _ _ _ _ _ _ _ _ _ _ _ _ _ _ _ _ _ _ _ _ _ _ _ _ _ _ _ _ _ _ _ _ _ _ _ _ _ _ _ _ _ _ _ _ _ _ _ _ _ hS.out
set_option maxHeartbeats 8000000 in
set_option maxRecDepth 100000 in
theorem spl_s2 (w wc : World) (be br bh : Nat) (path link : ByteArray) (kd md uid gid mt sz : Int) (user group : ByteArray) (typ : Int) (R : Ending → World → Prop)  (u0 u3 u5 u6 u7 u8 u9 u10 u11 u12 u13 u14 u15 u16 u17 u18 u19 u20 u21 u22 u23 u24 u25 u26 u27 u28 u29 u30 u31 u32 u33 u34 u35 u36 u37 u38 u39 u40 u41 u42 u43 u44 u45 u46 u47 u48 u49 u50 u51 u52 u53 u54 u55 u56 u57 u58 u59 u60 u61 u62 u63 u64 u65 u66 u67 u68 u69 u70 u71 u72 u73 u74 u75 u76 u77 u78 u79 u80 u81 u82 u83 u84 u85 u86 u87 u88 u89 u90 u91 u92 u93 u94 u95 u96 u97 u98 u99 u100 u101 u102 u103 u104 u105 u106 u107 u108 u109 u110 u111 u112 u113 u114 u115 u116 u117 u118 u119 u120 u121 u122 u123 u124 u125 u126 u127 u128 u129 u130 u131 u132 u133 u134 u135 u136 u137 u138 u139 u140 u141 u142 u143 u144 u145 u146 u147 : Value)
  (KK : ∀ (bm : Nat) (wc : World) (u0 u3 u6 u7 u8 u9 u10 u11 u12 u13 u14 u15 u16 u17 u18 u19 u20 u21 u22 u23 u24 u25 u26 u27 u28 u29 u30 u31 u32 u33 u34 u35 u36 u37 u38 u39 u40 u41 u42 u43 u44 u45 u46 u47 u48 u49 u50 u51 u52 u53 u54 u55 u56 u57 u58 u59 u60 u61 u62 u63 u64 u65 u66 u67 u68 u69 u70 u71 u72 u73 u74 u75 u76 u77 u78 u79 u80 u81 u82 u83 u84 u85 u86 u87 u88 u89 u90 u91 u92 u93 u94 u95 u96 u97 u98 u99 u100 u101 u102 u103 u104 u105 u106 u107 u108 u109 u110 u111 u112 u113 u114 u115 u116 u117 u118 u119 u120 u121 u122 u123 u124 u125 u126 u127 u128 u129 u130 u131 u132 u133 u134 u135 u136 u137 u138 u139 u140 u141 u142 u143 u144 u145 u146 u147 : Value), SM w wc be br bh bm #[.string path, .string link, .int .i64 kd, .int .i64 md, .int .i64 uid, .int .i64 gid, .int .i64 mt, .int .i64 sz, .string user, .string group] #[.int .i64 0, .string ⟨#[]⟩, .string link, .string ⟨#[]⟩, .string user, .string group, .int .u8 typ, .int .i64 md, .int .i64 uid, .int .i64 gid, .int .i64 sz, .int .i64 mt] [] → Code.wp Tryz.prog (splRest 3) (bodyPost Tryz.prog Tryz.f53 R) ⟨(u0 :: (.pointer (some ⟨be, 0, none⟩)) :: (.pointer (some ⟨br, 0, none⟩)) :: u3 :: (.pointer (some ⟨bh, 0, none⟩)) :: (.map (some bm)) :: u6 :: u7 :: u8 :: u9 :: u10 :: u11 :: u12 :: u13 :: u14 :: u15 :: u16 :: u17 :: u18 :: u19 :: u20 :: u21 :: u22 :: u23 :: u24 :: u25 :: u26 :: u27 :: u28 :: u29 :: u30 :: u31 :: u32 :: u33 :: u34 :: u35 :: u36 :: u37 :: u38 :: u39 :: u40 :: u41 :: u42 :: u43 :: u44 :: u45 :: u46 :: u47 :: u48 :: u49 :: u50 :: u51 :: u52 :: u53 :: u54 :: u55 :: u56 :: u57 :: u58 :: u59 :: u60 :: u61 :: u62 :: u63 :: u64 :: u65 :: u66 :: u67 :: u68 :: u69 :: u70 :: u71 :: u72 :: u73 :: u74 :: u75 :: u76 :: u77 :: u78 :: u79 :: u80 :: u81 :: u82 :: u83 :: u84 :: u85 :: u86 :: u87 :: u88 :: u89 :: u90 :: u91 :: u92 :: u93 :: u94 :: u95 :: u96 :: u97 :: u98 :: u99 :: u100 :: u101 :: u102 :: u103 :: u104 :: u105 :: u106 :: u107 :: u108 :: u109 :: u110 :: u111 :: u112 :: u113 :: u114 :: u115 :: u116 :: u117 :: u118 :: u119 :: u120 :: u121 :: u122 :: u123 :: u124 :: u125 :: u126 :: u127 :: u128 :: u129 :: u130 :: u131 :: u132 :: u133 :: u134 :: u135 :: u136 :: u137 :: u138 :: u139 :: u140 :: u141 :: u142 :: u143 :: u144 :: u145 :: u146 :: u147 :: []).toArray, []⟩ wc)
  (S : S0 w wc be br bh #[.string path, .string link, .int .i64 kd, .int .i64 md, .int .i64 uid, .int .i64 gid, .int .i64 mt, .int .i64 sz, .string user, .string group] #[.int .i64 0, .string ⟨#[]⟩, .string link, .string ⟨#[]⟩, .string user, .string group, .int .u8 typ, .int .i64 md, .int .i64 uid, .int .i64 gid, .int .i64 sz, .int .i64 mt]) :
  Code.wp Tryz.prog (splRest 2) (bodyPost Tryz.prog Tryz.f53 R) ⟨(u0 :: (.pointer (some ⟨be, 0, none⟩)) :: (.pointer (some ⟨br, 0, none⟩)) :: u3 :: (.pointer (some ⟨bh, 0, none⟩)) :: u5 :: u6 :: u7 :: u8 :: u9 :: u10 :: u11 :: u12 :: u13 :: u14 :: u15 :: u16 :: u17 :: u18 :: u19 :: u20 :: u21 :: u22 :: u23 :: u24 :: u25 :: u26 :: u27 :: u28 :: u29 :: u30 :: u31 :: u32 :: u33 :: u34 :: u35 :: u36 :: u37 :: u38 :: u39 :: u40 :: u41 :: u42 :: u43 :: u44 :: u45 :: u46 :: u47 :: u48 :: u49 :: u50 :: u51 :: u52 :: u53 :: u54 :: u55 :: u56 :: u57 :: u58 :: u59 :: u60 :: u61 :: u62 :: u63 :: u64 :: u65 :: u66 :: u67 :: u68 :: u69 :: u70 :: u71 :: u72 :: u73 :: u74 :: u75 :: u76 :: u77 :: u78 :: u79 :: u80 :: u81 :: u82 :: u83 :: u84 :: u85 :: u86 :: u87 :: u88 :: u89 :: u90 :: u91 :: u92 :: u93 :: u94 :: u95 :: u96 :: u97 :: u98 :: u99 :: u100 :: u101 :: u102 :: u103 :: u104 :: u105 :: u106 :: u107 :: u108 :: u109 :: u110 :: u111 :: u112 :: u113 :: u114 :: u115 :: u116 :: u117 :: u118 :: u119 :: u120 :: u121 :: u122 :: u123 :: u124 :: u125 :: u126 :: u127 :: u128 :: u129 :: u130 :: u131 :: u132 :: u133 :: u134 :: u135 :: u136 :: u137 :: u138 :: u139 :: u140 :: u141 :: u142 :: u143 :: u144 :: u145 :: u146 :: u147 :: []).toArray, []⟩ wc := by
 conv => arg 2; whnf
 have HS := Aside0.mk S
 have HK := Lib.hid KK
 have hmm := @run_makeMap Tryz.prog
 clear S KK
 go_step
 go_cut [5] (fun v5 wc => ∃ bm, v5 = .map (some bm) ∧ Aside0 (SM w wc be br bh bm #[.string path, .string link, .int .i64 kd, .int .i64 md, .int .i64 uid, .int .i64 gid, .int .i64 mt, .int .i64 sz, .string user, .string group] #[.int .i64 0, .string ⟨#[]⟩, .string link, .string ⟨#[]⟩, .string user, .string group, .int .u8 typ, .int .i64 md, .int .i64 uid, .int .i64 gid, .int .i64 sz, .int .i64 mt] []))
 case first =>
  go_wp2
  go_meet
  case rel => exact ⟨_, rfl, ⟨HS.out.map⟩⟩
 case rest =>
  obtain ⟨bm, rfl, hS⟩ := hcut
  clear HS
  go_step
  exact HK.out bm _ _ _ _ _ _ _ _ _ _ _ _ _ _ _ _ _ _ _ _ _ _ _ _ _ _ _ _ _ _ _ _ _ _ _ _ _ _ _ _ _ _ _ _ _ _ _ _ _ _ _ _ _ _ _ _ _ _ _ _ _ _ _ _ _ _ _ _ _ _ _ _ _ _ _ _ _ _ _ _ _ _ _ _ _ _ _ _ _ _ _ _ _ _ _ _ _ _ _ _ _ _ _ _ _ _ _ _ _ _ _ _ _ _ _ _ _ _ _ _ _ _ _ _ _ _ _ _ _ _ _ _ _ _ _ _ _ _ _ _ _ _ _ _ _ hS.out
end Go.Proofs.YtpbpfngichfgeaaGreatDoor

namespace Go.Proofs.YtpbpfngichfgeaaGreatDoor
set_option linter.unusedVariables false
set_option linter.unusedSimpArgs false
open Go Go.RowKit Go.Proofs.YtpbpfngichfgeaaGreatDoorW.PrintWords Go.Proofs.YtpbpfngichfgeaaGreatDoorW.PrintLast Go.Proofs.YtpbpfngichfgeaaGreatDoorW.PrintMore

set_option maxHeartbeats 8000000 in
set_option maxRecDepth 100000 in
theorem spl_s6 (w wc : World) (be br bh bm : Nat) (path link : ByteArray) (kd md uid gid mt sz : Int) (user group name pre : ByteArray) (typ : Int) (l0 : List KV) (u0 u3 u6 u7 u8 u9 u10 u11 u12 u13 u14 u15 u16 u17 u18 u19 u20 u21 u22 u23 u24 u25 u26 u27 u28 u29 u30 u31 u32 u33 u34 u35 u36 u37 u38 u39 u40 u41 u42 u43 u44 u45 u46 u47 u48 u49 u50 u51 u52 u53 u54 u55 u56 u57 u58 u59 u60 u61 u62 u63 u64 u65 u66 u67 u68 u69 u70 u71 u72 u73 u74 u75 u76 u77 u78 u79 u80 u81 u82 u83 u84 u85 u86 u87 u88 u89 u90 u91 u92 u93 u94 u95 u96 u97 u98 u99 u100 u101 u102 u103 u104 u105 u106 u107 u108 u109 u110 u111 u112 u113 u114 u115 u116 u117 u118 u119 u120 u121 u122 u123 u124 u125 u126 u127 u128 u129 u130 u131 u132 u133 u134 u135 u136 u137 u138 u139 u140 u141 u142 u143 u144 u145 u146 u147 : Value) (he : Env w) (hrn : ((-9223372036854775808 ≤ uid ∧ uid ≤ 9223372036854775807) ∧ (-9223372036854775808 ≤ gid ∧ gid ≤ 9223372036854775807) ∧ (-9223372036854775808 ≤ sz ∧ sz ≤ 9223372036854775807) ∧ -9223372036854775808 ≤ mt ∧ mt ≤ 9223372036854775807)) (hl0 : ∀ x ∈ l0, x.1 = ⟨#[112, 97, 116, 104]⟩)
  (S : SM w wc be br bh bm #[.string path, .string link, .int .i64 kd, .int .i64 md, .int .i64 uid, .int .i64 gid, .int .i64 mt, .int .i64 sz, .string user, .string group] (hdN (hdT name pre link user group typ md uid gid sz mt 3) uid gid sz mt 0) (lN (lT l0 link user group 3) uid gid sz mt 0)) :
  Code.wp Tryz.prog (splRest 6) (bodyPost Tryz.prog Tryz.f53 (SplitEnd (hdS0 name pre (tv link 100) (tv user 31) (tv group 31) typ md (nv uid 8) (nv gid 8) (nv sz 12) (nv mt 12)) (lN (lT l0 link user group 3) uid gid sz mt 4) w)) ⟨(u0 :: (.pointer (some ⟨be, 0, none⟩)) :: (.pointer (some ⟨br, 0, none⟩)) :: u3 :: (.pointer (some ⟨bh, 0, none⟩)) :: (.map (some bm)) :: u6 :: u7 :: u8 :: u9 :: u10 :: u11 :: u12 :: u13 :: u14 :: u15 :: u16 :: u17 :: u18 :: u19 :: u20 :: u21 :: u22 :: u23 :: u24 :: u25 :: u26 :: u27 :: u28 :: u29 :: u30 :: u31 :: u32 :: u33 :: u34 :: u35 :: u36 :: u37 :: u38 :: u39 :: u40 :: u41 :: u42 :: u43 :: u44 :: u45 :: u46 :: u47 :: u48 :: u49 :: u50 :: u51 :: u52 :: u53 :: u54 :: u55 :: u56 :: u57 :: u58 :: u59 :: u60 :: u61 :: u62 :: u63 :: u64 :: u65 :: u66 :: u67 :: u68 :: u69 :: u70 :: u71 :: u72 :: u73 :: u74 :: u75 :: u76 :: u77 :: u78 :: u79 :: u80 :: u81 :: u82 :: u83 :: u84 :: u85 :: u86 :: u87 :: u88 :: u89 :: u90 :: u91 :: u92 :: u93 :: u94 :: u95 :: u96 :: u97 :: u98 :: u99 :: u100 :: u101 :: u102 :: u103 :: u104 :: u105 :: u106 :: u107 :: u108 :: u109 :: u110 :: u111 :: u112 :: u113 :: u114 :: u115 :: u116 :: u117 :: u118 :: u119 :: u120 :: u121 :: u122 :: u123 :: u124 :: u125 :: u126 :: u127 :: u128 :: u129 :: u130 :: u131 :: u132 :: u133 :: u134 :: u135 :: u136 :: u137 :: u138 :: u139 :: u140 :: u141 :: u142 :: u143 :: u144 :: u145 :: u146 :: u147 :: []).toArray, []⟩ wc := by
 conv => arg 2; whnf
 have HL0 := Lib.hid hl0
 have HRN := Lib.hid hrn
 have HE := Lib.hid he
 clear hl0 hrn he
 have HS := Aside0.mk S
 clear S
 go_upto_block 2 with (fail)
 have S1 : Aside0 (ST w (wc.alloc (.cells #[.string ⟨#[117, 105, 100]⟩, .pointer (some ⟨bh, 8, none⟩), .int .i64 8, .string ⟨#[103, 105, 100]⟩, .pointer (some ⟨bh, 9, none⟩), .int .i64 8, .string ⟨#[115, 105, 122, 101]⟩, .pointer (some ⟨bh, 10, none⟩), .int .i64 12, .string ⟨#[109, 116, 105, 109, 101]⟩, .pointer (some ⟨bh, 11, none⟩), .int .i64 12] 164)) be br bh bm #[.string path, .string link, .int .i64 kd, .int .i64 md, .int .i64 uid, .int .i64 gid, .int .i64 mt, .int .i64 sz, .string user, .string group] (hdN (hdT name pre link user group typ md uid gid sz mt 3) uid gid sz mt 0) (lN (lT l0 link user group 3) uid gid sz mt 0) wc.heap.size 164 #[.string ⟨#[117, 105, 100]⟩, .pointer (some ⟨bh, 8, none⟩), .int .i64 8, .string ⟨#[103, 105, 100]⟩, .pointer (some ⟨bh, 9, none⟩), .int .i64 8, .string ⟨#[115, 105, 122, 101]⟩, .pointer (some ⟨bh, 10, none⟩), .int .i64 12, .string ⟨#[109, 116, 105, 109, 101]⟩, .pointer (some ⟨bh, 11, none⟩), .int .i64 12]) := ⟨⟨HS.out.next (below_alloc (Below.refl _ _) _), Blk.new _ _ _, Nat.ne_of_lt HS.out.h.lt, Nat.ne_of_lt HS.out.m.lt⟩⟩
 obtain ⟨tb, htb⟩ : ∃ tb, wc.heap.size = tb := ⟨_, rfl⟩
 rw [htb] at S1 ⊢
 clear htb HS
 generalize wc.alloc _ = W1 at S1 ⊢
 go_cut [] (fun wc => Aside0 (SM w wc be br bh bm #[.string path, .string link, .int .i64 kd, .int .i64 md, .int .i64 uid, .int .i64 gid, .int .i64 mt, .int .i64 sz, .string user, .string group] (hdN (hdT name pre link user group typ md uid gid sz mt 3) uid gid sz mt 4) (lN (lT l0 link user group 3) uid gid sz mt 4)))
 case first =>
  go_wp2_with fail
  go_loopw [100] (fun i wr => ∃ k : Nat, k ≤ 4 ∧ i = .int .i64 k ∧ Aside0 (ST w wr be br bh bm #[.string path, .string link, .int .i64 kd, .int .i64 md, .int .i64 uid, .int .i64 gid, .int .i64 mt, .int .i64 sz, .string user, .string group] (hdN (hdT name pre link user group typ md uid gid sz mt 3) uid gid sz mt k) (lN (lT l0 link user group 3) uid gid sz mt k) tb 164 #[.string ⟨#[117, 105, 100]⟩, .pointer (some ⟨bh, 8, none⟩), .int .i64 8, .string ⟨#[103, 105, 100]⟩, .pointer (some ⟨bh, 9, none⟩), .int .i64 8, .string ⟨#[115, 105, 122, 101]⟩, .pointer (some ⟨bh, 10, none⟩), .int .i64 12, .string ⟨#[109, 116, 105, 109, 101]⟩, .pointer (some ⟨bh, 11, none⟩), .int .i64 12])) (fun i _ => 4 - (intOf i).toNat)
  case atStart => exact ⟨0, by omega, rfl, S1⟩
  case round =>
   clear S1
   obtain ⟨k, hk, rfl, SK⟩ := hrel
   by_cases hlt : k < 4
   ·have hc : ∃ (key : ByteArray) (s : Int) (fi most : Nat), nKey k = key ∧ nN uid gid sz mt k = s ∧ nFi k = fi ∧ nWd k = most ∧ 2 ≤ most ∧ -9223372036854775808 ≤ s ∧ s ≤ 9223372036854775807 ∧ wr.cell? ⟨tb, k * 3, none⟩ = some (.string key) ∧ wr.cell? ⟨tb, k * 3 + 1, none⟩ = some (.pointer (some ⟨bh, fi, none⟩)) ∧ wr.cell? ⟨tb, k * 3 + 2, none⟩ = some (.int .i64 most) ∧ wr.cell? ⟨bh, fi, none⟩ = some (.int .i64 s) := by
     have q := fun i => SK.out.t.cell i
     have hh := (SK.out.h.cell (nFi k)).trans (hdN_cell (fun j hj => hdT_num name pre link user group typ md uid gid sz mt 3 j hj) k k (Nat.le_refl _) hlt)
     have hr := HRN.out
     rcases (by omega : k = 0 ∨ k = 1 ∨ k = 2 ∨ k = 3) with rfl | rfl | rfl | rfl
     ·exact ⟨_, _, _, _, rfl, rfl, rfl, rfl, by decide, hr.1.1, hr.1.2, q 0, q 1, q 2, hh⟩
     ·exact ⟨_, _, _, _, rfl, rfl, rfl, rfl, by decide, hr.2.1.1, hr.2.1.2, q 3, q 4, q 5, hh⟩
     ·exact ⟨_, _, _, _, rfl, rfl, rfl, rfl, by decide, hr.2.2.1.1, hr.2.2.1.2, q 6, q 7, q 8, hh⟩
     ·exact ⟨_, _, _, _, rfl, rfl, rfl, rfl, by decide, hr.2.2.2.1, hr.2.2.2.2, q 9, q 10, q 11, hh⟩
    obtain ⟨key, s, fi, most, hke, hs, hfi, hmo, hm2, hs0, hs1, c0, c1, c2, ch⟩ := hc
    have hnew := lN_new HL0.out (link := link) (user := user) (group := group) (uid := uid) (gid := gid) (sz := sz) (mt := mt) k hlt
    rw [hke] at hnew
    have HNEW := Lib.hid hnew
    have HH : Hid ((hdN (hdT name pre link user group typ md uid gid sz mt 3) uid gid sz mt (k + 1)) = if fitsN s most = true then (hdN (hdT name pre link user group typ md uid gid sz mt 3) uid gid sz mt k) else (hdN (hdT name pre link user group typ md uid gid sz mt 3) uid gid sz mt k).setIfInBounds fi (.int .i64 0)) := by show _ = _; rw [hdN, hs, hfi, hmo]
    have HLK : Hid ((lN (lT l0 link user group 3) uid gid sz mt (k + 1)) = if fitsN s most = true then (lN (lT l0 link user group 3) uid gid sz mt k) else (lN (lT l0 link user group 3) uid gid sz mt k) ++ [(key, itoaS s)]) := by show _ = _; rw [lN, hs, hke, hmo]
    obtain ⟨kk, hft⟩ := fits_n s most hm2 hs1
    obtain ⟨b, hb⟩ : ∃ b, fitsN s most = b := ⟨_, rfl⟩
    rw [hb] at hft HH HLK
    have HFT := Lib.hid hft
    clear hke hs hfi hmo hnew hft hb
    go_upto_region 16 with (fail)
    have SB := Blk.new wr 164 #[.string key, .pointer (some ⟨bh, fi, none⟩), .int .i64 most]
    obtain ⟨d0, d1, d2⟩ := blk_cell3 SB
    have SW : Aside0 (ST w (wr.alloc (.cells #[.string key, .pointer (some ⟨bh, fi, none⟩), .int .i64 most] 164)) be br bh bm #[.string path, .string link, .int .i64 kd, .int .i64 md, .int .i64 uid, .int .i64 gid, .int .i64 mt, .int .i64 sz, .string user, .string group] (hdN (hdT name pre link user group typ md uid gid sz mt 3) uid gid sz mt k) (lN (lT l0 link user group 3) uid gid sz mt k) tb 164 #[.string ⟨#[117, 105, 100]⟩, .pointer (some ⟨bh, 8, none⟩), .int .i64 8, .string ⟨#[103, 105, 100]⟩, .pointer (some ⟨bh, 9, none⟩), .int .i64 8, .string ⟨#[115, 105, 122, 101]⟩, .pointer (some ⟨bh, 10, none⟩), .int .i64 12, .string ⟨#[109, 116, 105, 109, 101]⟩, .pointer (some ⟨bh, 11, none⟩), .int .i64 12]) := ⟨SK.out.next (below_alloc (Below.refl _ _) _)⟩
    have SBB := Aside0.mk SB
    have ch2 := cell_old (o := (.cells #[.string key, .pointer (some ⟨bh, fi, none⟩), .int .i64 most] 164)) ch
    have hbn : wr.heap.size ≠ bh := by have := SK.out.h.lt; omega
    have hbm : wr.heap.size ≠ bm := by have := SK.out.m.lt; omega
    clear c0 c1 c2 ch SK SB
    obtain ⟨bf, hbf⟩ : ∃ bf, wr.heap.size = bf := ⟨_, rfl⟩
    rw [hbf] at d0 d1 d2 hbn hbm SBB ⊢
    clear hbf
    generalize wr.alloc _ = W2 at d0 d1 d2 SW SBB ch2 ⊢
    have HS3 : Hid (∀ w3 : World, Below W2.heap.size W2 w3 → (w3.cell? ⟨bf, 0, none⟩ = some (.string key) ∧ w3.cell? ⟨bf, 1, none⟩ = some (.pointer (some ⟨bh, fi, none⟩)) ∧ w3.cell? ⟨bf, 2, none⟩ = some (.int .i64 most) ∧ w3.cell? ⟨bh, fi, none⟩ = some (.int .i64 s))) := fun w3 h3 => by
     obtain ⟨q0, q1, q2⟩ := blk_cell3 (SBB.out.below h3 SBB.out.lt)
     exact ⟨q0, q1, q2, (h3.cell (p := ⟨bh, fi, none⟩) SW.out.h.lt).trans ch2⟩
    go_region_held3 (fun w3 => w3.cell? ⟨bf, 0, none⟩ = some (.string key) ∧ w3.cell? ⟨bf, 1, none⟩ = some (.pointer (some ⟨bh, fi, none⟩)) ∧ w3.cell? ⟨bf, 2, none⟩ = some (.int .i64 most) ∧ w3.cell? ⟨bh, fi, none⟩ = some (.int .i64 s)) (first | exact HS3.out _ (Below.refl _ _).drew | exact HS3.out _ hbX) ((go_at_call 59; (with_reducible refine (POct.octal_Fits.calls kk s (most : Int) b _ HFT.out).mono ?_); rintro e w3 ⟨rfl, hdr⟩; have hbX := drawn_below hdr))
    have hb3 : Below W2.heap.size W2 w3 := hbX
    have SX : Aside0 (ST w w3 be br bh bm #[.string path, .string link, .int .i64 kd, .int .i64 md, .int .i64 uid, .int .i64 gid, .int .i64 mt, .int .i64 sz, .string user, .string group] (hdN (hdT name pre link user group typ md uid gid sz mt 3) uid gid sz mt k) (lN (lT l0 link user group 3) uid gid sz mt k) tb 164 #[.string ⟨#[117, 105, 100]⟩, .pointer (some ⟨bh, 8, none⟩), .int .i64 8, .string ⟨#[103, 105, 100]⟩, .pointer (some ⟨bh, 9, none⟩), .int .i64 8, .string ⟨#[115, 105, 122, 101]⟩, .pointer (some ⟨bh, 10, none⟩), .int .i64 12, .string ⟨#[109, 116, 105, 109, 101]⟩, .pointer (some ⟨bh, 11, none⟩), .int .i64 12]) := ⟨SW.out.next hb3⟩
    obtain ⟨q0, q1, q2, q3⟩ := HS3.out _ hb3
    have SBX := Aside0.mk (SBB.out.below hb3 SBB.out.lt)
    clear d0 d1 d2 ch2 SW SBB HS3 hbX hb3
    cases b with
    | true =>
     clear q0 q1 q2 q3 SBX HFT
     go_wp2
     go_roundw
     case rel => exact ⟨k + 1, by omega, by go_num, by rw [HH.out, HLK.out, if_pos rfl, if_pos rfl]; exact SX⟩
     case measure => simp [intOf]; omega
    | false =>
     clear HFT
     go_upto_region 17 with (fail)
     have HALL : Hid (∀ w4 : World, Below w3.drew.heap.size w3.drew w4 → ∃ WA WB : World, (Instr.mapEntry 157 (.map (some bm)) (.string key)).run Tryz.prog w4 = .ok (.tuple #[.string ⟨#[]⟩, .int .i64 (lN (lT l0 link user group 3) uid gid sz mt k).length]) WA ∧ (Instr.entryStore 157 (.map (some bm)) (.int .i64 (lN (lT l0 link user group 3) uid gid sz mt k).length) (.string (itoaS s))).run Tryz.prog WA = .ok () WB ∧ Aside0 (ST w WB be br bh bm #[.string path, .string link, .int .i64 kd, .int .i64 md, .int .i64 uid, .int .i64 gid, .int .i64 mt, .int .i64 sz, .string user, .string group] (hdN (hdT name pre link user group typ md uid gid sz mt 3) uid gid sz mt k) ((lN (lT l0 link user group 3) uid gid sz mt k) ++ [(key, itoaS s)]) tb 164 #[.string ⟨#[117, 105, 100]⟩, .pointer (some ⟨bh, 8, none⟩), .int .i64 8, .string ⟨#[103, 105, 100]⟩, .pointer (some ⟨bh, 9, none⟩), .int .i64 8, .string ⟨#[115, 105, 122, 101]⟩, .pointer (some ⟨bh, 10, none⟩), .int .i64 12, .string ⟨#[109, 116, 105, 109, 101]⟩, .pointer (some ⟨bh, 11, none⟩), .int .i64 12]) ∧ WB.cell? ⟨bh, fi, none⟩ = some (.int .i64 s) ∧ WB.frozen? ⟨bh, fi, none⟩ = false ∧ w4.cell? ⟨bf, 0, none⟩ = some (.string key) ∧ w4.cell? ⟨bf, 1, none⟩ = some (.pointer (some ⟨bh, fi, none⟩)) ∧ WA.cell? ⟨bf, 0, none⟩ = some (.string key) ∧ WA.cell? ⟨bf, 1, none⟩ = some (.pointer (some ⟨bh, fi, none⟩)) ∧ WB.cell? ⟨bf, 0, none⟩ = some (.string key) ∧ WB.cell? ⟨bf, 1, none⟩ = some (.pointer (some ⟨bh, fi, none⟩))) := by
      intro w4 h4
      have hz : ∀ W : World, (zeroValue 9).run Tryz.prog W = .ok (.string ⟨#[]⟩) W := fun W => by kernel_rfl
      have h34 : Below w3.heap.size w3 w4 := below_next ((Below.refl _ _).drew) h4
      have S4 := SX.out.next h34
      have B4 := SBX.out.below h34 SBX.out.lt
      have c4 : w4.cell? ⟨bh, fi, none⟩ = some (.int .i64 s) := (h34.cell (p := ⟨bh, fi, none⟩) SX.out.h.lt).trans q3
      obtain ⟨WA, hWA⟩ : ∃ WA, putM w4 bm ((lN (lT l0 link user group 3) uid gid sz mt k) ++ [(key, ⟨#[]⟩)]) = WA := ⟨_, rfl⟩
      obtain ⟨WB, hWB⟩ : ∃ WB, putM WA bm ((lN (lT l0 link user group 3) uid gid sz mt k) ++ [(key, itoaS s)]) = WB := ⟨_, rfl⟩
      have SA : ST w WA be br bh bm #[.string path, .string link, .int .i64 kd, .int .i64 md, .int .i64 uid, .int .i64 gid, .int .i64 mt, .int .i64 sz, .string user, .string group] (hdN (hdT name pre link user group typ md uid gid sz mt 3) uid gid sz mt k) ((lN (lT l0 link user group 3) uid gid sz mt k) ++ [(key, ⟨#[]⟩)]) tb 164 #[.string ⟨#[117, 105, 100]⟩, .pointer (some ⟨bh, 8, none⟩), .int .i64 8, .string ⟨#[103, 105, 100]⟩, .pointer (some ⟨bh, 9, none⟩), .int .i64 8, .string ⟨#[115, 105, 122, 101]⟩, .pointer (some ⟨bh, 10, none⟩), .int .i64 12, .string ⟨#[109, 116, 105, 109, 101]⟩, .pointer (some ⟨bh, 11, none⟩), .int .i64 12] := by rw [← hWA]; exact S4.putM _
      have SB : ST w WB be br bh bm #[.string path, .string link, .int .i64 kd, .int .i64 md, .int .i64 uid, .int .i64 gid, .int .i64 mt, .int .i64 sz, .string user, .string group] (hdN (hdT name pre link user group typ md uid gid sz mt 3) uid gid sz mt k) ((lN (lT l0 link user group 3) uid gid sz mt k) ++ [(key, itoaS s)]) tb 164 #[.string ⟨#[117, 105, 100]⟩, .pointer (some ⟨bh, 8, none⟩), .int .i64 8, .string ⟨#[103, 105, 100]⟩, .pointer (some ⟨bh, 9, none⟩), .int .i64 8, .string ⟨#[115, 105, 122, 101]⟩, .pointer (some ⟨bh, 10, none⟩), .int .i64 12, .string ⟨#[109, 116, 105, 109, 101]⟩, .pointer (some ⟨bh, 11, none⟩), .int .i64 12] := by rw [← hWB]; exact SA.putM _
      have hme : (Instr.mapEntry 157 (.map (some bm)) (.string key)).run Tryz.prog w4 = .ok (.tuple #[.string ⟨#[]⟩, .int .i64 (lN (lT l0 link user group 3) uid gid sz mt k).length]) WA := by rw [← hWA]; exact run_entry_new Tryz.underlying157 Tryz.underlying9 (hz _) S4.m key HNEW.out
      have hes : (Instr.entryStore 157 (.map (some bm)) (.int .i64 (lN (lT l0 link user group 3) uid gid sz mt k).length) (.string (itoaS s))).run Tryz.prog WA = .ok () WB := by rw [← hWB]; exact run_entry_store SA.m (itoaS s)
      have BA : Blk WA bf 164 #[.string key, .pointer (some ⟨bh, fi, none⟩), .int .i64 most] := by rw [← hWA]; exact blk_putM B4 hbm
      have BB : Blk WB bf 164 #[.string key, .pointer (some ⟨bh, fi, none⟩), .int .i64 most] := by rw [← hWB]; exact blk_putM BA hbm
      have cA : WA.cell? ⟨bh, fi, none⟩ = some (.int .i64 s) := by rw [← hWA]; exact (World.cell?_of_block (putM_other (blk_ne_map SX.out.h SX.out.m))).trans c4
      have cB : WB.cell? ⟨bh, fi, none⟩ = some (.int .i64 s) := by rw [← hWB]; exact (World.cell?_of_block (putM_other (blk_ne_map SX.out.h SX.out.m))).trans cA
      exact ⟨WA, WB, hme, hes, ⟨SB⟩, cB, SB.h.frozen fi, B4.cell 0, B4.cell 1, BA.cell 0, BA.cell 1, BB.cell 0, BB.cell 1⟩
     obtain ⟨NL, hNL⟩ : ∃ NL : Nat, (lN (lT l0 link user group 3) uid gid sz mt k).length = NL := ⟨_, rfl⟩
     rw [hNL] at HALL
     obtain ⟨IT, hIT⟩ : ∃ IT : ByteArray, itoaS s = IT := ⟨_, rfl⟩
     rw [hIT] at HALL HLK
     have HIT := Lib.hid hIT
     have HEX := Lib.hid (HE.out.below (SX.out.b.drew))
     clear hNL hIT SX SBX HNEW
     go_region_with ((go_at_call 83; (with_reducible refine (fmt_any s hs0 hs1 _ HEX.out).mono ?_); (rw [show (⟨(Lib.itoa s).toArray⟩ : ByteArray) = IT from HIT.out]); rintro e w4 ⟨rfl, hb4⟩; obtain ⟨WA, WB, hme, hes, SBH, cB, fB, z0, z1, a0, a1, b0, b1⟩ := HALL.out w4 hb4))
     all_goals go_wp2
     all_goals go_roundw
     all_goals first | (simp [intOf]; omega) | exact ⟨k + 1, by omega, by go_num, by rw [HH.out, HLK.out, if_neg (by decide), if_neg (by decide)]; exact ⟨(‹Aside0 (ST _ _ _ _ _ _ _ _ _ _ _ _)›).out.set fi _⟩⟩
   ·obtain rfl : k = 4 := by omega
    go_wp2
    go_meet
    case rel => exact ⟨SK.out.toSM⟩
 case rest =>
  clear S1
  have h := hcut.out
  rw [hdT_three, hdN_four] at h
  go_step
  exact spl_s7 w _ be br bh bm path link kd md uid gid mt sz user group name pre typ l0 (tv link 100) (tv user 31) (tv group 31) (nv uid 8) (nv gid 8) (nv sz 12) (nv mt 12) (lN (lT l0 link user group 3) uid gid sz mt 4) _ _ _ _ _ _ _ _ _ _ _ _ _ _ _ _ _ _ _ _ _ _ _ _ _ _ _ _ _ _ _ _ _ _ _ _ _ _ _ _ _ _ _ _ _ _ _ _ _ _ _ _ _ _ _ _ _ _ _ _ _ _ _ _ _ _ _ _ _ _ _ _ _ _ _ _ _ _ _ _ _ _ _ _ _ _ _ _ _ _ _ _ _ _ _ _ _ _ _ _ _ _ _ _ _ _ _ _ _ _ _ _ _ _ _ _ _ _ _ _ _ _ _ _ _ _ _ _ _ _ _ _ _ _ _ _ _ _ _ _ _ _ _ _ h
end Go.Proofs.YtpbpfngichfgeaaGreatDoor

namespace Go.Proofs.YtpbpfngichfgeaaGreatDoor
set_option linter.unusedVariables false
set_option linter.unusedSimpArgs false
open Go Go.RowKit Go.Proofs.YtpbpfngichfgeaaGreatDoorW.PrintWords Go.Proofs.YtpbpfngichfgeaaGreatDoorW.PrintLast Go.Proofs.YtpbpfngichfgeaaGreatDoorW.PrintMore

set_option maxHeartbeats 8000000 in
set_option maxRecDepth 100000 in
theorem spl_s5 (w wc : World) (be br bh bm : Nat) (path link : ByteArray) (kd md uid gid mt sz : Int) (user group name pre : ByteArray) (typ : Int) (l0 : List KV) (u0 u3 u6 u7 u8 u9 u10 u11 u12 u13 u14 u15 u16 u17 u18 u19 u20 u21 u22 u23 u24 u25 u26 u27 u28 u29 u30 u31 u32 u33 u34 u35 u36 u37 u38 u39 u40 u41 u42 u43 u44 u45 u46 u47 u48 u49 u50 u51 u52 u53 u54 u55 u56 u57 u58 u59 u60 u61 u62 u63 u64 u65 u66 u67 u68 u69 u70 u71 u72 u73 u74 u75 u76 u77 u78 u79 u80 u81 u82 u83 u84 u85 u86 u87 u88 u89 u90 u91 u92 u93 u94 u95 u96 u97 u98 u99 u100 u101 u102 u103 u104 u105 u106 u107 u108 u109 u110 u111 u112 u113 u114 u115 u116 u117 u118 u119 u120 u121 u122 u123 u124 u125 u126 u127 u128 u129 u130 u131 u132 u133 u134 u135 u136 u137 u138 u139 u140 u141 u142 u143 u144 u145 u146 u147 : Value) (he : Env w) (hrn : ((-9223372036854775808 ≤ uid ∧ uid ≤ 9223372036854775807) ∧ (-9223372036854775808 ≤ gid ∧ gid ≤ 9223372036854775807) ∧ (-9223372036854775808 ≤ sz ∧ sz ≤ 9223372036854775807) ∧ -9223372036854775808 ≤ mt ∧ mt ≤ 9223372036854775807)) (hl0 : ∀ x ∈ l0, x.1 = ⟨#[112, 97, 116, 104]⟩)
  (S : SM w wc be br bh bm #[.string path, .string link, .int .i64 kd, .int .i64 md, .int .i64 uid, .int .i64 gid, .int .i64 mt, .int .i64 sz, .string user, .string group] (hdT name pre link user group typ md uid gid sz mt 0) (lT l0 link user group 0)) :
  Code.wp Tryz.prog (splRest 5) (bodyPost Tryz.prog Tryz.f53 (SplitEnd (hdS0 name pre (tv link 100) (tv user 31) (tv group 31) typ md (nv uid 8) (nv gid 8) (nv sz 12) (nv mt 12)) (lN (lT l0 link user group 3) uid gid sz mt 4) w)) ⟨(u0 :: (.pointer (some ⟨be, 0, none⟩)) :: (.pointer (some ⟨br, 0, none⟩)) :: u3 :: (.pointer (some ⟨bh, 0, none⟩)) :: (.map (some bm)) :: u6 :: u7 :: u8 :: u9 :: u10 :: u11 :: u12 :: u13 :: u14 :: u15 :: u16 :: u17 :: u18 :: u19 :: u20 :: u21 :: u22 :: u23 :: u24 :: u25 :: u26 :: u27 :: u28 :: u29 :: u30 :: u31 :: u32 :: u33 :: u34 :: u35 :: u36 :: u37 :: u38 :: u39 :: u40 :: u41 :: u42 :: u43 :: u44 :: u45 :: u46 :: u47 :: u48 :: u49 :: u50 :: u51 :: u52 :: u53 :: u54 :: u55 :: u56 :: u57 :: u58 :: u59 :: u60 :: u61 :: u62 :: u63 :: u64 :: u65 :: u66 :: u67 :: u68 :: u69 :: u70 :: u71 :: u72 :: u73 :: u74 :: u75 :: u76 :: u77 :: u78 :: u79 :: u80 :: u81 :: u82 :: u83 :: u84 :: u85 :: u86 :: u87 :: u88 :: u89 :: u90 :: u91 :: u92 :: u93 :: u94 :: u95 :: u96 :: u97 :: u98 :: u99 :: u100 :: u101 :: u102 :: u103 :: u104 :: u105 :: u106 :: u107 :: u108 :: u109 :: u110 :: u111 :: u112 :: u113 :: u114 :: u115 :: u116 :: u117 :: u118 :: u119 :: u120 :: u121 :: u122 :: u123 :: u124 :: u125 :: u126 :: u127 :: u128 :: u129 :: u130 :: u131 :: u132 :: u133 :: u134 :: u135 :: u136 :: u137 :: u138 :: u139 :: u140 :: u141 :: u142 :: u143 :: u144 :: u145 :: u146 :: u147 :: []).toArray, []⟩ wc := by
 conv => arg 2; whnf
 have HL0 := Lib.hid hl0
 have HRN := Lib.hid hrn
 have HE := Lib.hid he
 clear hl0 hrn he
 have HS := Aside0.mk S
 clear S
 go_upto_block 0 with (fail)
 have S1 : Aside0 (ST w (wc.alloc (.cells #[.string ⟨#[108, 105, 110, 107, 112, 97, 116, 104]⟩, .pointer (some ⟨bh, 2, none⟩), .int .i64 100, .string ⟨#[117, 110, 97, 109, 101]⟩, .pointer (some ⟨bh, 4, none⟩), .int .i64 31, .string ⟨#[103, 110, 97, 109, 101]⟩, .pointer (some ⟨bh, 5, none⟩), .int .i64 31] 160)) be br bh bm #[.string path, .string link, .int .i64 kd, .int .i64 md, .int .i64 uid, .int .i64 gid, .int .i64 mt, .int .i64 sz, .string user, .string group] (hdT name pre link user group typ md uid gid sz mt 0) (lT l0 link user group 0) wc.heap.size 160 #[.string ⟨#[108, 105, 110, 107, 112, 97, 116, 104]⟩, .pointer (some ⟨bh, 2, none⟩), .int .i64 100, .string ⟨#[117, 110, 97, 109, 101]⟩, .pointer (some ⟨bh, 4, none⟩), .int .i64 31, .string ⟨#[103, 110, 97, 109, 101]⟩, .pointer (some ⟨bh, 5, none⟩), .int .i64 31]) := ⟨⟨HS.out.next (below_alloc (Below.refl _ _) _), Blk.new _ _ _, Nat.ne_of_lt HS.out.h.lt, Nat.ne_of_lt HS.out.m.lt⟩⟩
 obtain ⟨tb, htb⟩ : ∃ tb, wc.heap.size = tb := ⟨_, rfl⟩
 rw [htb] at S1 ⊢
 clear htb HS
 generalize wc.alloc _ = W1 at S1 ⊢
 go_cut [] (fun wc => Aside0 (SM w wc be br bh bm #[.string path, .string link, .int .i64 kd, .int .i64 md, .int .i64 uid, .int .i64 gid, .int .i64 mt, .int .i64 sz, .string user, .string group] (hdT name pre link user group typ md uid gid sz mt 3) (lT l0 link user group 3)))
 case first =>
  go_wp2_with fail
  go_loopw [65] (fun i wr => ∃ k : Nat, k ≤ 3 ∧ i = .int .i64 k ∧ Aside0 (ST w wr be br bh bm #[.string path, .string link, .int .i64 kd, .int .i64 md, .int .i64 uid, .int .i64 gid, .int .i64 mt, .int .i64 sz, .string user, .string group] (hdT name pre link user group typ md uid gid sz mt k) (lT l0 link user group k) tb 160 #[.string ⟨#[108, 105, 110, 107, 112, 97, 116, 104]⟩, .pointer (some ⟨bh, 2, none⟩), .int .i64 100, .string ⟨#[117, 110, 97, 109, 101]⟩, .pointer (some ⟨bh, 4, none⟩), .int .i64 31, .string ⟨#[103, 110, 97, 109, 101]⟩, .pointer (some ⟨bh, 5, none⟩), .int .i64 31])) (fun i _ => 3 - (intOf i).toNat)
  case atStart => exact ⟨0, by omega, rfl, S1⟩
  case round =>
   clear S1
   obtain ⟨k, hk, rfl, SK⟩ := hrel
   by_cases hlt : k < 3
   ·have hc : ∃ (key s : ByteArray) (fi most : Nat), tKey k = key ∧ tS link user group k = s ∧ tFi k = fi ∧ tMost k = most ∧ wr.cell? ⟨tb, k * 3, none⟩ = some (.string key) ∧ wr.cell? ⟨tb, k * 3 + 1, none⟩ = some (.pointer (some ⟨bh, fi, none⟩)) ∧ wr.cell? ⟨tb, k * 3 + 2, none⟩ = some (.int .i64 most) ∧ wr.cell? ⟨bh, fi, none⟩ = some (.string s) := by
     have q := fun i => SK.out.t.cell i
     have hh := (SK.out.h.cell (tFi k)).trans (hdT_cell name pre link user group typ md uid gid sz mt k hlt)
     rcases (by omega : k = 0 ∨ k = 1 ∨ k = 2) with rfl | rfl | rfl
     ·exact ⟨_, _, _, _, rfl, rfl, rfl, rfl, q 0, q 1, q 2, hh⟩
     ·exact ⟨_, _, _, _, rfl, rfl, rfl, rfl, q 3, q 4, q 5, hh⟩
     ·exact ⟨_, _, _, _, rfl, rfl, rfl, rfl, q 6, q 7, q 8, hh⟩
    obtain ⟨key, s, fi, most, hke, hs, hfi, hmo, c0, c1, c2, ch⟩ := hc
    have hnew := lT_new HL0.out link user group k hlt
    rw [hke] at hnew
    have HNEW := Lib.hid hnew
    have HH : Hid ((hdT name pre link user group typ md uid gid sz mt (k + 1)) = if fitsT s most = true then (hdT name pre link user group typ md uid gid sz mt k) else (hdT name pre link user group typ md uid gid sz mt k).setIfInBounds fi (.string ⟨#[]⟩)) := by show _ = _; rw [hdT, hs, hfi, hmo]
    have HLK : Hid ((lT l0 link user group (k + 1)) = if fitsT s most = true then (lT l0 link user group k) else (lT l0 link user group k) ++ [(key, s)]) := by show _ = _; rw [lT, hs, hke, hmo]
    have hft := fits_t s most
    obtain ⟨b, hb⟩ : ∃ b, fitsT s most = b := ⟨_, rfl⟩
    rw [hb] at hft HH HLK
    have HFT := Lib.hid hft
    clear hke hs hfi hmo hnew hft hb
    go_upto_region 10 with (fail)
    have SB := Blk.new wr 160 #[.string key, .pointer (some ⟨bh, fi, none⟩), .int .i64 most]
    obtain ⟨d0, d1, d2⟩ := blk_cell3 SB
    have SW : Aside0 (ST w (wr.alloc (.cells #[.string key, .pointer (some ⟨bh, fi, none⟩), .int .i64 most] 160)) be br bh bm #[.string path, .string link, .int .i64 kd, .int .i64 md, .int .i64 uid, .int .i64 gid, .int .i64 mt, .int .i64 sz, .string user, .string group] (hdT name pre link user group typ md uid gid sz mt k) (lT l0 link user group k) tb 160 #[.string ⟨#[108, 105, 110, 107, 112, 97, 116, 104]⟩, .pointer (some ⟨bh, 2, none⟩), .int .i64 100, .string ⟨#[117, 110, 97, 109, 101]⟩, .pointer (some ⟨bh, 4, none⟩), .int .i64 31, .string ⟨#[103, 110, 97, 109, 101]⟩, .pointer (some ⟨bh, 5, none⟩), .int .i64 31]) := ⟨SK.out.next (below_alloc (Below.refl _ _) _)⟩
    have SBB := Aside0.mk SB
    have ch2 := cell_old (o := (.cells #[.string key, .pointer (some ⟨bh, fi, none⟩), .int .i64 most] 160)) ch
    have hbn : wr.heap.size ≠ bh := by have := SK.out.h.lt; omega
    have hbm : wr.heap.size ≠ bm := by have := SK.out.m.lt; omega
    clear c0 c1 c2 ch SK SB
    obtain ⟨bf, hbf⟩ : ∃ bf, wr.heap.size = bf := ⟨_, rfl⟩
    rw [hbf] at d0 d1 d2 hbn hbm SBB ⊢
    clear hbf
    generalize wr.alloc _ = W2 at d0 d1 d2 SW SBB ch2 ⊢
    have HS3 : Hid (∀ w3 : World, Below W2.heap.size W2 w3 → (w3.cell? ⟨bf, 0, none⟩ = some (.string key) ∧ w3.cell? ⟨bf, 1, none⟩ = some (.pointer (some ⟨bh, fi, none⟩)) ∧ w3.cell? ⟨bf, 2, none⟩ = some (.int .i64 most) ∧ w3.cell? ⟨bh, fi, none⟩ = some (.string s))) := fun w3 h3 => by
     obtain ⟨q0, q1, q2⟩ := blk_cell3 (SBB.out.below h3 SBB.out.lt)
     exact ⟨q0, q1, q2, (h3.cell (p := ⟨bh, fi, none⟩) SW.out.h.lt).trans ch2⟩
    go_region_held3 (fun w3 => w3.cell? ⟨bf, 0, none⟩ = some (.string key) ∧ w3.cell? ⟨bf, 1, none⟩ = some (.pointer (some ⟨bh, fi, none⟩)) ∧ w3.cell? ⟨bf, 2, none⟩ = some (.int .i64 most) ∧ w3.cell? ⟨bh, fi, none⟩ = some (.string s)) (first | exact HS3.out _ (Below.refl _ _).drew | exact HS3.out _ (below_next ((Below.refl _ _).drew) hbf)) ((go_at_call 33; (with_reducible refine (POct.head_Fits.calls s (most : Int) b _ HFT.out).mono ?_); rintro e w3 ⟨rfl, hbf⟩))
    have hb3 : Below W2.heap.size W2 w3 := below_next ((Below.refl _ _).drew) hbf
    have SX : Aside0 (ST w w3 be br bh bm #[.string path, .string link, .int .i64 kd, .int .i64 md, .int .i64 uid, .int .i64 gid, .int .i64 mt, .int .i64 sz, .string user, .string group] (hdT name pre link user group typ md uid gid sz mt k) (lT l0 link user group k) tb 160 #[.string ⟨#[108, 105, 110, 107, 112, 97, 116, 104]⟩, .pointer (some ⟨bh, 2, none⟩), .int .i64 100, .string ⟨#[117, 110, 97, 109, 101]⟩, .pointer (some ⟨bh, 4, none⟩), .int .i64 31, .string ⟨#[103, 110, 97, 109, 101]⟩, .pointer (some ⟨bh, 5, none⟩), .int .i64 31]) := ⟨SW.out.next hb3⟩
    obtain ⟨q0, q1, q2, q3⟩ := HS3.out _ hb3
    have SBX := Aside0.mk (SBB.out.below hb3 SBB.out.lt)
    clear d0 d1 d2 ch2 SW SBB HS3 hbf hb3
    cases b with
    | true =>
     clear q0 q1 q2 q3 SBX HFT
     go_wp2
     go_roundw
     case rel => exact ⟨k + 1, by omega, by go_num, by rw [HH.out, HLK.out, if_pos rfl, if_pos rfl]; exact SX⟩
     case measure => simp [intOf]; omega
    | false =>
     clear HFT
     go_upto_region 11 with (fail)
     have hz : ∀ W : World, (zeroValue 9).run Tryz.prog W = .ok (.string ⟨#[]⟩) W := fun W => by kernel_rfl
     obtain ⟨WA, hWA⟩ : ∃ WA, putM w3.drew bm ((lT l0 link user group k) ++ [(key, ⟨#[]⟩)]) = WA := ⟨_, rfl⟩
     obtain ⟨WB, hWB⟩ : ∃ WB, putM WA bm ((lT l0 link user group k) ++ [(key, s)]) = WB := ⟨_, rfl⟩
     have SA : ST w WA be br bh bm #[.string path, .string link, .int .i64 kd, .int .i64 md, .int .i64 uid, .int .i64 gid, .int .i64 mt, .int .i64 sz, .string user, .string group] (hdT name pre link user group typ md uid gid sz mt k) ((lT l0 link user group k) ++ [(key, ⟨#[]⟩)]) tb 160 #[.string ⟨#[108, 105, 110, 107, 112, 97, 116, 104]⟩, .pointer (some ⟨bh, 2, none⟩), .int .i64 100, .string ⟨#[117, 110, 97, 109, 101]⟩, .pointer (some ⟨bh, 4, none⟩), .int .i64 31, .string ⟨#[103, 110, 97, 109, 101]⟩, .pointer (some ⟨bh, 5, none⟩), .int .i64 31] := by rw [← hWA]; exact ((SX.out.next ((Below.refl _ _).drew)).putM _)
     have SB : ST w WB be br bh bm #[.string path, .string link, .int .i64 kd, .int .i64 md, .int .i64 uid, .int .i64 gid, .int .i64 mt, .int .i64 sz, .string user, .string group] (hdT name pre link user group typ md uid gid sz mt k) ((lT l0 link user group k) ++ [(key, s)]) tb 160 #[.string ⟨#[108, 105, 110, 107, 112, 97, 116, 104]⟩, .pointer (some ⟨bh, 2, none⟩), .int .i64 100, .string ⟨#[117, 110, 97, 109, 101]⟩, .pointer (some ⟨bh, 4, none⟩), .int .i64 31, .string ⟨#[103, 110, 97, 109, 101]⟩, .pointer (some ⟨bh, 5, none⟩), .int .i64 31] := by rw [← hWB]; exact SA.putM _
     have hme : (Instr.mapEntry 157 (.map (some bm)) (.string key)).run Tryz.prog w3.drew = .ok (.tuple #[.string ⟨#[]⟩, .int .i64 (lT l0 link user group k).length]) WA := by rw [← hWA]; exact run_entry_new Tryz.underlying157 Tryz.underlying9 (hz _) (SX.out.next ((Below.refl _ _).drew)).m key HNEW.out
     have hes : (Instr.entryStore 157 (.map (some bm)) (.int .i64 (lT l0 link user group k).length) (.string s)).run Tryz.prog WA = .ok () WB := by rw [← hWB]; exact run_entry_store SA.m s
     have BA : Blk WA bf 160 #[.string key, .pointer (some ⟨bh, fi, none⟩), .int .i64 most] := by rw [← hWA]; exact blk_putM (SBX.out.drew) hbm
     have BB : Blk WB bf 160 #[.string key, .pointer (some ⟨bh, fi, none⟩), .int .i64 most] := by rw [← hWB]; exact blk_putM BA hbm
     have cA : WA.cell? ⟨bh, fi, none⟩ = some (.string s) := by rw [← hWA]; exact (World.cell?_of_block (putM_other (Ne.symm (Ne.symm (blk_ne_map SX.out.h SX.out.m))))).trans q3
     have cB : WB.cell? ⟨bh, fi, none⟩ = some (.string s) := by rw [← hWB]; exact (World.cell?_of_block (putM_other (blk_ne_map SX.out.h SX.out.m))).trans cA
     have fB := SB.h.frozen fi
     obtain ⟨a0, a1, _⟩ := blk_cell3 BA
     obtain ⟨b0, b1, _⟩ := blk_cell3 BB
     have SBH := Aside0.mk SB
     obtain ⟨NL, hNL⟩ : ∃ NL : Nat, (lT l0 link user group k).length = NL := ⟨_, rfl⟩
     rw [hNL] at hme hes
     clear hNL hWA hWB SA SB BA BB hz SX SBX HNEW
     go_region
     go_wp2
     go_roundw
     case rel => exact ⟨k + 1, by omega, by go_num, by rw [HH.out, HLK.out, if_neg (by decide), if_neg (by decide)]; exact ⟨SBH.out.set fi _⟩⟩
     case measure => simp [intOf]; omega
   ·obtain rfl : k = 3 := by omega
    go_wp2
    go_meet
    case rel => exact ⟨SK.out.toSM⟩
 case rest =>
  clear S1
  go_step
  exact spl_s6 w _ be br bh bm path link kd md uid gid mt sz user group name pre typ l0 _ _ _ _ _ _ _ _ _ _ _ _ _ _ _ _ _ _ _ _ _ _ _ _ _ _ _ _ _ _ _ _ _ _ _ _ _ _ _ _ _ _ _ _ _ _ _ _ _ _ _ _ _ _ _ _ _ _ _ _ _ _ _ _ _ _ _ _ _ _ _ _ _ _ _ _ _ _ _ _ _ _ _ _ _ _ _ _ _ _ _ _ _ _ _ _ _ _ _ _ _ _ _ _ _ _ _ _ _ _ _ _ _ _ _ _ _ _ _ _ _ _ _ _ _ _ _ _ _ _ _ _ _ _ _ _ _ _ _ _ _ _ _ _ HE.out HRN.out HL0.out hcut.out
end Go.Proofs.YtpbpfngichfgeaaGreatDoor

namespace Go.Proofs.YtpbpfngichfgeaaGreatDoor
set_option linter.unusedVariables false
set_option linter.unusedSimpArgs false
open Go Go.RowKit Go.Proofs.YtpbpfngichfgeaaGreatDoorW.PrintWords Go.Proofs.YtpbpfngichfgeaaGreatDoorW.PrintLast Go.Proofs.YtpbpfngichfgeaaGreatDoorW.PrintMore

structure SZ (w wc : World) (be br : Nat) (en : Array Value) : Prop where
 b : Below w.heap.size w wc
 e : Blk wc be 41 en
 r : Blk wc br 36 #[.int .i64 0, .string ⟨#[]⟩, .string ⟨#[]⟩, .string ⟨#[]⟩, .string ⟨#[]⟩, .string ⟨#[]⟩, .int .u8 0, .int .i64 0, .int .i64 0, .int .i64 0, .int .i64 0, .int .i64 0]
 n0 : w.heap.size ≤ br
theorem SZ.st1 {w W : World} {be br bh : Nat} {en : Array Value} (s : SZ w W be br en) (h1 : w.heap.size ≤ bh) (h2 : be ≠ bh) (h3 : br ≠ bh) (i : Nat) (v : Value) : SZ w (W.setCell ⟨bh, i, none⟩ v) be br en :=
 ⟨s.b.setCell (p := ⟨bh, i, none⟩) h1 v, s.e.far h2 v, s.r.far h3 v, s.n0⟩
theorem SZ.next {w wc w' : World} {be br : Nat} {en : Array Value} (s : SZ w wc be br en) (hb : Below wc.heap.size wc w') : SZ w w' be br en := ⟨below_next s.b hb, s.e.below hb s.e.lt, s.r.below hb s.r.lt, s.n0⟩
theorem S0.one' {w W : World} {be br bh : Nat} {en hd : Array Value} (s : S0 w W be br bh en hd) (hne : be ≠ bh) (i : Nat) (v : Value) : S0 w (W.setCell ⟨bh, i, none⟩ v) be br bh en (hd.setIfInBounds i v) :=
 ⟨s.b.setCell (p := ⟨bh, i, none⟩) s.n1 v, s.e.far hne v, s.r.far s.n3 v, s.h.set_ i v, s.n1, s.n3, s.n0⟩
theorem S0.twelve {w W : World} {be br bh : Nat} {en : Array Value} {hd : Array Value} (s : S0 w W be br bh en hd) (hh : hd = #[.int .i64 0, .string ⟨#[]⟩, .string ⟨#[]⟩, .string ⟨#[]⟩, .string ⟨#[]⟩, .string ⟨#[]⟩, .int .u8 0, .int .i64 0, .int .i64 0, .int .i64 0, .int .i64 0, .int .i64 0]) (hne : be ≠ bh) (v0 v1 v2 v3 v4 v5 v6 v7 v8 v9 v10 v11 : Value) : S0 w (World.setCell (World.setCell (World.setCell (World.setCell (World.setCell (World.setCell (World.setCell (World.setCell (World.setCell (World.setCell (World.setCell (World.setCell W ⟨bh, 0, none⟩ v0) ⟨bh, 1, none⟩ v1) ⟨bh, 2, none⟩ v2) ⟨bh, 3, none⟩ v3) ⟨bh, 4, none⟩ v4) ⟨bh, 5, none⟩ v5) ⟨bh, 6, none⟩ v6) ⟨bh, 7, none⟩ v7) ⟨bh, 8, none⟩ v8) ⟨bh, 9, none⟩ v9) ⟨bh, 10, none⟩ v10) ⟨bh, 11, none⟩ v11) be br bh en #[v0, v1, v2, v3, v4, v5, v6, v7, v8, v9, v10, v11] := by
 subst hh
 have h := ((((((((((((s.one' hne 0 v0).one' hne 1 v1).one' hne 2 v2).one' hne 3 v3).one' hne 4 v4).one' hne 5 v5).one' hne 6 v6).one' hne 7 v7).one' hne 8 v8).one' hne 9 v9).one' hne 10 v10).one' hne 11 v11)
 exact ⟨h.b, h.e, h.r, by simpa using h.h, h.n1, h.n3, h.n0⟩
theorem SZ.twelve {w W : World} {be br bh : Nat} {en : Array Value} (s : SZ w W be br en) (h1 : w.heap.size ≤ bh) (h2 : be ≠ bh) (h3 : br ≠ bh) (v0 v1 v2 v3 v4 v5 v6 v7 v8 v9 v10 v11 : Value) : SZ w (World.setCell (World.setCell (World.setCell (World.setCell (World.setCell (World.setCell (World.setCell (World.setCell (World.setCell (World.setCell (World.setCell (World.setCell W ⟨bh, 0, none⟩ v0) ⟨bh, 1, none⟩ v1) ⟨bh, 2, none⟩ v2) ⟨bh, 3, none⟩ v3) ⟨bh, 4, none⟩ v4) ⟨bh, 5, none⟩ v5) ⟨bh, 6, none⟩ v6) ⟨bh, 7, none⟩ v7) ⟨bh, 8, none⟩ v8) ⟨bh, 9, none⟩ v9) ⟨bh, 10, none⟩ v10) ⟨bh, 11, none⟩ v11) be br en :=
 ((((((((((((s.st1 h1 h2 h3 0 v0).st1 h1 h2 h3 1 v1).st1 h1 h2 h3 2 v2).st1 h1 h2 h3 3 v3).st1 h1 h2 h3 4 v4).st1 h1 h2 h3 5 v5).st1 h1 h2 h3 6 v6).st1 h1 h2 h3 7 v7).st1 h1 h2 h3 8 v8).st1 h1 h2 h3 9 v9).st1 h1 h2 h3 10 v10).st1 h1 h2 h3 11 v11)
theorem drawn_is {W w : World} (h : Drawn0 W w) : Below W.heap.size W w := by
 obtain ⟨n, rfl⟩ := h
 exact below_drewN' (Below.refl _ _) n
theorem blk_of_below_d {W w1 : World} {cs : Array Value} {t : TypeId} (h : Below (World.drew (W.alloc (.cells cs t))).heap.size (World.drew (W.alloc (.cells cs t))) w1) : Blk w1 W.heap.size t cs := (Blk.new W t cs).drew.below h (by simp)
theorem blk_cells12 {wc : World} {Z : Nat} {t : TypeId} {h0 h1 h2 h3 h4 h5 h6 h7 h8 h9 h10 h11 : Value} (s : Blk wc Z t #[h0, h1, h2, h3, h4, h5, h6, h7, h8, h9, h10, h11]) : wc.cell? ⟨Z, 0, none⟩ = some h0 ∧ wc.cell? ⟨Z, 1, none⟩ = some h1 ∧ wc.cell? ⟨Z, 2, none⟩ = some h2 ∧ wc.cell? ⟨Z, 3, none⟩ = some h3 ∧ wc.cell? ⟨Z, 4, none⟩ = some h4 ∧ wc.cell? ⟨Z, 5, none⟩ = some h5 ∧ wc.cell? ⟨Z, 6, none⟩ = some h6 ∧ wc.cell? ⟨Z, 7, none⟩ = some h7 ∧ wc.cell? ⟨Z, 8, none⟩ = some h8 ∧ wc.cell? ⟨Z, 9, none⟩ = some h9 ∧ wc.cell? ⟨Z, 10, none⟩ = some h10 ∧ wc.cell? ⟨Z, 11, none⟩ = some h11 ∧ wc.frozen? ⟨Z, 0, none⟩ = false ∧ wc.frozen? ⟨Z, 1, none⟩ = false ∧ wc.frozen? ⟨Z, 2, none⟩ = false ∧ wc.frozen? ⟨Z, 3, none⟩ = false ∧ wc.frozen? ⟨Z, 4, none⟩ = false ∧ wc.frozen? ⟨Z, 5, none⟩ = false ∧ wc.frozen? ⟨Z, 6, none⟩ = false ∧ wc.frozen? ⟨Z, 7, none⟩ = false ∧ wc.frozen? ⟨Z, 8, none⟩ = false ∧ wc.frozen? ⟨Z, 9, none⟩ = false ∧ wc.frozen? ⟨Z, 10, none⟩ = false ∧ wc.frozen? ⟨Z, 11, none⟩ = false := ⟨s.cell 0, s.cell 1, s.cell 2, s.cell 3, s.cell 4, s.cell 5, s.cell 6, s.cell 7, s.cell 8, s.cell 9, s.cell 10, s.cell 11, s.frozen 0, s.frozen 1, s.frozen 2, s.frozen 3, s.frozen 4, s.frozen 5, s.frozen 6, s.frozen 7, s.frozen 8, s.frozen 9, s.frozen 10, s.frozen 11⟩
theorem S0.new {w W : World} {be br : Nat} {en cs : Array Value} (s : SZ w W be br en) : S0 w (W.alloc (.cells cs 36)) be br W.heap.size en cs :=
 ⟨below_next s.b (below_alloc (Below.refl _ _) _), s.e.alloc _, s.r.alloc _, Blk.new _ _ _, s.b.size, Nat.ne_of_lt s.r.lt, s.n0⟩
theorem S0.next {w wc w' : World} {be br bh : Nat} {en hd : Array Value} (s : S0 w wc be br bh en hd) (hb : Below wc.heap.size wc w') : S0 w w' be br bh en hd :=
 ⟨below_next s.b hb, s.e.below hb s.e.lt, s.r.below hb s.r.lt, s.h.below hb s.h.lt, s.n1, s.n3, s.n0⟩
theorem SZ.es {w wc : World} {be br : Nat} {h0 h1 h2 h3 h4 h5 h6 h7 h8 h9 : Value} (s : SZ w wc be br #[h0, h1, h2, h3, h4, h5, h6, h7, h8, h9]) : wc.cell? ⟨be, 0, none⟩ = some h0 ∧ wc.cell? ⟨be, 1, none⟩ = some h1 ∧ wc.cell? ⟨be, 2, none⟩ = some h2 ∧ wc.cell? ⟨be, 3, none⟩ = some h3 ∧ wc.cell? ⟨be, 4, none⟩ = some h4 ∧ wc.cell? ⟨be, 5, none⟩ = some h5 ∧ wc.cell? ⟨be, 6, none⟩ = some h6 ∧ wc.cell? ⟨be, 7, none⟩ = some h7 ∧ wc.cell? ⟨be, 8, none⟩ = some h8 ∧ wc.cell? ⟨be, 9, none⟩ = some h9 := ⟨s.e.cell 0, s.e.cell 1, s.e.cell 2, s.e.cell 3, s.e.cell 4, s.e.cell 5, s.e.cell 6, s.e.cell 7, s.e.cell 8, s.e.cell 9⟩
set_option maxHeartbeats 8000000 in
set_option maxRecDepth 100000 in
theorem spl_s1 (w wc : World) (be br : Nat) (path link : ByteArray) (kd md uid gid mt sz : Int) (user group : ByteArray) (typ : Int) (R : Ending → World → Prop) (hty : POct.kind_Type.f kd = some typ) (u0 u3 u4 u5 u6 u7 u8 u9 u10 u11 u12 u13 u14 u15 u16 u17 u18 u19 u20 u21 u22 u23 u24 u25 u26 u27 u28 u29 u30 u31 u32 u33 u34 u35 u36 u37 u38 u39 u40 u41 u42 u43 u44 u45 u46 u47 u48 u49 u50 u51 u52 u53 u54 u55 u56 u57 u58 u59 u60 u61 u62 u63 u64 u65 u66 u67 u68 u69 u70 u71 u72 u73 u74 u75 u76 u77 u78 u79 u80 u81 u82 u83 u84 u85 u86 u87 u88 u89 u90 u91 u92 u93 u94 u95 u96 u97 u98 u99 u100 u101 u102 u103 u104 u105 u106 u107 u108 u109 u110 u111 u112 u113 u114 u115 u116 u117 u118 u119 u120 u121 u122 u123 u124 u125 u126 u127 u128 u129 u130 u131 u132 u133 u134 u135 u136 u137 u138 u139 u140 u141 u142 u143 u144 u145 u146 u147 : Value)
  (KK : ∀ (bh : Nat) (wc : World) (u0 u3 u5 u6 u7 u8 u9 u10 u11 u12 u13 u14 u15 u16 u17 u18 u19 u20 u21 u22 u23 u24 u25 u26 u27 u28 u29 u30 u31 u32 u33 u34 u35 u36 u37 u38 u39 u40 u41 u42 u43 u44 u45 u46 u47 u48 u49 u50 u51 u52 u53 u54 u55 u56 u57 u58 u59 u60 u61 u62 u63 u64 u65 u66 u67 u68 u69 u70 u71 u72 u73 u74 u75 u76 u77 u78 u79 u80 u81 u82 u83 u84 u85 u86 u87 u88 u89 u90 u91 u92 u93 u94 u95 u96 u97 u98 u99 u100 u101 u102 u103 u104 u105 u106 u107 u108 u109 u110 u111 u112 u113 u114 u115 u116 u117 u118 u119 u120 u121 u122 u123 u124 u125 u126 u127 u128 u129 u130 u131 u132 u133 u134 u135 u136 u137 u138 u139 u140 u141 u142 u143 u144 u145 u146 u147 : Value), S0 w wc be br bh #[.string path, .string link, .int .i64 kd, .int .i64 md, .int .i64 uid, .int .i64 gid, .int .i64 mt, .int .i64 sz, .string user, .string group] #[.int .i64 0, .string ⟨#[]⟩, .string link, .string ⟨#[]⟩, .string user, .string group, .int .u8 typ, .int .i64 md, .int .i64 uid, .int .i64 gid, .int .i64 sz, .int .i64 mt] → Code.wp Tryz.prog (splRest 2) (bodyPost Tryz.prog Tryz.f53 R) ⟨(u0 :: (.pointer (some ⟨be, 0, none⟩)) :: (.pointer (some ⟨br, 0, none⟩)) :: u3 :: (.pointer (some ⟨bh, 0, none⟩)) :: u5 :: u6 :: u7 :: u8 :: u9 :: u10 :: u11 :: u12 :: u13 :: u14 :: u15 :: u16 :: u17 :: u18 :: u19 :: u20 :: u21 :: u22 :: u23 :: u24 :: u25 :: u26 :: u27 :: u28 :: u29 :: u30 :: u31 :: u32 :: u33 :: u34 :: u35 :: u36 :: u37 :: u38 :: u39 :: u40 :: u41 :: u42 :: u43 :: u44 :: u45 :: u46 :: u47 :: u48 :: u49 :: u50 :: u51 :: u52 :: u53 :: u54 :: u55 :: u56 :: u57 :: u58 :: u59 :: u60 :: u61 :: u62 :: u63 :: u64 :: u65 :: u66 :: u67 :: u68 :: u69 :: u70 :: u71 :: u72 :: u73 :: u74 :: u75 :: u76 :: u77 :: u78 :: u79 :: u80 :: u81 :: u82 :: u83 :: u84 :: u85 :: u86 :: u87 :: u88 :: u89 :: u90 :: u91 :: u92 :: u93 :: u94 :: u95 :: u96 :: u97 :: u98 :: u99 :: u100 :: u101 :: u102 :: u103 :: u104 :: u105 :: u106 :: u107 :: u108 :: u109 :: u110 :: u111 :: u112 :: u113 :: u114 :: u115 :: u116 :: u117 :: u118 :: u119 :: u120 :: u121 :: u122 :: u123 :: u124 :: u125 :: u126 :: u127 :: u128 :: u129 :: u130 :: u131 :: u132 :: u133 :: u134 :: u135 :: u136 :: u137 :: u138 :: u139 :: u140 :: u141 :: u142 :: u143 :: u144 :: u145 :: u146 :: u147 :: []).toArray, []⟩ wc)
  (S : SZ w wc be br #[.string path, .string link, .int .i64 kd, .int .i64 md, .int .i64 uid, .int .i64 gid, .int .i64 mt, .int .i64 sz, .string user, .string group]) :
  Code.wp Tryz.prog (splRest 1) (bodyPost Tryz.prog Tryz.f53 R) ⟨(u0 :: (.pointer (some ⟨be, 0, none⟩)) :: (.pointer (some ⟨br, 0, none⟩)) :: u3 :: u4 :: u5 :: u6 :: u7 :: u8 :: u9 :: u10 :: u11 :: u12 :: u13 :: u14 :: u15 :: u16 :: u17 :: u18 :: u19 :: u20 :: u21 :: u22 :: u23 :: u24 :: u25 :: u26 :: u27 :: u28 :: u29 :: u30 :: u31 :: u32 :: u33 :: u34 :: u35 :: u36 :: u37 :: u38 :: u39 :: u40 :: u41 :: u42 :: u43 :: u44 :: u45 :: u46 :: u47 :: u48 :: u49 :: u50 :: u51 :: u52 :: u53 :: u54 :: u55 :: u56 :: u57 :: u58 :: u59 :: u60 :: u61 :: u62 :: u63 :: u64 :: u65 :: u66 :: u67 :: u68 :: u69 :: u70 :: u71 :: u72 :: u73 :: u74 :: u75 :: u76 :: u77 :: u78 :: u79 :: u80 :: u81 :: u82 :: u83 :: u84 :: u85 :: u86 :: u87 :: u88 :: u89 :: u90 :: u91 :: u92 :: u93 :: u94 :: u95 :: u96 :: u97 :: u98 :: u99 :: u100 :: u101 :: u102 :: u103 :: u104 :: u105 :: u106 :: u107 :: u108 :: u109 :: u110 :: u111 :: u112 :: u113 :: u114 :: u115 :: u116 :: u117 :: u118 :: u119 :: u120 :: u121 :: u122 :: u123 :: u124 :: u125 :: u126 :: u127 :: u128 :: u129 :: u130 :: u131 :: u132 :: u133 :: u134 :: u135 :: u136 :: u137 :: u138 :: u139 :: u140 :: u141 :: u142 :: u143 :: u144 :: u145 :: u146 :: u147 :: []).toArray, []⟩ wc := by
 conv => arg 2; whnf
 have HS := Aside0.mk S
 have HK := Lib.hid KK
 have HTY := Lib.hid hty
 obtain ⟨e0, e1, e2, e3, e4, e5, e6, e7, e8, e9⟩ := S.es
 clear S KK hty
 go_step
 have q2 := HS.out.e.lt
 have q3 := HS.out.r.lt
 have q4 := HS.out.b.size
 have HKK := Aside0.mk (show ∀ w', SZ w w' be br #[.string path, .string link, .int .i64 kd, .int .i64 md, .int .i64 uid, .int .i64 gid, .int .i64 mt, .int .i64 sz, .string user, .string group] → (Aside0 (SZ w w' be br #[.string path, .string link, .int .i64 kd, .int .i64 md, .int .i64 uid, .int .i64 gid, .int .i64 mt, .int .i64 sz, .string user, .string group]) ∧ w'.cell? ⟨be, 0, none⟩ = some (.string path) ∧ w'.cell? ⟨be, 1, none⟩ = some (.string link) ∧ w'.cell? ⟨be, 2, none⟩ = some (.int .i64 kd) ∧ w'.cell? ⟨be, 3, none⟩ = some (.int .i64 md) ∧ w'.cell? ⟨be, 4, none⟩ = some (.int .i64 uid) ∧ w'.cell? ⟨be, 5, none⟩ = some (.int .i64 gid) ∧ w'.cell? ⟨be, 6, none⟩ = some (.int .i64 mt) ∧ w'.cell? ⟨be, 7, none⟩ = some (.int .i64 sz) ∧ w'.cell? ⟨be, 8, none⟩ = some (.string user) ∧ w'.cell? ⟨be, 9, none⟩ = some (.string group)) from fun w' s => by
  obtain ⟨e0, e1, e2, e3, e4, e5, e6, e7, e8, e9⟩ := s.es
  exact ⟨⟨s⟩, e0, e1, e2, e3, e4, e5, e6, e7, e8, e9⟩)
 clear e0 e1 e2 e3 e4 e5 e6 e7 e8 e9
 have hst := HKK.out _ HS.out
 go_cut [4] (fun v4 wc => ∃ bh, v4 = .pointer (some ⟨bh, 0, none⟩) ∧ Aside0 (S0 w wc be br bh #[.string path, .string link, .int .i64 kd, .int .i64 md, .int .i64 uid, .int .i64 gid, .int .i64 mt, .int .i64 sz, .string user, .string group] #[.int .i64 0, .string ⟨#[]⟩, .string link, .string ⟨#[]⟩, .string user, .string group, .int .u8 typ, .int .i64 md, .int .i64 uid, .int .i64 gid, .int .i64 sz, .int .i64 mt]))
 case first =>
  go_region_held3 (fun w' => Aside0 (SZ w w' be br #[.string path, .string link, .int .i64 kd, .int .i64 md, .int .i64 uid, .int .i64 gid, .int .i64 mt, .int .i64 sz, .string user, .string group]) ∧ w'.cell? ⟨be, 0, none⟩ = some (.string path) ∧ w'.cell? ⟨be, 1, none⟩ = some (.string link) ∧ w'.cell? ⟨be, 2, none⟩ = some (.int .i64 kd) ∧ w'.cell? ⟨be, 3, none⟩ = some (.int .i64 md) ∧ w'.cell? ⟨be, 4, none⟩ = some (.int .i64 uid) ∧ w'.cell? ⟨be, 5, none⟩ = some (.int .i64 gid) ∧ w'.cell? ⟨be, 6, none⟩ = some (.int .i64 mt) ∧ w'.cell? ⟨be, 7, none⟩ = some (.int .i64 sz) ∧ w'.cell? ⟨be, 8, none⟩ = some (.string user) ∧ w'.cell? ⟨be, 9, none⟩ = some (.string group)) (with_reducible first | (refine HKK.out _ ?_; refine SZ.twelve hLn ?_ ?_ ?_ _ _ _ _ _ _ _ _ _ _ _ _ <;> omega) | exact HKK.out _ (HS.out.next (below_drewN' (Below.refl _ _) _)) | exact HKK.out _ (HS.out.next ((Below.refl _ _).drew)) | exact HKK.out _ hLn | exact HKK.out _ (HS.out.next (below_alloc ((Below.refl _ _).drew) _)) | exact HKK.out _ (hLn.next (below_alloc (Below.refl _ _) _))) ((go_at_call 81; (with_reducible refine (POct.kind_Type.calls kd typ _ HTY.out).mono ?_); rintro e w3 ⟨rfl, hd3⟩; have hb3 := drawn_is hd3; have hLn := (‹Aside0 (SZ _ _ _ _ _) ∧ _›).1.out.next hb3; have shb3 := hb3.size; (try simp at shb3); (first | (with_reducible have hz := Aside0.mk (blk_of_below hb3)) | (with_reducible have hz := Aside0.mk (blk_of_below_d hb3)) | (with_reducible have hz := Aside0.mk (Blk.below hz.out hb3 hz.out.lt)) | skip); (first | (have hz := Aside0.mk (show Blk _ wc.heap.size _ _ from hz.out)) | skip); (first | (have hzz := blk_cells12 hz.out; obtain ⟨z0, z1, z2, z3, z4, z5, z6, z7, z8, z9, z10, z11, z12, z13, z14, z15, z16, z17, z18, z19, z20, z21, z22, z23⟩ := hzz) | skip)))
  all_goals go_wp2
  all_goals go_meet
  all_goals first
   | (with_reducible exact ⟨_, rfl, ⟨S0.new hLn⟩⟩)
   | (with_reducible refine ⟨_, rfl, ⟨S0.twelve (S0.new hLn) ?_ ?_ _ _ _ _ _ _ _ _ _ _ _ _⟩⟩; · rfl; · exact Nat.ne_of_lt hLn.e.lt)
   | (with_reducible refine ⟨_, rfl, ⟨S0.twelve (hd := #[.int .i64 0, .string ⟨#[]⟩, .string ⟨#[]⟩, .string ⟨#[]⟩, .string ⟨#[]⟩, .string ⟨#[]⟩, .int .u8 0, .int .i64 0, .int .i64 0, .int .i64 0, .int .i64 0, .int .i64 0]) ⟨hLn.b, hLn.e, hLn.r, hz.out, q4, Nat.ne_of_lt q3, hLn.n0⟩ rfl ?_ _ _ _ _ _ _ _ _ _ _ _ _⟩⟩; exact Nat.ne_of_lt q2)
 case rest =>
  obtain ⟨bh, rfl, hS⟩ := hcut
  clear hst HS
  go_step
  exact HK.out bh _ _ _ _ _ _ _ _ _ _ _ _ _ _ _ _ _ _ _ _ _ _ _ _ _ _ _ _ _ _ _ _ _ _ _ _ _ _ _ _ _ _ _ _ _ _ _ _ _ _ _ _ _ _ _ _ _ _ _ _ _ _ _ _ _ _ _ _ _ _ _ _ _ _ _ _ _ _ _ _ _ _ _ _ _ _ _ _ _ _ _ _ _ _ _ _ _ _ _ _ _ _ _ _ _ _ _ _ _ _ _ _ _ _ _ _ _ _ _ _ _ _ _ _ _ _ _ _ _ _ _ _ _ _ _ _ _ _ _ _ _ _ _ _ _ _ hS.out
set_option maxHeartbeats 8000000 in
set_option maxRecDepth 100000 in
theorem split_any (w : World) (path link : ByteArray) (kd md uid gid mt sz : Int) (user group : ByteArray) (typ : Int) (nm pr : ByteArray) (b : Bool) (fuel : Nat) (he : Env w) (hrn : ((-9223372036854775808 ≤ uid ∧ uid ≤ 9223372036854775807) ∧ (-9223372036854775808 ≤ gid ∧ gid ≤ 9223372036854775807) ∧ (-9223372036854775808 ≤ sz ∧ sz ≤ 9223372036854775807) ∧ -9223372036854775808 ≤ mt ∧ mt ≤ 9223372036854775807)) (hty : POct.kind_Type.f kd = some typ) (hsp : POct.head_Split.f fuel path = some (pr, nm, b)) :
  Calls Tryz.prog 53 #[.agg #[.string path, .string link, .int .i64 kd, .int .i64 md, .int .i64 uid, .int .i64 gid, .int .i64 mt, .int .i64 sz, .string user, .string group]] w (SplitEnd (hdS0 (if b then nm else ⟨#[108, 111, 110, 103]⟩) (if b then pr else ⟨#[]⟩) (tv link 100) (tv user 31) (tv group 31) typ md (nv uid 8) (nv gid 8) (nv sz 12) (nv mt 12)) (lN (lT (if b then [] else [(⟨#[112, 97, 116, 104]⟩, path)]) link user group 3) uid gid sz mt 4) w) := by
 have HRN := Lib.hid hrn
 have HE := Lib.hid he
 have HTY := Lib.hid hty
 have HSP := Lib.hid hsp
 clear hrn he hty hsp
 have S0 : Aside0 (SZ w ((w.alloc (.cells #[.string path, .string link, .int .i64 kd, .int .i64 md, .int .i64 uid, .int .i64 gid, .int .i64 mt, .int .i64 sz, .string user, .string group] 41)).alloc (.cells #[.int .i64 0, .string ⟨#[]⟩, .string ⟨#[]⟩, .string ⟨#[]⟩, .string ⟨#[]⟩, .string ⟨#[]⟩, .int .u8 0, .int .i64 0, .int .i64 0, .int .i64 0, .int .i64 0, .int .i64 0] 36)) w.heap.size (w.heap.size + 1) #[.string path, .string link, .int .i64 kd, .int .i64 md, .int .i64 uid, .int .i64 gid, .int .i64 mt, .int .i64 sz, .string user, .string group]) := ⟨below_alloc (below_alloc (Below.refl _ _) _) _, (Blk.new w _ _).alloc _, by simpa using Blk.new (w.alloc (.cells #[.string path, .string link, .int .i64 kd, .int .i64 md, .int .i64 uid, .int .i64 gid, .int .i64 mt, .int .i64 sz, .string user, .string group] 41)) 36 #[.int .i64 0, .string ⟨#[]⟩, .string ⟨#[]⟩, .string ⟨#[]⟩, .string ⟨#[]⟩, .string ⟨#[]⟩, .int .u8 0, .int .i64 0, .int .i64 0, .int .i64 0, .int .i64 0, .int .i64 0], by omega⟩
 go_enter Tryz.func53, Tryz.ntmps53
 go_step
 go_cut [1, 2] (fun v1 v2 wc => ∃ be br, v1 = .pointer (some ⟨be, 0, none⟩) ∧ v2 = .pointer (some ⟨br, 0, none⟩) ∧ Aside0 (SZ w wc be br #[.string path, .string link, .int .i64 kd, .int .i64 md, .int .i64 uid, .int .i64 gid, .int .i64 mt, .int .i64 sz, .string user, .string group]))
 case first =>
  go_wp2
  go_meet
  case rel => exact ⟨_, _, by simp, by simp, S0⟩
 case rest =>
  obtain ⟨be, br, rfl, rfl, hS⟩ := hcut
  clear S0
  go_step
  refine spl_s1 w _ be br path link kd md uid gid mt sz user group typ _ HTY.out _ _ _ _ _ _ _ _ _ _ _ _ _ _ _ _ _ _ _ _ _ _ _ _ _ _ _ _ _ _ _ _ _ _ _ _ _ _ _ _ _ _ _ _ _ _ _ _ _ _ _ _ _ _ _ _ _ _ _ _ _ _ _ _ _ _ _ _ _ _ _ _ _ _ _ _ _ _ _ _ _ _ _ _ _ _ _ _ _ _ _ _ _ _ _ _ _ _ _ _ _ _ _ _ _ _ _ _ _ _ _ _ _ _ _ _ _ _ _ _ _ _ _ _ _ _ _ _ _ _ _ _ _ _ _ _ _ _ _ _ _ _ _ _ _ _ ?_ hS.out
  intro bh wc u0 u3 u5 u6 u7 u8 u9 u10 u11 u12 u13 u14 u15 u16 u17 u18 u19 u20 u21 u22 u23 u24 u25 u26 u27 u28 u29 u30 u31 u32 u33 u34 u35 u36 u37 u38 u39 u40 u41 u42 u43 u44 u45 u46 u47 u48 u49 u50 u51 u52 u53 u54 u55 u56 u57 u58 u59 u60 u61 u62 u63 u64 u65 u66 u67 u68 u69 u70 u71 u72 u73 u74 u75 u76 u77 u78 u79 u80 u81 u82 u83 u84 u85 u86 u87 u88 u89 u90 u91 u92 u93 u94 u95 u96 u97 u98 u99 u100 u101 u102 u103 u104 u105 u106 u107 u108 u109 u110 u111 u112 u113 u114 u115 u116 u117 u118 u119 u120 u121 u122 u123 u124 u125 u126 u127 u128 u129 u130 u131 u132 u133 u134 u135 u136 u137 u138 u139 u140 u141 u142 u143 u144 u145 u146 u147 s1
  refine spl_s2 w _ be br bh path link kd md uid gid mt sz user group typ _ _ _ _ _ _ _ _ _ _ _ _ _ _ _ _ _ _ _ _ _ _ _ _ _ _ _ _ _ _ _ _ _ _ _ _ _ _ _ _ _ _ _ _ _ _ _ _ _ _ _ _ _ _ _ _ _ _ _ _ _ _ _ _ _ _ _ _ _ _ _ _ _ _ _ _ _ _ _ _ _ _ _ _ _ _ _ _ _ _ _ _ _ _ _ _ _ _ _ _ _ _ _ _ _ _ _ _ _ _ _ _ _ _ _ _ _ _ _ _ _ _ _ _ _ _ _ _ _ _ _ _ _ _ _ _ _ _ _ _ _ _ _ _ _ _ ?_ s1
  intro bm wc u0 u3 u6 u7 u8 u9 u10 u11 u12 u13 u14 u15 u16 u17 u18 u19 u20 u21 u22 u23 u24 u25 u26 u27 u28 u29 u30 u31 u32 u33 u34 u35 u36 u37 u38 u39 u40 u41 u42 u43 u44 u45 u46 u47 u48 u49 u50 u51 u52 u53 u54 u55 u56 u57 u58 u59 u60 u61 u62 u63 u64 u65 u66 u67 u68 u69 u70 u71 u72 u73 u74 u75 u76 u77 u78 u79 u80 u81 u82 u83 u84 u85 u86 u87 u88 u89 u90 u91 u92 u93 u94 u95 u96 u97 u98 u99 u100 u101 u102 u103 u104 u105 u106 u107 u108 u109 u110 u111 u112 u113 u114 u115 u116 u117 u118 u119 u120 u121 u122 u123 u124 u125 u126 u127 u128 u129 u130 u131 u132 u133 u134 u135 u136 u137 u138 u139 u140 u141 u142 u143 u144 u145 u146 u147 s2
  refine spl_s3 w _ be br bh bm path link kd md uid gid mt sz user group typ _ nm pr b fuel HSP.out _ _ _ _ _ _ _ _ _ _ _ _ _ _ _ _ _ _ _ _ _ _ _ _ _ _ _ _ _ _ _ _ _ _ _ _ _ _ _ _ _ _ _ _ _ _ _ _ _ _ _ _ _ _ _ _ _ _ _ _ _ _ _ _ _ _ _ _ _ _ _ _ _ _ _ _ _ _ _ _ _ _ _ _ _ _ _ _ _ _ _ _ _ _ _ _ _ _ _ _ _ _ _ _ _ _ _ _ _ _ _ _ _ _ _ _ _ _ _ _ _ _ _ _ _ _ _ _ _ _ _ _ _ _ _ _ _ _ _ _ _ _ _ _ ?_ s2
  intro wc u0 u3 u9 u10 u11 u12 u13 u14 u15 u16 u17 u18 u19 u20 u21 u22 u23 u24 u25 u26 u27 u28 u29 u30 u31 u32 u33 u34 u35 u36 u37 u38 u39 u40 u41 u42 u43 u44 u45 u46 u47 u48 u49 u50 u51 u52 u53 u54 u55 u56 u57 u58 u59 u60 u61 u62 u63 u64 u65 u66 u67 u68 u69 u70 u71 u72 u73 u74 u75 u76 u77 u78 u79 u80 u81 u82 u83 u84 u85 u86 u87 u88 u89 u90 u91 u92 u93 u94 u95 u96 u97 u98 u99 u100 u101 u102 u103 u104 u105 u106 u107 u108 u109 u110 u111 u112 u113 u114 u115 u116 u117 u118 u119 u120 u121 u122 u123 u124 u125 u126 u127 u128 u129 u130 u131 u132 u133 u134 u135 u136 u137 u138 u139 u140 u141 u142 u143 u144 u145 u146 u147 s3
  refine spl_s4 w _ be br bh bm path link kd md uid gid mt sz user group typ _ nm pr b _ _ _ _ _ _ _ _ _ _ _ _ _ _ _ _ _ _ _ _ _ _ _ _ _ _ _ _ _ _ _ _ _ _ _ _ _ _ _ _ _ _ _ _ _ _ _ _ _ _ _ _ _ _ _ _ _ _ _ _ _ _ _ _ _ _ _ _ _ _ _ _ _ _ _ _ _ _ _ _ _ _ _ _ _ _ _ _ _ _ _ _ _ _ _ _ _ _ _ _ _ _ _ _ _ _ _ _ _ _ _ _ _ _ _ _ _ _ _ _ _ _ _ _ _ _ _ _ _ _ _ _ _ _ _ _ _ _ _ _ _ ?_ s3
  intro wc u0 u3 u6 u7 u8 u9 u10 u11 u12 u13 u14 u15 u16 u17 u18 u19 u20 u21 u22 u23 u24 u25 u26 u27 u28 u29 u30 u31 u32 u33 u34 u35 u36 u37 u38 u39 u40 u41 u42 u43 u44 u45 u46 u47 u48 u49 u50 u51 u52 u53 u54 u55 u56 u57 u58 u59 u60 u61 u62 u63 u64 u65 u66 u67 u68 u69 u70 u71 u72 u73 u74 u75 u76 u77 u78 u79 u80 u81 u82 u83 u84 u85 u86 u87 u88 u89 u90 u91 u92 u93 u94 u95 u96 u97 u98 u99 u100 u101 u102 u103 u104 u105 u106 u107 u108 u109 u110 u111 u112 u113 u114 u115 u116 u117 u118 u119 u120 u121 u122 u123 u124 u125 u126 u127 u128 u129 u130 u131 u132 u133 u134 u135 u136 u137 u138 u139 u140 u141 u142 u143 u144 u145 u146 u147 s4
  exact spl_s5 w _ be br bh bm path link kd md uid gid mt sz user group (if b then nm else ⟨#[108, 111, 110, 103]⟩) (if b then pr else ⟨#[]⟩) typ (if b then [] else [(⟨#[112, 97, 116, 104]⟩, path)]) _ _ _ _ _ _ _ _ _ _ _ _ _ _ _ _ _ _ _ _ _ _ _ _ _ _ _ _ _ _ _ _ _ _ _ _ _ _ _ _ _ _ _ _ _ _ _ _ _ _ _ _ _ _ _ _ _ _ _ _ _ _ _ _ _ _ _ _ _ _ _ _ _ _ _ _ _ _ _ _ _ _ _ _ _ _ _ _ _ _ _ _ _ _ _ _ _ _ _ _ _ _ _ _ _ _ _ _ _ _ _ _ _ _ _ _ _ _ _ _ _ _ _ _ _ _ _ _ _ _ _ _ _ _ _ _ _ _ _ _ _ _ _ _ HE.out HRN.out (by intro x hx; cases b <;> simp at hx; rw [hx]) s4
end Go.Proofs.YtpbpfngichfgeaaGreatDoor
