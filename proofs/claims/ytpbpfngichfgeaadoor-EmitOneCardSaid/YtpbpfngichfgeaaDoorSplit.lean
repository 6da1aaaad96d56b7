/-
 emit.split by a contract: a header's fields, and the records of what doesn't fit.
-/
import Derived.Test.YtpbpfngichfgeaaDoorMapS
import Derived.Test.YtpbpfngichfgeaaDoorOctN
import Derived.Test.YtpbpfngichfgeaaDoorEnc
import Derived.Test.YtpbpfngichfgeaaDoorPaxW
import Derived.Deep.DeepCutAuto
import Derived.Deep.CutBlock
import Derived.Deep.LoopGhost
import Derived.Deep.RegionHeld3
import Derived.RegionTactic
import Derived.ChangeAlike
import Derived.Deep.RegionLaw
namespace Go.Proofs.YtpbpfngichfgeaaDoor
set_option linter.unusedVariables false
set_option linter.unusedSimpArgs false
open Go Go.RowKit Go.Proofs.YtpbpfngichfgeaaDoorW.PrintWords Go.Proofs.YtpbpfngichfgeaaDoorW.PrintLast Go.Proofs.YtpbpfngichfgeaaDoorW.PrintMore

theorem drawn_below {W w : World} (h : Drawn0 W.drew w) : Below W.heap.size W w := by
 obtain ⟨n, rfl⟩ := h
 exact below_drewN' ((Below.refl _ _).drew) n
noncomputable def splRest (n : Nat) : Code := dropC n (Tryd.f15.body.getD .skip)
def fitsT (s : ByteArray) (most : Nat) : Bool := decide (s.size ≤ most) && !has0 s
theorem fits_t (s : ByteArray) (most : Nat) : POct.head_Fits.f s (most : Int) = some (fitsT s most) := by
 unfold POct.head_Fits.f fitsT POct.strings_Contains.f
 by_cases h : s.size ≤ most
 ·rw [if_pos (by omega)]; simp [h]
 ·rw [if_neg (by omega)]; simp [h]
/-- What a cell holds, by a name that simp leaves alone. -/
def cellOr (w : World) (a : Addr) : Value := (w.cell? a).getD undef
/-- The memory of emit.split: the entry's box, the result's, the header, the map. -/
structure SM (w wc : World) (be br bh bm : Nat) (en hd : Array Value) (l : List KV) : Prop where
 b : Below w.heap.size w wc
 e : Blk wc be 23 en
 r : Blk wc br 45 #[.int .i64 0, .string ⟨#[]⟩, .string ⟨#[]⟩, .string ⟨#[]⟩, .string ⟨#[]⟩, .string ⟨#[]⟩, .int .u8 0, .int .i64 0, .int .i64 0, .int .i64 0, .int .i64 0, .int .i64 0]
 h : Blk wc bh 45 hd
 m : MapIs wc bm l
 n1 : w.heap.size ≤ bh
 n2 : w.heap.size ≤ bm
 n3 : br ≠ bh
 n0 : w.heap.size ≤ br
theorem SM.next {w wc w' : World} {be br bh bm : Nat} {en hd : Array Value} {l : List KV} (s : SM w wc be br bh bm en hd l) (hb : Below wc.heap.size wc w') : SM w w' be br bh bm en hd l :=
 ⟨below_next s.b hb, s.e.below hb s.e.lt, s.r.below hb s.r.lt, s.h.below hb s.h.lt, s.m.below hb, s.n1, s.n2, s.n3, s.n0⟩
theorem blk_ne_map {w : World} {g r : Nat} {t : TypeId} {cs : Array Value} {l : List KV} (h : Blk w g t cs) (hm : MapIs w r l) : g ≠ r := by
 rintro rfl
 rw [MapIs, h] at hm
 cases hm
theorem SM.ebh {w wc : World} {be br bh bm : Nat} {en hd : Array Value} {l : List KV} (s : SM w wc be br bh bm en hd l) : be ≠ bh := Blk.ne_ s.e s.h (by decide)
theorem SM.putM {w wc : World} {be br bh bm : Nat} {en hd : Array Value} {l : List KV} (s : SM w wc be br bh bm en hd l) (l' : List KV) : SM w (putM wc bm l') be br bh bm en hd l' :=
 ⟨putM_below s.b s.n2, blk_putM s.e (blk_ne_map s.e s.m), blk_putM s.r (blk_ne_map s.r s.m), blk_putM s.h (blk_ne_map s.h s.m), putM_is s.m.lt, s.n1, s.n2, s.n3, s.n0⟩
theorem mapIs_setCell {w : World} {r : Nat} {l : List KV} {p : Addr} (h : MapIs w r l) (hne : r ≠ p.block) (v : Value) : MapIs (w.setCell p v) r l := (Below.heap_setCell w p v r hne).trans h
theorem SM.set {w wc : World} {be br bh bm : Nat} {en hd : Array Value} {l : List KV} (s : SM w wc be br bh bm en hd l) (i : Nat) (v : Value) : SM w (wc.setCell ⟨bh, i, none⟩ v) be br bh bm en (hd.setIfInBounds i v) l :=
 ⟨s.b.setCell (p := ⟨bh, i, none⟩) s.n1 v, s.e.far s.ebh v, s.r.far s.n3 v, s.h.set_ i v, mapIs_setCell s.m (Ne.symm (blk_ne_map s.h s.m)) v, s.n1, s.n2, s.n3, s.n0⟩
/-- .. and a table. -/
structure ST (w wc : World) (be br bh bm : Nat) (en hd : Array Value) (l : List KV) (tb : Nat) (tt : TypeId) (tab : Array Value) : Prop extends SM w wc be br bh bm en hd l where
 t : Blk wc tb tt tab
 n4 : bh ≠ tb
 n5 : bm ≠ tb
theorem ST.next {w wc w' : World} {be br bh bm : Nat} {en hd : Array Value} {l : List KV} {tb : Nat} {tt : TypeId} {tab : Array Value} (s : ST w wc be br bh bm en hd l tb tt tab) (hb : Below wc.heap.size wc w') : ST w w' be br bh bm en hd l tb tt tab := ⟨s.toSM.next hb, s.t.below hb s.t.lt, s.n4, s.n5⟩
theorem ST.putM {w wc : World} {be br bh bm : Nat} {en hd : Array Value} {l : List KV} {tb : Nat} {tt : TypeId} {tab : Array Value} (s : ST w wc be br bh bm en hd l tb tt tab) (l' : List KV) : ST w (putM wc bm l') be br bh bm en hd l' tb tt tab := ⟨s.toSM.putM l', blk_putM s.t (Ne.symm s.n5), s.n4, s.n5⟩
theorem ST.set {w wc : World} {be br bh bm : Nat} {en hd : Array Value} {l : List KV} {tb : Nat} {tt : TypeId} {tab : Array Value} (s : ST w wc be br bh bm en hd l tb tt tab) (i : Nat) (v : Value) : ST w (wc.setCell ⟨bh, i, none⟩ v) be br bh bm en (hd.setIfInBounds i v) l tb tt tab := ⟨s.toSM.set i v, s.t.far (Ne.symm s.n4) v, s.n4, s.n5⟩

def tKey (k : Nat) : ByteArray := [⟨#[108, 105, 110, 107, 112, 97, 116, 104]⟩, ⟨#[117, 110, 97, 109, 101]⟩, ⟨#[103, 110, 97, 109, 101]⟩].getD k ⟨#[]⟩
def tFi (k : Nat) : Nat := [2, 4, 5].getD k 0
def tMost (k : Nat) : Nat := [100, 31, 31].getD k 0
def tS (link user group : ByteArray) (k : Nat) : ByteArray := [link, user, group].getD k ⟨#[]⟩
def hd0 (name pre link user group : ByteArray) (typ md uid gid sz mt : Int) : Array Value := #[.int .i64 0, .string name, .string link, .string pre, .string user, .string group, .int .u8 typ, .int .i64 md, .int .i64 uid, .int .i64 gid, .int .i64 sz, .int .i64 mt]
def hdT (name pre link user group : ByteArray) (typ md uid gid sz mt : Int) : Nat → Array Value
 | 0 => hd0 name pre link user group typ md uid gid sz mt
 | k + 1 => if fitsT (tS link user group k) (tMost k) = true then hdT name pre link user group typ md uid gid sz mt k else (hdT name pre link user group typ md uid gid sz mt k).setIfInBounds (tFi k) (.string ⟨#[]⟩)
def lT (l0 : List KV) (link user group : ByteArray) : Nat → List KV
 | 0 => l0
 | k + 1 => if fitsT (tS link user group k) (tMost k) = true then lT l0 link user group k else lT l0 link user group k ++ [(tKey k, tS link user group k)]
theorem hdT_cell (name pre link user group : ByteArray) (typ md uid gid sz mt : Int) (k : Nat) (hk : k < 3) : (hdT name pre link user group typ md uid gid sz mt k)[tFi k]? = some (.string (tS link user group k)) := by
 rcases (by omega : k = 0 ∨ k = 1 ∨ k = 2) with rfl | rfl | rfl
 ·rfl
 ·simp only [hdT]; split <;> rfl
 ·simp only [hdT]; split <;> split <;> rfl
theorem lT_new {l0 : List KV} (h0 : ∀ x ∈ l0, x.1 = ⟨#[112, 97, 116, 104]⟩) (link user group : ByteArray) (k : Nat) (hk : k < 3) : ∀ x ∈ lT l0 link user group k, x.1 ≠ tKey k := by
 have hp : ∀ k, k < 3 → ⟨#[112, 97, 116, 104]⟩ ≠ tKey k := by decide
 have h1 : ∀ x ∈ l0, x.1 ≠ tKey k := fun x hx => by rw [h0 x hx]; exact hp k hk
 rcases (by omega : k = 0 ∨ k = 1 ∨ k = 2) with rfl | rfl | rfl
 ·exact h1
 ·simp only [lT]
  split
  ·exact h1
  ·intro x hx
   rcases List.mem_append.1 hx with h | h
   ·exact h1 x h
   ·rw [List.mem_singleton.1 h]
    show tKey 0 ≠ tKey 1
    decide
 ·simp only [lT]
  intro x hx
  have h2 : x ∈ l0 ∨ x.1 = tKey 0 ∨ x.1 = tKey 1 := by
   split at hx <;> split at hx <;> (try simp only [List.mem_append, List.mem_singleton] at hx)
   all_goals first | exact .inl hx | (rcases hx with h | h <;> first | exact .inl h | (rcases h with h | h <;> first | exact .inl h | exact .inr (.inl (congrArg Prod.fst h)) | exact .inr (.inr (congrArg Prod.fst h))) | exact .inr (.inl (congrArg Prod.fst h)) | exact .inr (.inr (congrArg Prod.fst h)))
  rcases h2 with h | h | h
  ·exact h1 x h
  ·rw [h]; decide
  ·rw [h]; decide
def nKey (k : Nat) : ByteArray := [⟨#[117, 105, 100]⟩, ⟨#[103, 105, 100]⟩, ⟨#[115, 105, 122, 101]⟩, ⟨#[109, 116, 105, 109, 101]⟩].getD k ⟨#[]⟩
def nFi (k : Nat) : Nat := [8, 9, 10, 11].getD k 0
def nWd (k : Nat) : Nat := [8, 8, 12, 12].getD k 0
def nN (uid gid sz mt : Int) (k : Nat) : Int := [uid, gid, sz, mt].getD k 0
def hdN (h0 : Array Value) (uid gid sz mt : Int) : Nat → Array Value
 | 0 => h0
 | k + 1 => if fitsN (nN uid gid sz mt k) (nWd k) = true then hdN h0 uid gid sz mt k else (hdN h0 uid gid sz mt k).setIfInBounds (nFi k) (.int .i64 0)
def lN (l0 : List KV) (uid gid sz mt : Int) : Nat → List KV
 | 0 => l0
 | k + 1 => if fitsN (nN uid gid sz mt k) (nWd k) = true then lN l0 uid gid sz mt k else lN l0 uid gid sz mt k ++ [(nKey k, itoaS (nN uid gid sz mt k))]
theorem hdT_num (name pre link user group : ByteArray) (typ md uid gid sz mt : Int) (k j : Nat) (hj : j < 4) : (hdT name pre link user group typ md uid gid sz mt k)[nFi j]? = some (.int .i64 (nN uid gid sz mt j)) := by
 induction k with
 | zero => rcases (by omega : j = 0 ∨ j = 1 ∨ j = 2 ∨ j = 3) with rfl | rfl | rfl | rfl <;> rfl
 | succ k ih =>
  have hne : ∀ j, j < 4 → ∀ k, tFi k ≠ nFi j := by
   intro j hj k
   have h1 : tFi k ≤ 5 := by
    unfold tFi
    rcases k with _ | _ | _ | k <;> simp
   have h2 : ∀ j, j < 4 → 8 ≤ nFi j := by decide
   have := h2 j hj
   omega
  simp only [hdT]
  split
  ·exact ih
  ·rw [Array.getElem?_setIfInBounds_ne (hne j hj k)]; exact ih
theorem hdN_cell {h0 : Array Value} {uid gid sz mt : Int} (h : ∀ j, j < 4 → h0[nFi j]? = some (.int .i64 (nN uid gid sz mt j))) : ∀ k j, k ≤ j → j < 4 → (hdN h0 uid gid sz mt k)[nFi j]? = some (.int .i64 (nN uid gid sz mt j))
 | 0, j, _, hj => h j hj
 | k + 1, j, hk, hj => by
  have ih := hdN_cell h k j (by omega) hj
  have hne : ∀ j, j < 4 → ∀ k, k < j → nFi k ≠ nFi j := by decide
  simp only [hdN]
  split
  ·exact ih
  ·rw [Array.getElem?_setIfInBounds_ne (hne j hj k (by omega))]; exact ih
theorem lT_mem {l0 : List KV} {link user group : ByteArray} : ∀ k, ∀ x ∈ lT l0 link user group k, x ∈ l0 ∨ ∃ j, j < k ∧ x.1 = tKey j
 | 0, x, hx => .inl hx
 | k + 1, x, hx => by
  simp only [lT] at hx
  have ih : ∀ y ∈ lT l0 link user group k, y ∈ l0 ∨ ∃ j, j < k + 1 ∧ y.1 = tKey j := fun y hy => (lT_mem k y hy).imp id fun ⟨j, h1, h2⟩ => ⟨j, by omega, h2⟩
  split at hx
  ·exact ih x hx
  ·rcases List.mem_append.1 hx with h | h
   ·exact ih x h
   ·exact .inr ⟨k, by omega, by rw [List.mem_singleton.1 h]⟩
theorem lN_mem {l0 : List KV} {uid gid sz mt : Int} : ∀ k, ∀ x ∈ lN l0 uid gid sz mt k, x ∈ l0 ∨ ∃ j, j < k ∧ x.1 = nKey j
 | 0, x, hx => .inl hx
 | k + 1, x, hx => by
  simp only [lN] at hx
  have ih : ∀ y ∈ lN l0 uid gid sz mt k, y ∈ l0 ∨ ∃ j, j < k + 1 ∧ y.1 = nKey j := fun y hy => (lN_mem k y hy).imp id fun ⟨j, h1, h2⟩ => ⟨j, by omega, h2⟩
  split at hx
  ·exact ih x hx
  ·rcases List.mem_append.1 hx with h | h
   ·exact ih x h
   ·exact .inr ⟨k, by omega, by rw [List.mem_singleton.1 h]⟩
theorem lN_new {l0 : List KV} (h0 : ∀ x ∈ l0, x.1 = ⟨#[112, 97, 116, 104]⟩) {link user group : ByteArray} {uid gid sz mt : Int} (k : Nat) (hk : k < 4) : ∀ x ∈ lN (lT l0 link user group 3) uid gid sz mt k, x.1 ≠ nKey k := by
 intro x hx
 have d1 : ∀ k, k < 4 → ⟨#[112, 97, 116, 104]⟩ ≠ nKey k := by decide
 have d2 : ∀ k, k < 4 → ∀ j, j < 3 → tKey j ≠ nKey k := by decide
 have d3 : ∀ k, k < 4 → ∀ j, j < k → nKey j ≠ nKey k := by decide
 rcases lN_mem k x hx with h | ⟨j, hj, h⟩
 ·rcases lT_mem 3 x h with h | ⟨j, hj, h⟩
  ·rw [h0 x h]; exact d1 k hk
  ·rw [h]; exact d2 k hk j hj
 ·rw [h]; exact d3 k hk j hj
abbrev kKV : Kd KV := Kd.pair Kd.string Kd.string
theorem kKV_mkM (w : World) (base : Nat) (ok : Nat → Prop) (x : KV) : kKV.M w base ok x [.string x.1, .string x.2] := ⟨[.string x.1], [.string x.2], rfl, rfl, rfl⟩
def sKey (k : Nat) : ByteArray := [⟨#[103, 105, 100]⟩, ⟨#[103, 110, 97, 109, 101]⟩, ⟨#[108, 105, 110, 107, 112, 97, 116, 104]⟩, ⟨#[109, 116, 105, 109, 101]⟩, ⟨#[112, 97, 116, 104]⟩, ⟨#[115, 105, 122, 101]⟩, ⟨#[117, 105, 100]⟩, ⟨#[117, 110, 97, 109, 101]⟩].getD k ⟨#[]⟩
def recsK (L : List KV) : Nat → List KV
 | 0 => []
 | k + 1 => recsK L k ++ (match findM L (sKey k) with | some v => [(sKey k, v)] | none => [])
theorem recsK_len (L : List KV) : ∀ k, (recsK L k).length ≤ k
 | 0 => Nat.le_refl _
 | k + 1 => by
  have := recsK_len L k
  simp only [recsK, List.length_append]
  split <;> simp <;> omega
def tv (s : ByteArray) (most : Nat) : ByteArray := if fitsT s most = true then s else ⟨#[]⟩
def nv (n : Int) (w : Nat) : Int := if fitsN n w = true then n else 0
theorem hdT_three (name pre link user group : ByteArray) (typ md uid gid sz mt : Int) : hdT name pre link user group typ md uid gid sz mt 3 = hd0 name pre (tv link 100) (tv user 31) (tv group 31) typ md uid gid sz mt := by
 have h1 : hdT name pre link user group typ md uid gid sz mt 1 = hd0 name pre (tv link 100) user group typ md uid gid sz mt := by
  show (if fitsT link 100 = true then _ else _) = _
  unfold tv
  split <;> rfl
 have h2 : hdT name pre link user group typ md uid gid sz mt 2 = hd0 name pre (tv link 100) (tv user 31) group typ md uid gid sz mt := by
  show (if fitsT user 31 = true then hdT name pre link user group typ md uid gid sz mt 1 else (hdT name pre link user group typ md uid gid sz mt 1).setIfInBounds 4 (.string ⟨#[]⟩)) = _
  rw [h1]
  generalize tv link 100 = q
  unfold tv
  split <;> rfl
 show (if fitsT group 31 = true then hdT name pre link user group typ md uid gid sz mt 2 else (hdT name pre link user group typ md uid gid sz mt 2).setIfInBounds 5 (.string ⟨#[]⟩)) = _
 rw [h2]
 generalize tv link 100 = q
 generalize tv user 31 = p
 unfold tv
 split <;> rfl
theorem hdN_four (name pre l u g : ByteArray) (typ md uid gid sz mt : Int) : hdN (hd0 name pre l u g typ md uid gid sz mt) uid gid sz mt 4 = hd0 name pre l u g typ md (nv uid 8) (nv gid 8) (nv sz 12) (nv mt 12) := by
 have h1 : hdN (hd0 name pre l u g typ md uid gid sz mt) uid gid sz mt 1 = hd0 name pre l u g typ md (nv uid 8) gid sz mt := by
  show (if fitsN uid 8 = true then _ else _) = _
  unfold nv
  split <;> rfl
 have h2 : hdN (hd0 name pre l u g typ md uid gid sz mt) uid gid sz mt 2 = hd0 name pre l u g typ md (nv uid 8) (nv gid 8) sz mt := by
  show (if fitsN gid 8 = true then hdN (hd0 name pre l u g typ md uid gid sz mt) uid gid sz mt 1 else (hdN (hd0 name pre l u g typ md uid gid sz mt) uid gid sz mt 1).setIfInBounds 9 (.int .i64 0)) = _
  rw [h1]
  generalize nv uid 8 = a
  unfold nv
  split <;> rfl
 have h3 : hdN (hd0 name pre l u g typ md uid gid sz mt) uid gid sz mt 3 = hd0 name pre l u g typ md (nv uid 8) (nv gid 8) (nv sz 12) mt := by
  show (if fitsN sz 12 = true then hdN (hd0 name pre l u g typ md uid gid sz mt) uid gid sz mt 2 else (hdN (hd0 name pre l u g typ md uid gid sz mt) uid gid sz mt 2).setIfInBounds 10 (.int .i64 0)) = _
  rw [h2]
  generalize nv uid 8 = a
  generalize nv gid 8 = b
  unfold nv
  split <;> rfl
 show (if fitsN mt 12 = true then hdN (hd0 name pre l u g typ md uid gid sz mt) uid gid sz mt 3 else (hdN (hd0 name pre l u g typ md uid gid sz mt) uid gid sz mt 3).setIfInBounds 11 (.int .i64 0)) = _
 rw [h3]
 generalize nv uid 8 = a
 generalize nv gid 8 = b
 generalize nv sz 12 = c
 unfold nv
 split <;> rfl
def SplitEnd (X : Array Value) (L : List KV) (w : World) (e : Ending) (w' : World) : Prop := ∃ v, e = .returned (.tuple #[.agg X, v]) ∧ Kd.R kKV 72 w' w.heap.size (fun _ => True) v (recsK L 8) ∧ Below w.heap.size w w'
theorem infoRec : (Tryd.prog.info? 72).map (fun i => (i.zero, i.size, i.bytes)) = some (some (.agg #[.string ⟨#[]⟩, .string ⟨#[]⟩]), 2, 32) := by kernel_rfl
theorem r_blk_ne {w : World} {base : Nat} {ok : Nat → Prop} {v : Value} {xs : List KV} {g : Nat} {t : TypeId} {cs : Array Value} (h : Kd.R kKV 72 w base ok v xs) (hg : Blk w g t cs) (hne : 72 ≠ t) : some g ≠ v.ownBlock := by
 obtain ⟨_, inner, ho, _⟩ := h
 exact fun e => own_blk_ne ho hg hne e.symm
theorem r_map_ne {w : World} {base : Nat} {ok : Nat → Prop} {v : Value} {xs : List KV} {r : Nat} {l : List KV} (h : Kd.R kKV 72 w base ok v xs) (hm : MapIs w r l) : some r ≠ v.ownBlock := by
 obtain ⟨_, inner, ho, _⟩ := h
 intro e
 obtain ⟨cells, hc⟩ := own_typed ho r e.symm
 rw [MapIs, hc] at hm
 cases hm
theorem ST.grown {w wc w' : World} {be br bh bm : Nat} {en hd : Array Value} {l : List KV} {tb : Nat} {tt : TypeId} {tab : Array Value} (s : ST w wc be br bh bm en hd l tb tt tab) {ok : Nat → Prop} {v : Value} {xs : List KV} (hr : Kd.R kKV 72 wc w.heap.size ok v xs) (hne : 72 ≠ tt) (hg : wc.grownBy w' v.ownBlock) (hb : Below w.heap.size w w') : ST w w' be br bh bm en hd l tb tt tab :=
 ⟨⟨hb, s.e.grown hg (r_blk_ne hr s.e (by decide)), s.r.grown hg (r_blk_ne hr s.r (by decide)), s.h.grown hg (r_blk_ne hr s.h (by decide)), (hg.block bm s.m.lt (r_map_ne hr s.m)).trans s.m, s.n1, s.n2, s.n3, s.n0⟩, s.t.grown hg (r_blk_ne hr s.t hne), s.n4, s.n5⟩
theorem SM.hcells {w wc : World} {be br bh bm : Nat} {en : Array Value} {l : List KV} {h0 h1 h2 h3 h4 h5 h6 h7 h8 h9 h10 h11 : Value} (s : SM w wc be br bh bm en #[h0, h1, h2, h3, h4, h5, h6, h7, h8, h9, h10, h11] l) : wc.cell? ⟨bh, 0, none⟩ = some h0 ∧ wc.cell? ⟨bh, 1, none⟩ = some h1 ∧ wc.cell? ⟨bh, 2, none⟩ = some h2 ∧ wc.cell? ⟨bh, 3, none⟩ = some h3 ∧ wc.cell? ⟨bh, 4, none⟩ = some h4 ∧ wc.cell? ⟨bh, 5, none⟩ = some h5 ∧ wc.cell? ⟨bh, 6, none⟩ = some h6 ∧ wc.cell? ⟨bh, 7, none⟩ = some h7 ∧ wc.cell? ⟨bh, 8, none⟩ = some h8 ∧ wc.cell? ⟨bh, 9, none⟩ = some h9 ∧ wc.cell? ⟨bh, 10, none⟩ = some h10 ∧ wc.cell? ⟨bh, 11, none⟩ = some h11 := ⟨s.h.cell 0, s.h.cell 1, s.h.cell 2, s.h.cell 3, s.h.cell 4, s.h.cell 5, s.h.cell 6, s.h.cell 7, s.h.cell 8, s.h.cell 9, s.h.cell 10, s.h.cell 11⟩
theorem SM.rcells {w wc : World} {be br bh bm : Nat} {en hd : Array Value} {l : List KV} (s : SM w wc be br bh bm en hd l) : wc.cell? ⟨br, 0, none⟩ = some (.int .i64 0) ∧ wc.cell? ⟨br, 1, none⟩ = some (.string ⟨#[]⟩) ∧ wc.cell? ⟨br, 2, none⟩ = some (.string ⟨#[]⟩) ∧ wc.cell? ⟨br, 3, none⟩ = some (.string ⟨#[]⟩) ∧ wc.cell? ⟨br, 4, none⟩ = some (.string ⟨#[]⟩) ∧ wc.cell? ⟨br, 5, none⟩ = some (.string ⟨#[]⟩) ∧ wc.cell? ⟨br, 6, none⟩ = some (.int .u8 0) ∧ wc.cell? ⟨br, 7, none⟩ = some (.int .i64 0) ∧ wc.cell? ⟨br, 8, none⟩ = some (.int .i64 0) ∧ wc.cell? ⟨br, 9, none⟩ = some (.int .i64 0) ∧ wc.cell? ⟨br, 10, none⟩ = some (.int .i64 0) ∧ wc.cell? ⟨br, 11, none⟩ = some (.int .i64 0) := ⟨s.r.cell 0, s.r.cell 1, s.r.cell 2, s.r.cell 3, s.r.cell 4, s.r.cell 5, s.r.cell 6, s.r.cell 7, s.r.cell 8, s.r.cell 9, s.r.cell 10, s.r.cell 11⟩
theorem SM.rfroz {w wc : World} {be br bh bm : Nat} {en hd : Array Value} {l : List KV} (s : SM w wc be br bh bm en hd l) : wc.frozen? ⟨br, 0, none⟩ = false ∧ wc.frozen? ⟨br, 1, none⟩ = false ∧ wc.frozen? ⟨br, 2, none⟩ = false ∧ wc.frozen? ⟨br, 3, none⟩ = false ∧ wc.frozen? ⟨br, 4, none⟩ = false ∧ wc.frozen? ⟨br, 5, none⟩ = false ∧ wc.frozen? ⟨br, 6, none⟩ = false ∧ wc.frozen? ⟨br, 7, none⟩ = false ∧ wc.frozen? ⟨br, 8, none⟩ = false ∧ wc.frozen? ⟨br, 9, none⟩ = false ∧ wc.frozen? ⟨br, 10, none⟩ = false ∧ wc.frozen? ⟨br, 11, none⟩ = false := ⟨s.r.frozen 0, s.r.frozen 1, s.r.frozen 2, s.r.frozen 3, s.r.frozen 4, s.r.frozen 5, s.r.frozen 6, s.r.frozen 7, s.r.frozen 8, s.r.frozen 9, s.r.frozen 10, s.r.frozen 11⟩
theorem spl_rets {w wc : World} {be br bh bm : Nat} {en hd : Array Value} {l : List KV} (s : SM w wc be br bh bm en hd l) {v : Value} {L : List KV} (hR : Kd.R kKV 72 wc w.heap.size (fun _ => True) v (recsK L 8)) (v0 v1 v2 v3 v4 v5 v6 v7 v8 v9 v10 v11 : Value) {tmps : Array Value}
  (hp : tmps.getD 2 undef = .pointer (some ⟨br, 0, none⟩)) (hu : tmps.getD 3 undef = v) : bodyPost Tryd.prog Tryd.f15 (SplitEnd #[v0, v1, v2, v3, v4, v5, v6, v7, v8, v9, v10, v11] L w) .ret { tmps := tmps, defers := [] } (World.setCell (World.setCell (World.setCell (World.setCell (World.setCell (World.setCell (World.setCell (World.setCell (World.setCell (World.setCell (World.setCell (World.setCell wc ⟨br, 0, none⟩ v0) ⟨br, 1, none⟩ v1) ⟨br, 2, none⟩ v2) ⟨br, 3, none⟩ v3) ⟨br, 4, none⟩ v4) ⟨br, 5, none⟩ v5) ⟨br, 6, none⟩ v6) ⟨br, 7, none⟩ v7) ⟨br, 8, none⟩ v8) ⟨br, 9, none⟩ v9) ⟨br, 10, none⟩ v10) ⟨br, 11, none⟩ v11) := by
 have k : ∀ {W' : World} {cs : Array Value}, (Blk W' br 45 cs ∧ Kd.R kKV 72 W' w.heap.size (fun _ => True) v (recsK L 8) ∧ Below w.heap.size w W') → ∀ (i : Nat) (x : Value), (Blk (W'.setCell ⟨br, i, none⟩ x) br 45 (cs.setIfInBounds i x) ∧ Kd.R kKV 72 (W'.setCell ⟨br, i, none⟩ x) w.heap.size (fun _ => True) v (recsK L 8) ∧ Below w.heap.size w (W'.setCell ⟨br, i, none⟩ x)) :=
  fun h i x => ⟨h.1.set_ i x, Kd.R_mono (Kd.R_far (p := ⟨br, i, none⟩) (Kd.R_far1 h.2.1 rfl (r_blk_ne h.2.1 h.1 (by decide))) (fun _ hk => hk.2) x) (fun _ _ => trivial), h.2.2.setCell (p := ⟨br, i, none⟩) s.n0 x⟩
 have h := (k (k (k (k (k (k (k (k (k (k (k (k ⟨s.r, hR, s.b⟩ 0 v0) 1 v1) 2 v2) 3 v3) 4 v4) 5 v5) 6 v6) 7 v7) 8 v8) 9 v9) 10 v10) 11 v11)
 have hb : Blk (World.setCell (World.setCell (World.setCell (World.setCell (World.setCell (World.setCell (World.setCell (World.setCell (World.setCell (World.setCell (World.setCell (World.setCell wc ⟨br, 0, none⟩ v0) ⟨br, 1, none⟩ v1) ⟨br, 2, none⟩ v2) ⟨br, 3, none⟩ v3) ⟨br, 4, none⟩ v4) ⟨br, 5, none⟩ v5) ⟨br, 6, none⟩ v6) ⟨br, 7, none⟩ v7) ⟨br, 8, none⟩ v8) ⟨br, 9, none⟩ v9) ⟨br, 10, none⟩ v10) ⟨br, 11, none⟩ v11) br 45 #[v0, v1, v2, v3, v4, v5, v6, v7, v8, v9, v10, v11] := by simpa using h.1
 exact bodyPost_ret (by rw [← hu]; exact results_ct rfl _ _ br 45 #[v0, v1, v2, v3, v4, v5, v6, v7, v8, v9, v10, v11] (0, 0) _ hp hb Tryd.underlying45 rfl (by kernel_rfl)) rfl ⟨v, rfl, h.2.1, h.2.2⟩
set_option maxHeartbeats 8000000 in
set_option maxRecDepth 100000 in
theorem spl_s8 (w wc : World) (be br bh bm : Nat) (path link : ByteArray) (kd md uid gid mt sz : Int) (user group name pre : ByteArray) (typ : Int) (l0 : List KV) (l u g : ByteArray) (a b c d : Int) (L : List KV) (u0 u3 u6 u7 u8 u9 u10 u11 u12 u14 u15 u16 u17 u18 u19 u20 u21 u22 u23 u24 u25 u26 u27 u28 u29 u30 u31 u32 u33 u34 u35 u36 u37 u38 u39 u40 u41 u42 u43 u44 u45 u46 u47 u48 u49 u50 u51 u52 u53 u54 u55 u56 u57 u58 u59 u60 u61 u62 u63 u64 u65 u66 u67 u68 u69 u70 u71 u72 u73 u74 u75 u76 u77 u78 u79 u80 u81 u82 u83 u84 u85 u86 u87 u88 u89 u90 u91 u92 u93 u94 u95 u96 u97 u98 u99 u100 u101 u102 u103 u104 u105 u106 u107 u108 u109 u110 u111 u112 u113 u114 u115 u116 u117 u118 u119 u120 u121 u122 u123 u124 u125 u126 u127 u128 u129 u130 u131 u132 u133 u134 u135 u136 u137 u138 u139 u140 u141 u142 u143 u144 u145 u146 u147 : Value)
  (S : SM w wc be br bh bm #[.string path, .string link, .int .i64 kd, .int .i64 md, .int .i64 uid, .int .i64 gid, .int .i64 mt, .int .i64 sz, .string user, .string group] #[.int .i64 0, .string name, .string l, .string pre, .string u, .string g, .int .u8 typ, .int .i64 md, .int .i64 a, .int .i64 b, .int .i64 c, .int .i64 d] L) :
  Code.wp Tryd.prog (splRest 8) (bodyPost Tryd.prog Tryd.f15 (SplitEnd #[.int .i64 0, .string name, .string l, .string pre, .string u, .string g, .int .u8 typ, .int .i64 md, .int .i64 a, .int .i64 b, .int .i64 c, .int .i64 d] L w)) ⟨(u0 :: (.pointer (some ⟨be, 0, none⟩)) :: (.pointer (some ⟨br, 0, none⟩)) :: u3 :: (.pointer (some ⟨bh, 0, none⟩)) :: (.map (some bm)) :: u6 :: u7 :: u8 :: u9 :: u10 :: u11 :: u12 :: (.slice none 0 0) :: u14 :: u15 :: u16 :: u17 :: u18 :: u19 :: u20 :: u21 :: u22 :: u23 :: u24 :: u25 :: u26 :: u27 :: u28 :: u29 :: u30 :: u31 :: u32 :: u33 :: u34 :: u35 :: u36 :: u37 :: u38 :: u39 :: u40 :: u41 :: u42 :: u43 :: u44 :: u45 :: u46 :: u47 :: u48 :: u49 :: u50 :: u51 :: u52 :: u53 :: u54 :: u55 :: u56 :: u57 :: u58 :: u59 :: u60 :: u61 :: u62 :: u63 :: u64 :: u65 :: u66 :: u67 :: u68 :: u69 :: u70 :: u71 :: u72 :: u73 :: u74 :: u75 :: u76 :: u77 :: u78 :: u79 :: u80 :: u81 :: u82 :: u83 :: u84 :: u85 :: u86 :: u87 :: u88 :: u89 :: u90 :: u91 :: u92 :: u93 :: u94 :: u95 :: u96 :: u97 :: u98 :: u99 :: u100 :: u101 :: u102 :: u103 :: u104 :: u105 :: u106 :: u107 :: u108 :: u109 :: u110 :: u111 :: u112 :: u113 :: u114 :: u115 :: u116 :: u117 :: u118 :: u119 :: u120 :: u121 :: u122 :: u123 :: u124 :: u125 :: u126 :: u127 :: u128 :: u129 :: u130 :: u131 :: u132 :: u133 :: u134 :: u135 :: u136 :: u137 :: u138 :: u139 :: u140 :: u141 :: u142 :: u143 :: u144 :: u145 :: u146 :: u147 :: []).toArray, []⟩ wc := by
 conv => arg 2; whnf
 have HS := Aside0.mk S
 clear S
 go_upto_block 4 with (fail)
 have S1 : Aside0 (ST w (wc.alloc (.cells #[.string ⟨#[103, 105, 100]⟩, .string ⟨#[103, 110, 97, 109, 101]⟩, .string ⟨#[108, 105, 110, 107, 112, 97, 116, 104]⟩, .string ⟨#[109, 116, 105, 109, 101]⟩, .string ⟨#[112, 97, 116, 104]⟩, .string ⟨#[115, 105, 122, 101]⟩, .string ⟨#[117, 105, 100]⟩, .string ⟨#[117, 110, 97, 109, 101]⟩] 9)) be br bh bm #[.string path, .string link, .int .i64 kd, .int .i64 md, .int .i64 uid, .int .i64 gid, .int .i64 mt, .int .i64 sz, .string user, .string group] #[.int .i64 0, .string name, .string l, .string pre, .string u, .string g, .int .u8 typ, .int .i64 md, .int .i64 a, .int .i64 b, .int .i64 c, .int .i64 d] L wc.heap.size 9 #[.string ⟨#[103, 105, 100]⟩, .string ⟨#[103, 110, 97, 109, 101]⟩, .string ⟨#[108, 105, 110, 107, 112, 97, 116, 104]⟩, .string ⟨#[109, 116, 105, 109, 101]⟩, .string ⟨#[112, 97, 116, 104]⟩, .string ⟨#[115, 105, 122, 101]⟩, .string ⟨#[117, 105, 100]⟩, .string ⟨#[117, 110, 97, 109, 101]⟩]) := ⟨⟨HS.out.next (below_alloc (Below.refl _ _) _), Blk.new _ _ _, Nat.ne_of_lt HS.out.h.lt, Nat.ne_of_lt HS.out.m.lt⟩⟩
 obtain ⟨tb, htb⟩ : ∃ tb, wc.heap.size = tb := ⟨_, rfl⟩
 rw [htb] at S1 ⊢
 clear htb HS
 generalize wc.alloc _ = W1 at S1 ⊢
 have R1 : Kd.R kKV 72 W1 w.heap.size (fun _ => True) (.slice none 0 0) (recsK L 0) := Kd.R_nil _ _ _ _ _
 go_cut [13] (fun v wc => Kd.R kKV 72 wc w.heap.size (fun _ => True) v (recsK L 8) ∧ Aside0 (SM w wc be br bh bm #[.string path, .string link, .int .i64 kd, .int .i64 md, .int .i64 uid, .int .i64 gid, .int .i64 mt, .int .i64 sz, .string user, .string group] #[.int .i64 0, .string name, .string l, .string pre, .string u, .string g, .int .u8 typ, .int .i64 md, .int .i64 a, .int .i64 b, .int .i64 c, .int .i64 d] L))
 case first =>
  go_wp2_with fail
  go_loopw [13, 128] (fun v i wr => ∃ k : Nat, k ≤ 8 ∧ i = .int .i64 k ∧ Hid (Kd.R kKV 72 wr w.heap.size (fun _ => True) v (recsK L k)) ∧ Aside0 (ST w wr be br bh bm #[.string path, .string link, .int .i64 kd, .int .i64 md, .int .i64 uid, .int .i64 gid, .int .i64 mt, .int .i64 sz, .string user, .string group] #[.int .i64 0, .string name, .string l, .string pre, .string u, .string g, .int .u8 typ, .int .i64 md, .int .i64 a, .int .i64 b, .int .i64 c, .int .i64 d] L tb 9 #[.string ⟨#[103, 105, 100]⟩, .string ⟨#[103, 110, 97, 109, 101]⟩, .string ⟨#[108, 105, 110, 107, 112, 97, 116, 104]⟩, .string ⟨#[109, 116, 105, 109, 101]⟩, .string ⟨#[112, 97, 116, 104]⟩, .string ⟨#[115, 105, 122, 101]⟩, .string ⟨#[117, 105, 100]⟩, .string ⟨#[117, 110, 97, 109, 101]⟩])) (fun _ i _ => 8 - (intOf i).toNat)
  case atStart => exact ⟨0, by omega, rfl, R1, S1⟩
  case round =>
   clear S1 R1
   obtain ⟨k, hk, rfl, HRK, SK⟩ := hrel
   by_cases hlt : k < 8
   ·have hc : ∃ key : ByteArray, sKey k = key ∧ wr.cell? ⟨tb, k, none⟩ = some (.string key) := by
     have q := fun i => SK.out.t.cell i
     rcases (by omega : k = 0 ∨ k = 1 ∨ k = 2 ∨ k = 3 ∨ k = 4 ∨ k = 5 ∨ k = 6 ∨ k = 7) with rfl | rfl | rfl | rfl | rfl | rfl | rfl | rfl
     ·exact ⟨_, rfl, q 0⟩
     ·exact ⟨_, rfl, q 1⟩
     ·exact ⟨_, rfl, q 2⟩
     ·exact ⟨_, rfl, q 3⟩
     ·exact ⟨_, rfl, q 4⟩
     ·exact ⟨_, rfl, q 5⟩
     ·exact ⟨_, rfl, q 6⟩
     ·exact ⟨_, rfl, q 7⟩
    obtain ⟨key, hke, c0⟩ := hc
    have hz : (zeroValue 9).run Tryd.prog wr = .ok (.string ⟨#[]⟩) wr := by kernel_rfl
    have hlk := run_lookup_ok Tryd.underlying59 Tryd.underlying9 hz SK.out.m key
    have hln := recsK_len L k
    cases hq : findM L key with
    | none =>
     have HK1 : Hid (recsK L (k + 1) = recsK L k) := by show _ = _; rw [recsK, hke, hq]; exact List.append_nil _
     rw [hq] at hlk
     simp only [Option.getD_none, Option.isSome_none] at hlk
     clear hq hke hz
     go_wp2
     go_roundw
     case rel => exact ⟨k + 1, by omega, by go_num, by rw [HK1.out]; exact HRK, SK⟩
     case measure => simp [intOf]; omega
    | some val =>
     have HK1 : Hid (recsK L (k + 1) = recsK L k ++ [(key, val)]) := by show _ = _; rw [recsK, hke, hq]
     rw [hq] at hlk
     simp only [Option.getD_some, Option.isSome_some] at hlk
     clear hq hke hz
     go_wp2_with (refine Kd.R_append kKV (w0 := w) w.heap.size rfl (.tmp 139) (.tmp 143) 46 72 (.agg #[.string ⟨#[]⟩, .string ⟨#[]⟩]) 32 rfl Tryd.underlying46 infoRec rfl (by decide) (by omega) _ (recsK L k) ((key, val) : KV) [.string key, .string val] (fun _ => True) (fun _ => False) rfl rfl (kKV_mkM _ _ _ (key, val)) (fun _ hk => hk.elim) (fun _ _ => trivial) HRK.out SK.out.b SK.out.b.size (by omega) ?_; intro v2 w2 hr2 hb2 hg2 hat2)
     go_roundw
     case rel => exact ⟨k + 1, by omega, by go_num, by rw [HK1.out]; exact hr2, ⟨SK.out.grown HRK.out (by decide) hg2 hb2⟩⟩
     case measure => simp [intOf]; omega
   ·obtain rfl : k = 8 := by omega
    go_wp2
    go_meet
    case rel => exact ⟨HRK, ⟨SK.out.toSM⟩⟩
 case rest =>
  clear S1 R1
  obtain ⟨hR, hS⟩ := hcut
  have HRR := Lib.hid hR
  obtain ⟨x0, x1, x2, x3, x4, x5, x6, x7, x8, x9, x10, x11⟩ := hS.out.hcells
  obtain ⟨r0, r1, r2, r3, r4, r5, r6, r7, r8, r9, r10, r11⟩ := hS.out.rcells
  obtain ⟨f0, f1, f2, f3, f4, f5, f6, f7, f8, f9, f10, f11⟩ := hS.out.rfroz
  clear hR
  go_wp2
  exact spl_rets hS.out HRR.out _ _ _ _ _ _ _ _ _ _ _ _ rfl rfl
set_option maxHeartbeats 8000000 in
set_option maxRecDepth 100000 in
theorem spl_s7 (w wc : World) (be br bh bm : Nat) (path link : ByteArray) (kd md uid gid mt sz : Int) (user group name pre : ByteArray) (typ : Int) (l0 : List KV) (l u g : ByteArray) (a b c d : Int) (L : List KV) (u0 u3 u6 u7 u8 u9 u10 u11 u12 u13 u14 u15 u16 u17 u18 u19 u20 u21 u22 u23 u24 u25 u26 u27 u28 u29 u30 u31 u32 u33 u34 u35 u36 u37 u38 u39 u40 u41 u42 u43 u44 u45 u46 u47 u48 u49 u50 u51 u52 u53 u54 u55 u56 u57 u58 u59 u60 u61 u62 u63 u64 u65 u66 u67 u68 u69 u70 u71 u72 u73 u74 u75 u76 u77 u78 u79 u80 u81 u82 u83 u84 u85 u86 u87 u88 u89 u90 u91 u92 u93 u94 u95 u96 u97 u98 u99 u100 u101 u102 u103 u104 u105 u106 u107 u108 u109 u110 u111 u112 u113 u114 u115 u116 u117 u118 u119 u120 u121 u122 u123 u124 u125 u126 u127 u128 u129 u130 u131 u132 u133 u134 u135 u136 u137 u138 u139 u140 u141 u142 u143 u144 u145 u146 u147 : Value)
  (S : SM w wc be br bh bm #[.string path, .string link, .int .i64 kd, .int .i64 md, .int .i64 uid, .int .i64 gid, .int .i64 mt, .int .i64 sz, .string user, .string group] #[.int .i64 0, .string name, .string l, .string pre, .string u, .string g, .int .u8 typ, .int .i64 md, .int .i64 a, .int .i64 b, .int .i64 c, .int .i64 d] L) :
  Code.wp Tryd.prog (splRest 7) (bodyPost Tryd.prog Tryd.f15 (SplitEnd #[.int .i64 0, .string name, .string l, .string pre, .string u, .string g, .int .u8 typ, .int .i64 md, .int .i64 a, .int .i64 b, .int .i64 c, .int .i64 d] L w)) ⟨(u0 :: (.pointer (some ⟨be, 0, none⟩)) :: (.pointer (some ⟨br, 0, none⟩)) :: u3 :: (.pointer (some ⟨bh, 0, none⟩)) :: (.map (some bm)) :: u6 :: u7 :: u8 :: u9 :: u10 :: u11 :: u12 :: u13 :: u14 :: u15 :: u16 :: u17 :: u18 :: u19 :: u20 :: u21 :: u22 :: u23 :: u24 :: u25 :: u26 :: u27 :: u28 :: u29 :: u30 :: u31 :: u32 :: u33 :: u34 :: u35 :: u36 :: u37 :: u38 :: u39 :: u40 :: u41 :: u42 :: u43 :: u44 :: u45 :: u46 :: u47 :: u48 :: u49 :: u50 :: u51 :: u52 :: u53 :: u54 :: u55 :: u56 :: u57 :: u58 :: u59 :: u60 :: u61 :: u62 :: u63 :: u64 :: u65 :: u66 :: u67 :: u68 :: u69 :: u70 :: u71 :: u72 :: u73 :: u74 :: u75 :: u76 :: u77 :: u78 :: u79 :: u80 :: u81 :: u82 :: u83 :: u84 :: u85 :: u86 :: u87 :: u88 :: u89 :: u90 :: u91 :: u92 :: u93 :: u94 :: u95 :: u96 :: u97 :: u98 :: u99 :: u100 :: u101 :: u102 :: u103 :: u104 :: u105 :: u106 :: u107 :: u108 :: u109 :: u110 :: u111 :: u112 :: u113 :: u114 :: u115 :: u116 :: u117 :: u118 :: u119 :: u120 :: u121 :: u122 :: u123 :: u124 :: u125 :: u126 :: u127 :: u128 :: u129 :: u130 :: u131 :: u132 :: u133 :: u134 :: u135 :: u136 :: u137 :: u138 :: u139 :: u140 :: u141 :: u142 :: u143 :: u144 :: u145 :: u146 :: u147 :: []).toArray, []⟩ wc := by
 conv => arg 2; whnf
 have HS := Aside0.mk S
 clear S
 go_step
 go_cut [13] (fun v wc => v = .slice none 0 0 ∧ Aside0 (SM w wc be br bh bm #[.string path, .string link, .int .i64 kd, .int .i64 md, .int .i64 uid, .int .i64 gid, .int .i64 mt, .int .i64 sz, .string user, .string group] #[.int .i64 0, .string name, .string l, .string pre, .string u, .string g, .int .u8 typ, .int .i64 md, .int .i64 a, .int .i64 b, .int .i64 c, .int .i64 d] L))
 case first =>
  go_wp2
  go_meet
  case rel => exact ⟨rfl, HS⟩
 case rest =>
  obtain ⟨rfl, hS⟩ := hcut
  clear HS
  go_step
  exact spl_s8 w _ be br bh bm path link kd md uid gid mt sz user group name pre typ l0 l u g a b c d L _ _ _ _ _ _ _ _ _ _ _ _ _ _ _ _ _ _ _ _ _ _ _ _ _ _ _ _ _ _ _ _ _ _ _ _ _ _ _ _ _ _ _ _ _ _ _ _ _ _ _ _ _ _ _ _ _ _ _ _ _ _ _ _ _ _ _ _ _ _ _ _ _ _ _ _ _ _ _ _ _ _ _ _ _ _ _ _ _ _ _ _ _ _ _ _ _ _ _ _ _ _ _ _ _ _ _ _ _ _ _ _ _ _ _ _ _ _ _ _ _ _ _ _ _ _ _ _ _ _ _ _ _ _ _ _ _ _ _ _ _ _ _ hS.out
end Go.Proofs.YtpbpfngichfgeaaDoor
