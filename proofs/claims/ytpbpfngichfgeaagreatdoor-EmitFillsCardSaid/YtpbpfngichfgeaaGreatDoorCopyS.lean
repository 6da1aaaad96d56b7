/-
 copy(b[i:], s), s a text: the row behind it; of no program.
-/
import Derived.Laws.CopyOwn
import Derived.Deep.AppendLies
import Derived.Test.YtpbpfngichfgeaaGreatDoorUtil
namespace Go.Proofs.YtpbpfngichfgeaaGreatDoor
set_option linter.unusedVariables false
set_option linter.unusedSimpArgs false
open Go Go.RowKit

def strVs (s : ByteArray) : List Value := s.data.toList.map fun b => .int .u8 b.toNat
theorem strVs_length (s : ByteArray) : (strVs s).length = s.size := by simp [strVs]
theorem strVs_one (s : ByteArray) : ∀ v ∈ strVs s, v.oneCell' = true := by
 intro v hv
 obtain ⟨b, _, rfl⟩ := List.mem_map.1 hv
 rfl
theorem run_copy_str {P : Program} (w : World) (dT sT ty elem : TypeId) (g o dLen dCap : Nat) (s : ByteArray) (cur : Array Value) (t : TypeId)
  (hu : P.underlying dT = some (.slice elem)) (hs : (P.info? elem).map (·.size) = some 1)
  (hg : w.heap[g]? = some (.cells cur t (0, 0))) (hn : s.size ≤ dLen) (hfit : o + s.size ≤ cur.size) :
  (Builtin.copy_ #[dT, sT] ty #[.slice (some ⟨g, o, none⟩) dLen dCap, .string s]).run P w =
   .ok (goInt s.size) (w.setRow g (cur.toList.take o ++ strVs s ++ cur.toList.drop (o + s.size)).toArray) := by
 have hst := run_storeCells_at P g o t (strVs s) 0 cur w hg (by rw [strVs_length]; simpa using hfit) (strVs_one s)
 have hmin : Nat.min s.size dLen = s.size := Nat.min_eq_left hn
 have hex : (s.extract 0 s.size) = s := by simp
 rw [strVs_length] at hst
 cases hq : P.info? elem with
 | none => simp [hq] at hs
 | some i =>
  have hi : i.size = 1 := by simpa [hq] using hs
  have hc : (Array.map (fun b : UInt8 => Value.int .u8 b.toNat) s.data).toList = strVs s := by simp [strVs]
  simp [Builtin.copy_, run_underlying hu, Builtin.lenOf, Builtin.firstCells, sizeOf, typeInfo, hq, hi, hmin, hex]
  have ht : List.take s.size (List.map (fun b : UInt8 => Value.int .u8 b.toNat) s.data.toList) = strVs s := List.take_of_length_le (by rw [List.length_map, Array.length_toList]; exact Nat.le_refl _)
  rw [ht, hst]
  simp [Result.andThen]
theorem splice_str {P : Program} {w : World} {o : Oper} {a : Act} {K : Act → World → Prop} {Q : Exit → Act → World → Prop} (d s : Operand) (dT sT : TypeId)
  (ho : o.op = .call { callee := .builtin .copy, args := #[d, s], argTypes := #[dT, sT] }) (elem : TypeId) (hu : P.underlying dT = some (.slice elem)) (hsz : (P.info? elem).map (·.size) = some 1)
  (dp : Option Addr) (dLen dCap : Nat) (S : ByteArray) (hd : a.eval d = .slice dp dLen dCap) (hs : a.eval s = .string S)
  (g off : Nat) (cur : List Value) (t : TypeId) (hg : w.heap[g]? = some (.cells cur.toArray t (0, 0))) (hdp : dp = some ⟨g, off, none⟩) (hn : S.size ≤ dLen) (hfit : off + S.size ≤ cur.length) (B : Nat) (w0 : World) (hb : Below B w0 w) (hBg : B ≤ g)
  (h : ∀ w', Hid (w'.heap[g]? = some (.cells (splice cur off (strVs S)).toArray t (0, 0))) → Hid (∀ k, k ≠ g → w'.heap[k]? = w.heap[k]?) → Below B w0 w' ∧ w'.heap.size = w.heap.size → K (a.put o.dst (goInt S.size)) w') :
  Oper.wp P o a w K Q := by
 subst hdp
 have hrun := run_copy_str (P := P) w dT sT o.type elem g off dLen dCap S cur.toArray t hu hsz hg hn (by simpa using hfit)
 unfold Oper.wp
 simp [execOp, ho, resolve, invoke, builtin, hd, hs, hrun, Result.andThen]
 refine h _ ?_ (fun k hk => setRow_other w g k _ hk) ⟨below_setRow hb hBg _, by simp [World.setRow]⟩
 show _ = _
 simpa [splice, strVs_length] using setRow_heap w g _ _ t _ hg
theorem wpList_copy_str {P : Program} {w : World} {ops : Array Oper} {rest : List Oper} {o : Oper} {a : Act} {Q : Exit → Act → World → Prop} (hgd : o.guard = none) (d s : Operand) (dT sT : TypeId)
  (ho : o.op = .call { callee := .builtin .copy, args := #[d, s], argTypes := #[dT, sT] }) (elem : TypeId) (hu : P.underlying dT = some (.slice elem)) (hsz : (P.info? elem).map (·.size) = some 1)
  (dp : Option Addr) (dLen dCap : Nat) (S : ByteArray) (hd : a.eval d = .slice dp dLen dCap) (hs : a.eval s = .string S)
  (g off : Nat) (cur : List Value) (t : TypeId) (hg : w.heap[g]? = some (.cells cur.toArray t (0, 0))) (hdp : dp = some ⟨g, off, none⟩) (hn : S.size ≤ dLen) (hfit : off + S.size ≤ cur.length) (B : Nat) (w0 : World) (hb : Below B w0 w) (hBg : B ≤ g)
  (h : ∀ w', Hid (w'.heap[g]? = some (.cells (splice cur off (strVs S)).toArray t (0, 0))) → Hid (∀ k, k ≠ g → w'.heap[k]? = w.heap[k]?) → Below B w0 w' ∧ w'.heap.size = w.heap.size → wpList P ops Q rest (a.put o.dst (goInt S.size)) w') :
  wpList P ops Q (o :: rest) a w :=
 wpList_plain hgd fun K hK => splice_str d s dT sT ho elem hu hsz dp dLen dCap S hd hs g off cur t hg hdp hn hfit B w0 hb hBg fun w' h1 h2 h3 => hK _ _ (h w' h1 h2 h3)
theorem step_copy_str {P : Program} {ops : Array Oper} {o : Oper} {a : Act} {w : World} {K : Act → World → Prop} {Q : Exit → Act → World → Prop} {E : Prop} (hgd : o.guard = none) (d s : Operand) (dT sT : TypeId)
  (ho : o.op = .call { callee := .builtin .copy, args := #[d, s], argTypes := #[dT, sT] }) (elem : TypeId) (hu : P.underlying dT = some (.slice elem)) (hsz : (P.info? elem).map (·.size) = some 1)
  (dp : Option Addr) (dLen dCap : Nat) (S : ByteArray) (hd : a.eval d = .slice dp dLen dCap) (hs : a.eval s = .string S)
  (g off : Nat) (cur : List Value) (t : TypeId) (hg : w.heap[g]? = some (.cells cur.toArray t (0, 0))) (hdp : dp = some ⟨g, off, none⟩) (hn : S.size ≤ dLen) (hfit : off + S.size ≤ cur.length) (B : Nat) (w0 : World) (hb : Below B w0 w) (hBg : B ≤ g)
  (h : ∀ w', Hid (w'.heap[g]? = some (.cells (splice cur off (strVs S)).toArray t (0, 0))) → Hid (∀ k, k ≠ g → w'.heap[k]? = w.heap[k]?) → Below B w0 w' ∧ w'.heap.size = w.heap.size → K (a.put o.dst (goInt S.size)) w') :
  if Region.wanted o (yielded ops a.tmps) = true then Oper.wp P o a w K Q else E := by
 have hw : Region.wanted o (yielded ops a.tmps) = true := by simp [Region.wanted, hgd]
 rw [if_pos hw]
 exact splice_str d s dT sT ho elem hu hsz dp dLen dCap S hd hs g off cur t hg hdp hn hfit B w0 hb hBg h
theorem wpList_copy_sl {P : Program} {w : World} {ops : Array Oper} {rest : List Oper} {o : Oper} {a : Act} {Q : Exit → Act → World → Prop} (hgd : o.guard = none) (d s : Operand) (dT sT : TypeId)
  (ho : o.op = .call { callee := .builtin .copy, args := #[d, s], argTypes := #[dT, sT] }) (elem : TypeId) (hu : P.underlying dT = some (.slice elem)) (hsz : (P.info? elem).map (·.size) = some 1)
  (dp : Option Addr) (ad : Addr) (dLen dCap sLen sCap : Nat) (hd : a.eval d = .slice dp dLen dCap) (hs : a.eval s = .slice (some ad) sLen sCap)
  (g off : Nat) (cur : List Value) (t : TypeId) (hg : w.heap[g]? = some (.cells cur.toArray t (0, 0))) (hdp : dp = some ⟨g, off, none⟩) (cs : List Value) (hn : cs.length = Nat.min sLen dLen)
  (hsrc : ∀ j v, cs[j]? = some v → w.cell? (ad.add j) = some v) (hfit : off + cs.length ≤ cur.length) (h1 : ∀ v ∈ cs, v.oneCell' = true) (B : Nat) (w0 : World) (hb : Below B w0 w) (hBg : B ≤ g)
  (h : ∀ w', Hid (w'.heap[g]? = some (.cells (splice cur off cs).toArray t (0, 0))) → Hid (∀ k, k ≠ g → w'.heap[k]? = w.heap[k]?) → Below B w0 w' ∧ w'.heap.size = w.heap.size → wpList P ops Q rest (a.put o.dst (goInt cs.length)) w') :
  wpList P ops Q (o :: rest) a w := by
 subst hdp
 refine wpList_copy_own hgd d s dT sT ho elem hu hsz g off dLen dCap ad sLen sCap hd hs cur.toArray t hg cs hn hsrc (by simpa using hfit) h1 ?_
 exact h _ (show _ = _ by simpa [splice] using setRow_heap w g _ _ t _ hg) (fun k hk => setRow_other w g k _ hk) ⟨below_setRow hb hBg _, by simp [World.setRow]⟩
end Go.Proofs.YtpbpfngichfgeaaGreatDoor
