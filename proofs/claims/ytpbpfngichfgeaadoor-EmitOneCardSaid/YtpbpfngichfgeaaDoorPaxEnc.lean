/-
 pax.Encode, walked: records as bytes.
-/
import Derived.Test.YtpbpfngichfgeaaDoorPaxW
import Derived.Laws.Rows
import Derived.RegionTactic
import Derived.Test.YtpbpfngichfgeaaDoorBuild
import Derived.Deep.RegionHeld3
import Derived.Deep.LoopGhost
import Derived.Lib.ConvBytes
import Derived.Outline
namespace Go.Proofs.YtpbpfngichfgeaaDoor
set_option linter.unusedVariables false
set_option linter.unusedSimpArgs false
open Go.RowKit Go.Sort

def recT (k v : ByteArray) : ByteArray := itoaS (lenOf k v) ++ ⟨#[32]⟩ ++ k ++ ⟨#[61]⟩ ++ v ++ ⟨#[10]⟩
def encL (l : List Rec) : List UInt8 := (l.map fun r => (recT r.1 r.2).data.toList).flatten
/-- The cells of a list of records. -/
def RecC (w : World) (A : Option Addr) (l : List Rec) : Prop :=
 ∀ i, i < l.length → ∃ b off, A = some ⟨b, off, none⟩ ∧ b < w.heap.size ∧ w.cell? ⟨b, off + i * 2, none⟩ = some (.string (l.getD i default).1) ∧ w.cell? ⟨b, off + i * 2 + 1, none⟩ = some (.string (l.getD i default).2)
/-- The first error of a list of records. -/
def chkL : List Rec → Int
 | [] => 0
 | r :: l => if chkOf r.1 r.2 = 0 then chkL l else chkOf r.1 r.2
def encOf (l : List Rec) : List UInt8 × Int := if 64 < l.length then ([], 2) else if chkL l = 0 then (encL l, 0) else ([], chkL l)

theorem ownsRow_below2 {B : Nat} {e : TypeId} {k : Nat} {v : Value} {n : Nat} {xs : List Value} {w w' : World} (h : w.ownsRow B e k v n xs) (hb : Below w.heap.size w w') : w'.ownsRow B e k v n xs := by
 refine ⟨h.1, ?_⟩
 rcases h.2 with h0 | ⟨g, cap, cur, hv, hB, hh, r⟩
 ·exact .inl h0
 ·refine .inr ⟨g, cap, cur, hv, hB, ?_, r⟩
  have hlt : g < w.heap.size := by
   rcases Nat.lt_or_ge g w.heap.size with h' | h'
   ·exact h'
   ·simp [Array.getElem?_eq_none h'] at hh
  exact (hb.block g hlt).trans hh
theorem builder_below {T e : TypeId} {B b : Nat} {bs : List Value} {w w' : World} (h : Lib.IsBuilder T e B b bs w) (hb : Below w.heap.size w w') : Lib.IsBuilder T e B b bs w' := by
 have one : ∀ p, Lib.BuilderAt T e B b p bs w → Lib.BuilderAt T e B b p bs w' := fun p h => by
  have hl := h.lt
  obtain ⟨h0, v, hh, ho, hn⟩ := h
  exact ⟨h0, v, (hb.block b hl).trans hh, ownsRow_below2 ho hb, hn⟩
 exact h.imp (one _) (one _)
theorem strCells_bytes (s : ByteArray) : Lib.strCells s = Lib.byteCells s.data.toList := by simp [Lib.strCells, Lib.byteCells]
/-- A slice of bytes of the call's own making, to be read. -/
def BytesAt (w w' : World) (v : Value) (l : List UInt8) : Prop :=
 ∃ A c, v = .slice A l.length c ∧ l.length ≤ c ∧ (l = [] ∨ ∃ g cs t fr, A = some ⟨g, 0, none⟩ ∧ w.heap.size ≤ g ∧ w'.heap[g]? = some (.cells cs t fr) ∧ ∀ j, j < l.length → cs[j]? = some (.int .u8 ((l.getD j 0).toNat : Nat)))
def EncEnd (l : List Rec) (w : World) (e : Ending) (w' : World) : Prop :=
 ∃ v, e = .returned (.tuple #[v, .int .i64 (encOf l).2]) ∧ BytesAt w w' v (encOf l).1 ∧ Below w.heap.size w w'
theorem bytesAt_world (w w1 : World) (hb : Below w.heap.size w w1) (e : TypeId) (s : ByteArray) : BytesAt w (Lib.bytesWorld w1 e s) (.slice (some ⟨w1.heap.size, 0, none⟩) s.size (grownCap w1 s.size 0 e)) s.data.toList := by
 refine ⟨_, _, by rw [← Lib.size_eq], ?_, ?_⟩
 ·rw [← Lib.size_eq]; exact grownCap_ge _ _ _ _
 ·refine .inr ⟨w1.heap.size, _, _, _, rfl, hb.size, Lib.bytesWorld_at_new w1 e s, fun j hj => ?_⟩
  have h := Lib.bytesWorld_cell w1 e s j (by rw [Lib.size_eq]; exact hj)
  simp [World.cell?, Lib.bytesWorld_at_new] at h
  simpa using h
theorem chkL_ok {l : List Rec} (h : ∀ j, j < l.length → chkOf (l.getD j default).1 (l.getD j default).2 = 0) : chkL l = 0 := by
 induction l with
 | nil => rfl
 | cons r l ih =>
  have h0 := h 0 (by simp)
  simp only [List.getD_cons_zero] at h0
  rw [chkL, if_pos h0]
  exact ih fun j hj => by have := h (j + 1) (by simpa using hj); simpa using this
theorem chkL_bad {l : List Rec} {k : Nat} (hk : k < l.length) (h : ∀ j, j < k → chkOf (l.getD j default).1 (l.getD j default).2 = 0) (hb : chkOf (l.getD k default).1 (l.getD k default).2 ≠ 0) : chkL l = chkOf (l.getD k default).1 (l.getD k default).2 := by
 induction l generalizing k with
 | nil => simp at hk
 | cons r l ih =>
  cases k with
  | zero => simp only [List.getD_cons_zero] at hb ⊢; rw [chkL, if_neg hb]
  | succ k =>
   have h0 := h 0 (by omega)
   simp only [List.getD_cons_zero] at h0
   rw [chkL, if_pos h0]
   have := ih (k := k) (by simpa using hk) (fun j hj => by have := h (j + 1) (by omega); simpa using this) (by simpa using hb)
   simpa using this
theorem encL_snoc {l : List Rec} {k : Nat} (hk : k < l.length) : encL (l.take (k + 1)) = encL (l.take k) ++ (recT (l.getD k default).1 (l.getD k default).2).data.toList := by
 have e : l.take (k + 1) = l.take k ++ [l.getD k default] := by rw [List.take_succ_eq_append_getElem hk]; simp [hk]
 rw [e]
 simp [encL]
theorem lenOf_bounds (k v : ByteArray) (hk : k.size ≤ 281474976710656) (hv : v.size ≤ 281474976710656) : (k.size : Int) + v.size + 3 ≤ lenOf k v ∧ lenOf k v ≤ k.size + v.size + 25 := by
 have h := itoaS_le ((k.size : Int) + v.size + 3) (by omega) (by omega)
 simp only [lenOf]
 split <;> omega
theorem recT_le (k v : ByteArray) (hk : k.size ≤ 1000000) (hv : v.size ≤ 1000000) : (recT k v).size ≤ 2000100 := by
 have hb := lenOf_bounds k v (by omega) (by omega)
 have h := itoaS_le (lenOf k v) (by omega) (by omega)
 simp only [recT, ByteArray.size_append]
 show (itoaS (lenOf k v)).size + 1 + k.size + 1 + v.size + 1 ≤ 2000100
 omega
theorem encL_le {l : List Rec} {n : Nat} (h : ∀ r ∈ l, (recT r.1 r.2).size ≤ n) : (encL l).length ≤ l.length * n := by
 induction l with
 | nil => simp [encL]
 | cons r l ih =>
  have h0 := h r (by simp)
  have h1 := ih (fun x hx => h x (by simp [hx]))
  have e : encL (r :: l) = (recT r.1 r.2).data.toList ++ encL l := by simp [encL]
  rw [e, List.length_append, List.length_cons, Nat.add_mul, ← Lib.size_eq]
  omega
theorem add_run (a b c : ByteArray) (h : a ++ b = c) (hs : a.size + b.size ≤ 4611686018427387904) (wx : World) : (Op.stringOp .add a b).run Tryd.prog wx = .ok (.string c) wx := by
 subst h; exact run_string_add_sum wx _ _ (by omega)

set_option maxRecDepth 100000 in
set_option maxHeartbeats 4000000 in
theorem encode_any (hC : CAny) (l : List Rec) (A : Option Addr) (c : Nat) (w : World) (hr : RecC w A l) (hsz : ∀ r ∈ l, r.1.size ≤ 1000000 ∧ r.2.size ≤ 1000000) (he : EnvE w) :
  Calls Tryd.prog 16 #[.slice A l.length c] w (EncEnd l w) := by
 have HR := Lib.hid hr
 have HS := Lib.hid hsz
 have HE := Lib.hid he
 have HC : Hid CAny := hC
 clear hr hsz he hC
 by_cases h64 : 64 < l.length
 ·have hF : encOf l = ([], 2) := by simp [encOf, h64]
  have HF := Lib.hid hF
  clear hF
  go_enter Tryd.func16, Tryd.ntmps16
  go_wp2
  go_ret2
  exact ⟨_, by rw [HF.out]; rfl, by rw [HF.out]; exact ⟨_, _, rfl, by simp, .inl rfl⟩, Below.refl _ _⟩
 ·have h64i : l.length ≤ 64 := by omega
  have hB0 : Lib.IsBuilder BT 5 w.heap.size w.heap.size (Lib.byteCells []) (w.alloc (.cells #[.pointer none, .slice none 0 0] BT)) := by
   refine .inl ⟨Nat.le_refl _, .slice none 0 0, heap_alloc_new w _, ?_, ?_⟩
   ·exact ⟨rfl, .inl ⟨rfl, rfl⟩⟩
   ·simp [Value.ownBlock]
  have HB0 := Lib.hid hB0
  clear hB0
  go_enter Tryd.func16, Tryd.ntmps16
  go_wp2
  go_loopg [13] l.length (fun g i wr => ∃ k : Nat, k + g = l.length ∧ i = .int .i64 k ∧ Hid ((∀ j, j < k → chkOf (l.getD j default).1 (l.getD j default).2 = 0) ∧ Lib.IsBuilder BT 5 w.heap.size w.heap.size (Lib.byteCells (encL (l.take k))) wr) ∧ Below w.heap.size w wr)
  case atStart => exact ⟨0, by omega, rfl, ⟨by simp, HB0.out⟩, (Below.refl _ _).alloc (Nat.le_refl _) _⟩
  case round =>
   obtain ⟨k, hk, rfl, HI, hb⟩ := hrel
   cases gk with
   | zero =>
    obtain rfl : k = l.length := by omega
    obtain ⟨hok, hbd⟩ := HI
    rw [List.take_length] at hbd
    have hF : encOf l = (encL l, 0) := by simp [encOf, h64, chkL_ok hok]
    have HF := Lib.hid hF
    have HBD := Lib.hid hbd
    clear hok hbd hF
    have hcv := fun wx => Lib.run_convert_string_bytes (P := Tryd.prog) wx 9 26 5 ⟨(encL l).toArray⟩ Tryd.underlying9 Tryd.underlying26 Tryd.underlying5
    go_wp2_with (go_at_call 32; refine (Tryd.Builder_String_any w.heap.size w.heap.size (encL l) _ HBD.out hb.size).mono ?_; rintro e w2 ⟨rfl, hb2⟩)
    go_ret2
    exact ⟨_, by rw [HF.out]; rfl, by rw [HF.out]; exact bytesAt_world w _ (hb.trans hb2) _ _, below_next (hb.trans hb2) (below_bytes _ _)⟩
   | succ g =>
    have hkl : k < l.length := by omega
    obtain ⟨b, off, rfl, hlt, c0, c1⟩ := HR.out k hkl
    have hc0 := (hb.cell (p := ⟨b, off + k * 2, none⟩) hlt).trans c0
    have hc1 := (hb.cell (p := ⟨b, off + k * 2 + 1, none⟩) hlt).trans c1
    clear c0 c1
    obtain ⟨K1, V1, hrec⟩ : ∃ K1 V1, l.getD k default = (K1, V1) := ⟨_, _, rfl⟩
    rw [hrec] at hc0 hc1
    obtain ⟨z1, z2⟩ : K1.size ≤ 1000000 ∧ V1.size ≤ 1000000 := by
     have := HS.out (l.getD k default) (by simp [hkl])
     rw [hrec] at this
     exact this
    obtain ⟨hok, hbd⟩ := HI
    have HOK := Lib.hid hok
    have HBD := Lib.hid hbd
    have HREC := Lib.hid hrec
    clear hok hbd hrec
    obtain ⟨E, hE⟩ : ∃ E, chkOf K1 V1 = E := ⟨_, rfl⟩
    have HK := Lib.hid hE
    by_cases hE0 : E = 0
    ·subst hE0
     obtain ⟨LL, hLL⟩ : ∃ LL, lenOf K1 V1 = LL := ⟨_, rfl⟩
     obtain ⟨S0, hS0⟩ : ∃ S0, itoaS LL = S0 := ⟨_, rfl⟩
     obtain ⟨S1, hS1⟩ : ∃ S1, S0 ++ ⟨#[32]⟩ = S1 := ⟨_, rfl⟩
     obtain ⟨S2, hS2⟩ : ∃ S2, S1 ++ K1 = S2 := ⟨_, rfl⟩
     obtain ⟨S3, hS3⟩ : ∃ S3, S2 ++ ⟨#[61]⟩ = S3 := ⟨_, rfl⟩
     obtain ⟨S4, hS4⟩ : ∃ S4, S3 ++ V1 = S4 := ⟨_, rfl⟩
     obtain ⟨S5, hS5⟩ : ∃ S5, S4 ++ ⟨#[10]⟩ = S5 := ⟨_, rfl⟩
     have hL0 : 0 ≤ LL ∧ LL ≤ 2000100 := by
      rw [← hLL]; have := lenOf_bounds K1 V1 (by omega) (by omega); omega
     have q0 : S0.size ≤ 21 := by rw [← hS0]; exact itoaS_le _ (by omega) (by omega)
     have q1 : S1.size = S0.size + 1 := by rw [← hS1, ByteArray.size_append]; rfl
     have q2 : S2.size = S1.size + K1.size := by rw [← hS2, ByteArray.size_append]
     have q3 : S3.size = S2.size + 1 := by rw [← hS3, ByteArray.size_append]; rfl
     have q4 : S4.size = S3.size + V1.size := by rw [← hS4, ByteArray.size_append]
     have q5 : S5.size = S4.size + 1 := by rw [← hS5, ByteArray.size_append]; rfl
     have a1 := add_run S0 ⟨#[32]⟩ S1 hS1 (by show _ + 1 ≤ _; omega)
     have a2 := add_run S1 K1 S2 hS2 (by omega)
     have a3 := add_run S2 ⟨#[61]⟩ S3 hS3 (by show _ + 1 ≤ _; omega)
     have a4 := add_run S3 V1 S4 hS4 (by omega)
     have a5 := add_run S4 ⟨#[10]⟩ S5 hS5 (by show _ + 1 ≤ _; omega)
     have HT : Hid (recT K1 V1 = S5) := by show _ = _; rw [recT, hLL, hS0, hS1, hS2, hS3, hS4, hS5]
     have hlen : Hid ((Lib.byteCells (encL (l.take k))).length + S5.size ≤ 140737488355328) := by
      show _ ≤ _
      have := encL_le (l := l.take k) (n := 2000100) (fun r hr => recT_le r.1 r.2 (HS.out r (List.mem_of_mem_take hr)).1 (HS.out r (List.mem_of_mem_take hr)).2)
      rw [Lib.byteCells_length]
      have h2 : (l.take k).length ≤ 64 := by rw [List.length_take]; omega
      have h3 : (l.take k).length * 2000100 ≤ 64 * 2000100 := Nat.mul_le_mul_right _ h2
      omega
     have HS0 := Lib.hid hS0
     have HLL := Lib.hid hLL
     have HQ : Hid (LL ≤ 2000100 ∧ 0 ≤ LL) := ⟨hL0.2, hL0.1⟩
     clear hLL hS0 hS1 hS2 hS3 hS4 hS5 q0 q1 q2 q3 q4 q5 hE hL0
     go_wp2_with fail
     refine (check_any HC.out K1 V1 (by omega) (by omega) _).mono ?_
     rw [HK.out]
     rintro e w1 ⟨rfl, hb1⟩
     have r1 : Blk w1 wr.heap.size 72 #[.string K1, .string V1] := (Blk.new wr 72 #[.string K1, .string V1]).below hb1 (by simp)
     have B1 := below_next (hb.alloc hb.size (.cells #[.string K1, .string V1] 72)) hb1
     have HB1 := Lib.hid (builder_below (builder_below HBD.out ((Below.refl _ _).alloc (Nat.le_refl _) (.cells #[.string K1, .string V1] 72))) hb1)
     have hg1 : w.heap.size < wr.heap.size := by have := HBD.out; rcases this with h | h <;> exact h.lt
     generalize wr.heap.size = g1 at r1 hg1 ⊢
     clear hb1 hc0 hc1 HBD
     have r1c0 := r1.cell 0; have r1c1 := r1.cell 1
     go_wp2_with fail
     have r1d : Blk w1.drew g1 72 #[.string K1, .string V1] := r1.drew
     have B1d : Below w.heap.size w w1.drew := B1.drew
     clear r1c0 r1c1
     go_region_held3 (fun w' => w'.cell? ⟨g1, 0, none⟩ = some (.string K1) ∧ w'.cell? ⟨g1, 1, none⟩ = some (.string V1)) (exact ⟨Blk.cell (cs := #[.string K1, .string V1]) (by assumption) 0, Blk.cell (cs := #[.string K1, .string V1]) (by assumption) 1⟩) (first | (go_at_call 31; refine (length_any K1 V1 (by omega) (by omega) _ (HE.out.env.below B1d)).mono ?_; rw [HLL.out]; rintro e w2 ⟨rfl, hb2⟩; have r2 := r1d.below hb2 r1d.lt; have B2 := below_next B1d hb2; have HB2 := Lib.hid (builder_below (w := w1.drew) HB1.out hb2)) | (go_at_call 30; refine (itoaS_any LL (by have := HQ.out; omega) (by have := HQ.out; omega) _ (HE.out.env.below B2) S0 HS0.out).mono ?_; rintro e w3 ⟨rfl, hb3⟩; have r3 := r2.below hb3 r2.lt; have B3 := below_next B2 hb3; have HB3 := Lib.hid (builder_below HB2.out hb3)) | (go_at_call 29; refine (writeString_any w.heap.size w.heap.size _ S5 _ HB3.out hlen.out B3.size).mono ?_; rintro e w4 ⟨rfl, ⟨hB4, hb4⟩, hoth⟩; have B4 := B3.trans hb4; have r4 := hoth g1 _ _ (by omega) (by decide) r3; clear hoth; have HB4 := Lib.hid hB4; clear hB4))
     go_wp2_with fail
     go_roundg g
     case measure => omega
     case rel =>
      refine ⟨k + 1, by omega, rfl, ⟨?_, ?_⟩, B4⟩
      ·intro j hj
       rcases Nat.lt_or_ge j k with h | h
       ·exact HOK.out j h
       ·obtain rfl : j = k := by omega
        rw [HREC.out]; exact HK.out
      ·rw [encL_snoc (by omega), HREC.out, HT.out]
       have := HB4.out
       rw [strCells_bytes] at this
       simp only [Lib.byteCells, List.map_append] at this ⊢
       exact .inr this
    ·have hq : (E == 0) = false := by simpa using hE0
     have hF : encOf l = ([], E) := by
      have hb0 : chkOf (l.getD k default).1 (l.getD k default).2 = E := by rw [HREC.out]; exact hE
      have := chkL_bad hkl HOK.out (by rw [hb0]; exact hE0)
      rw [hb0] at this
      simp [encOf, h64, this, hE0]
     have HF := Lib.hid hF
     clear hF hE hE0
     go_wp2_with (go_at_call 28; refine (check_any HC.out K1 V1 (by omega) (by omega) _).mono ?_; rw [HK.out]; rintro e w1 ⟨rfl, hb1⟩; have B1 := below_next (hb.alloc hb.size (.cells #[.string K1, .string V1] 72)) hb1; clear hb1)
     go_ret2
     exact ⟨_, by rw [HF.out]; rfl, by rw [HF.out]; exact ⟨_, _, rfl, by simp, .inl rfl⟩, B1⟩
end Go.Proofs.YtpbpfngichfgeaaDoor
