/-
 head.Encode by a contract, where all fits.
-/
import Derived.Test.YtpbpfngichfgeaaGreatDoorSeal
import Derived.Test.YtpbpfngichfgeaaGreatDoorOctR
import Derived.Deep.DeepCutAuto
import Derived.Deep.CutBlock
import Derived.Deep.LoopGhost
import Derived.Laws.MakeOwn
namespace Go.Proofs.YtpbpfngichfgeaaGreatDoor
set_option linter.unusedVariables false
set_option linter.unusedSimpArgs false
open Go Go.RowKit Go.Proofs.YtpbpfngichfgeaaGreatDoorW.PrintWords Go.Proofs.YtpbpfngichfgeaaGreatDoorW.PrintLast Go.Proofs.YtpbpfngichfgeaaGreatDoorW.PrintMore

noncomputable def encRest (n : Nat) : Code := dropC n (Tryz.f15.body.getD .skip)
def strI (s : ByteArray) : List Int := s.data.toList.map fun b => (b.toNat : Int)
theorem strI_length (s : ByteArray) : (strI s).length = s.size := by simp [strI]
theorem strI_enc (s : ByteArray) : encs (Value.int .u8) (strI s) = strVs s := by simp [encs, strI, strVs, Function.comp_def]
theorem splice_enc (H F : List Int) (off : Nat) : encs (Value.int .u8) (splice H off F) = splice (encs (Value.int .u8) H) off (encs (Value.int .u8) F) := by
 simp [splice, encs, List.map_take, List.map_drop]
/-- The memory of head.Encode: the header's box, the block. -/
structure EM (w wc : World) (hd : Array Value) (H : List Int) : Prop where
 b : Below w.heap.size w wc
 h : Blk wc w.heap.size 36 hd
 r : Blk wc (w.heap.size + 1) 5 (encs (Value.int .u8) H).toArray
 l : H.length = 512
theorem EM.next {w wc w' : World} {hd : Array Value} {H : List Int} (s : EM w wc hd H) (hb : Below wc.heap.size wc w') : EM w w' hd H := ⟨below_next s.b hb, s.h.below hb s.h.lt, s.r.below hb s.r.lt, s.l⟩
theorem EM.heads {w wc : World} {H : List Int} {h0 h1 h2 h3 h4 h5 h6 h7 h8 h9 h10 h11 : Value} (s : EM w wc #[h0, h1, h2, h3, h4, h5, h6, h7, h8, h9, h10, h11] H) : wc.cell? ⟨w.heap.size, 0, none⟩ = some h0 ∧ wc.cell? ⟨w.heap.size, 1, none⟩ = some h1 ∧ wc.cell? ⟨w.heap.size, 2, none⟩ = some h2 ∧ wc.cell? ⟨w.heap.size, 3, none⟩ = some h3 ∧ wc.cell? ⟨w.heap.size, 4, none⟩ = some h4 ∧ wc.cell? ⟨w.heap.size, 5, none⟩ = some h5 ∧ wc.cell? ⟨w.heap.size, 6, none⟩ = some h6 ∧ wc.cell? ⟨w.heap.size, 7, none⟩ = some h7 ∧ wc.cell? ⟨w.heap.size, 8, none⟩ = some h8 ∧ wc.cell? ⟨w.heap.size, 9, none⟩ = some h9 ∧ wc.cell? ⟨w.heap.size, 10, none⟩ = some h10 ∧ wc.cell? ⟨w.heap.size, 11, none⟩ = some h11 :=
 ⟨s.h.cell 0, s.h.cell 1, s.h.cell 2, s.h.cell 3, s.h.cell 4, s.h.cell 5, s.h.cell 6, s.h.cell 7, s.h.cell 8, s.h.cell 9, s.h.cell 10, s.h.cell 11⟩
/-- .. and a table of fields. -/
structure ET (w wc : World) (hd : Array Value) (H : List Int) (tb : Nat) (tt : TypeId) (tab : Array Value) : Prop extends EM w wc hd H where
 t : Blk wc tb tt tab
 n : w.heap.size + 1 < tb
theorem ET.next {w wc w' : World} {hd : Array Value} {H : List Int} {tb : Nat} {tt : TypeId} {tab : Array Value} (s : ET w wc hd H tb tt tab) (hb : Below wc.heap.size wc w') : ET w w' hd H tb tt tab := ⟨s.toEM.next hb, s.t.below hb s.t.lt, s.n⟩
/-- A copy into the block: what is known behind it. -/
theorem ET.copied {w wc w' : World} {hd : Array Value} {H F : List Int} {tb off : Nat} {tt : TypeId} {tab : Array Value} (s : ET w wc hd H tb tt tab) (hf : off + F.length ≤ 512)
  (hr : Hid (w'.heap[w.heap.size + 1]? = some (.cells (splice (encs (Value.int .u8) H) off (encs (Value.int .u8) F)).toArray 5 (0, 0)))) (ho : Hid (∀ k, k ≠ w.heap.size + 1 → w'.heap[k]? = wc.heap[k]?)) (hb0 : Below w.heap.size w w') : ET w w' hd (splice H off F) tb tt tab where
 b := hb0
 h := (ho.out _ (by omega)).trans s.h
 r := by unfold Blk; rw [splice_enc]; exact hr.out
 l := by rw [length_splice _ _ _ (by rw [s.l]; exact hf), s.l]
 t := (ho.out _ (by have := s.n; omega)).trans s.t
 n := s.n
theorem blk_of_below {W w1 : World} {cs : Array Value} {t : TypeId} (h : Below (W.alloc (.cells cs t)).heap.size (W.alloc (.cells cs t)) w1) : Blk w1 W.heap.size t cs := (Blk.new W t cs).below h (by simp)
theorem blk_cell3 {wc : World} {Z : Nat} {t : TypeId} {h0 h1 h2 : Value} (s : Blk wc Z t #[h0, h1, h2]) : wc.cell? ⟨Z, 0, none⟩ = some h0 ∧ wc.cell? ⟨Z, 1, none⟩ = some h1 ∧ wc.cell? ⟨Z, 2, none⟩ = some h2 := ⟨s.cell 0, s.cell 1, s.cell 2⟩
def tabFr (k : Nat) : Nat := [0, 157, 265, 297, 345].getD k 0
def tabTo (k : Nat) : Nat := [100, 257, 296, 328, 500].getD k 0
def tabS (name link pre user group : ByteArray) (k : Nat) : ByteArray := [name, link, user, group, pre].getD k ⟨#[]⟩
def textsH (name link pre user group : ByteArray) : Nat → List Int
 | 0 => List.replicate 512 0
 | k + 1 => splice (textsH name link pre user group k) (tabFr k) (strI (tabS name link pre user group k))
def numFr (k : Nat) : Nat := [100, 108, 116, 124, 136].getD k 0
def numWd (k : Nat) : Nat := [8, 8, 8, 12, 12].getD k 0
def numN (mode uid gid size mtime : Int) (k : Nat) : Int := [mode, uid, gid, size, mtime].getD k 0
def numsH (H0 : List Int) (mode uid gid size mtime : Int) : Nat → List Int
 | 0 => H0
 | k + 1 => splice (numsH H0 mode uid gid size mtime k) (numFr k) (octL (numN mode uid gid size mtime k) (numWd k))
def ustarI : List Int := [117, 115, 116, 97, 114, 0, 48, 48]
/-- A header without its sum. -/
def hdrH (name link pre user group : ByteArray) (typ mode uid gid size mtime : Int) : List Int := splice ((numsH (textsH name link pre user group 5) mode uid gid size mtime 5).set 156 typ) 257 ustarI
/-- A header's bytes. -/
def hdrL (name link pre user group : ByteArray) (typ mode uid gid size mtime : Int) : List Int :=
 sealL (hdrH name link pre user group typ mode uid gid size mtime) (octL (psum (hdrH name link pre user group typ mode uid gid size mtime) 512) 7)
/-- May a header be written? -/
structure HdrFits (name link pre user group : ByteArray) (typ mode uid gid size mtime : Int) : Prop where
 texts : ∀ k, k < 5 → POct.head_Fits.f (tabS name link pre user group k) ((tabTo k : Int) - (tabFr k : Int)) = some true
 nums : ∀ k, k < 5 → octFits (numN mode uid gid size mtime k) (numWd k)
 t0 : 0 ≤ typ
 t1 : typ < 256
theorem HdrFits.tsize {name link pre user group : ByteArray} {typ mode uid gid size mtime : Int} (h : HdrFits name link pre user group typ mode uid gid size mtime) (k : Nat) (hk : k < 5) : (tabS name link pre user group k).size ≤ tabTo k - tabFr k := by
 have hft := h.texts k hk
 unfold POct.head_Fits.f at hft
 split at hft
 ·omega
 ·simp at hft
theorem range_splice {H F : List Int} {off : Nat} (h : ∀ x ∈ H, 0 ≤ x ∧ x < 256) (hf : ∀ x ∈ F, 0 ≤ x ∧ x < 256) : ∀ x ∈ splice H off F, 0 ≤ x ∧ x < 256 := by
 intro x hx
 rcases List.mem_append.1 hx with h1 | h1
 ·exact h x (List.mem_of_mem_take h1)
 ·rcases List.mem_append.1 h1 with h2 | h2
  ·exact hf x h2
  ·exact h x (List.mem_of_mem_drop h2)
theorem range_strI (s : ByteArray) : ∀ x ∈ strI s, 0 ≤ x ∧ x < 256 := by
 intro x hx
 obtain ⟨b, _, rfl⟩ := List.mem_map.1 hx
 have := b.toNat_lt
 omega
theorem textsH_range (name link pre user group : ByteArray) : ∀ k, ∀ x ∈ textsH name link pre user group k, 0 ≤ x ∧ x < 256
 | 0 => by intro x hx; rw [List.eq_of_mem_replicate hx]; decide
 | k + 1 => range_splice (textsH_range name link pre user group k) (range_strI _)
theorem numsH_range {H0 : List Int} (h : ∀ x ∈ H0, 0 ≤ x ∧ x < 256) (mode uid gid size mtime : Int) : ∀ k, ∀ x ∈ numsH H0 mode uid gid size mtime k, 0 ≤ x ∧ x < 256
 | 0 => h
 | k + 1 => range_splice (numsH_range h mode uid gid size mtime k) (octL_range _ _)
theorem tab_bounds (k : Nat) (hk : k < 5) : tabFr k < tabTo k ∧ tabTo k ≤ 500 ∧ numFr k + numWd k ≤ 148 ∧ 2 ≤ numWd k ∧ numWd k ≤ 12 := by
 rcases (by omega : k = 0 ∨ k = 1 ∨ k = 2 ∨ k = 3 ∨ k = 4) with rfl | rfl | rfl | rfl | rfl <;> decide
theorem textsH_length {name link pre user group : ByteArray} (h : ∀ k, k < 5 → (tabS name link pre user group k).size ≤ tabTo k - tabFr k) : ∀ k, k ≤ 5 → (textsH name link pre user group k).length = 512
 | 0, _ => List.length_replicate
 | k + 1, hk => by
  have ih := textsH_length h k (by omega)
  have h1 := h k (by omega)
  have h2 := tab_bounds k (by omega)
  rw [textsH, length_splice _ _ _ (by rw [strI_length, ih]; omega), ih]
theorem numsH_length {H0 : List Int} (h : H0.length = 512) (mode uid gid size mtime : Int) : ∀ k, k ≤ 5 → (numsH H0 mode uid gid size mtime k).length = 512
 | 0, _ => h
 | k + 1, hk => by
  have ih := numsH_length h mode uid gid size mtime k (by omega)
  have h2 := tab_bounds k (by omega)
  rw [numsH, length_splice _ _ _ (by rw [octL_length _ (by omega), ih]; omega), ih]
theorem set_enc (H : List Int) (i : Nat) (x : Int) : (encs (Value.int .u8) H).toArray.setIfInBounds i (.int .u8 x) = (encs (Value.int .u8) (H.set i x)).toArray := by simp [encs]
theorem own_le {w : World} {base base' : Nat} {e : TypeId} {size n : Nat} {v : Value} {xs : List Value} (h : w.ownsRow base e size v n xs) (hb : base' ≤ base) : w.ownsRow base' e size v n xs := by
 refine ⟨h.1, ?_⟩
 rcases h.2 with hn | ⟨g, cap, cur, hv, hb2, rest⟩
 ·exact .inl hn
 ·exact .inr ⟨g, cap, cur, hv, Nat.le_trans hb hb2, rest⟩
theorem SealEnd.next {l : List Int} {w w1 w' : World} {e : Ending} (h : SealEnd l w1 e w') (hb : Below w.heap.size w w1) : SealEnd l w e w' := by
 obtain ⟨v, he, hr, hb2⟩ := h
 exact ⟨v, he, Kd.R_of_own (h1 := fun _ => rfl) (own_le (Kd.own_of_R hr) hb.size) (fun _ _ => trivial), below_next hb hb2⟩
theorem made_zero (n : Nat) : madeCells (Value.int .u8 0).cells n = (encs (Value.int .u8) (List.replicate n 0)).toArray := by
 apply Array.ext
 ·rw [size_madeCells]; simp [encs]
 ·intro i h1 h2
  have h3 : i % 1 = 0 := Nat.mod_one i
  simp [madeCells, encs, Value.cells, h3]
def tab1 (name link pre user group : ByteArray) : Array Value := #[.string name, .int .i64 0, .int .i64 100, .string link, .int .i64 157, .int .i64 257, .string user, .int .i64 265, .int .i64 296, .string group, .int .i64 297, .int .i64 328, .string pre, .int .i64 345, .int .i64 500]
set_option maxHeartbeats 8000000 in
set_option maxRecDepth 100000 in
theorem enc_s4 (w wc : World) (form : Int) (name link pre user group : ByteArray) (typ mode uid gid size mtime : Int) (u0 u2 u3 u5 u6 u7 u8 u9 u10 u11 u12 u13 u14 u15 u16 u17 u18 u19 u20 u21 u22 u23 u24 u25 u26 u27 u28 u29 u30 u31 u32 u33 u34 u35 u36 u37 u38 u39 u40 u41 u42 u43 u44 u45 u46 u47 u48 u49 u50 u51 u52 u53 u54 u55 u56 u57 u58 u59 u60 u61 u62 u63 u64 u65 u66 u67 u68 u69 u70 u71 u72 u73 u74 u75 u76 u77 u78 u79 u80 u81 u82 u83 u84 u85 u86 u87 u88 u89 u90 u91 u92 u93 u94 u95 u96 u97 u98 u99 : Value)
  (hfit : HdrFits name link pre user group typ mode uid gid size mtime)
  (S : EM w wc #[.int .i64 form, .string name, .string link, .string pre, .string user, .string group, .int .u8 typ, .int .i64 mode, .int .i64 uid, .int .i64 gid, .int .i64 size, .int .i64 mtime] (numsH (textsH name link pre user group 5) mode uid gid size mtime 5)) :
  Code.wp Tryz.prog (encRest 4) (bodyPost Tryz.prog Tryz.f15 (SealEnd (hdrL name link pre user group typ mode uid gid size mtime) w)) ⟨(u0 :: (.pointer (some ⟨w.heap.size, 0, none⟩)) :: u2 :: u3 :: (.slice (some ⟨w.heap.size + 1, 0, none⟩) 512 512) :: u5 :: u6 :: u7 :: u8 :: u9 :: u10 :: u11 :: u12 :: u13 :: u14 :: u15 :: u16 :: u17 :: u18 :: u19 :: u20 :: u21 :: u22 :: u23 :: u24 :: u25 :: u26 :: u27 :: u28 :: u29 :: u30 :: u31 :: u32 :: u33 :: u34 :: u35 :: u36 :: u37 :: u38 :: u39 :: u40 :: u41 :: u42 :: u43 :: u44 :: u45 :: u46 :: u47 :: u48 :: u49 :: u50 :: u51 :: u52 :: u53 :: u54 :: u55 :: u56 :: u57 :: u58 :: u59 :: u60 :: u61 :: u62 :: u63 :: u64 :: u65 :: u66 :: u67 :: u68 :: u69 :: u70 :: u71 :: u72 :: u73 :: u74 :: u75 :: u76 :: u77 :: u78 :: u79 :: u80 :: u81 :: u82 :: u83 :: u84 :: u85 :: u86 :: u87 :: u88 :: u89 :: u90 :: u91 :: u92 :: u93 :: u94 :: u95 :: u96 :: u97 :: u98 :: u99 :: []).toArray, []⟩ wc := by
 conv => arg 2; whnf
 have HF := Lib.hid hfit
 have HS := Aside0.mk S
 have hl5 : (numsH (textsH name link pre user group 5) mode uid gid size mtime 5).length = 512 := S.l
 obtain ⟨x0, x1, x2, x3, x4, x5, x6, x7, x8, x9, x10, x11⟩ := S.heads
 have c156 : wc.cell? ⟨w.heap.size + 1, 156, none⟩ = some (.int .u8 ((numsH (textsH name link pre user group 5) mode uid gid size mtime 5).getD 156 0)) := by
  have := S.r.cell 156
  rw [this]
  simp [encs, hl5]
 have f156 := S.r.frozen 156
 have HR5 := Lib.hid (numsH_range (textsH_range name link pre user group 5) mode uid gid size mtime 5)
 obtain ⟨H5, hH5⟩ : ∃ H5, numsH (textsH name link pre user group 5) mode uid gid size mtime 5 = H5 := ⟨_, rfl⟩
 have HDEF : Hid (hdrH name link pre user group typ mode uid gid size mtime = splice (H5.set 156 typ) 257 ustarI) := by show _ = _; unfold hdrH; rw [hH5]
 rw [hH5] at HS HR5 hl5 c156
 clear hfit S hH5
 go_upto_region 18 with (fail)
 have S1 : Aside0 (EM w (wc.setCell ⟨w.heap.size + 1, 156, none⟩ (.int .u8 typ)) #[.int .i64 form, .string name, .string link, .string pre, .string user, .string group, .int .u8 typ, .int .i64 mode, .int .i64 uid, .int .i64 gid, .int .i64 size, .int .i64 mtime] (H5.set 156 typ)) :=
  ⟨⟨HS.out.b.setCell (p := ⟨w.heap.size + 1, 156, none⟩) (Nat.le_succ _) _, HS.out.h.far (Nat.ne_of_lt (Nat.lt_succ_self _)) _, by rw [← set_enc]; exact HS.out.r.set_ 156 _, by rw [List.length_set]; exact hl5⟩⟩
 clear x0 x1 x2 x3 x4 x5 x6 x7 x8 x9 x10 x11 c156 f156 HS
 generalize wc.setCell ⟨w.heap.size + 1, 156, none⟩ (.int .u8 typ) = W1 at S1 ⊢
 have HR6 : Hid (∀ x ∈ hdrH name link pre user group typ mode uid gid size mtime, 0 ≤ x ∧ x < 256) := by
  show ∀ x ∈ _, _
  rw [HDEF.out]
  refine range_splice (fun x hx => ?_) (by decide)
  rcases List.mem_or_eq_of_mem_set hx with h | h
  ·exact HR5.out x h
  ·rw [h]; exact ⟨HF.out.t0, HF.out.t1⟩
 have hl6 : (hdrH name link pre user group typ mode uid gid size mtime).length = 512 := by
  rw [HDEF.out, length_splice _ _ _ (by rw [List.length_set, hl5]; decide), List.length_set, hl5]
 have hu8 : encs (Value.int .u8) ustarI = strVs ⟨#[117, 115, 116, 97, 114, 0, 48, 48]⟩ := rfl
 have HL6 := Lib.hid hl6
 have HU8 := Lib.hid hu8
 have HL5 := Lib.hid hl5
 clear hl6 hu8 hl5
 go_upto_region 19 with ((refine wpList_copy_str rfl (.tmp 94) (.const (.string ⟨#[117, 115, 116, 97, 114, 0, 48, 48]⟩)) _ _ rfl 5 Tryz.underlying32 (by kernel_rfl) _ _ _ ⟨#[117, 115, 116, 97, 114, 0, 48, 48]⟩ rfl rfl (w.heap.size + 1) 257 (encs (Value.int .u8) (H5.set 156 typ)) 5 S1.out.r rfl (by decide) (by rw [encs_length, S1.out.l]; decide) w.heap.size w S1.out.b (Nat.le_succ _) ?_); intro W2 hg2 ho2 hb2)
 have hr2 : Blk W2 (w.heap.size + 1) 5 (encs (Value.int .u8) (hdrH name link pre user group typ mode uid gid size mtime)).toArray := by
  rw [HDEF.out, splice_enc, HU8.out]; exact hg2.out
 obtain ⟨Z, hZ⟩ : ∃ Z, hdrH name link pre user group typ mode uid gid size mtime = Z := ⟨_, rfl⟩
 have HZ : Hid (hdrL name link pre user group typ mode uid gid size mtime = sealL Z (octL (psum Z 512) 7)) := by show _ = _; rw [hdrL, hZ]
 rw [hZ] at hr2 HR6 HL6
 have hps := psum_bound HR6.out 512
 have hp8 : psum Z 512 < (8 : Int) ^ (7 - 1) := by
  have e : (8 : Int) ^ (7 - 1) = 262144 := by decide
  rw [e]
  omega
 obtain ⟨kk, hkk⟩ := format_ok (psum Z 512) 7 (by decide) (by decide) ⟨by omega, hp8⟩ (by omega)
 have hC : Kd.C (Kd.int .u8) W2 (some ⟨w.heap.size + 1, 0, none⟩) Z.length Z := by
  refine ⟨rfl, by have := HL6.out; omega, fun _ => ⟨_, rfl, fun j p hp => ⟨[.int .u8 p], rfl, rfl, fun i u hu => ?_⟩⟩⟩
  rcases i with _ | i
  ·simp at hu
   subst hu
   have hj : j < Z.length := (List.getElem?_eq_some_iff.1 hp).1
   have := hr2.cell j
   have e : (Addr.add ⟨w.heap.size + 1, 0, none⟩ (j * 1 + 0)) = ⟨w.heap.size + 1, j, none⟩ := by unfold Addr.add; split <;> simp_all
   show W2.cell? (Addr.add ⟨w.heap.size + 1, 0, none⟩ (j * 1 + 0)) = _
   rw [e, this]
   simp [encs, hp]
  ·simp at hu
 have HCC := Lib.hid (seal_any (some ⟨w.heap.size + 1, 0, none⟩) 512 Z W2 hC HR6.out HL6.out kk _ hkk (octL_length _ (by decide)))
 have HCC2 := HCC.out
 rw [HL6.out] at HCC2
 clear HCC
 have HCC := Lib.hid HCC2
 clear HCC2 hC hkk hr2 hg2 ho2 hps hZ
 go_wp2_with (go_at_call 35; (with_reducible refine HCC.out.mono ?_); rintro e w3 ⟨v3, rfl, hr3, hb3⟩)
 go_ret2
 rw [HZ.out]
 exact SealEnd.next ⟨v3, rfl, hr3, hb3⟩ hb2.1
set_option maxHeartbeats 8000000 in
set_option maxRecDepth 100000 in
theorem enc_s3 (w wc : World) (form : Int) (name link pre user group : ByteArray) (typ mode uid gid size mtime : Int) (u0 u2 u3 u5 u6 u7 u8 u9 u10 u11 u12 u13 u14 u15 u16 u17 u18 u19 u20 u21 u22 u23 u24 u25 u26 u27 u28 u29 u30 u31 u32 u33 u34 u35 u36 u37 u38 u39 u40 u41 u42 u43 u44 u45 u46 u47 u48 u49 u50 u51 u52 u53 u54 u55 u56 u57 u58 u59 u60 u61 u62 u63 u64 u65 u66 u67 u68 u69 u70 u71 u72 u73 u74 u75 u76 u77 u78 u79 u80 u81 u82 u83 u84 u85 u86 u87 u88 u89 u90 u91 u92 u93 u94 u95 u96 u97 u98 u99 : Value)
  (hfit : HdrFits name link pre user group typ mode uid gid size mtime)
  (S : EM w wc #[.int .i64 form, .string name, .string link, .string pre, .string user, .string group, .int .u8 typ, .int .i64 mode, .int .i64 uid, .int .i64 gid, .int .i64 size, .int .i64 mtime] (textsH name link pre user group 5)) :
  Code.wp Tryz.prog (encRest 3) (bodyPost Tryz.prog Tryz.f15 (SealEnd (hdrL name link pre user group typ mode uid gid size mtime) w)) ⟨(u0 :: (.pointer (some ⟨w.heap.size, 0, none⟩)) :: u2 :: u3 :: (.slice (some ⟨w.heap.size + 1, 0, none⟩) 512 512) :: u5 :: u6 :: u7 :: u8 :: u9 :: u10 :: u11 :: u12 :: u13 :: u14 :: u15 :: u16 :: u17 :: u18 :: u19 :: u20 :: u21 :: u22 :: u23 :: u24 :: u25 :: u26 :: u27 :: u28 :: u29 :: u30 :: u31 :: u32 :: u33 :: u34 :: u35 :: u36 :: u37 :: u38 :: u39 :: u40 :: u41 :: u42 :: u43 :: u44 :: u45 :: u46 :: u47 :: u48 :: u49 :: u50 :: u51 :: u52 :: u53 :: u54 :: u55 :: u56 :: u57 :: u58 :: u59 :: u60 :: u61 :: u62 :: u63 :: u64 :: u65 :: u66 :: u67 :: u68 :: u69 :: u70 :: u71 :: u72 :: u73 :: u74 :: u75 :: u76 :: u77 :: u78 :: u79 :: u80 :: u81 :: u82 :: u83 :: u84 :: u85 :: u86 :: u87 :: u88 :: u89 :: u90 :: u91 :: u92 :: u93 :: u94 :: u95 :: u96 :: u97 :: u98 :: u99 :: []).toArray, []⟩ wc := by
 conv => arg 2; whnf
 have HF := Lib.hid hfit
 have HS := Aside0.mk S
 obtain ⟨x0, x1, x2, x3, x4, x5, x6, x7, x8, x9, x10, x11⟩ := S.heads
 clear hfit S
 go_upto_block 2 with (fail)
 have S1 : Aside0 (ET w (wc.alloc (.cells #[.int .i64 mode, .int .i64 100, .int .i64 8, .int .i64 uid, .int .i64 108, .int .i64 8, .int .i64 gid, .int .i64 116, .int .i64 8, .int .i64 size, .int .i64 124, .int .i64 12, .int .i64 mtime, .int .i64 136, .int .i64 12] 84)) #[.int .i64 form, .string name, .string link, .string pre, .string user, .string group, .int .u8 typ, .int .i64 mode, .int .i64 uid, .int .i64 gid, .int .i64 size, .int .i64 mtime] (numsH (textsH name link pre user group 5) mode uid gid size mtime 0) wc.heap.size 84 #[.int .i64 mode, .int .i64 100, .int .i64 8, .int .i64 uid, .int .i64 108, .int .i64 8, .int .i64 gid, .int .i64 116, .int .i64 8, .int .i64 size, .int .i64 124, .int .i64 12, .int .i64 mtime, .int .i64 136, .int .i64 12]) := ⟨⟨HS.out.next (below_alloc (Below.refl _ _) _), Blk.new _ _ _, HS.out.r.lt⟩⟩
 clear x0 x1 x2 x3 x4 x5 x6 x7 x8 x9 x10 x11
 obtain ⟨tb, htb⟩ : ∃ tb, wc.heap.size = tb := ⟨_, rfl⟩
 rw [htb] at S1 ⊢
 clear htb HS
 generalize wc.alloc _ = W1 at S1 ⊢
 go_cut [] (fun wc => Aside0 (EM w wc #[.int .i64 form, .string name, .string link, .string pre, .string user, .string group, .int .u8 typ, .int .i64 mode, .int .i64 uid, .int .i64 gid, .int .i64 size, .int .i64 mtime] (numsH (textsH name link pre user group 5) mode uid gid size mtime 5)))
 case first =>
  go_wp2_with fail
  go_loopw [67] (fun i wr => ∃ k : Nat, k ≤ 5 ∧ i = .int .i64 k ∧ Aside0 (ET w wr #[.int .i64 form, .string name, .string link, .string pre, .string user, .string group, .int .u8 typ, .int .i64 mode, .int .i64 uid, .int .i64 gid, .int .i64 size, .int .i64 mtime] (numsH (textsH name link pre user group 5) mode uid gid size mtime k) tb 84 #[.int .i64 mode, .int .i64 100, .int .i64 8, .int .i64 uid, .int .i64 108, .int .i64 8, .int .i64 gid, .int .i64 116, .int .i64 8, .int .i64 size, .int .i64 124, .int .i64 12, .int .i64 mtime, .int .i64 136, .int .i64 12])) (fun i _ => 5 - (intOf i).toNat)
  case atStart => exact ⟨0, by omega, rfl, S1⟩
  case round =>
   clear S1
   obtain ⟨k, hk, rfl, SK⟩ := hrel
   by_cases hlt : k < 5
   ·have hc : ∃ (n : Int) (a b : Nat), numN mode uid gid size mtime k = n ∧ numFr k = a ∧ numWd k = b ∧ wr.cell? ⟨tb, k * 3, none⟩ = some (.int .i64 n) ∧ wr.cell? ⟨tb, k * 3 + 1, none⟩ = some (.int .i64 a) ∧ wr.cell? ⟨tb, k * 3 + 2, none⟩ = some (.int .i64 b) := by
     have q := fun i => SK.out.t.cell i
     rcases (by omega : k = 0 ∨ k = 1 ∨ k = 2 ∨ k = 3 ∨ k = 4) with rfl | rfl | rfl | rfl | rfl
     ·exact ⟨_, _, _, rfl, rfl, rfl, q 0, q 1, q 2⟩
     ·exact ⟨_, _, _, rfl, rfl, rfl, q 3, q 4, q 5⟩
     ·exact ⟨_, _, _, rfl, rfl, rfl, q 6, q 7, q 8⟩
     ·exact ⟨_, _, _, rfl, rfl, rfl, q 9, q 10, q 11⟩
     ·exact ⟨_, _, _, rfl, rfl, rfl, q 12, q 13, q 14⟩
    obtain ⟨n, a, b, hs, ha, hb, c0, c1, c2⟩ := hc
    have hft := HF.out.nums k hlt
    have htb := tab_bounds k hlt
    rw [hs, hb] at hft
    rw [ha, hb] at htb
    obtain ⟨_, _, hab, hb2, hb12⟩ := htb
    have HT : Hid (numsH (textsH name link pre user group 5) mode uid gid size mtime (k + 1) = splice (numsH (textsH name link pre user group 5) mode uid gid size mtime k) a (octL n b)) := by show _ = _; rw [numsH, hs, ha, hb]
    have hn63 : n ≤ 9223372036854775807 := by
     have h1 := hft.2
     have h2 : ∀ d : Nat, d ≤ 11 → (8 : Int) ^ d ≤ 8589934592 := by decide
     have h3 := h2 (b - 1) (by omega)
     omega
    obtain ⟨kk, hkk⟩ := format_ok n b hb2 (by omega) hft hn63
    have HKK := Lib.hid hkk
    obtain ⟨F, hF⟩ : ∃ F, octL n b = F := ⟨_, rfl⟩
    have hFl : F.length = b := by rw [← hF]; exact octL_length n (by omega)
    rw [hF] at HKK HT
    have HFL := Lib.hid hFl
    clear hs ha hb hft hkk hF hFl hn63
    go_upto_region 15 with (go_at_call 34; (with_reducible refine (POct.octal_Format.calls kk n b F 0 _ HKK.out).mono ?_); rintro e w' ⟨vf, rfl, hRf, hbf⟩)
    obtain ⟨d0, d1, d2⟩ := blk_cell3 (blk_of_below hbf)
    have SW : Aside0 (ET w w' #[.int .i64 form, .string name, .string link, .string pre, .string user, .string group, .int .u8 typ, .int .i64 mode, .int .i64 uid, .int .i64 gid, .int .i64 size, .int .i64 mtime] (numsH (textsH name link pre user group 5) mode uid gid size mtime k) tb 84 #[.int .i64 mode, .int .i64 100, .int .i64 8, .int .i64 uid, .int .i64 108, .int .i64 8, .int .i64 gid, .int .i64 116, .int .i64 8, .int .i64 size, .int .i64 124, .int .i64 12, .int .i64 mtime, .int .i64 136, .int .i64 12]) := ⟨(SK.out.next (below_alloc (Below.refl _ _) _)).next hbf⟩
    obtain ⟨Af, cf, rfl, hcf, hCf⟩ := Kd.R_reads hRf
    have hlF := HFL.out
    obtain ⟨adf, rfl, _⟩ := Kd.at_int hCf 0 (by omega) (by omega)
    have hsrc : ∀ j v, (encs (Value.int .u8) F)[j]? = some v → w'.cell? (adf.add j) = some v := by
     intro j v hv
     have hj : j < F.length := by have := (List.getElem?_eq_some_iff.1 hv).1; rwa [encs_length] at this
     obtain ⟨ad', e', hc⟩ := Kd.at_int hCf j (by omega) (by omega)
     cases e'
     simp only [Int.toNat_natCast] at hc
     rw [hc]
     simp only [encs, List.getElem?_map, List.getElem?_eq_getElem hj, Option.map_some] at hv
     rw [← hv]
     simp [rd, hj]
    have HSRC := Lib.hid hsrc
    rw [hlF] at hcf ⊢
    have hbn : wr.heap.size ≠ w.heap.size + 1 := by have := SK.out.r.lt; omega
    clear hbf c0 c1 c2 SK hRf hCf hsrc hlF
    obtain ⟨bf, hbf⟩ : ∃ bf, wr.heap.size = bf := ⟨_, rfl⟩
    rw [hbf] at d0 d1 d2 hbn ⊢
    clear hbf
    have n1 : (a : Int) ≤ 512 := by omega
    have n2 : ¬ a = 512 := by omega
    have n3 : ¬ 512 = a := by omega
    have n4 : a ≤ 512 := by omega
    have hfit : a + F.length ≤ 512 := by have := HFL.out; omega
    have hmin : F.length = Nat.min b (512 - a) := by have := HFL.out; show _ = min b (512 - a); omega
    have HMIN := Lib.hid hmin
    have HFIT := Lib.hid hfit
    clear hmin hfit
    go_wp2_with ((refine wpList_copy_sl rfl (.tmp 85) (.tmp 86) _ _ rfl 5 Tryz.underlying32 (by kernel_rfl) _ adf _ _ _ _ rfl rfl (w.heap.size + 1) a (encs (Value.int .u8) (numsH (textsH name link pre user group 5) mode uid gid size mtime k)) 5 SW.out.r rfl (encs (Value.int .u8) F) (by rw [encs_length]; exact HMIN.out) HSRC.out (by rw [encs_length, encs_length, SW.out.l]; exact HFIT.out) (by intro v hv; obtain ⟨x, _, rfl⟩ := List.mem_map.1 hv; rfl) w.heap.size w SW.out.b (Nat.le_succ _) ?_); intro w5 hg5 ho5 hb5)
    go_roundw
    case rel => exact ⟨k + 1, by omega, by go_num, ⟨by rw [HT.out]; exact SW.out.copied HFIT.out hg5 ho5 hb5.1⟩⟩
    case measure => simp [intOf]; omega
   ·obtain rfl : k = 5 := by omega
    go_wp2
    go_meet
    case rel => exact ⟨SK.out.toEM⟩
 case rest =>
  clear S1
  go_step
  exact enc_s4 w _ form name link pre user group typ mode uid gid size mtime _ _ _ _ _ _ _ _ _ _ _ _ _ _ _ _ _ _ _ _ _ _ _ _ _ _ _ _ _ _ _ _ _ _ _ _ _ _ _ _ _ _ _ _ _ _ _ _ _ _ _ _ _ _ _ _ _ _ _ _ _ _ _ _ _ _ _ _ _ _ _ _ _ _ _ _ _ _ _ _ _ _ _ _ _ _ _ _ _ _ _ _ _ _ _ _ _ _ HF.out hcut.out
set_option maxHeartbeats 8000000 in
set_option maxRecDepth 100000 in
theorem enc_s2 (w wc : World) (form : Int) (name link pre user group : ByteArray) (typ mode uid gid size mtime : Int) (u0 u2 u3 u5 u6 u7 u8 u9 u10 u11 u12 u13 u14 u15 u16 u17 u18 u19 u20 u21 u22 u23 u24 u25 u26 u27 u28 u29 u30 u31 u32 u33 u34 u35 u36 u37 u38 u39 u40 u41 u42 u43 u44 u45 u46 u47 u48 u49 u50 u51 u52 u53 u54 u55 u56 u57 u58 u59 u60 u61 u62 u63 u64 u65 u66 u67 u68 u69 u70 u71 u72 u73 u74 u75 u76 u77 u78 u79 u80 u81 u82 u83 u84 u85 u86 u87 u88 u89 u90 u91 u92 u93 u94 u95 u96 u97 u98 u99 : Value)
  (hfit : HdrFits name link pre user group typ mode uid gid size mtime)
  (S : EM w wc #[.int .i64 form, .string name, .string link, .string pre, .string user, .string group, .int .u8 typ, .int .i64 mode, .int .i64 uid, .int .i64 gid, .int .i64 size, .int .i64 mtime] (textsH name link pre user group 0)) :
  Code.wp Tryz.prog (encRest 2) (bodyPost Tryz.prog Tryz.f15 (SealEnd (hdrL name link pre user group typ mode uid gid size mtime) w)) ⟨(u0 :: (.pointer (some ⟨w.heap.size, 0, none⟩)) :: u2 :: u3 :: (.slice (some ⟨w.heap.size + 1, 0, none⟩) 512 512) :: u5 :: u6 :: u7 :: u8 :: u9 :: u10 :: u11 :: u12 :: u13 :: u14 :: u15 :: u16 :: u17 :: u18 :: u19 :: u20 :: u21 :: u22 :: u23 :: u24 :: u25 :: u26 :: u27 :: u28 :: u29 :: u30 :: u31 :: u32 :: u33 :: u34 :: u35 :: u36 :: u37 :: u38 :: u39 :: u40 :: u41 :: u42 :: u43 :: u44 :: u45 :: u46 :: u47 :: u48 :: u49 :: u50 :: u51 :: u52 :: u53 :: u54 :: u55 :: u56 :: u57 :: u58 :: u59 :: u60 :: u61 :: u62 :: u63 :: u64 :: u65 :: u66 :: u67 :: u68 :: u69 :: u70 :: u71 :: u72 :: u73 :: u74 :: u75 :: u76 :: u77 :: u78 :: u79 :: u80 :: u81 :: u82 :: u83 :: u84 :: u85 :: u86 :: u87 :: u88 :: u89 :: u90 :: u91 :: u92 :: u93 :: u94 :: u95 :: u96 :: u97 :: u98 :: u99 :: []).toArray, []⟩ wc := by
 conv => arg 2; whnf
 have HF := Lib.hid hfit
 have HS := Aside0.mk S
 obtain ⟨x0, x1, x2, x3, x4, x5, x6, x7, x8, x9, x10, x11⟩ := S.heads
 clear hfit S
 go_upto_block 0 with (fail)
 have S1 : Aside0 (ET w (wc.alloc (.cells (tab1 name link pre user group) 81)) #[.int .i64 form, .string name, .string link, .string pre, .string user, .string group, .int .u8 typ, .int .i64 mode, .int .i64 uid, .int .i64 gid, .int .i64 size, .int .i64 mtime] (textsH name link pre user group 0) wc.heap.size 81 (tab1 name link pre user group)) := ⟨⟨HS.out.next (below_alloc (Below.refl _ _) _), Blk.new _ _ _, HS.out.r.lt⟩⟩
 unfold tab1 at S1
 clear x0 x1 x2 x3 x4 x5 x6 x7 x8 x9 x10 x11
 obtain ⟨tb, htb⟩ : ∃ tb, wc.heap.size = tb := ⟨_, rfl⟩
 rw [htb] at S1 ⊢
 clear htb HS
 generalize wc.alloc _ = W1 at S1 ⊢
 go_cut [] (fun wc => Aside0 (EM w wc #[.int .i64 form, .string name, .string link, .string pre, .string user, .string group, .int .u8 typ, .int .i64 mode, .int .i64 uid, .int .i64 gid, .int .i64 size, .int .i64 mtime] (textsH name link pre user group 5)))
 case first =>
  go_wp2_with fail
  go_loopw [29] (fun i wr => ∃ k : Nat, k ≤ 5 ∧ i = .int .i64 k ∧ Aside0 (ET w wr #[.int .i64 form, .string name, .string link, .string pre, .string user, .string group, .int .u8 typ, .int .i64 mode, .int .i64 uid, .int .i64 gid, .int .i64 size, .int .i64 mtime] (textsH name link pre user group k) tb 81 #[.string name, .int .i64 0, .int .i64 100, .string link, .int .i64 157, .int .i64 257, .string user, .int .i64 265, .int .i64 296, .string group, .int .i64 297, .int .i64 328, .string pre, .int .i64 345, .int .i64 500])) (fun i _ => 5 - (intOf i).toNat)
  case atStart => exact ⟨0, by omega, rfl, S1⟩
  case round =>
   clear S1
   obtain ⟨k, hk, rfl, SK⟩ := hrel
   by_cases hlt : k < 5
   ·have hc : ∃ (s : ByteArray) (a b : Nat), tabS name link pre user group k = s ∧ tabFr k = a ∧ tabTo k = b ∧ a < b ∧ b ≤ 500 ∧ wr.cell? ⟨tb, k * 3, none⟩ = some (.string s) ∧ wr.cell? ⟨tb, k * 3 + 1, none⟩ = some (.int .i64 a) ∧ wr.cell? ⟨tb, k * 3 + 2, none⟩ = some (.int .i64 b) := by
     have q := fun i => SK.out.t.cell i
     rcases (by omega : k = 0 ∨ k = 1 ∨ k = 2 ∨ k = 3 ∨ k = 4) with rfl | rfl | rfl | rfl | rfl
     ·exact ⟨_, _, _, rfl, rfl, rfl, by decide, by decide, q 0, q 1, q 2⟩
     ·exact ⟨_, _, _, rfl, rfl, rfl, by decide, by decide, q 3, q 4, q 5⟩
     ·exact ⟨_, _, _, rfl, rfl, rfl, by decide, by decide, q 6, q 7, q 8⟩
     ·exact ⟨_, _, _, rfl, rfl, rfl, by decide, by decide, q 9, q 10, q 11⟩
     ·exact ⟨_, _, _, rfl, rfl, rfl, by decide, by decide, q 12, q 13, q 14⟩
    obtain ⟨s, a, b, hs, ha, hb, hab, hb5, c0, c1, c2⟩ := hc
    have hft := HF.out.texts k hlt
    rw [hs, ha, hb] at hft
    have HT : Hid (textsH name link pre user group (k + 1) = splice (textsH name link pre user group k) a (strI s)) := by show _ = _; rw [textsH, hs, ha]
    have hss : s.size ≤ b - a := by
     unfold POct.head_Fits.f at hft
     split at hft
     ·omega
     ·simp at hft
    have HFT := Lib.hid hft
    clear hs ha hb hft
    go_wp2_with (go_at_call 33; (with_reducible refine (POct.head_Fits.calls s ((b : Int) - (a : Int)) true _ HFT.out).mono ?_); rintro e w' ⟨rfl, hbf⟩)
    obtain ⟨d0, d1, d2⟩ := blk_cell3 (blk_of_below hbf)
    have SW : Aside0 (ET w w' #[.int .i64 form, .string name, .string link, .string pre, .string user, .string group, .int .u8 typ, .int .i64 mode, .int .i64 uid, .int .i64 gid, .int .i64 size, .int .i64 mtime] (textsH name link pre user group k) tb 81 #[.string name, .int .i64 0, .int .i64 100, .string link, .int .i64 157, .int .i64 257, .string user, .int .i64 265, .int .i64 296, .string group, .int .i64 297, .int .i64 328, .string pre, .int .i64 345, .int .i64 500]) := ⟨(SK.out.next (below_alloc (Below.refl _ _) _)).next hbf⟩
    have hbn : wr.heap.size ≠ w.heap.size + 1 := by have := SK.out.r.lt; omega
    clear hbf c0 c1 c2 SK
    obtain ⟨bf, hbf⟩ : ∃ bf, wr.heap.size = bf := ⟨_, rfl⟩
    rw [hbf] at d0 d1 d2 hbn ⊢
    clear hbf
    have HCW : Hid (∀ w5 : World, Hid (∀ k, k ≠ w.heap.size + 1 → w5.heap[k]? = w'.heap[k]?) → w5.cell? ⟨bf, 0, none⟩ = some (.string s) ∧ w5.cell? ⟨bf, 1, none⟩ = some (.int .i64 a)) := fun w5 h5 =>
     ⟨(World.cell?_of_block (h5.out bf hbn)).trans d0, (World.cell?_of_block (h5.out bf hbn)).trans d1⟩
    have n1 : (a : Int) ≤ 512 := by omega
    have n2 : ¬ a = 512 := by omega
    have n3 : ¬ 512 = a := by omega
    have n4 : a ≤ 512 := by omega
    have hfit : a + s.size ≤ 512 := by omega
    have hsd : s.size ≤ 512 - a := by omega
    go_region_held3 (fun w'' => w''.cell? ⟨bf, 0, none⟩ = some (.string s) ∧ w''.cell? ⟨bf, 1, none⟩ = some (.int .i64 a)) (first | exact ⟨d0, d1⟩ | exact HCW.out _ ho5) ((refine step_copy_str (by rfl) (.tmp 45) (.tmp 47) _ _ (by rfl) 5 Tryz.underlying32 (by kernel_rfl) _ _ _ s (by rfl) (by rfl) (w.heap.size + 1) a (encs (Value.int .u8) (textsH name link pre user group k)) 5 SW.out.r (by rfl) hsd (by rw [encs_length, SW.out.l]; exact hfit) w.heap.size w SW.out.b.drew (Nat.le_succ _) ?_; intro w5 hg5 ho5 hb5))
    go_wp2
    go_roundw
    case rel => exact ⟨k + 1, by omega, by go_num, ⟨by rw [HT.out]; exact SW.out.copied (by rw [strI_length]; exact hfit) (by rw [strI_enc]; exact hg5) ho5 hb5.1⟩⟩
    case measure => simp [intOf]; omega
   ·obtain rfl : k = 5 := by omega
    go_wp2
    go_meet
    case rel => exact ⟨SK.out.toEM⟩
 case rest =>
  clear S1
  go_step
  exact enc_s3 w _ form name link pre user group typ mode uid gid size mtime _ _ _ _ _ _ _ _ _ _ _ _ _ _ _ _ _ _ _ _ _ _ _ _ _ _ _ _ _ _ _ _ _ _ _ _ _ _ _ _ _ _ _ _ _ _ _ _ _ _ _ _ _ _ _ _ _ _ _ _ _ _ _ _ _ _ _ _ _ _ _ _ _ _ _ _ _ _ _ _ _ _ _ _ _ _ _ _ _ _ _ _ _ _ _ _ _ _ HF.out hcut.out
set_option maxHeartbeats 8000000 in
set_option maxRecDepth 100000 in
theorem head_any (form : Int) (name link pre user group : ByteArray) (typ mode uid gid size mtime : Int) (w : World) (hfit : HdrFits name link pre user group typ mode uid gid size mtime) :
  Calls Tryz.prog 15 #[.agg #[.int .i64 form, .string name, .string link, .string pre, .string user, .string group, .int .u8 typ, .int .i64 mode, .int .i64 uid, .int .i64 gid, .int .i64 size, .int .i64 mtime]] w (SealEnd (hdrL name link pre user group typ mode uid gid size mtime) w) := by
 have HF := Lib.hid hfit
 obtain ⟨i0, hi, hz0, hz1, hz2⟩ := info_parts infoB
 have hrun0 := run_make (P := Tryz.prog) (w.alloc (.cells #[.int .i64 form, .string name, .string link, .string pre, .string user, .string group, .int .u8 typ, .int .i64 mode, .int .i64 uid, .int .i64 gid, .int .i64 size, .int .i64 mtime] 36)) 32 5 i0 (.int .u8 0) Tryz.underlying32 hi hz0 .i64 .i64 512 512 (by decide) (by decide) (by rw [hz2]; decide) (by decide)
 have e0 : madeCells (Value.int .u8 0).cells ((512 : Int).toNat * i0.size) = (encs (Value.int .u8) (textsH name link pre user group 0)).toArray := by
  rw [hz1]
  exact made_zero _
 rw [e0] at hrun0
 obtain ⟨W1, hW1⟩ : ∃ W1, (w.alloc (.cells #[.int .i64 form, .string name, .string link, .string pre, .string user, .string group, .int .u8 typ, .int .i64 mode, .int .i64 uid, .int .i64 gid, .int .i64 size, .int .i64 mtime] 36)).alloc (.cells (encs (Value.int .u8) (textsH name link pre user group 0)).toArray 5) = W1 := ⟨_, rfl⟩
 have S0 : Aside0 (EM w W1 #[.int .i64 form, .string name, .string link, .string pre, .string user, .string group, .int .u8 typ, .int .i64 mode, .int .i64 uid, .int .i64 gid, .int .i64 size, .int .i64 mtime] (textsH name link pre user group 0)) := by
  rw [← hW1]
  refine ⟨⟨below_alloc (below_alloc (Below.refl _ _) _) _, (Blk.new w _ _).alloc _, ?_, List.length_replicate⟩⟩
  simpa using Blk.new (w.alloc (.cells #[.int .i64 form, .string name, .string link, .string pre, .string user, .string group, .int .u8 typ, .int .i64 mode, .int .i64 uid, .int .i64 gid, .int .i64 size, .int .i64 mtime] 36)) 5 (encs (Value.int .u8) (textsH name link pre user group 0)).toArray
 rw [hW1] at hrun0
 have hrun : (Instr.makeSlice 32 (.int .i64 512) (.int .i64 512)).run Tryz.prog (w.alloc (.cells #[.int .i64 form, .string name, .string link, .string pre, .string user, .string group, .int .u8 typ, .int .i64 mode, .int .i64 uid, .int .i64 gid, .int .i64 size, .int .i64 mtime] 36)) = .ok (.slice (some ⟨w.heap.size + 1, 0, none⟩) 512 512) W1 := by simpa using hrun0
 clear hrun0 e0 hW1 hi hz0 hz1 hz2
 clear hfit
 go_enter Tryz.func15, Tryz.ntmps15
 go_upto_region 1 with (fail)
 go_cut [4] (fun v4 wc => v4 = .slice (some ⟨w.heap.size + 1, 0, none⟩) 512 512 ∧ Aside0 (EM w wc #[.int .i64 form, .string name, .string link, .string pre, .string user, .string group, .int .u8 typ, .int .i64 mode, .int .i64 uid, .int .i64 gid, .int .i64 size, .int .i64 mtime] (textsH name link pre user group 0)))
 case first =>
  go_wp2
  go_meet
  case rel => exact ⟨rfl, S0⟩
 case rest =>
  obtain ⟨rfl, S⟩ := hcut
  go_step
  exact enc_s2 w _ form name link pre user group typ mode uid gid size mtime _ _ _ _ _ _ _ _ _ _ _ _ _ _ _ _ _ _ _ _ _ _ _ _ _ _ _ _ _ _ _ _ _ _ _ _ _ _ _ _ _ _ _ _ _ _ _ _ _ _ _ _ _ _ _ _ _ _ _ _ _ _ _ _ _ _ _ _ _ _ _ _ _ _ _ _ _ _ _ _ _ _ _ _ _ _ _ _ _ _ _ _ _ _ _ _ _ _ HF.out S.out
end Go.Proofs.YtpbpfngichfgeaaGreatDoor
