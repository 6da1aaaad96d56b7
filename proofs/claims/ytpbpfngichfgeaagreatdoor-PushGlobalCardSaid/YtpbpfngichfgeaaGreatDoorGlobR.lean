/-
  Several texts in one: YtpbpfngichfgeaaGreatDoorPaxP1, YtpbpfngichfgeaaGreatDoorGlobP.
-/
import Derived.Test.YtpbpfngichfgeaaGreatDoorPaxes
import Derived.Test.YtpbpfngichfgeaaGreatDoorFedA
import Derived.Test.YtpbpfngichfgeaaGreatDoorPushEL
namespace Go.Proofs.YtpbpfngichfgeaaGreatDoor
set_option linter.unusedVariables false
set_option linter.unusedSimpArgs false

/-- The record at the beginning of what was written. -/
theorem one_rec (k v : ByteArray) (rest : List UInt8) (s : ByteArray) (hs : s.data.toList = (recT k v).data.toList ++ rest) (h : chkOf k v = 0) : oneOf s = (k, v, ⟨rest.toArray⟩, 0) := by
  obtain ⟨h1, h2, h3⟩ := chk_zero h
  obtain ⟨n, hn⟩ : ∃ n, n = k.size + v.size + 3 := ⟨_, rfl⟩
  have hf := lenFacts (n := n) (by omega)
  have hL := lenOf_nat k v
  rw [← hn] at hL
  rw [recT_list k v n hn] at hs
  obtain ⟨L, hLL⟩ : ∃ L, lenN n = L := ⟨_, rfl⟩
  rw [hLL] at hf hL hs
  obtain ⟨len, atoi, dig, le, pos, val⟩ := hf
  obtain ⟨t, ht⟩ : ∃ t, Lib.itoa (L : Int) = t := ⟨_, rfl⟩
  rw [ht] at len atoi dig le pos hs
  have hs1 : s.data.toList = t ++ 32 :: (k.data.toList ++ 61 :: (v.data.toList ++ 10 :: rest)) := by rw [hs]; simp
  have hd32 : ∀ b ∈ t, b ≠ 32 := fun b hb he => by have := dig b hb; rw [he] at this; simp at this
  have hc : Lib.cut s.data.toList [32] = (t, k.data.toList ++ 61 :: (v.data.toList ++ 10 :: rest), true) := by rw [hs1]; exact cut_at hd32
  have hsz : s.size = t.length + 1 + k.size + 1 + v.size + 1 + rest.length := by
    rw [Lib.size_eq s, hs1]
    simp only [List.length_append, List.length_cons]
    have := Lib.size_eq k
    have := Lib.size_eq v
    omega
  unfold oneOf
  simp only [hc]
  rw [if_neg (by decide), if_neg (by omega)]
  simp only [atoi]
  rw [if_neg (fun h => h ht), if_neg (by omega), if_neg (by omega)]
  have e1 : (L : Int).toNat = L := by omega
  have e2 : ((L : Int) - 1).toNat = L - 1 := by omega
  have hx : s.data.toList.getD ((L : Int) - 1).toNat 0 = 10 := by
    rw [e2, hs1]
    have : L - 1 = (t ++ 32 :: (k.data.toList ++ 61 :: v.data.toList)).length := by
      simp only [List.length_append, List.length_cons]
      have := Lib.size_eq k
      have := Lib.size_eq v
      omega
    rw [this]
    have e : t ++ 32 :: (k.data.toList ++ 61 :: (v.data.toList ++ 10 :: rest)) = (t ++ 32 :: (k.data.toList ++ 61 :: v.data.toList)) ++ 10 :: rest := by simp
    rw [e]
    simp
  rw [if_neg (fun h => h hx)]
  have hkv : (s.extract (t.length + 1) ((L : Int).toNat - 1)).data.toList = k.data.toList ++ 61 :: v.data.toList := by
    rw [e1]
    simp only [ByteArray.data_extract, Array.toList_extract, hs1, List.extract_eq_take_drop]
    have e : t ++ 32 :: (k.data.toList ++ 61 :: (v.data.toList ++ 10 :: rest)) = (t ++ [32]) ++ ((k.data.toList ++ 61 :: v.data.toList) ++ 10 :: rest) := by simp
    have hl : (k.data.toList ++ 61 :: v.data.toList).length = L - 1 - (t.length + 1) := by
      simp only [List.length_append, List.length_cons]
      have := Lib.size_eq k
      have := Lib.size_eq v
      omega
    rw [e, List.drop_left' (by simp), List.take_left' hl]
  rw [hkv]
  have hc2 : Lib.cut (k.data.toList ++ 61 :: v.data.toList) [61] = (k.data.toList, v.data.toList, true) := cut_at fun b hb => (badKey_not h2 b hb).1
  simp only [hc2]
  rw [if_neg (by decide)]
  have hk : (⟨k.data.toList.toArray⟩ : ByteArray) = k := bytes_ext rfl
  have hv : (⟨v.data.toList.toArray⟩ : ByteArray) = v := bytes_ext rfl
  rw [hk, hv, if_neg (fun h => h hL), if_neg (fun h' => h' h)]
  congr 2
  have hr : s.extract (L : Int).toNat s.size = ⟨rest.toArray⟩ := by
    apply bytes_ext
    rw [e1]
    simp only [ByteArray.data_extract, Array.toList_extract, hs1, List.extract_eq_take_drop]
    have e : t ++ 32 :: (k.data.toList ++ 61 :: (v.data.toList ++ 10 :: rest)) = (t ++ 32 :: (k.data.toList ++ 61 :: (v.data.toList ++ [10]))) ++ rest := by simp
    have hl : (t ++ 32 :: (k.data.toList ++ 61 :: (v.data.toList ++ [10]))).length = L := by
      simp only [List.length_append, List.length_cons, List.length_nil]
      have := Lib.size_eq k
      have := Lib.size_eq v
      omega
    rw [e, List.drop_left' hl]
    exact List.take_of_length_le (by omega)
  rw [hr]
end Go.Proofs.YtpbpfngichfgeaaGreatDoor

namespace Go.Proofs.YtpbpfngichfgeaaGreatDoor
set_option linter.unusedVariables false
set_option linter.unusedSimpArgs false
open Go Go.RowKit Go.Proofs.YtpbpfngichfgeaaGreatDoorW.PrintWords Go.Proofs.YtpbpfngichfgeaaGreatDoorW.PrintLast Go.Proofs.YtpbpfngichfgeaaGreatDoorW.PrintMore

abbrev uname : ByteArray := ⟨#[117, 110, 97, 109, 101]⟩
def gBody (v : ByteArray) : List Int := (recT uname v).data.toList.map fun b => (b.toNat : Int)
theorem uname_chk (v : ByteArray) (h : v.size ≤ 100) : chkOf uname v = 0 := by
  unfold chkOf
  rw [if_neg (by decide), if_neg (by decide), if_neg (by show ¬ 4096 < 5 + v.size; omega)]
theorem strOfNums_bytes (s : ByteArray) : strOfNums (s.data.toList.map fun b => (b.toNat : Int)) = s := by
  unfold strOfNums
  apply ByteArray.ext
  show List.toArray _ = _
  rw [List.map_map]
  have : (s.data.toList.map ((fun x : Int => UInt8.ofNat x.toNat) ∘ fun b : UInt8 => (b.toNat : Int))) = s.data.toList := by
    conv => rhs; rw [← List.map_id s.data.toList]
    apply List.map_congr_left
    intro x _
    simp
  first
    | rw [this]
    | (simp; done)
theorem gBody_pax (v : ByteArray) (h : v.size ≤ 100) : paxV (gBody v) = ([(uname, v)], 0) := by
  have hs : strOfNums (gBody v) = recT uname v := strOfNums_bytes _
  have h1 := one_rec uname v [] (recT uname v) (by simp) (uname_chk v h)
  have hne : recT uname v ≠ ⟨#[]⟩ := by
    intro e
    have := recT_list uname v (uname.size + v.size + 3) rfl
    rw [e] at this
    have := congrArg List.length this
    simp at this
  obtain ⟨k, hk⟩ : ∃ k, (gBody v).length + 1 = k + 2 := ⟨(gBody v).length - 1, by
    have : 0 < (gBody v).length := by
      unfold gBody
      rw [List.length_map, recT_list uname v (uname.size + v.size + 3) rfl]
      simp only [List.length_append, List.length_cons]
      omega
    omega⟩
  unfold paxV
  rw [hk, hs, paxL, if_neg hne, if_neg (by decide), h1]
  simp only
  rw [if_neg (by decide)]
  show paxL (k + 1) ⟨#[]⟩ [(uname, v)] = _
  rw [paxL, if_pos rfl]
theorem gBody_len (v : ByteArray) (h : v.size ≤ 100) : 0 < (gBody v).length ∧ (gBody v).length ≤ 200 := by
  have hf := lenFacts (n := uname.size + v.size + 3) (by show 5 + v.size + 3 < 4100; omega)
  have e : (gBody v).length = lenN (uname.size + v.size + 3) := by
    unfold gBody
    rw [List.length_map, recT_list uname v (uname.size + v.size + 3) rfl]
    have h1 := hf.len
    have h2 : uname.data.toList.length = 5 := rfl
    have h3 := data_length v
    have h5 : uname.size = 5 := rfl
    rw [h5] at h1 ⊢
    simp only [List.length_append, List.length_cons, List.length_nil]
    omega
  have h1 := hf.len
  have h2 := hf.le
  have h3 := hf.pos
  have h4 : uname.size = 5 := rfl
  omega
theorem gBody_range (v : ByteArray) : ∀ x ∈ gBody v, 0 ≤ x ∧ x < 256 := by
  intro x hx
  unfold gBody at hx
  obtain ⟨b, _, rfl⟩ := List.mem_map.1 hx
  have := b.toNat_lt
  omega
/-- The entries that PushGlobal's headers say. -/
def dirEn (user : ByteArray) : En := ⟨⟨#[97]⟩, ⟨#[]⟩, 4, 0, 0, 0, 0, 0, user, ⟨#[]⟩⟩
theorem mk_dir (all : ByteArray) (l : List Rec) (own : ByteArray) (hl : l = [] ∨ l = [(uname, own)]) (ha : all ≠ ⟨#[]⟩) (ho : own ≠ ⟨#[]⟩) :
    mkE ⟨1, ⟨#[97]⟩, ⟨#[]⟩, ⟨#[]⟩, ⟨#[117]⟩, ⟨#[]⟩, 53, 0, 0, 0, 0, 0⟩ [(uname, all)] l ⟨#[]⟩ ⟨#[]⟩ = (dirEn (if l = [] then all else own), 0) := by
  have hn : ∀ (key v : ByteArray), key ≠ uname → getUpto [(uname, v)] key 1 = none := by
    intro key v hk
    simp only [getUpto]
    rw [if_neg (fun e => hk e.symm)]
  have hy : ∀ v : ByteArray, getUpto [(uname, v)] uname 1 = some v := by
    intro v
    simp only [getUpto]
    rfl
  have hno : ∀ key, key ≠ uname → lookup [(uname, all)] l key = ⟨#[]⟩ := by
    intro key hk
    unfold lookup
    rcases hl with rfl | rfl
    · show (match getUpto [] key 0 with | some v => v | none => (getUpto [(uname, all)] key 1).getD ⟨#[]⟩) = _
      rw [hn key all hk]
      rfl
    · show (match getUpto [(uname, own)] key 1 with | some v => v | none => (getUpto [(uname, all)] key 1).getD ⟨#[]⟩) = _
      rw [hn key own hk, hn key all hk]
      rfl
  have hus : lookup [(uname, all)] l uname = (if l = [] then all else own) := by
    unfold lookup
    rcases hl with rfl | rfl
    · show (match getUpto [] uname 0 with | some v => v | none => (getUpto [(uname, all)] uname 1).getD ⟨#[]⟩) = _
      rw [hy all]
      rfl
    · show (match getUpto [(uname, own)] uname 1 with | some v => v | none => (getUpto [(uname, all)] uname 1).getD ⟨#[]⟩) = _
      rw [hy own, if_neg (by simp)]
  have hne : (if l = [] then all else own) ≠ ⟨#[]⟩ := by split <;> assumption
  have ht : ∀ key v, key ≠ uname → textOf [(uname, all)] l key ⟨#[]⟩ v = v := fun key v hk => by unfold textOf; rw [hno key hk]; simp
  have hu : textOf [(uname, all)] l uname ⟨#[]⟩ ⟨#[117]⟩ = (if l = [] then all else own) := by unfold textOf; rw [hus, if_pos hne]
  have hm : ∀ key v, key ≠ uname → numOf [(uname, all)] l key v = some v := fun key v hk => by unfold numOf; rw [hno key hk]; simp
  unfold mkE
  simp only
  rw [if_neg (by decide), hm _ _ (by decide), hm _ _ (by decide), hm _ _ (by decide), hm _ _ (by decide), ht _ _ (by decide), hu, ht _ _ (by decide), ht _ _ (by decide)]
  simp only
  rw [if_neg (show ¬ (kindOf 53 = 1 ∧ (1 : Int) = 0 ∧ _) from fun q => absurd q.2.1 (by decide))]
  unfold finE
  rw [if_neg (show ¬ ((if kindOf 53 = 1 then (0 : Int) else 0) < 0 ∨ (0 : Int) < 0 ∨ (0 : Int) < 0) by decide)]
  rfl
/-- A record of all, or of the next one alone, as it is written. -/
def gRec (typ : Int) (v : ByteArray) : List Int := hdrL ⟨#[112]⟩ ⟨#[]⟩ ⟨#[]⟩ ⟨#[]⟩ ⟨#[]⟩ typ 0 0 0 (gBody v).length 0 ++ (gBody v ++ List.replicate ((512 - (gBody v).length % 512) % 512) 0)
def dHdr : List Int := hdrL ⟨#[97]⟩ ⟨#[]⟩ ⟨#[]⟩ ⟨#[117]⟩ ⟨#[]⟩ 53 0 0 0 0 0
def dHdrs : Nat → List Int
  | 0 => []
  | n + 1 => dHdr ++ dHdrs n
theorem dHdrs_snoc : ∀ n, dHdrs (n + 1) = dHdrs n ++ dHdr
  | 0 => by simp [dHdrs]
  | n + 1 => by
    show dHdr ++ dHdrs (n + 1) = (dHdr ++ dHdrs n) ++ dHdr
    rw [dHdrs_snoc n, List.append_assoc]
theorem dirFits : HdrFits ⟨#[97]⟩ ⟨#[]⟩ ⟨#[]⟩ ⟨#[117]⟩ ⟨#[]⟩ 53 0 0 0 0 0 := by
  refine ⟨?_, ?_, by omega, by omega⟩
  · intro k hk
    rcases (by omega : k = 0 ∨ k = 1 ∨ k = 2 ∨ k = 3 ∨ k = 4) with rfl | rfl | rfl | rfl | rfl
    · show POct.head_Fits.f ⟨#[97]⟩ ((tabTo 0 : Int) - (tabFr 0 : Int)) = some true; decide +kernel
    · show POct.head_Fits.f ⟨#[]⟩ ((tabTo 1 : Int) - (tabFr 1 : Int)) = some true; decide +kernel
    · show POct.head_Fits.f ⟨#[117]⟩ ((tabTo 2 : Int) - (tabFr 2 : Int)) = some true; decide +kernel
    · show POct.head_Fits.f ⟨#[]⟩ ((tabTo 3 : Int) - (tabFr 3 : Int)) = some true; decide +kernel
    · show POct.head_Fits.f ⟨#[]⟩ ((tabTo 4 : Int) - (tabFr 4 : Int)) = some true; decide +kernel
  · intro k hk
    unfold octFits
    rcases (by omega : k = 0 ∨ k = 1 ∨ k = 2 ∨ k = 3 ∨ k = 4) with rfl | rfl | rfl | rfl | rfl <;> decide
theorem dHdrs_len (n : Nat) : (dHdrs n).length = 512 * n := by
  induction n with
  | zero => rfl
  | succ n ih =>
    show (dHdr ++ dHdrs n).length = _
    rw [List.length_append, ih]
    have : dHdr.length = 512 := hdrL_length dirFits
    omega
theorem dHdrs_range : ∀ n, ∀ x ∈ dHdrs n, 0 ≤ x ∧ x < 256
  | 0, x, hx => by cases hx
  | n + 1, x, hx => by
    have hx2 : x ∈ dHdr ++ dHdrs n := hx
    rcases List.mem_append.1 hx2 with h | h
    · exact hdrL_range dirFits x h
    · exact dHdrs_range n x h
theorem gRec_range (typ : Int) (v : ByteArray) (ht : typ = 120 ∨ typ = 103) (hv : v.size ≤ 100) : ∀ x ∈ gRec typ v, 0 ≤ x ∧ x < 256 := by
  intro x hx
  have hl := gBody_len v hv
  rcases List.mem_append.1 hx with h | h
  · exact hdrL_range (metaFits (by omega) (by omega) (by omega)) x h
  · rcases List.mem_append.1 h with h | h
    · exact gBody_range v x h
    · rw [List.eq_of_mem_replicate h]; omega
theorem gRec_len (typ : Int) (v : ByteArray) (ht : typ = 120 ∨ typ = 103) (hv : v.size ≤ 100) : (gRec typ v).length ≤ 1300 ∧ ((gRec typ v).length : Int) = 512 + (gBody v).length + padOf (gBody v).length := by
  have hl := gBody_len v hv
  have h := hdrL_length (metaFits (typ := typ) (size := (gBody v).length) (by omega) (by omega) (by omega))
  unfold gRec padOf
  rw [List.length_append, List.length_append, h, List.length_replicate]
  omega
theorem rec_fold {s : PSt} {p : Int} {g l : List Rec} (H : AtHead s p g l ⟨#[]⟩ ⟨#[]⟩) (typ : Int) (v : ByteArray) (ht : typ = 120 ∨ typ = 103) (hv : v.size ≤ 100) (hn : g.length + 1 ≤ 64 ∧ l.length + 1 ≤ 64) (a : Option Arc) (hp : p + 2000 ≤ 1099511627776) :
    ∃ s', AtHead s' (p + (gRec typ v).length) (if typ = 103 then g ++ [(uname, v)] else g) (if typ = 103 then l else l ++ [(uname, v)]) ⟨#[]⟩ ⟨#[]⟩ ∧ foldB (s, a) (gRec typ v) = (s', a) := by
  have hl := gBody_len v hv
  have hf := metaFits (typ := typ) (size := (gBody v).length) (by omega) (by omega) (by omega)
  have hc : clsOf typ = 2 ∧ typ ≠ 103 ∨ clsOf typ = 3 ∧ typ = 103 := by
    rcases ht with rfl | rfl
    · exact .inl ⟨by decide, by decide⟩
    · exact .inr ⟨by decide, rfl⟩
  have hpad : (List.replicate ((512 - (gBody v).length % 512) % 512) (0 : Int)).length = (padOf (gBody v).length) := by
    rw [List.length_replicate]
    unfold padOf
    omega
  obtain ⟨s', h1, h2⟩ := fold_recs H (hdrL ⟨#[112]⟩ ⟨#[]⟩ ⟨#[]⟩ ⟨#[]⟩ ⟨#[]⟩ typ 0 0 0 (gBody v).length 0) ⟨1, ⟨#[112]⟩, ⟨#[]⟩, ⟨#[]⟩, ⟨#[]⟩, ⟨#[]⟩, typ, 0, 0, 0, (gBody v).length, 0⟩ (hdrL_length hf) (hdrL_range hf) (hdrL_blank hf (by omega)) (decV_hdrL hf)
    (by rcases hc with h | h; exact .inl h.1; exact .inr h.1) (gBody v) (List.replicate ((512 - (gBody v).length % 512) % 512) 0) [(uname, v)] rfl (by omega) (by omega) hpad (gBody_range v) (fun x hx => by rw [List.eq_of_mem_replicate hx]; omega)
    (gBody_pax v hv) hn a (by omega)
  refine ⟨s', ?_, h2⟩
  have hln := (gRec_len typ v ht hv).2
  have e1 : p + 512 + ((gBody v).length : Int) + ((List.replicate ((512 - (gBody v).length % 512) % 512) (0 : Int)).length : Int) = p + (gRec typ v).length := by
    rw [hln, hpad]
    omega
  rw [e1] at h1
  rcases hc with ⟨h3, h4⟩ | ⟨h3, h4⟩
  · have h5 : clsOf (⟨1, ⟨#[112]⟩, ⟨#[]⟩, ⟨#[]⟩, ⟨#[]⟩, ⟨#[]⟩, typ, 0, 0, 0, (gBody v).length, 0⟩ : Hd).typ = 2 := h3
    rw [h5] at h1
    rw [if_neg h4, if_neg h4]
    exact h1
  · have h5 : clsOf (⟨1, ⟨#[112]⟩, ⟨#[]⟩, ⟨#[]⟩, ⟨#[]⟩, ⟨#[]⟩, typ, 0, 0, 0, (gBody v).length, 0⟩ : Hd).typ = 3 := h3
    rw [h5] at h1
    rw [if_pos h4, if_pos h4]
    exact h1
theorem dir_fold {s : PSt} {p : Int} (all : ByteArray) (l : List Rec) (own : ByteArray) (hl : l = [] ∨ l = [(uname, own)]) (ha : all ≠ ⟨#[]⟩) (ho : own ≠ ⟨#[]⟩) (H : AtHead s p [(uname, all)] l ⟨#[]⟩ ⟨#[]⟩) (a : Arc) (hv : a.over = false) (hp : a.opn = false) (hb : p + 512 ≤ 1099511627776) :
    ∃ s', AtHead s' (p + 512) [(uname, all)] [] ⟨#[]⟩ ⟨#[]⟩ ∧ foldB (s, some a) dHdr = (s', some { a with things := a.things ++ [⟨dirEn (if l = [] then all else own), [], true, p + 512⟩] }) := by
  obtain ⟨s', h1, h2⟩ := head_thing H dHdr ⟨1, ⟨#[97]⟩, ⟨#[]⟩, ⟨#[]⟩, ⟨#[117]⟩, ⟨#[]⟩, 53, 0, 0, 0, 0, 0⟩ (hdrL_length dirFits) (hdrL_range dirFits) (hdrL_blank dirFits (by omega)) (decV_hdrL dirFits)
    (dirEn (if l = [] then all else own)) (show clsOf 53 = 1 by decide) (mk_dir all l own hl ha ho) rfl (some a) hb
  refine ⟨s', h1, h2.trans ?_⟩
  simp [Arc.evs, Arc.ev, hv, hp, onLast]
theorem dirs_fold (all : ByteArray) (ha : all ≠ ⟨#[]⟩) : ∀ (n : Nat) (s : PSt) (p : Int) (a : Arc), AtHead s p [(uname, all)] [] ⟨#[]⟩ ⟨#[]⟩ → a.over = false → a.opn = false → p + 512 * n ≤ 1099511627776 →
    ∃ s' ts, AtHead s' (p + 512 * n) [(uname, all)] [] ⟨#[]⟩ ⟨#[]⟩ ∧ foldB (s, some a) (dHdrs n) = (s', some { a with things := a.things ++ ts }) ∧ ts.length = n ∧ ∀ t ∈ ts, t.en.user = all
  | 0, s, p, a, H, _, _, _ => ⟨s, [], by simpa using H, by simp [dHdrs, foldB], rfl, fun t ht => by cases ht⟩
  | n + 1, s, p, a, H, hv, hp, hb => by
    obtain ⟨s1, h1, h2⟩ := dir_fold all [] all (.inl rfl) ha ha H a hv hp (by omega)
    obtain ⟨s2, ts, j1, j2, j3, j4⟩ := dirs_fold all ha n s1 (p + 512) { a with things := a.things ++ [⟨dirEn all, [], true, p + 512⟩] } h1 hv hp (by omega)
    refine ⟨s2, ⟨dirEn all, [], true, p + 512⟩ :: ts, ?_, ?_, by simp [j3], ?_⟩
    · have e : p + 512 * ((n + 1 : Nat) : Int) = p + 512 + 512 * (n : Int) := by omega
      rw [e]
      exact j1
    · show foldB (s, some a) (dHdr ++ dHdrs n) = _
      rw [foldB_append]
      have h3 : foldB (s, some a) dHdr = (s1, some { a with things := a.things ++ [⟨dirEn all, [], true, p + 512⟩] }) := h2
      rw [h3, j2]
      simp
    · intro t ht
      rcases List.mem_cons.1 ht with rfl | ht
      · rfl
      · exact j4 t ht
/-- The archive of PushGlobal. -/
theorem glob_arc (all own : ByteArray) (ha : all ≠ ⟨#[]⟩) (ho : own ≠ ⟨#[]⟩) (za : all.size ≤ 100) (zo : own.size ≤ 100) (n : Nat) (h1 : 1 ≤ n) (h8 : n ≤ 8) :
    ∃ ts : List Thg, arcOf (gRec 103 all ++ gRec 120 own ++ dHdrs n ++ List.replicate 1024 0) = ⟨ts, true, 0, 0, false, true⟩ ∧ ts.length = n ∧ ∀ (i : Nat) (t : Thg), ts[i]? = some t → t.en.user = if i = 0 then own else all := by
  obtain ⟨s1, a1, a2⟩ := rec_fold atHead0 103 all (.inr rfl) za (by decide) (some arc0) (by decide)
  rw [if_pos rfl, if_pos rfl] at a1
  have l1 := (gRec_len 103 all (.inr rfl) za).1
  have l2 := (gRec_len 120 own (.inl rfl) zo).1
  obtain ⟨s2, b1, b2⟩ := rec_fold a1 120 own (.inl rfl) zo (by simp) (some arc0) (by omega)
  rw [if_neg (by decide), if_neg (by decide)] at b1
  obtain ⟨m, rfl⟩ : ∃ m, n = m + 1 := ⟨n - 1, by omega⟩
  obtain ⟨s3, c1, c2⟩ := dir_fold all [(uname, own)] own (.inr rfl) ha ho b1 arc0 rfl rfl (by omega)
  obtain ⟨s4, ts, d1, d2, d3, d4⟩ := dirs_fold all ha m s3 _ { arc0 with things := arc0.things ++ [⟨dirEn (if [(uname, own)] = [] then all else own), [], true, 0 + ((gRec 103 all).length : Int) + ((gRec 120 own).length : Int) + 512⟩] } c1 rfl rfl (by omega)
  have hall : foldB j0 (gRec 103 all ++ gRec 120 own ++ dHdrs (m + 1)) = (s4, some { arc0 with things := ⟨dirEn own, [], true, 0 + ((gRec 103 all).length : Int) + ((gRec 120 own).length : Int) + 512⟩ :: ts }) := by
    have e : foldB j0 (gRec 103 all ++ gRec 120 own ++ (dHdr ++ dHdrs m)) = foldB (foldB (foldB (foldB j0 (gRec 103 all)) (gRec 120 own)) dHdr) (dHdrs m) := by rw [foldB_append, foldB_append, foldB_append]
    show foldB j0 (gRec 103 all ++ gRec 120 own ++ (dHdr ++ dHdrs m)) = _
    have a3 : foldB j0 (gRec 103 all) = (s1, some arc0) := a2
    rw [e, a3, b2, c2]
    refine d2.trans ?_
    rw [if_neg (by simp)]
    rfl
  obtain ⟨s5, e1, _, _⟩ := arc_end d1 _ rfl (by omega) _ hall
  refine ⟨⟨dirEn own, [], true, 0 + ((gRec 103 all).length : Int) + ((gRec 120 own).length : Int) + 512⟩ :: ts, ?_, by simp [d3], ?_⟩
  · unfold arcOf
    rw [e1]
    rfl
  · intro i t ht
    rcases i with _ | i
    · simp at ht
      rw [← ht]
      rfl
    · simp only [List.getElem?_cons_succ] at ht
      rw [if_neg (by omega)]
      exact d4 t (List.mem_of_getElem? ht)
end Go.Proofs.YtpbpfngichfgeaaGreatDoor
