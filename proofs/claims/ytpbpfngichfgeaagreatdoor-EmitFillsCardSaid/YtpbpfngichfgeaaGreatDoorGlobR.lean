/-
  Several texts in one: YtpbpfngichfgeaaGreatDoorPaxP1, YtpbpfngichfgeaaGreatDoorGlobP.
-/
import Derived.Test.YtpbpfngichfgeaaGreatDoorPaxes
import Derived.Test.YtpbpfngichfgeaaGreatDoorFedA
import Derived.Test.YtpbpfngichfgeaaGreatDoorPushEL
namespace Go.Proofs.YtpbpfngichfgeaaGreatDoor
set_option linter.unusedVariables false
set_option linter.unusedSimpArgs false

/-- The record at the beginning of what was written. -/
theorem one_rec (k v : ByteArray) (rest : List UInt8) (s : ByteArray) (hs : s.data.toList = (recT k v).data.toList ++ rest) (h : chkOf k v = 0) : oneOf s = (k, v, ⟨rest.toArray⟩, 0) := by
  obtain ⟨h1, h2, h3⟩ := chk_zero h
  obtain ⟨n, hn⟩ : ∃ n, n = k.size + v.size + 3 := ⟨_, rfl⟩
  have hf := lenFacts (n := n) (by omega)
  have hL := lenOf_nat k v
  rw [← hn] at hL
  rw [recT_list k v n hn] at hs
  obtain ⟨L, hLL⟩ : ∃ L, lenN n = L := ⟨_, rfl⟩
  rw [hLL] at hf hL hs
  obtain ⟨len, atoi, dig, le, pos, val⟩ := hf
  obtain ⟨t, ht⟩ : ∃ t, Lib.itoa (L : Int) = t := ⟨_, rfl⟩
  rw [ht] at len atoi dig le pos hs
  have hs1 : s.data.toList = t ++ 32 :: (k.data.toList ++ 61 :: (v.data.toList ++ 10 :: rest)) := by rw [hs]; simp
  have hd32 : ∀ b ∈ t, b ≠ 32 := fun b hb he => by have := dig b hb; rw [he] at this; simp at this
  have hc : Lib.cut s.data.toList [32] = (t, k.data.toList ++ 61 :: (v.data.toList ++ 10 :: rest), true) := by rw [hs1]; exact cut_at hd32
  have hsz : s.size = t.length + 1 + k.size + 1 + v.size + 1 + rest.length := by
    rw [Lib.size_eq s, hs1]
    simp only [List.length_append, List.length_cons]
    have := Lib.size_eq k
    have := Lib.size_eq v
    omega
  unfold oneOf
  simp only [hc]
  rw [if_neg (by decide), if_neg (by omega)]
  simp only [atoi]
  rw [if_neg (fun h => h ht), if_neg (by omega), if_neg (by omega)]
  have e1 : (L : Int).toNat = L := by omega
  have e2 : ((L : Int) - 1).toNat = L - 1 := by omega
  have hx : s.data.toList.getD ((L : Int) - 1).toNat 0 = 10 := by
    rw [e2, hs1]
    have : L - 1 = (t ++ 32 :: (k.data.toList ++ 61 :: v.data.toList)).length := by
      simp only [List.length_append, List.length_cons]
      have := Lib.size_eq k
      have := Lib.size_eq v
      omega
    rw [this]
    have e : t ++ 32 :: (k.data.toList ++ 61 :: (v.data.toList ++ 10 :: rest)) = (t ++ 32 :: (k.data.toList ++ 61 :: v.data.toList)) ++ 10 :: rest := by simp
    rw [e]
    simp
  rw [if_neg (fun h => h hx)]
  have hkv : (s.extract (t.length + 1) ((L : Int).toNat - 1)).data.toList = k.data.toList ++ 61 :: v.data.toList := by
    rw [e1]
    simp only [ByteArray.data_extract, Array.toList_extract, hs1, List.extract_eq_take_drop]
    have e : t ++ 32 :: (k.data.toList ++ 61 :: (v.data.toList ++ 10 :: rest)) = (t ++ [32]) ++ ((k.data.toList ++ 61 :: v.data.toList) ++ 10 :: rest) := by simp
    have hl : (k.data.toList ++ 61 :: v.data.toList).length = L - 1 - (t.length + 1) := by
      simp only [List.length_append, List.length_cons]
      have := Lib.size_eq k
      have := Lib.size_eq v
      omega
    rw [e, List.drop_left' (by simp), List.take_left' hl]
  rw [hkv]
  have hc2 : Lib.cut (k.data.toList ++ 61 :: v.data.toList) [61] = (k.data.toList, v.data.toList, true) := cut_at fun b hb => (badKey_not h2 b hb).1
  simp only [hc2]
  rw [if_neg (by decide)]
  have hk : (⟨k.data.toList.toArray⟩ : ByteArray) = k := bytes_ext rfl
  have hv : (⟨v.data.toList.toArray⟩ : ByteArray) = v := bytes_ext rfl
  rw [hk, hv, if_neg (fun h => h hL), if_neg (fun h' => h' h)]
  congr 2
  have hr : s.extract (L : Int).toNat s.size = ⟨rest.toArray⟩ := by
    apply bytes_ext
    rw [e1]
    simp only [ByteArray.data_extract, Array.toList_extract, hs1, List.extract_eq_take_drop]
    have e : t ++ 32 :: (k.data.toList ++ 61 :: (v.data.toList ++ 10 :: rest)) = (t ++ 32 :: (k.data.toList ++ 61 :: (v.data.toList ++ [10]))) ++ rest := by simp
    have hl : (t ++ 32 :: (k.data.toList ++ 61 :: (v.data.toList ++ [10]))).length = L := by
      simp only [List.length_append, List.length_cons, List.length_nil]
      have := Lib.size_eq k
      have := Lib.size_eq v
      omega
    rw [e, List.drop_left' hl]
    exact List.take_of_length_le (by omega)
  rw [hr]
end Go.Proofs.YtpbpfngichfgeaaGreatDoor

namespace Go.Proofs.YtpbpfngichfgeaaGreatDoor
set_option linter.unusedVariables false
set_option linter.unusedSimpArgs false
open Go Go.RowKit Go.Proofs.YtpbpfngichfgeaaGreatDoorW.PrintWords Go.Proofs.YtpbpfngichfgeaaGreatDoorW.PrintLast Go.Proofs.YtpbpfngichfgeaaGreatDoorW.PrintMore

abbrev uname : ByteArray := ⟨#[117, 110, 97, 109, 101]⟩
def gBody (v : ByteArray) : List Int := (recT uname v).data.toList.map fun b => (b.toNat : Int)
theorem strOfNums_bytes (s : ByteArray) : strOfNums (s.data.toList.map fun b => (b.toNat : Int)) = s := by
  unfold strOfNums
  apply ByteArray.ext
  show List.toArray _ = _
  rw [List.map_map]
  have : (s.data.toList.map ((fun x : Int => UInt8.ofNat x.toNat) ∘ fun b : UInt8 => (b.toNat : Int))) = s.data.toList := by
    conv => rhs; rw [← List.map_id s.data.toList]
    apply List.map_congr_left
    intro x _
    simp
  first
    | rw [this]
    | (simp; done)
/-- The entries that PushGlobal's headers say. -/
def dirEn (user : ByteArray) : En := ⟨⟨#[97]⟩, ⟨#[]⟩, 4, 0, 0, 0, 0, 0, user, ⟨#[]⟩⟩
/-- A record of all, or of the next one alone, as it is written. -/
def gRec (typ : Int) (v : ByteArray) : List Int := hdrL ⟨#[112]⟩ ⟨#[]⟩ ⟨#[]⟩ ⟨#[]⟩ ⟨#[]⟩ typ 0 0 0 (gBody v).length 0 ++ (gBody v ++ List.replicate ((512 - (gBody v).length % 512) % 512) 0)
def dHdr : List Int := hdrL ⟨#[97]⟩ ⟨#[]⟩ ⟨#[]⟩ ⟨#[117]⟩ ⟨#[]⟩ 53 0 0 0 0 0
def dHdrs : Nat → List Int
  | 0 => []
  | n + 1 => dHdr ++ dHdrs n
end Go.Proofs.YtpbpfngichfgeaaGreatDoor
