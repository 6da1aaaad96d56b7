/-
  pax.Get by a contract: the value of the last record that has the key.
-/
import Derived.Test.YtpbpfngichfgeaaGreatDoorProg
import Derived.Test.YtpbpfngichfgeaaGreatDoorUtil
import Derived.Outline
namespace Go.Proofs.YtpbpfngichfgeaaGreatDoor
open Go.RowKit

abbrev Rec := ByteArray × ByteArray
/-- The records of a slice: each is two cells. -/
def Recs (w : World) (A : Option Addr) (l : List Rec) : Prop :=
  l = [] ∨ ∃ b off, A = some ⟨b, off, none⟩ ∧ b < w.heap.size ∧ ∀ i, i < l.length → w.cell? ⟨b, off + i * 2, none⟩ = some (.string (l.getD i default).1) ∧ w.cell? ⟨b, off + i * 2 + 1, none⟩ = some (.string (l.getD i default).2)
theorem Recs.below {w w' : World} {A : Option Addr} {l : List Rec} (h : Recs w A l) (hb : Below w.heap.size w w') : Recs w' A l := by
  rcases h with h | ⟨b, off, rfl, hlt, hc⟩
  · exact .inl h
  · exact .inr ⟨b, off, rfl, Nat.lt_of_lt_of_le hlt hb.size, fun i hi => ⟨(hb.cell (p := ⟨b, _, none⟩) hlt).trans (hc i hi).1, (hb.cell (p := ⟨b, _, none⟩) hlt).trans (hc i hi).2⟩⟩

def getUpto (l : List Rec) (key : ByteArray) : Nat → Option ByteArray
  | 0 => none
  | i + 1 => if (l.getD i default).1 = key then some (l.getD i default).2 else getUpto l key i

def GetEnd (r : Option ByteArray) (w : World) (e : Ending) (w' : World) : Prop := e = .returned (.tuple #[.string (r.getD ⟨#[]⟩), .bool r.isSome]) ∧ w = w'

set_option maxHeartbeats 1000000 in
theorem get_any (l : List Rec) (A : Option Addr) (c : Nat) (key : ByteArray) (w : World) (hr : Recs w A l) (hl : l.length ≤ 1000000) :
    Calls Tryz.prog 142 #[.slice A l.length c, .string key] w (GetEnd (getUpto l key l.length) w) := by
  have HR := Lib.hid hr
  clear hr
  go_enter Tryz.func142, Tryz.ntmps142
  go_wp2
  go_loop [6] (fun i => ∃ k : Nat, k ≤ l.length ∧ i = .int .i64 ((k : Int) - 1) ∧ getUpto l key l.length = getUpto l key k) (fun i => (intOf i + 1).toNat)
  case atStart => exact ⟨l.length, by omega, rfl, rfl⟩
  case round =>
    obtain ⟨k, hk, rfl, hg⟩ := hrel
    have HG := Lib.hid hg
    clear hg
    cases k with
    | zero =>
      go_wp2
      go_ret2
      exact ⟨by rw [HG.out]; rfl, rfl⟩
    | succ k =>
      rcases HR.out with h0 | ⟨b, off, rfl, hlt, hc⟩
      · simp [h0] at hk
      · obtain ⟨c0, c1⟩ := hc k (by omega)
        have HC := Lib.hid hc
        clear hc
        obtain ⟨rk, rv, hrec⟩ : ∃ rk rv, l.getD k default = (rk, rv) := ⟨_, _, rfl⟩
        rw [hrec] at c0 c1
        by_cases hk2 : rk = key
        · have hkt := str_true hk2
          have hgu : getUpto l key (k + 1) = some rv := by simp only [getUpto, hrec]; rw [if_pos hk2]
          have HGU := Lib.hid hgu
          clear hk2 hgu hrec
          go_wp2
          go_ret2
          exact ⟨by rw [HG.out, HGU.out]; simp, rfl⟩
        · have hkf := str_false hk2
          have hgu : getUpto l key (k + 1) = getUpto l key k := by simp only [getUpto, hrec]; rw [if_neg hk2]
          have HGU := Lib.hid hgu
          clear hk2 hgu hrec
          go_wp2
          go_round
          case rel => exact ⟨k, by omega, rfl, by rw [HG.out, HGU.out]⟩
          case measure => simp [intOf]
end Go.Proofs.YtpbpfngichfgeaaGreatDoor
