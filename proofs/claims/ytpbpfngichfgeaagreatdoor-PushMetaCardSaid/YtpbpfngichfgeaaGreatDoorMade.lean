/-
  entry.Make's contract for every header; entry.Pad; makes() of the laws.
-/
import Derived.Test.YtpbpfngichfgeaaGreatDoorMake
import Derived.Test.YtpbpfngichfgeaaGreatDoorPad
import Derived.Laws.ResultCell
namespace Go.Proofs.YtpbpfngichfgeaaGreatDoor
set_option linter.unusedVariables false
set_option linter.unusedSimpArgs false
open Go.RowKit

abbrev hdrV (form : Int) (name link pre user group : ByteArray) (typ mode uid gid size mtime : Int) : Value := .agg #[.int .i64 form, .string name, .string link, .string pre, .string user, .string group, .int .u8 typ, .int .i64 mode, .int .i64 uid, .int .i64 gid, .int .i64 size, .int .i64 mtime]
abbrev ahdV (g l : List Rec) (Ag Al : Option Addr) (cg cl : Nat) (nm lk : ByteArray) : Value := .agg #[.slice Ag g.length cg, .slice Al l.length cl, .string nm, .string lk]
abbrev zeroE : Value := .agg #[.string ⟨#[]⟩, .string ⟨#[]⟩, .int .i64 0, .int .i64 0, .int .i64 0, .int .i64 0, .int .i64 0, .int .i64 0, .string ⟨#[]⟩, .string ⟨#[]⟩]
def makeV (form : Int) (name link pre user group : ByteArray) (typ mode uid gid size mtime : Int) (g l : List Rec) (nm lk : ByteArray) : Value :=
  if kindOf typ = 0 then .tuple #[zeroE, .int .i64 80] else
    madeV (kindOf typ) form (bits .and .i64 mode 4095) (textOf g l ⟨#[112, 97, 116, 104]⟩ nm (fullOf name pre)) (textOf g l ⟨#[108, 105, 110, 107, 112, 97, 116, 104]⟩ lk link) (textOf g l ⟨#[117, 110, 97, 109, 101]⟩ ⟨#[]⟩ user) (textOf g l ⟨#[103, 110, 97, 109, 101]⟩ ⟨#[]⟩ group) (numOf g l ⟨#[115, 105, 122, 101]⟩ size) (numOf g l ⟨#[117, 105, 100]⟩ uid) (numOf g l ⟨#[103, 105, 100]⟩ gid) (numOf g l ⟨#[109, 116, 105, 109, 101]⟩ mtime)
theorem kindOf_cases (t : Int) : kindOf t = 0 ∨ kindOf t = 1 ∨ kindOf t = 2 ∨ kindOf t = 3 ∨ kindOf t = 4 := by
  unfold kindOf
  repeat' split
  all_goals simp
theorem textOf_size {g l : List Rec} {key long short : ByteArray} {n : Nat} (h0 : (lookup g l key).size ≤ n) (h1 : long.size ≤ n) (h2 : short.size ≤ n) : (textOf g l key long short).size ≤ n := by
  unfold textOf
  split
  · exact h0
  · split
    · exact h1
    · exact h2
theorem fullOf_size {name pre : ByteArray} {n : Nat} (h : pre.size + name.size + 1 ≤ n) : (fullOf name pre).size ≤ n := by
  unfold fullOf
  split
  · omega
  · rw [ByteArray.size_append, ByteArray.size_append]; show pre.size + 1 + name.size ≤ n; omega
set_option maxHeartbeats 2000000 in
theorem make_any (form : Int) (name link pre user group : ByteArray) (typ mode uid gid size mtime : Int) (g l : List Rec) (Ag Al : Option Addr) (cg cl : Nat) (nm lk : ByteArray) (w : World)
    (hg : Recs w Ag g) (hl : Recs w Al l) (lg : g.length ≤ 1000000) (ll : l.length ≤ 1000000) (hfull : pre.size + name.size ≤ 4611686018427387903) (hnm : nm.size ≤ 4611686018427387904) (hsz : ∀ key, (lookup g l key).size ≤ 281474976710656) (he : EnvE w) :
    Calls Tryz.prog 95 #[hdrV form name link pre user group typ mode uid gid size mtime, ahdV g l Ag Al cg cl nm lk] w (Gives (makeV form name link pre user group typ mode uid gid size mtime g l nm lk) w) := by
  unfold makeV hdrV ahdV zeroE
  by_cases h : kindOf typ = 0
  · rw [if_pos h]
    clear hg hl lg ll hfull hnm hsz he
    go_enter Tryz.func95, Tryz.ntmps95
    go_wp2_with (refine (kind_any typ _).mono ?_; rw [h]; rintro e w1 ⟨rfl, rfl⟩)
    (try simp only [Exit.inBlock, Exit.then])
    refine bodyPost_ret ?_ rfl ⟨rfl, ?_⟩
    · rw [results_cell_tmp rfl]
      go_simp
    · (repeat' (first | exact Below.refl _ _ | refine Below.setCell ?_ (by show _ ≤ _; omega) _ | refine Below.drew ?_ | refine Below.alloc ?_ (by simp <;> omega) _))
  · rw [if_neg h]
    exact make_walk form name link pre user group typ mode uid gid size mtime g l Ag Al cg cl nm lk w hg hl lg ll (by omega) (kindOf typ) rfl (by simpa using h) ((kindOf_cases typ).resolve_left h) hsz he (Nat.le_trans (textOf_size (n := 4611686018427387904) (Nat.le_trans (hsz _) (by decide)) hnm (fullOf_size (by omega))) (by decide)) _ rfl

theorem getUpto_le {l : List Rec} {key v : ByteArray} {n : Nat} (h : ∀ r ∈ l, r.2.size ≤ n) : ∀ i, i ≤ l.length → getUpto l key i = some v → v.size ≤ n
  | 0, _, h2 => by cases h2
  | i + 1, hi, h2 => by
    unfold getUpto at h2
    split at h2
    · obtain rfl := Option.some.inj h2
      have hq : l.getD i default = l[i] := by simp [show i < l.length by omega]
      rw [hq]
      exact h _ (List.getElem_mem _)
    · exact getUpto_le h i (by omega) h2
theorem lookup_le {g l : List Rec} {n : Nat} (hg : ∀ r ∈ g, r.2.size ≤ n) (hl : ∀ r ∈ l, r.2.size ≤ n) (key : ByteArray) : (lookup g l key).size ≤ n := by
  unfold lookup
  split
  · exact getUpto_le hl _ (Nat.le_refl _) (by assumption)
  · cases h : getUpto g key g.length with
    | none => exact Nat.zero_le _
    | some v => exact getUpto_le hg _ (Nat.le_refl _) h
theorem below_alloc {W w : World} (h : Below W.heap.size W w) (o : Obj) : Below W.heap.size W (w.alloc o) := h.alloc h.size o
theorem EnvE.of {W w : World} (h : EnvE W) (hb : Below W.heap.size W w) : EnvE w := h.below hb

end Go.Proofs.YtpbpfngichfgeaaGreatDoor
