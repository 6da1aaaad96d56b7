/-
  The plain law of package ask: what a line asks, and the line that asks it.
-/
import Derived.Test.YtbkhhmgpfjemcaaDoorAskP0
import Derived.Test.YtbkhhmgpfjemcaaDoorAskRead
namespace Go.Proofs.YtbkhhmgpfjemcaaDoor
set_option linter.unusedVariables false
set_option linter.unusedSimpArgs false

/-! ### lists in place of texts -/
def cutL (l : List UInt8) : List UInt8 × List UInt8 := ((Lib.cut l [32]).1, (Lib.cut l [32]).2.1)
theorem nextOf_eq (l : List UInt8) : nextOf ⟨l.toArray⟩ = (⟨(cutL l).1.toArray⟩, ⟨(cutL l).2.toArray⟩) := rfl
/-- What stands behind a word: nothing, or a blank and more. -/
def Suf (s : List UInt8) : Prop := s = [] ∨ ∃ r, s = 32 :: r
theorem cutL_suf {w s : List UInt8} (hw : ∀ b ∈ w, b ≠ 32) (hs : Suf s) : cutL (w ++ s) = (w, s.drop 1) := by
  rcases hs with rfl | ⟨r, rfl⟩
  · simp [cutL, cut_not hw]
  · simp [cutL, cut_at hw]
theorem cutL_inv (l : List UInt8) : ∃ s, Suf s ∧ l = (cutL l).1 ++ s ∧ (cutL l).2 = s.drop 1 ∧ ∀ b ∈ (cutL l).1, b ≠ 32 := by
  have key : ∀ l : List UInt8, ∃ w s, Suf s ∧ l = w ++ s ∧ ∀ b ∈ w, b ≠ 32 := by
    intro l
    induction l with
    | nil => exact ⟨[], [], .inl rfl, rfl, by simp⟩
    | cons b r ih =>
      obtain ⟨w, s, hs, rfl, hw⟩ := ih
      by_cases hb : b = 32
      · subst hb
        exact ⟨[], 32 :: (w ++ s), .inr ⟨_, rfl⟩, rfl, by simp⟩
      · exact ⟨b :: w, s, hs, rfl, fun x hx => by rcases List.mem_cons.1 hx with rfl | hx; exact hb; exact hw x hx⟩
  obtain ⟨w, s, hs, rfl, hw⟩ := key l
  exact ⟨s, hs, by rw [cutL_suf hw hs], by rw [cutL_suf hw hs], by rw [cutL_suf hw hs]; exact hw⟩
def stepL (b : Bool) (l : List UInt8) : Int × Int × List UInt8 := if b = true then ((numL (cutL l).1).1, (numL (cutL l).1).2, (cutL l).2) else (0, 0, l)
theorem stepN_eq (b : Bool) (l : List UInt8) : stepN b ⟨l.toArray⟩ = ((stepL b l).1, (stepL b l).2.1, ⟨(stepL b l).2.2.toArray⟩) := by
  unfold stepN stepL
  split
  · rw [nextOf_eq]; rfl
  · rfl
theorem itoa_no32 (u : Nat) : ∀ b ∈ Lib.itoa (u : Int), b ≠ 32 := by
  intro b hb h
  subst h
  have := itoa_dig u _ hb
  simp at this
/-- A number's field. -/
def fld (b : Bool) (n : Nat) : List UInt8 := if b = true then 32 :: Lib.itoa (n : Int) else []
theorem step_fld {b : Bool} {u : Nat} (hu : u ≤ 9223372036854775807) (hb : b = false → u = 0) {s : List UInt8} (hs : Suf s) :
    stepL b ((fld b u ++ s).drop 1) = (if b = true ∧ 1048576 < u then 0 else (u : Int), if b = true ∧ 1048576 < u then 1 else 0, s.drop 1) := by
  cases b with
  | false => simp [stepL, fld, hb rfl]
  | true =>
    unfold stepL fld
    simp only [if_true, List.cons_append, List.drop_succ_cons, List.drop_zero]
    rw [cutL_suf (itoa_no32 u) hs, numL_itoa hu]
    by_cases h : u ≤ 1048576
    · rw [if_pos h, if_neg (by simp; omega), if_neg (by simp; omega)]
    · rw [if_neg h, if_pos (by simp; omega), if_pos (by simp; omega)]
theorem suf_fld (b : Bool) (u : Nat) {s : List UInt8} (hs : Suf s) : Suf (fld b u ++ s) := by
  cases b with
  | false => simpa [fld] using hs
  | true => exact .inr ⟨Lib.itoa (u : Int) ++ s, by simp [fld]⟩
end Go.Proofs.YtbkhhmgpfjemcaaDoor
