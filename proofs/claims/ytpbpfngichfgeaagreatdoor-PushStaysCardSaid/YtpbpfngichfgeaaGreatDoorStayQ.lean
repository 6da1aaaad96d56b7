/-
  The rest of whole texts whose stripped ones lie in the set: StayP.
-/
import Derived.Test.YtpbpfngichfgeaaGreatDoorArcs
namespace Go.Proofs.YtpbpfngichfgeaaGreatDoor
set_option linter.unusedVariables false
set_option linter.unusedSimpArgs false
open Go

theorem last_over {a : Option Arc} {l : List Evt} {x : Evt} {b : Arc} (h : Arc.evs a (l ++ [x]) = some b) (hx : 4 ≤ x.k.num) : b.over = true := by
  rw [evs_append] at h
  cases ha : Arc.evs a l with
  | none => rw [ha] at h; simp [Arc.evs] at h
  | some c =>
    rw [ha] at h
    simp only [Arc.evs, Option.bind_some] at h
    unfold Arc.ev at h
    split at h
    · cases h
    · obtain ⟨k, p⟩ := x
      cases k with
      | beg e => exact absurd hx (by show ¬ (4 : Int) ≤ 1; decide)
      | dat d => exact absurd hx (by show ¬ (4 : Int) ≤ 2; decide)
      | fin => exact absurd hx (by show ¬ (4 : Int) ≤ 3; decide)
      | don => simp only [Option.some.injEq] at h; rw [← h]
      | bad c p => simp only [Option.some.injEq] at h; rw [← h]
theorem feed_stays (xs : List Int) (hb : ∀ x ∈ xs, 0 ≤ x ∧ x < 256) (hl : xs.length ≤ 1000000) : Stays xs (ps0.feed xs) := by
  have ha : ps0.at_ + xs.length ≤ 1099511627776 := by show (0 : Int) + xs.length ≤ _; omega
  have hf := feed_fold ps0 xs (some arc0) oks0 hb ha
  obtain ⟨k1, k2, k3⟩ := foldB_ok xs ps0 (some arc0) oks0 val0 hb ha
  rw [← hf] at k1 k2 k3
  refine ⟨k1, ?_, fun l x hx h4 => ?_⟩
  · have : (feedJ (ps0, some arc0) xs).1.at_ ≤ (0 : Int) + xs.length := k3
    show (feedJ (ps0, some arc0) xs).1.at_ ≤ _
    omega
  · obtain ⟨b, e, v1, v2⟩ := k2
    have e' : Arc.evs (some arc0) (ps0.feed xs).out = some b := e
    rw [hx] at e'
    exact v2.1 (last_over e' h4)
/-- Behind its end the parser answers nothing and stays. -/
theorem feed_over (s : PSt) (xs : List Int) (h : s.st = 4) : s.feed xs = { s with out := [] } := by
  unfold PSt.feed
  show (if xs = [] ∨ ({ s with out := [] } : PSt).st = 4 then ({ s with out := [] } : PSt) else _) = _
  rw [if_pos (.inr h)]
end Go.Proofs.YtpbpfngichfgeaaGreatDoor

