/-
  Several texts in one: YtpbpfngichfgeaaGreatDoorWsP, YtpbpfngichfgeaaGreatDoorWsI.
-/
import Derived.Test.YtpbpfngichfgeaaGreatDoorFedA
import Derived.Test.YtpbpfngichfgeaaGreatDoorFedR
namespace Go.Proofs.YtpbpfngichfgeaaGreatDoor
set_option linter.unusedVariables false
set_option linter.unusedSimpArgs false
open Go Go.RowKit Go.Proofs.YtpbpfngichfgeaaGreatDoorW.PrintWords Go.Proofs.YtpbpfngichfgeaaGreatDoorW.PrintLast Go.Proofs.YtpbpfngichfgeaaGreatDoorW.PrintMore

/-- One file, as it is written. -/
def wsOne (f : ByteArray × List Int) : List Int := hdrL f.1 ⟨#[]⟩ ⟨#[]⟩ ⟨#[]⟩ ⟨#[]⟩ 48 420 0 0 f.2.length 0 ++ (f.2 ++ List.replicate (padOf f.2.length).toNat 0)
def wsL : List (ByteArray × List Int) → List Int
  | [] => []
  | f :: l => wsOne f ++ wsL l
def wsEn (f : ByteArray × List Int) : En := ⟨f.1, ⟨#[]⟩, 1, bits .and .i64 420 4095, 0, 0, 0, f.2.length, ⟨#[]⟩, ⟨#[]⟩⟩
/-- The things, but for how many bytes were read at each. -/
structure WsT (t : Thg) (f : ByteArray × List Int) : Prop where
  en : t.en = wsEn f
  data : t.data = f.2
structure WsOk (f : ByteArray × List Int) : Prop where
  fit : HdrFits f.1 ⟨#[]⟩ ⟨#[]⟩ ⟨#[]⟩ ⟨#[]⟩ 48 420 0 0 (f.2.length : Int) 0
  rng : ∀ x ∈ f.2, 0 ≤ x ∧ x < 256
  len : f.2.length ≤ 1500
def WsTs (ts : List Thg) (l : List (ByteArray × List Int)) : Prop := ts.length = l.length ∧ ∀ (i : Nat) (t : Thg) (f : ByteArray × List Int), ts[i]? = some t → l[i]? = some f → WsT t f
theorem WsTs.nil : WsTs [] [] := ⟨rfl, fun i t f h _ => by rw [List.getElem?_nil] at h; cases h⟩
theorem WsTs.snoc {ts : List Thg} {l : List (ByteArray × List Int)} {t : Thg} {f : ByteArray × List Int} (h : WsTs ts l) (ht : WsT t f) : WsTs (ts ++ [t]) (l ++ [f]) := by
  refine ⟨by simp [h.1], fun i u g h1 h2 => ?_⟩
  by_cases hi : i < ts.length
  · rw [List.getElem?_append_left hi] at h1
    rw [List.getElem?_append_left (by rw [← h.1]; exact hi)] at h2
    exact h.2 i u g h1 h2
  · rw [List.getElem?_append_right (by omega)] at h1
    rw [List.getElem?_append_right (by rw [← h.1]; omega)] at h2
    rw [← h.1] at h2
    have hz : i - ts.length = 0 := by
      rcases Nat.eq_zero_or_pos (i - ts.length) with h | h
      · exact h
      · rw [List.getElem?_eq_none (by simp; omega)] at h1; cases h1
    rw [hz] at h1 h2
    simp at h1 h2
    subst h1
    subst h2
    exact ht
/-- Behind the end of an archive no event comes. -/
theorem evs_over {a b : Arc} {l : List Evt} (h : Arc.evs (some a) l = some b) (ho : a.over = true) : b = a := by
  cases l with
  | nil => exact (Option.some.inj h).symm
  | cons x l =>
    have h2 : Arc.evs (a.ev x) l = some b := h
    have e : a.ev x = none := by unfold Arc.ev; rw [if_pos ho]
    rw [e, evs_none] at h2
    cases h2
end Go.Proofs.YtpbpfngichfgeaaGreatDoor

namespace Go.Proofs.YtpbpfngichfgeaaGreatDoor
set_option linter.unusedVariables false
set_option linter.unusedSectionVars false
set_option linter.unusedSimpArgs false
open Go Go.RowKit Go.Proofs.YtpbpfngichfgeaaGreatDoorW.PrintWords Go.Proofs.YtpbpfngichfgeaaGreatDoorW.PrintLast Go.Proofs.YtpbpfngichfgeaaGreatDoorW.PrintMore

structure WI (w0 w : World) (gp : Nat) (s : PSt) (vb vt vg vl : Value) : Prop where
  bl : Below w0.heap.size w0 w
  ps : PSx w (Own gp vb vt vg vl) w gp { s with out := [] } vb vt vg vl (.slice none 0 0)
  ow : ∀ k, Own gp vb vt vg vl k → w0.heap.size ≤ k
section
variable {w0 w w' : World} {gp : Nat} {s : PSt} {vb vt vg vl : Value}
theorem wi0 (w : World) : WI w (w.alloc (.cells newCells 77)) w.heap.size ps0 (.slice none 0 0) (.slice none 0 0) (.slice none 0 0) (.slice none 0 0) := by
  have hn : ∀ k, Own w.heap.size (.slice none 0 0) (.slice none 0 0) (.slice none 0 0) (.slice none 0 0) k → k = w.heap.size := by
    intro k hk
    rcases hk with h | h | h | h | h
    · exact h
    all_goals simp [Value.ownBlock] at h
  refine ⟨below_alloc (Below.refl _ _) _, ?_, fun k hk => by have := hn k hk; omega⟩
  exact PSx.move (s := ps0) (PSx.new w) (fun k hk => rfl)
theorem WI.below (h : WI w0 w gp s vb vt vg vl) (hb : Below w.heap.size w w') : WI w0 w' gp s vb vt vg vl := by
  refine ⟨below_next h.bl hb, ?_, h.ow⟩
  refine PSx.move (s := s) h.ps (fun k hk => ?_)
  obtain ⟨c, t, hc, ht⟩ := own_ty h.ps k hk
  exact hb.block k (blk_lt hc)
theorem WI.fed {r : PSt} {vb' vt' vg' vl' : Value} (h : WI w0 w gp s vb vt vg vl) (hp : PSx w (Own gp vb vt vg vl) w' gp { r with out := [] } vb' vt' vg' vl' (.slice none 0 0)) : WI w0 w' gp r vb' vt' vg' vl' :=
  ⟨⟨hp.fr.os.trans h.bl.os, hp.fr.tape.trans h.bl.tape, hp.fr.output.trans h.bl.output, Nat.le_trans h.bl.size hp.fr.size, fun k hk => (hp.fr.block k (Nat.lt_of_lt_of_le hk h.bl.size) (fun ho => by have := h.ow k ho; omega)).trans (h.bl.block k hk)⟩, PSx.again2 hp, own_ge hp h.ow h.bl.size⟩
/-- A row of other types stays through a Feed. -/
theorem WI.row {α : Type} {d : Kd α} {e base : Nat} {ok : Nat → Prop} {v : Value} {xs : List α} (hr : d.R e w base ok v xs) (h : WI w0 w gp s vb vt vg vl) (hF : Frm (Own gp vb vt vg vl) w w')
    (ht : ∀ q, q ∈ e :: d.E → q ≠ 77 ∧ q ≠ 5 ∧ q ≠ 66) : d.R e w' base ok v xs := by
  refine Kd.R_mono (Kd.R_step (Kd.R_bound hr) (fun k hk hlt => hF.block k hlt (fun ho => ?_))) (fun _ hk => hk.1)
  obtain ⟨_, _, _, q, hq, c, hc⟩ := hk
  obtain ⟨c', t', hc', ht'⟩ := own_ty h.ps k ho
  have := ty_ne hc hc'
  subst this
  obtain ⟨h1, h2, h3⟩ := ht q hq
  rcases ht' with e | e | e
  · exact h1 e
  · exact h2 e
  · exact h3 e
end
/-- What is known of the bytes that came of the last thing. -/
def gotOf (ts : List Thg) : ByteArray := match ts.getLast? with
  | none => ⟨#[]⟩
  | some t => strOfNums t.data
end Go.Proofs.YtpbpfngichfgeaaGreatDoor
