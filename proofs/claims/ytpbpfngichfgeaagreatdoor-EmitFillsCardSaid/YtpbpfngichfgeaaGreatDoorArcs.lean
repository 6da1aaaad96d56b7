/-
  Several texts in one: YtpbpfngichfgeaaGreatDoorArc, YtpbpfngichfgeaaGreatDoorArcF, YtpbpfngichfgeaaGreatDoorArcG, YtpbpfngichfgeaaGreatDoorArcV, YtpbpfngichfgeaaGreatDoorArcH, YtpbpfngichfgeaaGreatDoorStayP, YtpbpfngichfgeaaGreatDoorFedP.
-/
import Derived.Test.YtpbpfngichfgeaaGreatDoorPushV
import Derived.Test.YtpbpfngichfgeaaGreatDoorPushRR
namespace Go.Proofs.YtpbpfngichfgeaaGreatDoor
set_option linter.unusedVariables false
set_option linter.unusedSimpArgs false
open Go

structure Thg where
  en : En
  data : List Int
  whole : Bool
  at_ : Int
structure Arc where
  things : List Thg
  done : Bool
  code : Int
  place : Int
  opn : Bool
  over : Bool
def arc0 : Arc := ⟨[], false, 0, 0, false, false⟩
/-- The last thing, turned. -/
def onLast (f : Thg → Thg) (l : List Thg) : List Thg := match l.getLast? with
  | none => l
  | some t => l.dropLast ++ [f t]
theorem onLast_add (f : Thg → Thg) (l : List Thg) (t : Thg) : onLast f (l ++ [t]) = l ++ [f t] := by simp [onLast]
theorem onLast_twice (f g : Thg → Thg) (l : List Thg) : onLast g (onLast f l) = onLast (fun t => g (f t)) l := by
  unfold onLast
  cases h : l.getLast? with
  | none => simp [h]
  | some t => simp
def Arc.ev (a : Arc) (x : Evt) : Option Arc :=
  if a.over = true then none else match x.k with
  | .beg e => if a.opn = true then none else some { a with things := a.things ++ [⟨e, [], false, x.at_⟩], opn := true }
  | .dat d => if a.opn = false ∨ d = [] then none else some { a with things := onLast (fun t => { t with data := t.data ++ d, at_ := x.at_ }) a.things }
  | .fin => if a.opn = false then none else some { a with opn := false, things := onLast (fun t => { t with whole := true, at_ := x.at_ }) a.things }
  | .don => some { a with done := true, over := true }
  | .bad c p => some { a with code := c, place := p, over := true }
def Arc.evs (a : Option Arc) : List Evt → Option Arc
  | [] => a
  | x :: l => Arc.evs (a.bind fun b => b.ev x) l
theorem evs_append (a : Option Arc) : ∀ (l m : List Evt), Arc.evs a (l ++ m) = Arc.evs (Arc.evs a l) m := by
  intro l
  induction l generalizing a with
  | nil => intro m; rfl
  | cons x l ih => intro m; exact ih _ m
theorem evs_none : ∀ (l : List Evt), Arc.evs none l = none
  | [] => rfl
  | x :: l => evs_none l
/-- What was told before stays ahead. -/
def PSt.pre (o : List Evt) (s : PSt) : PSt := { s with out := o ++ s.out }
theorem say_pre (o : List Evt) (s : PSt) (k : EvK) : (s.pre o).say k = (s.say k).pre o := by simp [PSt.say, PSt.pre, List.append_assoc]
theorem bad_pre (o : List Evt) (s : PSt) (c : Int) : (s.pre o).bad c = (s.bad c).pre o := by simp [PSt.bad, PSt.say, PSt.pre, List.append_assoc]
theorem skip_pre (o : List Evt) (s : PSt) : (s.pre o).skip = s.skip.pre o := rfl
theorem finish_pre (o : List Evt) (s : PSt) : (s.pre o).finish = s.finish.pre o := by
  unfold PSt.finish
  rw [say_pre, skip_pre]
theorem ite_pre (o : List Evt) {c : Prop} [Decidable c] (a b a' b' : PSt) (h1 : a' = a.pre o) (h2 : b' = b.pre o) : (if c then a' else b') = (if c then a else b).pre o := by
  split <;> assumption
theorem told_pre (o : List Evt) (s : PSt) : (s.pre o).told = s.told.pre o := by
  unfold PSt.told
  refine ite_pre o _ _ _ _ rfl (ite_pre o _ _ _ _ rfl (ite_pre o _ _ _ _ (bad_pre o s _) (ite_pre o _ _ _ _ ?_ ?_)))
  · exact ite_pre o _ _ _ _ (bad_pre o s _) rfl
  · exact ite_pre o _ _ _ _ (bad_pre o s _) rfl
theorem thing_pre (o : List Evt) (s : PSt) (h : Hd) : (s.pre o).thing h = (s.thing h).pre o := by
  unfold PSt.thing
  refine ite_pre o _ _ _ _ (bad_pre o s _) (ite_pre o _ _ _ _ ?_ ?_)
  · refine Eq.trans ?_ (finish_pre o _)
    congr 1
    simp [PSt.say, PSt.pre, List.append_assoc]
  · simp [PSt.say, PSt.pre, List.append_assoc]
theorem head_pre (o : List Evt) (s : PSt) : (s.pre o).head = s.head.pre o := by
  unfold PSt.head
  refine ite_pre o _ _ _ _ (ite_pre o _ _ _ _ ?_ rfl) (ite_pre o _ _ _ _ (bad_pre o s _) (ite_pre o _ _ _ _ (bad_pre o s _) (ite_pre o _ _ _ _ ?_ (ite_pre o _ _ _ _ ?_ (ite_pre o _ _ _ _ ?_ (ite_pre o _ _ _ _ ?_ (ite_pre o _ _ _ _ ?_ rfl)))))))
  · simp [PSt.say, PSt.pre, List.append_assoc]
  · exact bad_pre o { s with cls := clsOf (decV s.block).1.typ } 80
  · exact thing_pre o { s with cls := clsOf (decV s.block).1.typ } _
  · exact bad_pre o { s with cls := clsOf (decV s.block).1.typ } 90
  · exact bad_pre o { s with cls := clsOf (decV s.block).1.typ } 2
  · exact told_pre o { s with cls := clsOf (decV s.block).1.typ, st := 1, left := (decV s.block).1.size, pad := padOf (decV s.block).1.size, text := [] }
theorem round_pre (o : List Evt) (s : PSt) (xs : List Int) : (s.pre o).round xs = ((s.round xs).1.pre o, (s.round xs).2) := by
  unfold PSt.round
  by_cases h0 : s.st = 0
  · rw [if_pos (show (s.pre o).st = 0 from h0), if_pos h0]
    refine Prod.ext (ite_pre o _ _ _ _ ?_ rfl) rfl
    have := head_pre o { s with block := s.block ++ xs.take (min xs.length (512 - s.block.length)), at_ := s.at_ + ((min xs.length (512 - s.block.length) : Nat) : Int), place := s.at_ + ((min xs.length (512 - s.block.length) : Nat) : Int) - 512 }
    exact congrArg (fun q : PSt => { q with block := [] }) this
  rw [if_neg (show ¬ (s.pre o).st = 0 from h0), if_neg h0]
  by_cases h1 : s.st = 1
  · rw [if_pos (show (s.pre o).st = 1 from h1), if_pos h1]
    refine Prod.ext (ite_pre o _ _ _ _ ?_ rfl) rfl
    exact told_pre o { s with text := s.text ++ xs.take (min xs.length s.left.toNat), at_ := s.at_ + ((min xs.length s.left.toNat : Nat) : Int), left := s.left - ((min xs.length s.left.toNat : Nat) : Int) }
  rw [if_neg (show ¬ (s.pre o).st = 1 from h1), if_neg h1]
  by_cases h2 : s.st = 2
  · rw [if_pos (show (s.pre o).st = 2 from h2), if_pos h2]
    have e : ({ ({ (s.pre o) with at_ := s.at_ + ((min xs.length s.left.toNat : Nat) : Int) } : PSt).say (.dat (xs.take (min xs.length s.left.toNat))) with left := s.left - ((min xs.length s.left.toNat : Nat) : Int) } : PSt) = ({ ({ s with at_ := s.at_ + ((min xs.length s.left.toNat : Nat) : Int) } : PSt).say (.dat (xs.take (min xs.length s.left.toNat))) with left := s.left - ((min xs.length s.left.toNat : Nat) : Int) } : PSt).pre o := by
      simp [PSt.say, PSt.pre, List.append_assoc]
    refine Prod.ext (ite_pre o _ _ _ _ ?_ e) rfl
    exact (congrArg PSt.finish e).trans (finish_pre o _)
  rw [if_neg (show ¬ (s.pre o).st = 2 from h2), if_neg h2]
  exact Prod.ext (ite_pre o _ _ _ _ rfl rfl) rfl
end Go.Proofs.YtpbpfngichfgeaaGreatDoor

namespace Go.Proofs.YtpbpfngichfgeaaGreatDoor
set_option linter.unusedVariables false
set_option linter.unusedSimpArgs false
open Go

abbrev J := PSt × Option Arc
def stepN (j : J) (xs : List Int) : J × Nat := (({ (j.1.round xs).1 with out := [] }, Arc.evs j.2 (j.1.round xs).1.out), (j.1.round xs).2)
theorem dat_two (a : Option Arc) (x : Int) (ys : List Int) (hy : ys ≠ []) (p q : Int) (l : List Evt) : Arc.evs (Arc.evs a [⟨.dat [x], p⟩]) (⟨.dat ys, q⟩ :: l) = Arc.evs a (⟨.dat (x :: ys), q⟩ :: l) := by
  cases a with
  | none => simp only [Arc.evs, Option.bind_none]
  | some b =>
    simp only [Arc.evs, Option.bind_some]
    congr 1
    unfold Arc.ev
    by_cases ho : b.over = true
    · simp [ho]
    · by_cases hp : b.opn = false
      · simp [ho, hp]
      · have e : ∀ ts : List Thg, onLast (fun t : Thg => { t with data := t.data ++ ys, at_ := q }) (onLast (fun t : Thg => { t with data := t.data ++ [x], at_ := p }) ts) = onLast (fun t : Thg => { t with data := t.data ++ x :: ys, at_ := q }) ts := by
          intro ts
          rw [onLast_twice]
          congr 1
          funext t
          simp [List.append_assoc]
        simp [ho, hp, hy, e]
structure Cap (s : PSt) : Prop where
  s0 : 0 ≤ s.st
  s4 : s.st < 4
  c0 : s.st = 0 → s.block.length < 512
  c1 : s.st = 1 ∨ s.st = 2 → 1 ≤ s.left
  c3 : s.st = 3 → 1 ≤ s.pad
theorem peel (s : PSt) (x : Int) (ys : List Int) (a : Option Arc) (hs : s.out = []) (hc : Cap s) (h2 : 2 ≤ (s.round (x :: ys)).2) :
    (stepN (stepN (s, a) [x]).1 ys).1 = (stepN (s, a) (x :: ys)).1 ∧ (stepN (stepN (s, a) [x]).1 ys).2 + 1 = (s.round (x :: ys)).2 ∧ (stepN (s, a) [x]).1.1.st = s.st := by
  have ht : ∀ m, (x :: ys).take (m + 1) = x :: ys.take m := fun m => rfl
  have h1x : ∀ m, (([x] : List Int).take (m + 1)) = [x] := fun m => by simp
  by_cases s0 : s.st = 0
  · have hb := hc.c0 s0
    have en : (s.round (x :: ys)).2 = min (ys.length + 1) (512 - s.block.length) := by
      unfold PSt.round
      rw [if_pos s0]
      rfl
    rw [en] at h2
    obtain ⟨m, hm⟩ : ∃ m, min (ys.length + 1) (512 - s.block.length) = m + 1 := ⟨min (ys.length + 1) (512 - s.block.length) - 1, by omega⟩
    have e1 : s.round [x] = ({ s with block := s.block ++ [x], at_ := s.at_ + 1 }, 1) := by
      unfold PSt.round
      rw [if_pos s0]
      have q : min ([x] : List Int).length (512 - s.block.length) = 1 := by simp; omega
      simp only [q]
      rw [if_neg (by simp; omega)]
      simp
    have e2 : (stepN (s, a) [x]).1 = ({ s with block := s.block ++ [x], at_ := s.at_ + 1 }, a) := by
      unfold stepN
      simp only [e1, hs]
      rw [Arc.evs]
    have e3 : ({ s with block := s.block ++ [x], at_ := s.at_ + 1 } : PSt).round ys = ((s.round (x :: ys)).1, m) := by
      unfold PSt.round
      rw [if_pos (show ({ s with block := s.block ++ [x], at_ := s.at_ + 1 } : PSt).st = 0 from s0), if_pos s0]
      have q1 : min ys.length (512 - (s.block ++ [x]).length) = m := by simp; omega
      have q2 : min (x :: ys).length (512 - s.block.length) = m + 1 := by simpa using hm
      simp only [q1, q2, ht, List.append_assoc, List.singleton_append]
      have q3 : s.at_ + 1 + (m : Int) = s.at_ + ((m + 1 : Nat) : Int) := by omega
      rw [q3]
    rw [e2]
    refine ⟨?_, ?_, rfl⟩
    · unfold stepN
      simp only [e3]
    · unfold stepN
      simp only [e3]
      rw [en]
      exact hm.symm
  by_cases s1 : s.st = 1
  · have hb := hc.c1 (.inl s1)
    have en : (s.round (x :: ys)).2 = min (ys.length + 1) s.left.toNat := by
      unfold PSt.round
      rw [if_neg s0, if_pos s1]
      rfl
    rw [en] at h2
    obtain ⟨m, hm⟩ : ∃ m, min (ys.length + 1) s.left.toNat = m + 1 := ⟨min (ys.length + 1) s.left.toNat - 1, by omega⟩
    have e1 : s.round [x] = ({ s with text := s.text ++ [x], at_ := s.at_ + 1, left := s.left - 1 }, 1) := by
      unfold PSt.round
      rw [if_neg s0, if_pos s1]
      have q : min ([x] : List Int).length s.left.toNat = 1 := by simp; omega
      simp only [q]
      rw [if_neg (by omega)]
      simp
    have e2 : (stepN (s, a) [x]).1 = ({ s with text := s.text ++ [x], at_ := s.at_ + 1, left := s.left - 1 }, a) := by
      unfold stepN
      simp only [e1, hs]
      rw [Arc.evs]
    have e3 : ({ s with text := s.text ++ [x], at_ := s.at_ + 1, left := s.left - 1 } : PSt).round ys = ((s.round (x :: ys)).1, m) := by
      unfold PSt.round
      rw [if_neg (show ¬ ({ s with text := s.text ++ [x], at_ := s.at_ + 1, left := s.left - 1 } : PSt).st = 0 from s0), if_pos (show ({ s with text := s.text ++ [x], at_ := s.at_ + 1, left := s.left - 1 } : PSt).st = 1 from s1), if_neg s0, if_pos s1]
      have q1 : min ys.length (s.left - 1).toNat = m := by omega
      have q2 : min (x :: ys).length s.left.toNat = m + 1 := by simpa using hm
      simp only [q1, q2, ht, List.append_assoc, List.singleton_append]
      have q3 : s.at_ + 1 + (m : Int) = s.at_ + ((m + 1 : Nat) : Int) := by omega
      have q4 : s.left - 1 - (m : Int) = s.left - ((m + 1 : Nat) : Int) := by omega
      rw [q3, q4]
    rw [e2]
    refine ⟨?_, ?_, rfl⟩
    · unfold stepN
      simp only [e3]
    · unfold stepN
      simp only [e3]
      rw [en]
      exact hm.symm
  by_cases s2 : s.st = 2
  · have hb := hc.c1 (.inr s2)
    have en : (s.round (x :: ys)).2 = min (ys.length + 1) s.left.toNat := by
      unfold PSt.round
      rw [if_neg s0, if_neg s1, if_pos s2]
      rfl
    rw [en] at h2
    obtain ⟨m, hm⟩ : ∃ m, min (ys.length + 1) s.left.toNat = m + 1 := ⟨min (ys.length + 1) s.left.toNat - 1, by omega⟩
    have e1 : s.round [x] = ({ s with at_ := s.at_ + 1, left := s.left - 1, out := [⟨.dat [x], s.at_ + 1⟩] }, 1) := by
      unfold PSt.round
      rw [if_neg s0, if_neg s1, if_pos s2]
      have q : min ([x] : List Int).length s.left.toNat = 1 := by simp; omega
      simp only [q]
      rw [if_neg (by show ¬ s.left - ((1 : Nat) : Int) = 0; omega)]
      simp [PSt.say, hs]
    have e2 : (stepN (s, a) [x]).1 = ({ s with at_ := s.at_ + 1, left := s.left - 1, out := [] }, Arc.evs a [⟨.dat [x], s.at_ + 1⟩]) := by
      unfold stepN
      simp only [e1]
    have hm0 : 0 < m := by omega
    have hyl : m ≤ ys.length := by omega
    have hne : ys.take m ≠ [] := by
      intro e
      have := congrArg List.length e
      rw [List.length_take, List.length_nil, Nat.min_eq_left hyl] at this
      omega
    have q1 : min ys.length (s.left - 1).toNat = m := by omega
    have q2 : min (x :: ys).length s.left.toNat = m + 1 := by simpa using hm
    have q3 : s.at_ + 1 + (m : Int) = s.at_ + ((m + 1 : Nat) : Int) := by omega
    have q4 : s.left - 1 - (m : Int) = s.left - ((m + 1 : Nat) : Int) := by omega
    obtain ⟨R, hR⟩ : ∃ R : PSt × List Evt, R.1.out = [] ∧
        ({ s with at_ := s.at_ + 1, left := s.left - 1, out := [] } : PSt).round ys = ({ R.1 with out := ⟨.dat (ys.take m), s.at_ + ((m + 1 : Nat) : Int)⟩ :: R.2 }, m) ∧
        s.round (x :: ys) = ({ R.1 with out := ⟨.dat (x :: ys.take m), s.at_ + ((m + 1 : Nat) : Int)⟩ :: R.2 }, m + 1) := by
      unfold PSt.round
      rw [if_neg (show ¬ ({ s with at_ := s.at_ + 1, left := s.left - 1, out := [] } : PSt).st = 0 from s0), if_neg (show ¬ ({ s with at_ := s.at_ + 1, left := s.left - 1, out := [] } : PSt).st = 1 from s1), if_pos (show ({ s with at_ := s.at_ + 1, left := s.left - 1, out := [] } : PSt).st = 2 from s2), if_neg s0, if_neg s1, if_pos s2]
      simp only [q1, q2, ht, q3]
      rw [q4]
      by_cases hz : s.left - ((m + 1 : Nat) : Int) = 0
      · rw [if_pos (show (PSt.left { (PSt.say { s with at_ := s.at_ + ((m + 1 : Nat) : Int), left := s.left - 1, out := [] } (.dat (ys.take m))) with left := s.left - ((m + 1 : Nat) : Int) }) = 0 from hz), if_pos (show (PSt.left { (PSt.say { s with at_ := s.at_ + ((m + 1 : Nat) : Int) } (.dat (x :: ys.take m))) with left := s.left - ((m + 1 : Nat) : Int) }) = 0 from hz)]
        refine ⟨({ s with at_ := s.at_ + ((m + 1 : Nat) : Int), left := s.left - ((m + 1 : Nat) : Int), st := if s.pad = 0 then 0 else 3, out := [] }, [⟨.fin, s.at_ + ((m + 1 : Nat) : Int)⟩]), rfl, ?_, ?_⟩
        · simp [PSt.finish, PSt.say, PSt.skip]
          try rfl
        · simp [PSt.finish, PSt.say, PSt.skip, hs]
          try rfl
      · rw [if_neg (show ¬ (PSt.left { (PSt.say { s with at_ := s.at_ + ((m + 1 : Nat) : Int), left := s.left - 1, out := [] } (.dat (ys.take m))) with left := s.left - ((m + 1 : Nat) : Int) }) = 0 from hz), if_neg (show ¬ (PSt.left { (PSt.say { s with at_ := s.at_ + ((m + 1 : Nat) : Int) } (.dat (x :: ys.take m))) with left := s.left - ((m + 1 : Nat) : Int) }) = 0 from hz)]
        refine ⟨({ s with at_ := s.at_ + ((m + 1 : Nat) : Int), left := s.left - ((m + 1 : Nat) : Int), out := [] }, []), rfl, ?_, ?_⟩
        · simp [PSt.say]
        · simp [PSt.say, hs]
    obtain ⟨r0, r1, r2⟩ := hR
    rw [e2]
    refine ⟨?_, ?_, rfl⟩
    · unfold stepN
      simp only [r1, r2]
      rw [dat_two a x _ hne]
    · unfold stepN
      simp only [r1]
      rw [en]
      exact hm.symm
  have s3 : s.st = 3 := by have := hc.s0; have := hc.s4; omega
  have hb := hc.c3 s3
  have en : (s.round (x :: ys)).2 = min (ys.length + 1) s.pad.toNat := by
    unfold PSt.round
    rw [if_neg s0, if_neg s1, if_neg s2]
    rfl
  rw [en] at h2
  obtain ⟨m, hm⟩ : ∃ m, min (ys.length + 1) s.pad.toNat = m + 1 := ⟨min (ys.length + 1) s.pad.toNat - 1, by omega⟩
  have e1 : s.round [x] = ({ s with at_ := s.at_ + 1, pad := s.pad - 1 }, 1) := by
    unfold PSt.round
    rw [if_neg s0, if_neg s1, if_neg s2]
    have q : min ([x] : List Int).length s.pad.toNat = 1 := by simp; omega
    simp only [q]
    rw [if_neg (by omega)]
    simp
  have e2 : (stepN (s, a) [x]).1 = ({ s with at_ := s.at_ + 1, pad := s.pad - 1 }, a) := by
    unfold stepN
    simp only [e1, hs]
    rw [Arc.evs]
  have e3 : ({ s with at_ := s.at_ + 1, pad := s.pad - 1 } : PSt).round ys = ((s.round (x :: ys)).1, m) := by
    unfold PSt.round
    rw [if_neg (show ¬ ({ s with at_ := s.at_ + 1, pad := s.pad - 1 } : PSt).st = 0 from s0), if_neg (show ¬ ({ s with at_ := s.at_ + 1, pad := s.pad - 1 } : PSt).st = 1 from s1), if_neg (show ¬ ({ s with at_ := s.at_ + 1, pad := s.pad - 1 } : PSt).st = 2 from s2), if_neg s0, if_neg s1, if_neg s2]
    have q1 : min ys.length (s.pad - 1).toNat = m := by omega
    have q2 : min (x :: ys).length s.pad.toNat = m + 1 := by simpa using hm
    simp only [q1, q2]
    have q3 : s.at_ + 1 + (m : Int) = s.at_ + ((m + 1 : Nat) : Int) := by omega
    have q4 : s.pad - 1 - (m : Int) = s.pad - ((m + 1 : Nat) : Int) := by omega
    rw [q3, q4]
  rw [e2]
  refine ⟨?_, ?_, rfl⟩
  · unfold stepN
    simp only [e3]
  · unfold stepN
    simp only [e3]
    rw [en]
    exact hm.symm
end Go.Proofs.YtpbpfngichfgeaaGreatDoor

namespace Go.Proofs.YtpbpfngichfgeaaGreatDoor
set_option linter.unusedVariables false
set_option linter.unusedSimpArgs false
open Go

def byte1 (j : J) (x : Int) : J := if j.1.st = 4 then j else (stepN j [x]).1
def foldB (j : J) (xs : List Int) : J := xs.foldl byte1 j
theorem foldB_append (j : J) (xs ys : List Int) : foldB j (xs ++ ys) = foldB (foldB j xs) ys := List.foldl_append
theorem foldB_over (xs : List Int) (j : J) (h : j.1.st = 4) : foldB j xs = j := by
  induction xs with
  | nil => rfl
  | cons x xs ih =>
    show foldB (byte1 j x) xs = j
    unfold byte1
    rw [if_pos h]
    exact ih
def feedJ (j : J) (xs : List Int) : J := ({ j.1.feed xs with out := [] }, Arc.evs j.2 (j.1.feed xs).out)
structure OkS (s : PSt) : Prop where
  wf : WFs s
  wm : WFm s
  out : s.out = []
theorem OkS.cap {s : PSt} (h : OkS s) (h4 : s.st ≠ 4) : Cap s :=
  ⟨h.wm.s0, by have := h.wm.s4; omega, fun _ => h.wm.bl, fun e => by rcases e with e | e; exact (h.wm.l1 e).1; exact (h.wm.l2 e).1, h.wm.p3⟩
theorem OkS.next {s : PSt} (h : OkS s) (h4 : s.st ≠ 4) {xs : List Int} (hp : 0 < xs.length) (hb : ∀ x ∈ xs, 0 ≤ x ∧ x < 256) (ha : s.at_ + xs.length ≤ 1099511627776) :
    OkS { (s.round xs).1 with out := [] } ∧ 0 < (s.round xs).2 ∧ (s.round xs).2 ≤ xs.length ∧ (s.round xs).1.at_ = s.at_ + (s.round xs).2 := by
  have r := round_ok h.wf h.wm hp h4 hb ha (by rw [h.out]; simp) (show s.round xs = ((s.round xs).1, (s.round xs).2) from rfl)
  have w := r.wf
  have m := r.wm
  exact ⟨⟨⟨w.bb, w.tb, w.bl, w.tl, w.gl, w.ll, w.gs, w.ls, w.nm, w.lk, w.a0, w.a1, by show (0 : Nat) ≤ _; omega⟩, ⟨m.s0, m.s4, m.bl, m.p0, m.p1, m.p3, m.l1, m.l2⟩, rfl⟩, r.pos, r.le, r.at_⟩
/-- A round that takes one byte. -/
theorem round_one (s : PSt) (x : Int) (ys : List Int) (hc : Cap s) (h : (s.round (x :: ys)).2 = 1) : s.round (x :: ys) = s.round [x] := by
  unfold PSt.round at h ⊢
  by_cases s0 : s.st = 0
  · rw [if_pos s0] at h ⊢
    rw [if_pos s0]
    have hb := hc.c0 s0
    have q1 : min (x :: ys).length (512 - s.block.length) = 1 := h
    have q2 : min ([x] : List Int).length (512 - s.block.length) = 1 := by simp; omega
    simp only [q1, q2]
    rfl
  rw [if_neg s0] at h ⊢
  rw [if_neg s0]
  by_cases s1 : s.st = 1
  · rw [if_pos s1] at h ⊢
    rw [if_pos s1]
    have hb := hc.c1 (.inl s1)
    have q1 : min (x :: ys).length s.left.toNat = 1 := h
    have q2 : min ([x] : List Int).length s.left.toNat = 1 := by simp; omega
    simp only [q1, q2]
    rfl
  rw [if_neg s1] at h ⊢
  rw [if_neg s1]
  by_cases s2 : s.st = 2
  · rw [if_pos s2] at h ⊢
    rw [if_pos s2]
    have hb := hc.c1 (.inr s2)
    have q1 : min (x :: ys).length s.left.toNat = 1 := h
    have q2 : min ([x] : List Int).length s.left.toNat = 1 := by simp; omega
    simp only [q1, q2]
    rfl
  rw [if_neg s2] at h ⊢
  rw [if_neg s2]
  have hb := hc.c3 (by have := hc.s0; have := hc.s4; omega)
  have q1 : min (x :: ys).length s.pad.toNat = 1 := h
  have q2 : min ([x] : List Int).length s.pad.toNat = 1 := by simp; omega
  simp only [q1, q2]
theorem take_fold : ∀ (n : Nat) (s : PSt) (xs : List Int) (a : Option Arc), OkS s → s.st ≠ 4 → 0 < xs.length → (∀ x ∈ xs, 0 ≤ x ∧ x < 256) → s.at_ + xs.length ≤ 1099511627776 → (s.round xs).2 = n →
    (stepN (s, a) xs).1 = foldB (s, a) (xs.take n)
  | 0, s, xs, a, hs, h4, hp, hb, ha, hn => by have := (hs.next h4 hp hb ha).2.1; omega
  | n + 1, s, [], a, hs, h4, hp, hb, ha, hn => by simp at hp
  | n + 1, s, x :: ys, a, hs, h4, hp, hb, ha, hn => by
    have hx : ∀ y ∈ ([x] : List Int), 0 ≤ y ∧ y < 256 := fun y hy => hb y (by rw [List.mem_singleton.1 hy]; simp)
    have hal : s.at_ + ((ys.length + 1 : Nat) : Int) ≤ 1099511627776 := ha
    have e1 : foldB (s, a) ((x :: ys).take (n + 1)) = foldB (stepN (s, a) [x]).1 (ys.take n) := by
      show foldB (byte1 (s, a) x) (ys.take n) = _
      unfold byte1
      rw [if_neg h4]
    rw [e1]
    rcases Nat.eq_zero_or_pos n with hz | hz
    · subst hz
      have e := round_one s x ys (hs.cap h4) hn
      show ({ (s.round (x :: ys)).1 with out := [] }, Arc.evs a (s.round (x :: ys)).1.out) = _
      rw [e]
      rfl
    · obtain ⟨p1, p2, p3⟩ := peel s x ys a hs.out (hs.cap h4) (by omega)
      obtain ⟨o1, o2, o3, o4⟩ := hs.next h4 (xs := [x]) (by simp) hx (by show s.at_ + ((1 : Nat) : Int) ≤ _; omega)
      have hr : ((stepN (s, a) [x]).1.1.round ys).2 = n := by
        have : (stepN (stepN (s, a) [x]).1 ys).2 = ((stepN (s, a) [x]).1.1.round ys).2 := rfl
        omega
      have hone : (s.round [x]).2 = 1 := by simp at o3; omega
      have hat : (stepN (s, a) [x]).1.1.at_ = s.at_ + 1 := by
        show (s.round [x]).1.at_ = _
        rw [o4, hone]
        rfl
      have hy : 0 < ys.length := by
        rcases Nat.eq_zero_or_pos ys.length with h0 | h0
        · have hl := (hs.next h4 hp hb ha).2.2.1
          rw [hn] at hl
          simp at hl
          omega
        · exact h0
      rw [← p1]
      exact take_fold n (stepN (s, a) [x]).1.1 ys (stepN (s, a) [x]).1.2 o1 (by rw [p3]; exact h4) hy (fun y hy => hb y (by simp [hy])) (by rw [hat]; omega) hr
theorem pre_pre (o p : List Evt) (s : PSt) : (s.pre p).pre o = s.pre (o ++ p) := by simp [PSt.pre, List.append_assoc]
theorem pre_out (s : PSt) : ({ s with out := [] } : PSt).pre s.out = s := by simp [PSt.pre]
theorem feedL_fold : ∀ (k : Nat) (o : List Evt) (s : PSt) (xs : List Int) (a : Option Arc), OkS s → (∀ x ∈ xs, 0 ≤ x ∧ x < 256) → s.at_ + xs.length ≤ 1099511627776 → xs.length ≤ k →
    ∃ t, (PSt.feedL (k + 1) (s.pre o) xs).out = o ++ t ∧ (({ PSt.feedL (k + 1) (s.pre o) xs with out := [] }, Arc.evs a t) : J) = foldB (s, a) xs := by
  intro k
  induction k with
  | zero =>
    intro o s xs a hs hb ha hk
    obtain rfl : xs = [] := List.length_eq_zero_iff.1 (by omega)
    have e : PSt.feedL (0 + 1) (s.pre o) [] = s.pre o := if_pos (.inl rfl)
    rw [e]
    refine ⟨[], by show o ++ s.out = _; rw [hs.out], ?_⟩
    show (({ s with out := [] }, a) : J) = (s, a)
    rw [← hs.out]
  | succ k ih =>
    intro o s xs a hs hb ha hk
    by_cases hst : xs = [] ∨ s.st = 4
    · have e : PSt.feedL (k + 1 + 1) (s.pre o) xs = s.pre o := if_pos hst
      rw [e]
      refine ⟨[], by show o ++ s.out = _; rw [hs.out], ?_⟩
      have e2 : (({ s with out := [] }, a) : J) = (s, a) := by rw [← hs.out]
      refine Eq.trans (show _ = (({ s with out := [] }, a) : J) from rfl) (e2.trans ?_)
      rcases hst with h | h
      · rw [h]; rfl
      · exact (foldB_over xs (s, a) h).symm
    · have hp : 0 < xs.length := Nat.pos_of_ne_zero (fun h => hst (.inl (List.length_eq_zero_iff.1 h)))
      have h4 : s.st ≠ 4 := fun h => hst (.inr h)
      obtain ⟨o1, o2, o3, o4⟩ := hs.next h4 hp hb ha
      have e : PSt.feedL (k + 1 + 1) (s.pre o) xs = PSt.feedL (k + 1) (({ (s.round xs).1 with out := [] } : PSt).pre (o ++ (s.round xs).1.out)) (xs.drop (s.round xs).2) := by
        show (if xs = [] ∨ (s.pre o).st = 4 then s.pre o else PSt.feedL (k + 1) ((s.pre o).round xs).1 (xs.drop ((s.pre o).round xs).2)) = _
        rw [if_neg (show ¬ (xs = [] ∨ (s.pre o).st = 4) from hst), round_pre, ← pre_pre, pre_out]
      have hl : (xs.drop (s.round xs).2).length = xs.length - (s.round xs).2 := List.length_drop
      have hat : ({ (s.round xs).1 with out := [] } : PSt).at_ = s.at_ + (s.round xs).2 := o4
      obtain ⟨t, t1, t2⟩ := ih (o ++ (s.round xs).1.out) { (s.round xs).1 with out := [] } (xs.drop (s.round xs).2) (Arc.evs a (s.round xs).1.out) o1 (fun x hx => hb x (List.mem_of_mem_drop hx)) (by rw [hat]; omega) (by omega)
      rw [e]
      refine ⟨(s.round xs).1.out ++ t, by rw [t1, List.append_assoc], ?_⟩
      rw [evs_append, t2]
      have hf := take_fold (s.round xs).2 s xs a hs h4 hp hb ha rfl
      have : foldB (s, a) xs = foldB (foldB (s, a) (xs.take (s.round xs).2)) (xs.drop (s.round xs).2) := by rw [← foldB_append, List.take_append_drop]
      rw [this, ← hf]
      rfl
/-- Feed is the fold over its bytes. -/
theorem feed_fold (s : PSt) (xs : List Int) (a : Option Arc) (hs : OkS s) (hb : ∀ x ∈ xs, 0 ≤ x ∧ x < 256) (ha : s.at_ + xs.length ≤ 1099511627776) : feedJ (s, a) xs = foldB (s, a) xs := by
  obtain ⟨t, t1, t2⟩ := feedL_fold xs.length [] s xs a hs hb ha (Nat.le_refl _)
  have e0 : s.pre [] = { s with out := [] } := by show ({ s with out := [] ++ s.out } : PSt) = _; rw [hs.out]; rfl
  rw [e0] at t1 t2
  unfold feedJ
  show (({ PSt.feedL (xs.length + 1) { s with out := [] } xs with out := [] }, Arc.evs a (PSt.feedL (xs.length + 1) { s with out := [] } xs).out) : J) = _
  rw [← t2]
  rw [t1]
  rfl
end Go.Proofs.YtpbpfngichfgeaaGreatDoor

namespace Go.Proofs.YtpbpfngichfgeaaGreatDoor
set_option linter.unusedVariables false
set_option linter.unusedSimpArgs false
open Go

/-- The state that the law keeps and the parser's state agree. -/
def Val (s : PSt) (a : Option Arc) : Prop := ∃ b, a = some b ∧ (b.opn = true ↔ s.st = 2) ∧ (b.over = true ↔ s.st = 4)
section
variable {s : PSt} {b : Arc} (ho : s.out = []) (h1 : b.opn = false) (h2 : b.over = false)
include ho h1 h2
theorem val_bad (c : Int) : Val (s.bad c) (Arc.evs (some b) (s.bad c).out) := by
  have e : (s.bad c).out = [⟨.bad c s.place, s.at_⟩] := by simp [PSt.bad, PSt.say, ho]
  rw [e]
  refine ⟨{ b with code := c, place := s.place, over := true }, ?_, ?_, ?_⟩
  · simp [Arc.evs, Arc.ev, h2]
  · show b.opn = true ↔ (4 : Int) = 2
    simp [h1]
  · show true = true ↔ (4 : Int) = 4
    simp
theorem val_same (hst : s.st ≠ 2 ∧ s.st ≠ 4) : Val s (Arc.evs (some b) s.out) := by
  rw [ho]
  exact ⟨b, rfl, by simp [h1, hst.1], by simp [h2, hst.2]⟩
theorem val_skip : Val s.skip (Arc.evs (some b) s.skip.out) := by
  have e : s.skip.out = [] := ho
  rw [e]
  have est : s.skip.st = if s.pad = 0 then 0 else 3 := rfl
  refine ⟨b, rfl, ?_, ?_⟩
  · rw [est]; split <;> simp [h1]
  · rw [est]; split <;> simp [h2]
theorem val_told : Val s.told (Arc.evs (some b) s.told.out) := by
  unfold PSt.told
  split
  · exact val_skip (s := { s with nm := textZ s.text }) ho h1 h2
  · split
    · exact val_skip (s := { s with lk := textZ s.text }) ho h1 h2
    · split
      · exact val_bad ho h1 h2 _
      · split
        · split
          · exact val_bad ho h1 h2 _
          · exact val_skip (s := { s with glob := s.glob ++ (paxV s.text).1 }) ho h1 h2
        · split
          · exact val_bad ho h1 h2 _
          · exact val_skip (s := { s with loc := s.loc ++ (paxV s.text).1 }) ho h1 h2
theorem val_thing (h : Hd) : Val (s.thing h) (Arc.evs (some b) (s.thing h).out) := by
  unfold PSt.thing
  simp only
  split
  · exact val_bad ho h1 h2 _
  · split
    · have e : (PSt.finish { ({ s with loc := [], nm := ⟨#[]⟩, lk := ⟨#[]⟩ } : PSt).say (.beg (mkE h s.glob s.loc s.nm s.lk).1) with st := 2, left := (mkE h s.glob s.loc s.nm s.lk).1.sz, pad := padOf (mkE h s.glob s.loc s.nm s.lk).1.sz }).out = [⟨.beg (mkE h s.glob s.loc s.nm s.lk).1, s.at_⟩, ⟨.fin, s.at_⟩] := by
        simp [PSt.finish, PSt.say, PSt.skip, ho]
      refine ⟨{ b with opn := false, things := onLast (fun t => { t with whole := true, at_ := s.at_ }) (b.things ++ [⟨(mkE h s.glob s.loc s.nm s.lk).1, [], false, s.at_⟩]) }, ?_, ?_, ?_⟩
      · refine (congrArg (Arc.evs (some b)) e).trans ?_
        simp [Arc.evs, Arc.ev, h1, h2]
      · show false = true ↔ (if padOf (mkE h s.glob s.loc s.nm s.lk).1.sz = 0 then (0 : Int) else 3) = 2
        split <;> simp
      · show b.over = true ↔ (if padOf (mkE h s.glob s.loc s.nm s.lk).1.sz = 0 then (0 : Int) else 3) = 4
        split <;> simp [h2]
    · refine ⟨{ b with opn := true, things := b.things ++ [⟨(mkE h s.glob s.loc s.nm s.lk).1, [], false, s.at_⟩] }, ?_, ?_, ?_⟩
      · have e : (({ s with loc := [], nm := ⟨#[]⟩, lk := ⟨#[]⟩ } : PSt).say (.beg (mkE h s.glob s.loc s.nm s.lk).1)).out = [⟨.beg (mkE h s.glob s.loc s.nm s.lk).1, s.at_⟩] := by simp [PSt.say, ho]
        refine (congrArg (Arc.evs (some b)) e).trans ?_
        simp [Arc.evs, Arc.ev, h1, h2]
      · show true = true ↔ (2 : Int) = 2
        simp
      · show b.over = true ↔ (2 : Int) = 4
        simp [h2]
theorem val_head (hst : s.st = 0) : Val s.head (Arc.evs (some b) s.head.out) := by
  unfold PSt.head
  simp only
  split
  · split
    · have e : (({ s with st := 4, done := true } : PSt).say .don).out = [⟨.don, s.at_⟩] := by simp [PSt.say, ho]
      refine ⟨{ b with done := true, over := true }, (congrArg (Arc.evs (some b)) e).trans (by simp [Arc.evs, Arc.ev, h2]), ?_, ?_⟩
      · show b.opn = true ↔ (4 : Int) = 2
        simp [h1]
      · show true = true ↔ (4 : Int) = 4
        simp
    · exact val_same (s := { s with blank := true }) ho h1 h2 ⟨by show s.st ≠ 2; omega, by show s.st ≠ 4; omega⟩
  · split
    · exact val_bad ho h1 h2 _
    · split
      · exact val_bad ho h1 h2 _
      · split
        · exact val_bad (s := { s with cls := clsOf (decV s.block).1.typ }) ho h1 h2 _
        · split
          · exact val_thing (s := { s with cls := clsOf (decV s.block).1.typ }) ho h1 h2 _
          · split
            · exact val_bad (s := { s with cls := clsOf (decV s.block).1.typ }) ho h1 h2 _
            · split
              · exact val_bad (s := { s with cls := clsOf (decV s.block).1.typ }) ho h1 h2 _
              · split
                · exact val_told (s := { s with cls := clsOf (decV s.block).1.typ, st := 1, left := (decV s.block).1.size, pad := padOf (decV s.block).1.size, text := [] }) ho h1 h2
                · exact val_same (s := { s with cls := clsOf (decV s.block).1.typ, st := 1, left := (decV s.block).1.size, pad := padOf (decV s.block).1.size, text := [] }) ho h1 h2 ⟨by show (1 : Int) ≠ 2; decide, by show (1 : Int) ≠ 4; decide⟩
end
theorem val_byte (s : PSt) (a : Option Arc) (x : Int) (hs : OkS s) (hv : Val s a) : Val (byte1 (s, a) x).1 (byte1 (s, a) x).2 := by
  unfold byte1
  by_cases h4 : s.st = 4
  · rw [if_pos h4]; exact hv
  · rw [if_neg h4]
    obtain ⟨b, rfl, v1, v2⟩ := hv
    have hov : b.over = false := by
      cases h : b.over with
      | false => rfl
      | true => exact absurd (v2.1 h) h4
    have key : ∀ s' : PSt, Val s' (Arc.evs (some b) s'.out) → Val { s' with out := [] } (Arc.evs (some b) s'.out) := fun s' h => h
    show Val { (s.round [x]).1 with out := [] } (Arc.evs (some b) (s.round [x]).1.out)
    apply key
    have hc := hs.cap h4
    unfold PSt.round
    by_cases s0 : s.st = 0
    · have hop : b.opn = false := by
        cases h : b.opn with
        | false => rfl
        | true => have := v1.1 h; omega
      rw [if_pos s0]
      simp only
      split
      · exact val_head (s := { s with block := s.block ++ ([x] : List Int).take (min ([x] : List Int).length (512 - s.block.length)), at_ := s.at_ + ((min ([x] : List Int).length (512 - s.block.length) : Nat) : Int), place := s.at_ + ((min ([x] : List Int).length (512 - s.block.length) : Nat) : Int) - 512 }) hs.out hop hov s0
      · exact val_same (s := { s with block := s.block ++ ([x] : List Int).take (min ([x] : List Int).length (512 - s.block.length)), at_ := s.at_ + ((min ([x] : List Int).length (512 - s.block.length) : Nat) : Int) }) hs.out hop hov ⟨by show s.st ≠ 2; omega, h4⟩
    rw [if_neg s0]
    by_cases s1 : s.st = 1
    · have hop : b.opn = false := by
        cases h : b.opn with
        | false => rfl
        | true => have := v1.1 h; omega
      rw [if_pos s1]
      simp only
      split
      · exact val_told (s := { s with text := s.text ++ ([x] : List Int).take (min ([x] : List Int).length s.left.toNat), at_ := s.at_ + ((min ([x] : List Int).length s.left.toNat : Nat) : Int), left := s.left - ((min ([x] : List Int).length s.left.toNat : Nat) : Int) }) hs.out hop hov
      · exact val_same (s := { s with text := s.text ++ ([x] : List Int).take (min ([x] : List Int).length s.left.toNat), at_ := s.at_ + ((min ([x] : List Int).length s.left.toNat : Nat) : Int), left := s.left - ((min ([x] : List Int).length s.left.toNat : Nat) : Int) }) hs.out hop hov ⟨by show s.st ≠ 2; omega, h4⟩
    rw [if_neg s1]
    by_cases s2 : s.st = 2
    · have hop : b.opn = true := v1.2 s2
      have hl := hc.c1 (.inr s2)
      rw [if_pos s2]
      have q : min ([x] : List Int).length s.left.toNat = 1 := by simp; omega
      simp only [q]
      split
      · have e : (PSt.finish { ({ s with at_ := s.at_ + ((1 : Nat) : Int) } : PSt).say (.dat (([x] : List Int).take 1)) with left := s.left - ((1 : Nat) : Int) }).out = [⟨.dat [x], s.at_ + ((1 : Nat) : Int)⟩, ⟨.fin, s.at_ + ((1 : Nat) : Int)⟩] := by
          simp [PSt.finish, PSt.say, PSt.skip, hs.out]
        refine ⟨_, (congrArg (Arc.evs (some b)) e).trans (by simp only [Arc.evs, Arc.ev, hov, hop, Option.bind_some]; rfl), ?_, ?_⟩
        · show false = true ↔ (if s.pad = 0 then (0 : Int) else 3) = 2
          split <;> simp
        · show false = true ↔ (if s.pad = 0 then (0 : Int) else 3) = 4
          split <;> simp
      · have e : (({ s with at_ := s.at_ + ((1 : Nat) : Int) } : PSt).say (.dat (([x] : List Int).take 1))).out = [⟨.dat [x], s.at_ + ((1 : Nat) : Int)⟩] := by
          simp [PSt.say, hs.out]
        refine ⟨_, (congrArg (Arc.evs (some b)) e).trans (by simp only [Arc.evs, Arc.ev, hov, hop, Option.bind_some]; rfl), ?_, ?_⟩
        · show true = true ↔ s.st = 2
          simp [s2]
        · show false = true ↔ s.st = 4
          simp [h4]
    rw [if_neg s2]
    have hop : b.opn = false := by
      cases h : b.opn with
      | false => rfl
      | true => exact absurd (v1.1 h) s2
    simp only
    split
    · exact val_same (s := { s with at_ := s.at_ + ((min ([x] : List Int).length s.pad.toNat : Nat) : Int), pad := s.pad - ((min ([x] : List Int).length s.pad.toNat : Nat) : Int), st := 0 }) hs.out hop hov ⟨by show (0 : Int) ≠ 2; decide, by show (0 : Int) ≠ 4; decide⟩
    · exact val_same (s := { s with at_ := s.at_ + ((min ([x] : List Int).length s.pad.toNat : Nat) : Int), pad := s.pad - ((min ([x] : List Int).length s.pad.toNat : Nat) : Int) }) hs.out hop hov ⟨s2, h4⟩
end Go.Proofs.YtpbpfngichfgeaaGreatDoor

namespace Go.Proofs.YtpbpfngichfgeaaGreatDoor
set_option linter.unusedVariables false
set_option linter.unusedSimpArgs false
open Go

theorem byte1_ok (s : PSt) (a : Option Arc) (x : Int) (hs : OkS s) (hx : 0 ≤ x ∧ x < 256) (ha : s.at_ + 1 ≤ 1099511627776) : OkS (byte1 (s, a) x).1 ∧ (byte1 (s, a) x).1.at_ ≤ s.at_ + 1 := by
  unfold byte1
  by_cases h4 : s.st = 4
  · rw [if_pos h4]; exact ⟨hs, by show s.at_ ≤ s.at_ + 1; omega⟩
  · rw [if_neg h4]
    obtain ⟨o1, o2, o3, o4⟩ := hs.next h4 (xs := [x]) (by simp) (fun y hy => by rw [List.mem_singleton.1 hy]; exact hx) (by show s.at_ + ((1 : Nat) : Int) ≤ _; omega)
    have hone : (s.round [x]).2 = 1 := by simp at o3; omega
    refine ⟨o1, ?_⟩
    show (s.round [x]).1.at_ ≤ _
    rw [o4, hone]
    omega
theorem foldB_ok : ∀ (xs : List Int) (s : PSt) (a : Option Arc), OkS s → Val s a → (∀ x ∈ xs, 0 ≤ x ∧ x < 256) → s.at_ + xs.length ≤ 1099511627776 →
    OkS (foldB (s, a) xs).1 ∧ Val (foldB (s, a) xs).1 (foldB (s, a) xs).2 ∧ (foldB (s, a) xs).1.at_ ≤ s.at_ + xs.length
  | [], s, a, hs, hv, hb, ha => ⟨hs, hv, by show s.at_ ≤ s.at_ + ((0 : Nat) : Int); omega⟩
  | x :: xs, s, a, hs, hv, hb, ha => by
    have hal : s.at_ + ((xs.length + 1 : Nat) : Int) ≤ 1099511627776 := ha
    obtain ⟨k1, k2⟩ := byte1_ok s a x hs (hb x (by simp)) (by omega)
    have k3 := val_byte s a x hs hv
    obtain ⟨r1, r2, r3⟩ := foldB_ok xs (byte1 (s, a) x).1 (byte1 (s, a) x).2 k1 k3 (fun y hy => hb y (by simp [hy])) (by omega)
    refine ⟨r1, r2, ?_⟩
    show (foldB (byte1 (s, a) x) xs).1.at_ ≤ s.at_ + ((xs.length + 1 : Nat) : Int)
    have r4 : (foldB (byte1 (s, a) x) xs).1.at_ ≤ (byte1 (s, a) x).1.at_ + xs.length := r3
    omega
end Go.Proofs.YtpbpfngichfgeaaGreatDoor

namespace Go.Proofs.YtpbpfngichfgeaaGreatDoor
set_option linter.unusedVariables false
set_option linter.unusedSimpArgs false
open Go

theorem oks0 : OkS ps0 := by
  refine ⟨?_, ?_, rfl⟩
  · constructor <;> first | (simp [ps0]; done) | decide
  · constructor <;> simp [ps0]
theorem val0 : Val ps0 (some arc0) := ⟨arc0, rfl, by simp [arc0, ps0], by simp [arc0, ps0]⟩
structure Stays (xs : List Int) (r : PSt) : Prop where
  ok : OkS { r with out := [] }
  at_ : r.at_ ≤ xs.length
  over : ∀ l x, r.out = l ++ [x] → 4 ≤ x.k.num → r.st = 4
end Go.Proofs.YtpbpfngichfgeaaGreatDoor

namespace Go.Proofs.YtpbpfngichfgeaaGreatDoor
set_option linter.unusedVariables false
set_option linter.unusedSimpArgs false
open Go

def codeE : Option (Int × Int) → Int
  | none => 0
  | some x => x.1
def placeE : Option (Int × Int) → Int
  | none => -1
  | some x => x.2
/-- fed's last step: where nothing told the end, End is asked. -/
def Arc.close (b : Arc) (s : PSt) : Arc := if b.over = true then b else { b with code := codeE s.endE, place := placeE s.endE }
def jEnd (j : J) : Arc := match j.2 with
  | some b => b.close j.1
  | none => arc0
def j0 : J := (ps0, some arc0)
def arcOf (xs : List Int) : Arc := jEnd (foldB j0 xs)

/-- What a later archive keeps of an earlier one. -/
structure Ext (a b : Arc) : Prop where
  len : a.things.length ≤ b.things.length
  at_ : ∀ (i : Nat) (t x : Thg), a.things[i]? = some t → b.things[i]? = some x → t.en = x.en ∧ t.data <+: x.data ∧ (t.whole = true → t = x)
  done : a.done = true → b.done = true
theorem Ext.refl (a : Arc) : Ext a a := ⟨Nat.le_refl _, fun i t x h1 h2 => by rw [h1] at h2; cases h2; exact ⟨rfl, List.prefix_refl _, fun _ => rfl⟩, fun h => h⟩
theorem Ext.trans {a b c : Arc} (h : Ext a b) (k : Ext b c) : Ext a c := by
  refine ⟨Nat.le_trans h.len k.len, fun i t x h1 h2 => ?_, fun q => k.done (h.done q)⟩
  have hi : i < a.things.length := (List.getElem?_eq_some_iff.1 h1).1
  have hbl : i < b.things.length := by have := h.len; omega
  have hb : b.things[i]? = some b.things[i] := List.getElem?_eq_getElem hbl
  obtain ⟨p1, p2, p3⟩ := h.at_ i t _ h1 hb
  obtain ⟨q1, q2, q3⟩ := k.at_ i _ x hb h2
  refine ⟨p1.trans q1, p2.trans q2, fun hw => ?_⟩
  have e := p3 hw
  rw [← e] at q3
  exact q3 hw
/-- The last thing, where one is open, isn't whole; done is over. -/
structure Opn (a : Arc) : Prop where
  opn : a.opn = true → ∃ l t, a.things = l ++ [t] ∧ t.whole = false
  ovr : a.done = true → a.over = true
theorem ext_last (a b : Arc) (l : List Thg) (t t' : Thg) (ha : a.things = l ++ [t]) (hb : b.things = l ++ [t']) (he : t.en = t'.en) (hd : t.data <+: t'.data) (hw : t.whole = false) (hn : a.done = true → b.done = true) : Ext a b := by
  refine ⟨by rw [ha, hb]; simp, fun i p x h1 h2 => ?_, hn⟩
  rw [ha] at h1
  rw [hb] at h2
  by_cases hi : i < l.length
  · rw [List.getElem?_append_left hi] at h1 h2
    rw [h1] at h2
    cases h2
    exact ⟨rfl, List.prefix_refl _, fun _ => rfl⟩
  · rw [List.getElem?_append_right (by omega)] at h1 h2
    have hz : i - l.length = 0 := by
      rcases Nat.eq_zero_or_pos (i - l.length) with h | h
      · exact h
      · rw [List.getElem?_eq_none (by simp; omega)] at h1; cases h1
    rw [hz] at h1 h2
    simp at h1 h2
    subst h1
    subst h2
    exact ⟨he, hd, fun h => by rw [hw] at h; cases h⟩
theorem ext_more (a b : Arc) (t : Thg) (hb : b.things = a.things ++ [t]) (hn : a.done = true → b.done = true) : Ext a b := by
  refine ⟨by rw [hb]; simp, fun i p x h1 h2 => ?_, hn⟩
  have hi : i < a.things.length := (List.getElem?_eq_some_iff.1 h1).1
  rw [hb, List.getElem?_append_left hi, h1] at h2
  cases h2
  exact ⟨rfl, List.prefix_refl _, fun _ => rfl⟩
theorem ext_same (a b : Arc) (hb : b.things = a.things) (hn : a.done = true → b.done = true) : Ext a b := by
  refine ⟨by rw [hb]; exact Nat.le_refl _, fun i p x h1 h2 => ?_, hn⟩
  rw [hb, h1] at h2
  cases h2
  exact ⟨rfl, List.prefix_refl _, fun _ => rfl⟩
theorem ev_ext (a b : Arc) (x : Evt) (ho : Opn a) (h : a.ev x = some b) : Ext a b ∧ Opn b := by
  unfold Arc.ev at h
  by_cases hv : a.over = true
  · rw [if_pos hv] at h; cases h
  rw [if_neg hv] at h
  have hdn : a.done = true → False := fun q => hv (ho.ovr q)
  obtain ⟨k, p⟩ := x
  cases k with
  | beg e =>
    simp only at h
    split at h
    · cases h
    · rename_i hop
      cases h
      exact ⟨ext_more _ _ _ rfl (fun q => q), ⟨fun _ => ⟨_, _, rfl, rfl⟩, fun q => absurd q hdn⟩⟩
  | dat d =>
    simp only at h
    split at h
    · cases h
    · rename_i hop
      have hop2 : a.opn = true := by
        cases q : a.opn with
        | true => rfl
        | false => exact absurd (.inl q) hop
      obtain ⟨l, t, hl, hw⟩ := ho.opn hop2
      cases h
      have e : onLast (fun t : Thg => { t with data := t.data ++ d, at_ := p }) a.things = l ++ [{ t with data := t.data ++ d, at_ := p }] := by rw [hl, onLast_add]
      exact ⟨ext_last _ _ l t _ hl e rfl (List.prefix_append _ _) hw (fun q => q), ⟨fun _ => ⟨_, _, e, hw⟩, fun q => absurd q hdn⟩⟩
  | fin =>
    simp only at h
    split at h
    · cases h
    · rename_i hop
      have hop2 : a.opn = true := by
        cases q : a.opn with
        | true => rfl
        | false => exact absurd q hop
      obtain ⟨l, t, hl, hw⟩ := ho.opn hop2
      cases h
      have e : onLast (fun t : Thg => { t with whole := true, at_ := p }) a.things = l ++ [{ t with whole := true, at_ := p }] := by rw [hl, onLast_add]
      exact ⟨ext_last _ _ l t _ hl e rfl (List.prefix_refl _) hw (fun q => q), ⟨fun q => Bool.noConfusion q, fun q => absurd q hdn⟩⟩
  | don =>
    simp only at h
    cases h
    exact ⟨ext_same _ _ rfl (fun _ => rfl), ⟨fun q => ho.opn q, fun _ => rfl⟩⟩
  | bad c q =>
    simp only at h
    cases h
    exact ⟨ext_same _ _ rfl (fun q => q), ⟨fun q => ho.opn q, fun _ => rfl⟩⟩
theorem evs_ext : ∀ (l : List Evt) (a b : Arc), Opn a → Arc.evs (some a) l = some b → Ext a b ∧ Opn b
  | [], a, b, ho, h => by
    have : some a = some b := h
    cases this
    exact ⟨Ext.refl _, ho⟩
  | x :: l, a, b, ho, h => by
    have h2 : Arc.evs (a.ev x) l = some b := h
    cases hc : a.ev x with
    | none => rw [hc, evs_none] at h2; cases h2
    | some c =>
      rw [hc] at h2
      obtain ⟨k1, k2⟩ := ev_ext a c x ho hc
      obtain ⟨k3, k4⟩ := evs_ext l c b k2 h2
      exact ⟨k1.trans k3, k4⟩
theorem opn0 : Opn arc0 := ⟨fun h => Bool.noConfusion h, fun h => Bool.noConfusion h⟩
theorem foldB_ext : ∀ (xs : List Int) (s : PSt) (a b : Arc) (s' : PSt), Opn a → foldB (s, some a) xs = (s', some b) → Ext a b ∧ Opn b
  | [], s, a, b, s', ho, h => by
    have : ((s, some a) : J) = (s', some b) := h
    cases this
    exact ⟨Ext.refl _, ho⟩
  | x :: xs, s, a, b, s', ho, h => by
    have h2 : foldB (byte1 (s, some a) x) xs = (s', some b) := h
    by_cases h4 : s.st = 4
    · have e : byte1 (s, some a) x = (s, some a) := if_pos h4
      rw [e] at h2
      exact foldB_ext xs s a b s' ho h2
    · have e : byte1 (s, some a) x = ({ (s.round [x]).1 with out := [] }, Arc.evs (some a) (s.round [x]).1.out) := if_neg h4
      rw [e] at h2
      cases hc : Arc.evs (some a) (s.round [x]).1.out with
      | none =>
        rw [hc] at h2
        exfalso
        have : ∀ (ys : List Int) (s : PSt), (foldB (s, none) ys).2 = none := by
          intro ys
          induction ys with
          | nil => intro s; rfl
          | cons y ys ih =>
            intro s
            show (foldB (byte1 (s, none) y) ys).2 = none
            unfold byte1
            split
            · exact ih s
            · show (foldB ({ (s.round [y]).1 with out := [] }, Arc.evs none (s.round [y]).1.out) ys).2 = none
              rw [evs_none]
              exact ih _
        have q := this xs { (s.round [x]).1 with out := [] }
        rw [h2] at q
        cases q
      | some c =>
        rw [hc] at h2
        obtain ⟨k1, k2⟩ := evs_ext _ a c ho hc
        obtain ⟨k3, k4⟩ := foldB_ext xs _ c b s' k2 h2
        exact ⟨k1.trans k3, k4⟩
theorem fold0 (xs : List Int) (hb : ∀ x ∈ xs, 0 ≤ x ∧ x < 256) (hl : xs.length ≤ 1000000) : ∃ s b, foldB j0 xs = (s, some b) ∧ OkS s ∧ (b.opn = true ↔ s.st = 2) ∧ (b.over = true ↔ s.st = 4) ∧ s.at_ ≤ xs.length ∧ Opn b := by
  obtain ⟨k1, ⟨b, k2, k3, k4⟩, k5⟩ := foldB_ok xs ps0 (some arc0) oks0 val0 hb (by show (0 : Int) + xs.length ≤ _; omega)
  refine ⟨(foldB j0 xs).1, b, Prod.ext rfl k2, k1, k3, k4, ?_, ?_⟩
  · have : (foldB (ps0, some arc0) xs).1.at_ ≤ (0 : Int) + xs.length := k5
    show (foldB (ps0, some arc0) xs).1.at_ ≤ _
    omega
  · exact (foldB_ext xs ps0 arc0 b (foldB j0 xs).1 opn0 (Prod.ext rfl k2)).2
/-- A parser that isn't over has no error. -/
def NoE (s : PSt) : Prop := s.st ≠ 4 → s.err = none ∧ s.done = false
end Go.Proofs.YtpbpfngichfgeaaGreatDoor
